import Derived.Test.YtjhmdfofhnijeaaGreatDoorN2
import Derived.Shelf.Spec.SlicesInsertGrow
open Array renaming getElem?_eq_getElem->aa, getElem?_toList->ab, getElem?_modify->ae, size_append->af
open Bool renaming false_eq_true->ai, eq_false_iff->aj, and_eq_true->ak
open Go renaming Value->al, World->aq, TypeId->ar, Program->au, FuncId->av
open Go.Addr renaming add_lit->ay
open Go.Builtin renaming zeroCells->az, copy_->aA, firstCells->aB
open Go.IntKind renaming wrap_i64->aC, i64->aD
open Go.Proofs.Tryz renaming prog->aF, ntmps219->aG, func219->aH
open Go.World renaming setCells->aI, cell?_setCells_out->aJ, setCell->aK, frozen?->aL, frozen?_setCells->aM, cell?_alloc_past->aN, cell?->aO, shape?->aP, drew->aQ
open List renaming getElem?_drop->aR, getElem?_take_of_lt->aS, getElem?_eq_none->aT, length_drop->aU, length_take->aV, mem_of_mem_drop->aW, getElem?_append_right->aX, getElem?_append_left->aY, getElem?_eq_getElem->aZ, size_toArray->a6, not_mem_nil->a7, mem_cons->a8
open Nat renaming eq_of_beq_eq_true->ba, add_assoc->bc, le_of_ble_eq_true->bd, mul_le_mul_right->bg, lt_or_ge->bh, min_def->bj, beq->bk, min->bl, blt->bn, zero_add->bp, succ_mul->bq, le_refl->br, zero_mul->bu
open Option renaming isSome_none->bw
open Option.some renaming injEq->bx
set_option linter.all false
namespace Go.Sy
open Go.RowKit Go.Proofs
def wr:Array al->Nat->List al->Array al
 |c,_,[]=>c
 |c,o,v::r=>wr (c.setIfInBounds o v) (o+1) r
theorem u9:∀ (vs:List al) (c:Array al) (o:Nat),(wr c o vs).size=c.size
 |[],_,_=>rfl
 |v::r,c,o=>by rw[wr,u9 r];simp
theorem zD:∀ (vs:List al) (c:Array al) (o:Nat),o+vs.length<=c.size-> ∀j,(wr c o vs)[j]? =if o<=j/\j<o+vs.length then vs[j-o]? else c[j]?
 |[],c,o,_,j=>by simp only[wr,List.length_nil];rw[bQ (by omega)]
 |v::r,c,o,h,j=>by
  simp only[List.length_cons]at h⊢;rw[wr,zD r _ (o+1) (by simp;omega) j];by_cases h1:o+1<=j/\j<o+1+r.length
  .rw[bS h1,bS (by omega),show j-o=(j-(o+1))+1 by omega];rfl
  rw[bQ h1,Array.getElem?_setIfInBounds];by_cases h2:o=j
  .subst h2;rw[bS rfl,bS (by omega),bS (by omega)];simp
  rw[bQ h2,bQ (by omega)]
theorem zF(g:Nat):∀ (vs:List al) (o:Nat) (w:aq) (c:Array al) (e:ar) (fz:Nat×Nat),w.heap[g]? =some (.cells c e fz)->(w.setCells g o vs).heap[g]? =some (.cells (wr c o vs) e fz)
 |[],_,_,_,_,_,h=>h
 |v::r,o,w,c,e,fz,h=>by
  rw[aI,wr];refine zF g r (o+1) _ _ e fz ?_;simp[aK,ae,h]
theorem zH(g:Nat):∀ (vs:List al) (o:Nat) (w:aq),(w.setCells g o vs).os=w.os/\(w.setCells g o vs).tape=w.tape/\(w.setCells g o vs).output=w.output/\(w.setCells g o vs).heap.size=w.heap.size/\ ∀k,k≠g->(w.setCells g o vs).heap[k]? =w.heap[k]?
 |[],_,_=>⟨rfl,rfl,rfl,rfl,λ_ _=>rfl⟩
 |v::r,o,w=>by
  obtain⟨h1,h2,h3,h4,h5⟩:=zH g r (o+1) (w.setCell ⟨g,o,none⟩ v);rw[aI];refine⟨h1,h2,h3,?_,λk hk=>?_⟩
  .rw[h4];simp[aK]
  rw[h5 k hk];simp[aK,ae,Ne.symm hk]
def sm(xs ys:List al)(p:Nat):List al:=xs.take p++ys++xs.drop p
theorem Ho(xs ys:List al)(p:Nat)(hp:p<=xs.length)(j:Nat):(sm xs ys p)[j]? =if j<p then xs[j]? else if j<p+ys.length then ys[j-p]? else xs[j-ys.length]?:=by
 have hl:(xs.take p).length=p:=by simp;omega
 unfold sm;rw[List.append_assoc];by_cases h1:j<p
 .rw[bS h1,aY (by omega),aS h1]
 rw[bQ h1,aX (by omega),hl];by_cases h2:j<p+ys.length
 .rw[bS h2,aY (by omega)]
 rw[bQ h2,aX (by omega),aR];congr 1;omega
theorem ZQ(xs ys:List al)(p:Nat):(sm xs ys p).length=xs.length+ys.length:=by
 simp only[sm,List.length_append,aV,aU];omega
def qY(el ev:Nat->Nat->A)(i:Nat):Nat->Nat->A:=λq j=>bif bn q i then el q j else bif bk q i then ev 0 j else el (q-1) j
theorem ZR{w:aq}{O:Nat->Prop}{c n i:Nat}{el ev:Nat->Nat->A}{xs ys:List al}(hi:i<=n)(hx:xs.length=n*c)(hy:ys.length=c)
  (h1:∀ q,q<n-> ∀j,j<c-> ∃u,xs[q*c+j]? =some u/\R w O (el q j) b7 u) (h2:∀ j,j<c-> ∃u,ys[j]? =some u/\R w O (ev 0 j) b7 u):
  ∀q,q<n+1-> ∀j,j<c-> ∃u,(sm xs ys (i*c))[q*c+j]? =some u/\R w O (qY el ev i q j) b7 u:=by
 intro q hq j hj;have hp:i*c<=xs.length:=by rw[hx];exact bg c hi
 rw[Ho _ _ _ hp,hy];unfold qY;rcases Nat.lt_trichotomy q i with h|h|h
 .have e1:bn q i=true:=by simpa[Nat.blt_eq]using h
  have:=bg c (show q+1<=i from h);rw[bq]at this;rw[bS (by omega),e1];exact h1 q (by omega) j hj
 .subst h;have e1:bn q q=false:=by rw[aj];intro e;have:=bd e;omega
  rw[bQ (by omega),bS (by omega),e1,Nat.beq_refl,show q*c+j-q*c=j by omega];exact h2 j hj
 have e1:bn q i=false:=by rw[aj];intro e;have:=bd e;omega
 have e2:bk q i=false:=by rw[aj];intro e;have:=ba e;omega
 have h3:=bg c (show i+1<=q from h);rw[bq]at h3;obtain⟨q',rfl⟩:∃ q',q=q'+1:=⟨q-1,by omega⟩;rw[bQ (by omega),bQ (by omega),e1,e2];have e3:(q'+1)*c+j-c=q'*c+j:=by rw[bq];omega
 rw[e3];exact h1 q' (by omega) j hj
end Go.Sy
namespace Go.Proofs.YtjhmdfofhnijeaaGreatDoor
open Go Go.RowKit Go.Lib Go.Proofs
set_option maxRecDepth 100000
set_option maxHeartbeats 4000000
theorem Di{P:au}(w:aq)(dT sT ty elem:ar)(k b o dLen dCap:Nat)(a:Addr)(sLen sCap:Nat)(cs:List al)
  (hu:P.underlying dT=some (.slice elem)) (hs:(P.info? elem).map (·.size)=some k) (hn:cs.length=bl sLen dLen*k)
  (hsrc:∀ j v,cs[j]? =some v->w.cell? (a.add j)=some v) (hc:∀ j,j<cs.length->(w.cell? ⟨b,o+j,none⟩).isSome=true) (hf:∀ j,j<cs.length->w.frozen? ⟨b,o+j,none⟩=false) (h1:∀ v∈cs,v.oneCell'=true):
  (aA #[dT,sT] ty #[.slice (some ⟨b,o,none⟩) dLen dCap,.slice (some a) sLen sCap]).run P w= .ok (goInt (bl sLen dLen)) (w.setCells b o cs):=by
 have hl:=run_loadCells_list (P:=P) w a cs hsrc;have hst:=run_storeCells_cells (P:=P) b o cs 0 w (by simpa using hc) (by simpa using hf) h1;cases hq:P.info? elem with
 |none=>simp[hq]at hs
 |some i=>
  have hi:i.size=k:=by simpa[hq]using hs
  simp[aA,run_underlying hu,Builtin.lenOf,aB,sizeOf,typeInfo,hq,hi,<- hn,hl,hst]
theorem ZS(b off n c i vb voff vc:Nat)(cs vs:List al)(w:aq)(hi:i<n)(hroom:n+1<=c)(hc63:c<=9223372036854775807)(hvb:vb≠b)
  (hcl:cs.length=n*3) (hvl:vs.length=3)
  (hcs:∀ j v,cs[j]? =some v->w.cell? ⟨b,off+j,none⟩=some v) (hsp:∀ j,j<(n+1)*3->(w.cell? ⟨b,off+j,none⟩).isSome=true) (hfz:∀ j,j<(n+1)*3->w.frozen? ⟨b,off+j,none⟩=false)
  (hvs:∀ j v,vs[j]? =some v->w.cell? ⟨vb,voff+j,none⟩=some v) (h1c:∀ v∈cs,v.oneCell'=true) (h1v:∀ v∈vs,v.oneCell'=true)
  (tA tB:ar) (kA kB:Nat) (hsa:w.shape? vb=some (tA,kA)) (hsb:w.shape? b=some (tB,kB)) (hkB:kB≠0) (hfa:w.frozen? ⟨vb,voff,none⟩=false) (hfe:w.frozen? ⟨vb,kA,none⟩=false):
  Calls aF 219 #[.slice (some ⟨b,off,none⟩) n c,.int .i64 i,.slice (some ⟨vb,voff,none⟩) 1 vc] w λe w'=>
   e= .returned (.slice (some ⟨b,off,none⟩) (n+1) c)/\w'=(w.drew.setCells b (off+(i+1)*3) (cs.drop (i*3))).setCells b (off+i*3) vs:=by
 have hz2:¬ ((i:Int)=(n:Int)):=by omega
 have mixed:aF.follows Departure.mixedOrders=true:=by kernel_rfl
 have t67:aF.underlying 67=some (.slice 143):=by kernel_rfl
 have z143:∀ w,(Go.sizeOf 143).run aF w= .ok 3 w:=λw=>by kernel_rfl
 have hsz:(aF.info? 143).map (·.size)=some 3:=by kernel_rfl
 have hov:∀ lb cb,(callFunc 281 #[.slice (some ⟨vb,voff,none⟩) 1 vc,.slice (some ⟨b,off+(i+1)*3,none⟩) lb cb]).run aF w= .ok (.value (.bool false)) w:=λlb cb=>by
  rw[run_callFunc_extern Tryz.func281 (by kernel_rfl) (by kernel_rfl) (by kernel_rfl) (e:=Extern.SlicesOverlaps.overlaps #[67,67] #[4]) (by kernel_rfl),
   Lib.run_overlaps_apart w 67 4 143 t67 3 z143 ⟨vb,voff,none⟩ ⟨b,off+(i+1)*3,none⟩ 1 vc lb cb hvb tA tB kA kB hsa hsb hkB hfa hfe]
  rfl
 have hdl:(cs.drop (i*3)).length=(n-i)*3:=by rw[aU,hcl];omega
 have hw1:aD.wrap ((i:Int)+1)=(i:Int)+1:=by rw[aC];omega
 have hw2:aD.wrap ((n:Int)+1)=(n:Int)+1:=by rw[aC];omega
 have hb1:(0:Int)<=(i:Int)+1:=by omega
 have hb1':(0:Int)<=(n:Int)+1:=by omega
 have hin:i<=n:=by omega
 have htn:((i:Int)+1).toNat=i+1:=by omega
 have htn':((n:Int)+1).toNat=n+1:=by omega
 have hb2:¬ (c=i+1):=by omega
 have hb3:(i:Int)<=(n:Int)+1:=by omega
 have hb4:¬ (c=i):=by omega
 have hcp1:∀ ty dc sc,(aA #[67,67] ty #[.slice (some ⟨b,off+(i+1)*3,none⟩) (n-i) dc,.slice (some ⟨b,off+i*3,none⟩) (n+1-i) sc]).run aF w.drew= .ok (goInt (bl (n+1-i) (n-i))) (w.drew.setCells b (off+(i+1)*3) (cs.drop (i*3))):=λty dc sc=>
  Di w.drew _ _ ty 143 3 b (off+(i+1)*3) (n-i) dc ⟨b,off+i*3,none⟩ (n+1-i) sc (cs.drop (i*3)) t67 hsz (by rw[hdl];simp only[bj];split<;>omega)
   (λj v hj=>by rw[ay,bc];exact hcs (i*3+j) v (by rwa[aR]at hj))
   (λj hj=>by rw[bc];exact hsp _ (by omega)) (λj hj=>by rw[bc];exact hfz _ (by omega)) (λv hv=>h1c v (aW hv))
 obtain⟨W1,hW1⟩:∃ W1,W1=w.drew.setCells b (off+(i+1)*3) (cs.drop (i*3)):=⟨_,rfl⟩;have hsp1:∀ k,k<(n+1)*3->(W1.cell? ⟨b,off+k,none⟩).isSome=true:=λk hk=>by
  rw[hW1];exact isSome_setCells b _ _ _ (λj hj=>by rw[bc];exact hsp _ (by omega)) _ (hsp k hk)
 have hcp2:∀ (W:aq),(∀x,W.cell? x=W1.cell? x)->(∀x,W.frozen? x=W1.frozen? x)-> ∀ty dc,(aA #[67,67] ty #[.slice (some ⟨b,off+i*3,none⟩) (n+1-i) dc,.slice (some ⟨vb,voff,none⟩) 1 vc]).run aF W= .ok (goInt (bl 1 (n+1-i))) (W.setCells b (off+i*3) vs):=λW hWc hWf ty dc=>
  Di W _ _ ty 143 3 b (off+i*3) (n+1-i) dc ⟨vb,voff,none⟩ 1 vc vs t67 hsz (by rw[hvl];simp only[bj];split<;>omega)
   (λj v hj=>by
    rw[ay,hWc,hW1,aJ b _ _ _ _ (λh _=>dP h hvb)];exact hvs j v hj)
   (λj hj=>by rw[hWc,bc];exact hsp1 _ (by omega)) (λj hj=>by rw[hWf,hW1,aM,bc];exact hfz _ (by omega)) h1v
 rw[<-hW1]at hcp1
 go_enter aH,aG
 go_wp2_with (simp only[hov])
 go_region_law_o (refine step_copy_runI rfl _ _ 67 67 rfl _ _ (by simp[Act.eval,Act.put]) (by simp[Act.eval,Act.put]) (hcp1 _ _ _) ?_)
 go_wp2_with (at_builtin;refine wpList_copy_runI _ rfl _ _ 67 67 rfl _ _ rfl rfl (hcp2 _ (λ_=>rfl) (λ_=>rfl) _ _) ?_)
 go_ret
 first|exact⟨rfl,rfl⟩|exact⟨rfl,by rw[hW1]⟩
theorem ZT(b off n c i vb voff vc:Nat)(cs vs:List al)(w:aq)(hi:i<n)(hnc:n<=c)(hroom:c<n+1)(hbig:(n+1)*24<=140737488355328)
  (hcl:cs.length=n*3) (hvl:vs.length=3)
  (hcs:∀ j v,cs[j]? =some v->w.cell? ⟨b,off+j,none⟩=some v)
  (hvs:∀ j v,vs[j]? =some v->w.cell? ⟨vb,voff+j,none⟩=some v) (h1c:∀ v∈cs,v.oneCell'=true) (h1v:∀ v∈vs,v.oneCell'=true):
  Calls aF 219 #[.slice (some ⟨b,off,none⟩) n c,.int .i64 i,.slice (some ⟨vb,voff,none⟩) 1 vc] w λe w'=>
   ∃(G:Nat) (ROW:Array al),n+1<=G/\G<=maxLen/\ROW.size=G*3/\(∀j,j<i*3->ROW[j]? =cs[j]?)/\
    e= .returned (.slice (some ⟨w.heap.size,0,none⟩) (n+1) G)/\
    w'=(((w.alloc (.cells ROW 143)).drew.setCells w.heap.size (i*3) vs).drew).setCells w.heap.size ((i+1)*3) (cs.drop (i*3)):=by
 have mixed:aF.follows Departure.mixedOrders=true:=by kernel_rfl
 have t67:aF.underlying 67=some (.slice 143):=by kernel_rfl
 have t3:aF.underlying 3=some (.int .i64):=by kernel_rfl
 obtain⟨i0,hi0,hz0,hzs,hzb⟩:∃ i0,aF.info? 143=some i0/\i0.zero=some (.agg #[.int .i64 0,.int .i64 0,.int .i64 0])/\i0.size=3/\i0.bytes=24:=by
  have h1:(aF.info? 143).map (λi=>(i.zero,i.size,i.bytes))=some (some (.agg #[.int .i64 0,.int .i64 0,.int .i64 0]),3,24):=by kernel_rfl
  cases hq:aF.info? 143 with
  |none=>rw[hq]at h1;cases h1
  |some i=>rw[hq]at h1;simp only[Option.map_some,bx,Prod.mk.injEq]at h1;exact⟨i,rfl,h1.1,h1.2.1,h1.2.2⟩
 have hz2:¬ ((i:Int)=(n:Int)):=by omega
 have hz3:(c:Int)<(n:Int)+1:=by omega
 have hsz:(aF.info? 143).map (·.size)=some 3:=by rw[hi0];simp[hzs]
 have hbw:b<w.heap.size:=block_lt_of_cell (hcs 0 _ (aZ (by omega)));have hvw:vb<w.heap.size:=block_lt_of_cell (hvs 0 _ (aZ (by omega)));have hkk:(n:Int)+1-(i:Int)=((n+1-i:Nat):Int):=by omega
 have hik:i+(n+1-i)=n+1:=by omega
 have hold:(aB i0.size i (.slice (some ⟨b,off,none⟩) i c)).run aF w.drew= .ok (cs.take (i*3)).toArray w.drew:=by
  rw[hzs];exact run_firstCells_some w.drew 3 i ⟨b,off,none⟩ i c (cs.take (i*3)) (by rw[aV];omega) (λj v hj=>by
   rw[ay];rw[List.getElem?_take]at hj;split at hj
   .exact hcs j v hj
   cases hj)
 have hrz:∀ ty,(Builtin.append_ #[67,3] ty #[.slice (some ⟨b,off,none⟩) i c,.int .i64 ((n:Int)+1-(i:Int))]).run aF w=
   .ok (.slice (some ⟨w.heap.size,0,none⟩) (n+1) (grownCap w (n+1) c 143)) (w.drew.alloc (.cells ((cs.take (i*3)).toArray++az (Value.agg #[.int .i64 0,.int .i64 0,.int .i64 0]).cells (n+1-i)++az (Value.agg #[.int .i64 0,.int .i64 0,.int .i64 0]).cells (grownCap w (n+1) c 143-(n+1))) 143)):=λty=>by
  have h:=Lib.run_append_grow_zeros w 67 3 ty 143 i0 _ .i64 .i64 t67 t3 hi0 hz0 (some ⟨b,off,none⟩) i c ((cs.take (i*3))) hold (n+1-i) (by omega) (by omega) (by omega) (by omega) (by rw[hzb];omega) (by rw[hzb,hik];exact growslice_fits hroom hbig);rw[hik]at h;rw[hkk];exact h
 obtain⟨G,hG⟩:∃ G,G=grownCap w (n+1) c 143:=⟨_,rfl⟩;have hGn:n+1<=G:=by rw[hG];exact grownCap_ge w _ _ _
 have hGm:G<=maxLen:=by rw[hG];exact grownCap_le_maxLen w (n+1) c 143 (by unfold maxLen;omega)
 obtain⟨ROW,hROW⟩:∃ ROW:Array al,ROW=(cs.take (i*3)).toArray++az (Value.agg #[.int .i64 0,.int .i64 0,.int .i64 0]).cells (n+1-i)++az (Value.agg #[.int .i64 0,.int .i64 0,.int .i64 0]).cells (G-(n+1)):=⟨_,rfl⟩;rw[<-hG]at hrz;rw[<-hROW]at hrz;have hzl:∀ k,(az (Value.agg #[.int .i64 0,.int .i64 0,.int .i64 0]).cells k).size=k*3:=λk=>by
  simp[az,Value.cells];try omega
 have hRl:ROW.size=G*3:=by
  rw[hROW,af,af,hzl,hzl,a6,aV];omega
 have hRh:∀ j,j<i*3->ROW[j]? =cs[j]?:=λj hj=>by
  have hl:(cs.take (i*3)).length=i*3:=by rw[aV];omega
  rw[hROW,Array.append_assoc,Array.getElem?_append_left (by rw[a6];omega),List.getElem?_toArray,aS hj]
 obtain⟨W1,hW1⟩:∃ W1,W1=w.drew.alloc (.cells ROW 143):=⟨_,rfl⟩;rw[<-hW1]at hrz;have hN:∀ j,j<(n+1)*3->(W1.cell? ⟨w.heap.size,j,none⟩).isSome=true:=λj hj=>by
  rw[hW1,World.cell?_alloc_at (w:=w.drew) ROW _ w.heap.size j rfl,aa (by omega)];rfl
 have hNf:∀ j,W1.frozen? ⟨w.heap.size,j,none⟩=false:=λj=>by rw[hW1];exact World.frozen?_alloc_at (w:=w.drew) ROW _ w.heap.size j rfl
 have hOb:∀ j v,w.cell? ⟨b,j,none⟩=some v->W1.cell? ⟨b,j,none⟩=some v:=λj v h=>by rw[hW1,aN (w:=w.drew) _ b j hbw];exact h
 have hOv:∀ j v,w.cell? ⟨vb,j,none⟩=some v->W1.cell? ⟨vb,j,none⟩=some v:=λj v h=>by rw[hW1,aN (w:=w.drew) _ vb j hvw];exact h
 have hcpA:∀ (W:aq),(∀x,W.cell? x=W1.cell? x)->(∀x,W.frozen? x=W1.frozen? x)-> ∀ty dc,(aA #[67,67] ty #[.slice (some ⟨w.heap.size,i*3,none⟩) (n+1-i) dc,.slice (some ⟨vb,voff,none⟩) 1 vc]).run aF W= .ok (goInt (bl 1 (n+1-i))) (W.setCells w.heap.size (i*3) vs):=λW hWc hWf ty dc=>
  Di W _ _ ty 143 3 w.heap.size (i*3) (n+1-i) dc ⟨vb,voff,none⟩ 1 vc vs t67 hsz (by rw[hvl];simp only[bj];split<;>omega)
   (λj v hj=>by rw[ay,hWc];exact hOv _ v (hvs j v hj))
   (λj hj=>by rw[hWc];exact hN _ (by omega)) (λj hj=>by rw[hWf];exact hNf _) h1v
 have hG63:G<=9223372036854775807:=by unfold maxLen at hGm;omega
 have hGi:¬ (G=i):=by omega
 have hGim:¬ (G=i+1):=by omega
 have hci:¬ (c=i):=by omega
 have hbN:b≠w.heap.size:=by omega
 have hdl:(cs.drop (i*3)).length=(n-i)*3:=by rw[aU,hcl];omega
 have hcpB:∀ (W:aq),(∀x,W.cell? x=(W1.setCells w.heap.size (i*3) vs).cell? x)->(∀x,W.frozen? x=(W1.setCells w.heap.size (i*3) vs).frozen? x)-> ∀ty dc sc,(aA #[67,67] ty #[.slice (some ⟨w.heap.size,(i+1)*3,none⟩) (n-i) dc,.slice (some ⟨b,off+i*3,none⟩) (n-i) sc]).run aF W= .ok (goInt (bl (n-i) (n-i))) (W.setCells w.heap.size ((i+1)*3) (cs.drop (i*3))):=λW hWc hWf ty dc sc=>
  Di W _ _ ty 143 3 w.heap.size ((i+1)*3) (n-i) dc ⟨b,off+i*3,none⟩ (n-i) sc (cs.drop (i*3)) t67 hsz (by rw[hdl];simp only[bj];split<;>omega)
   (λj v hj=>by
    rw[ay,hWc,aJ _ _ _ _ _ (λh _=>dP h hbN),bc];exact hOb _ v (hcs (i*3+j) v (by rwa[aR]at hj)))
   (λj hj=>by rw[hWc];exact isSome_setCells _ _ _ _ (λt ht=>hN _ (by omega)) _ (hN _ (by omega)))
   (λj hj=>by rw[hWf,aM];exact hNf _) (λv hv=>h1c v (aW hv))
 subst hW1;have hE1:∀ x,((w.alloc (.cells ROW 143)).drew).cell? x=(w.drew.alloc (.cells ROW 143)).cell? x:=λx=>rfl;have hE2:∀ x,((w.alloc (.cells ROW 143)).drew).frozen? x=(w.drew.alloc (.cells ROW 143)).frozen? x:=λx=>rfl;have hF1:∀ x,(((w.alloc (.cells ROW 143)).drew.setCells w.heap.size (i*3) vs).drew).cell? x=((w.drew.alloc (.cells ROW 143)).setCells w.heap.size (i*3) vs).cell? x:=λx=>rfl;have hF2:∀ x,(((w.alloc (.cells ROW 143)).drew.setCells w.heap.size (i*3) vs).drew).frozen? x=((w.drew.alloc (.cells ROW 143)).setCells w.heap.size (i*3) vs).frozen? x:=λx=>rfl;have hw1:aD.wrap ((i:Int)+1)=(i:Int)+1:=by rw[aC];omega
 have hb1:(0:Int)<=(i:Int)+1:=by omega
 have hin:i<=n:=by omega
 have htn:((i:Int)+1).toNat=i+1:=by omega
 have hb3:(i:Int)<=(n:Int):=by omega
 have hw2:aD.wrap ((n:Int)+1)=(n:Int)+1:=by rw[aC];unfold maxLen at hGm;omega
 have hw3:aD.wrap ((n:Int)+1-(i:Int))=(n:Int)+1-(i:Int):=by rw[aC];unfold maxLen at hGm;omega
 have hb5:(i:Int)<=(n:Int)+1:=by omega
 have hb6:¬ (G=0):=by omega
 clear hkk hik hold hG hzl;refine Calls.mono (R:=λe w'=>e= .returned (.slice (some ⟨w.heap.size,0,none⟩) (n+1) G)/\w'=(((w.alloc (.cells ROW 143)).drew.setCells w.heap.size (i*3) vs).drew).setCells w.heap.size ((i+1)*3) (cs.drop (i*3))) ?_ λe w' h=>⟨G,ROW,hGn,hGm,hRl,hRh,h⟩;clear hROW hRl hRh
 go_enter aH,aG
 go_wp2_with (first
  |(at_builtin;refine Lib.wpList_append_run _ rfl _ _ _ _ rfl _ _ rfl rfl _ _ (hrz _) ?_)
  |(at_builtin;refine wpList_copy_runI _ rfl _ _ 67 67 rfl _ _ rfl rfl (hcpA _ hE1 hE2 _ _) ?_)
  |(at_builtin;refine wpList_copy_runI _ rfl _ _ 67 67 rfl _ _ rfl rfl (hcpB _ (λ_=>rfl) (λ_=>rfl) _ _ _) ?_))
 go_region_law_o (refine step_copy_runI rfl _ _ 67 67 rfl (.slice (some ⟨w.heap.size,(i+1)*3,none⟩) (n-i) (G-(i+1))) (.slice (some ⟨b,off+i*3,none⟩) (n-i) (c-i)) (by simp[Act.eval,Act.put]) (by simp[Act.eval,Act.put]) (hcpB _ hF1 hF2 3 (G-(i+1)) (c-i)) ?_)
 go_wp2
 go_ret
 exact⟨rfl,rfl⟩
end Go.Proofs.YtjhmdfofhnijeaaGreatDoor
namespace Go.Proofs.YtjhmdfofhnijeaaGreatDoor
open Go.Sy
set_option maxRecDepth 100000
set_option maxHeartbeats 4000000
def I(n:Int):A:=.int .i64 n
def S(l:List Nat):A:=.str ⟨(l.map UInt8.ofNat).toArray⟩
def Dj:List (ar×List Go.Sy.CK):=[(303,[.i .i64,.i .i64,.i .i64,.i .i64,.i .i64,.i .i64,.i .i64,.i .i64,.i .i64,.b,.s]),(151,[.i .i64,.i .i64,.i .i64,.i .i64,.i .i64]),(100,[.i .i64,.i .i64]),(335,[.i .i64,.i .i64,.i .i64,.i .i64])]
theorem Dk{P:au}{t:ar}(h:(match P.underlying t with|some (.struct _)=>true|_=>false)=true):(match P.underlying t with|some (.struct _)=>True|_=>False):=by
 revert h
 cases P.underlying t with
 |none=>intro h;cases h
 |some d=>cases d<;>intro h<;>first|trivial|cases h
theorem Oz:tS aF Dj:=by
 intro p hp;simp only[Dj,a8,a7,or_false]at hp;rcases hp with rfl|rfl|rfl|rfl
 .exact⟨by kernel_rfl,by kernel_rfl,Dk (P:=aF) (t:=303) (by kernel_rfl)⟩
 .exact⟨by kernel_rfl,by kernel_rfl,Dk (P:=aF) (t:=151) (by kernel_rfl)⟩
 .exact⟨by kernel_rfl,by kernel_rfl,Dk (P:=aF) (t:=100) (by kernel_rfl)⟩
 exact⟨by kernel_rfl,by kernel_rfl,Dk (P:=aF) (t:=335) (by kernel_rfl)⟩
def Hq:List (ar×Bool×Nat):=[(216,false,1),(529,false,1),(779,false,1)]
theorem ZU:xm aF Hq:=by
 intro p hp;simp only[Hq,a8,a7,or_false]at hp;rcases hp with rfl|rfl|rfl
 .exact⟨3,3,by kernel_rfl,Dl (by kernel_rfl)⟩
 .exact⟨3,1,by kernel_rfl,Dl (by kernel_rfl)⟩
 exact⟨3,777,by kernel_rfl,Dl (by kernel_rfl)⟩
def ZV:List av:=[11,24,29,44,46,52,54,58,62,64,68,71,75,77,78,79,80,81,82,85,89,90,108,109,110,111,112,113,114,115,116,117,119,122,125,128,129,130,131,132,135,139,142,143,147,152,153,157,160,171,173,175,178,180,181,183,187,189,190,195,196,200,205,215,219,222,224,225,228,231,232,236,240,241,242,243,244,250,254,255,256,259,260,264,280,290,294,296,301,304,307,314,319,331,332,336,338,339,343,344,345,346,347,348,349,354,359,361,364,368,370,371,373,375,382,383,384,386,388,391,396,401,403,404,406,407,410,411,412,415,417,419,426,428,429,430,431,433,435,436,439,453,455,456,457,459,463,464,465,467,468,469,470,472,474,475,476,480,481,482,483,484,485,490,491,493,494,495,500,502,503,504,506,507,512,516,517,518,519,520,523,531,532,535,536,539,541,542,550,551,556,557,561,564,565,566,567,568,575,576,580,587,588,611,614,615,617,618,620,622,623,624,625,628,629,633,635,636,637,638,639,640,655,656,657,658,659,663,681,682,683,684,685,688]
noncomputable def EA(z:List Nat):Env:={ P:=aF,lJ:=lK Dj,lL:=z,nO:=tT Hq }
theorem ZW(z:List Nat):ib (EA z):=zI Oz ZU
noncomputable def CA(z:List Nat):Cx:={ E:=EA z,inl:=ZV,ok:=ZW z }
abbrev KK:={c:Ct // jI aF c}
def K1:List KK->List Ct
 |[]=>[]
 |k::l=>k.1::K1 l
theorem jX:∀ l,xn aF (K1 l)
 |[]=>trivial
 |k::l=>⟨k.2,jX l⟩
def qz(z:List Nat)(c:Ct)(l:List KK)(h:zJ (CA z) (K1 l) 100000 c=true:=by kernel_rfl):KK:=⟨c,ZX (CA z) 100000 (K1 l) (jX l) rfl h⟩
def q(f:av)(a:List A)(r:A)(l:List KK)(h:zJ (CA []) (K1 l) 100000 ⟨f,a,r,none,true⟩=true:=by kernel_rfl):KK:=qz [] ⟨f,a,r,none,true⟩ l h
def qo(f:av)(a:List A)(r:A)(o:Option Ob)(l:List KK)(h:zJ (CA []) (K1 l) 100000 ⟨f,a,r,o,false⟩=true:=by kernel_rfl):KK:=qz [] ⟨f,a,r,o,false⟩ l h
instance (n:Nat):OfNat A n:=⟨.int .i64 (Int.ofNat n)⟩
def tt:A:=.bool true
def ff:A:=.bool false
def G(l:List A):A:=.agg l
def U(l:List A):A:=.cG l
def L(c n:Nat)(l:List A):A:=.sl c n (fQ c l)
def J:A:=.dU
def m1:A:=.int .i64 (-1)
def V:Ob:=.de
def js:Nat->List A->List A
 |0,l=>l
 |n+1,l=>J::js n l
def vs:Nat->List Ob->List Ob
 |0,l=>l
 |n+1,l=>V::vs n l
def fq(a b:List A):List A:=a++b
end Go.Proofs.YtjhmdfofhnijeaaGreatDoor
namespace Go.Sy
open Go.RowKit Go.Proofs
theorem Hr{cur:Array al}{o m:Nat}{xs:List al}(ht:(cur.toList.drop o).take m=xs)(hl:xs.length=m){j:Nat}(hj:j<m):cur[o+j]? =xs[j]?:=by
 rw[<-ht,aS hj,aR,ab]
theorem Hp.ZY{w0:aq}{X:Nat->Prop}{bR:List Ob}{w:aq}{ρ:Nat->Loc}(h:Hp w0 X bR w ρ):Rel w0 X ⟨[],bR⟩ { tmps:=#[],defers:=[] } w ρ:=
 ⟨rfl,λi=>by simp only[bT,R],h.obj,h.dJ,h.kept,h.new,h.fu,⟨[],rfl,List.nodup_nil,λ_ h=>by cases h⟩⟩
theorem ZZ{w:aq}{O:Nat->Prop}{ρ:Nat->Loc}{ob:Ob}(h:fR w O ρ ob .de):ob= .de:=by
 cases ob with
 |de=>rfl
 |dead=>cases h
 |box _=>obtain⟨_,_,_,e,_⟩:=h;cases e
 |row _ _ _ _=>obtain⟨_,_,e,_⟩:=h;cases e
 |lp _ _ _ _ _ _=>obtain⟨_,_,_,e,_⟩:=h;cases e
 |mp _ _ _ _ _ _ _=>obtain⟨_,_,_,e,_⟩:=h;cases e
 |rr _ _ _ _ _ _ _=>obtain⟨_,_,_,e,_⟩:=h;cases e
 |it _ _ _ _ _ _=>obtain⟨_,_,_,_,_,e,_⟩:=h;cases e
theorem OA{w:aq}{O O':Nat->Prop}(h:∀ b,O' b->O b)(ρ:Nat->Loc):dz w w O O' ρ ρ:=⟨br _,λ_ _ _=>rfl,λb _ hb=>h b hb,λ_=>.inl rfl⟩
theorem jI.fn{P:au}{c:Ct}(h:jI P c):cJ P c.f c.args (c.res,c.ob):=by
 unfold jI at h;cases hf:c.fr with
 |false=>rw[hf]at h;exact h
 |true=>
  rw[hf]at h;obtain⟨h1,h2⟩:=h;simp only at h1 h2;refine⟨h1.lh,λw X vs hX hr=>(h1.run w X vs hX ?_).mono ?_⟩
  .exact RL.later _ _ _ _ (OA (λ_ h=>h.elim) b7) hr
  rintro e w' ⟨v,rfl,hb,hv⟩;have hu:dj b7 0 Loc.de=b7:=by
   funext i;unfold dj;split<;>rfl
  refine⟨v,.de,rfl,hb,?_,by simp only[h2],λb hb=>by cases hb⟩;rw[hu];refine R.later _ _ _ _ (OA (λb hb=>?_) b7) hv;rcases hb with hb|hb
  .exact hb
  cases hb
theorem Z0{a b:List al}{m:Nat}(ha:a.length=m)(hb:b.length=m)(h:∀ j,j<m->a[j]? =b[j]?):a=b:=by
 apply List.ext_getElem?;intro j;rcases bh j m with hj|hj
 .exact h j hj
 rw[aT (by omega),aT (by omega)]
end Go.Sy
namespace Go.Proofs.YtjhmdfofhnijeaaGreatDoor
open Go Go.RowKit Go.Sy Go.Lib Go.Proofs
set_option maxRecDepth 100000
set_option maxHeartbeats 1000000
theorem Z1(bR:List Ob)(id id2 B K n i:Nat)(e2:ar)(el ev:Nat->Nat->A)(h1:bZ bR id= .row 143 3 n el)(h2:bZ bR id2= .row e2 3 1 ev)(hne:id≠id2)(hi:i<n)(hn:n<=1000000)(hBK:B<=K):
  pb aF 219 [.own id,.int .i64 i,.own id2] bR B (.own K) (cM (cM bR id .dead) K (.row 143 3 (n+1) (qY el ev i))):=by
 refine⟨by kernel_rfl,λw0 X w ρ vs hp hr hv=>?_⟩;have hA:=hp.obj id;rw[h1]at hA;have hC:=hp.obj id2;rw[h2]at hC;obtain⟨v,xs,hl,⟨hxl,hh⟩,hone,hel⟩:=hA;obtain⟨v2,ys,hl2,⟨hyl,hh2⟩,hone2,hel2⟩:=hC;simp only[RL,R,hl,hl2]at hr;obtain⟨_,_,rfl,⟨rfl,_⟩,_,_,rfl,rfl,_,_,rfl,⟨rfl,_⟩,rfl⟩:=hr;rcases hh with ⟨hn0,_⟩|⟨g,o,cap,cur,rfl,⟨fz,hg,hfz⟩,hcap,hmax,hsz,htk⟩
 .omega
 rcases hh2 with ⟨hn0,_⟩|⟨g2,o2,cap2,cur2,rfl,⟨fz2,hg2,hfz2⟩,hcap2,hmax2,hsz2,htk2⟩
 .cases hn0
 have hz:fz.2=0:=by rcases hfz with ⟨_,h⟩|h<;>first|cases h|exact h
 have hz2:fz2.2=0:=by rcases hfz2 with ⟨_,h⟩|h<;>first|cases h|exact h
 have hK:bZ bR K= .de:=by
  have h:=hp.obj K;rw[hv K hBK]at h;exact ZZ h
 have hgg:g2≠g:=λe=>hne (hp.dJ id id2 g (by rw[hl];rfl) (by rw[hl2,<- e];rfl));have hyl':ys.length=3:=by rw[hyl]
 have c1:∀ j v,xs[j]? =some v->w.cell? ⟨g,o+j,none⟩=some v:=λj v hj=>by
  have hlt:j<n*3:=by
   rcases bh j xs.length with h|h
   .omega
   rw[aT h]at hj;cases hj
  simp only[aO,hg,bw,ai,ic];rw[Hr htk hxl hlt];exact hj
 have c2:∀ j v,ys[j]? =some v->w.cell? ⟨g2,o2+j,none⟩=some v:=λj v hj=>by
  have hlt:j<1*3:=by
   rcases bh j ys.length with h|h
   .omega
   rw[aT h]at hj;cases hj
  simp only[aO,hg2,bw,ai,ic];rw[Hr htk2 hyl hlt];exact hj
 have fin:∀ g' o' cp cur' blk w' fz',w'.heap[g']? =some (.cells cur' 143 fz')->fz'.2=0->n+1<=cp+1->cp+1<=maxLen->cur'.size=o'+(cp+1)*3->(∀j,j<(n+1)*3->cur'[o'+j]? =(sm xs ys (i*3))[j]?)->GB w w' blk->(∀b,blk=some b->b=g)->(blk=some g'\/g'=w.heap.size)->
   ∃v ρ',Ending.returned (.slice (some ⟨g',o',none⟩) (n+1) (cp+1))= .returned v/\R w' (Ow X ρ') (.own K) ρ' v/\Hp w0 X (cM (cM bR id .dead) K (.row 143 3 (n+1) (qY el ev i))) w' ρ'/\dz w w' (Ow X ρ) (Ow X ρ') ρ ρ':=by
  intro g' o' cp cur' blk w' fz' hg' hfz' hcp hmx hsz' hget hgb hblk hb;have happ:=(hp.ZY).append (kill:=some id) (d:=K) (v':=.slice (some ⟨g',o',none⟩) (n+1) (cp+1)) (ob:=.row 143 3 (n+1) (qY el ev i)) (blk:=blk)
   (λb hb=>⟨id,rfl,by rw[hl,hblk b hb];rfl⟩)
   (λid' e=>by cases e;constructor<;>(intro h;rw[h1]at h;cases h))
   hgb
   (λb hb'=>by
    simp only[eQ,bx]at hb';subst hb';exact hb)
   (by
    show bZ (cM bR id .dead) K= .de;rw[ef];split
    .rename_i e;rw[e,h1]at hK;cases hK
    exact hK)
   (λb hb'=>by
    simp only[eQ,bx]at hb';subst hb';rcases bh g' w'.heap.size with h|h
    .exact h
    rw[Array.getElem?_eq_none h]at hg';cases hg')
   (λhL=>by
    have hlen:(sm xs ys (i*3)).length=(n+1)*3:=by rw[ZQ,hxl,hyl'];omega
    refine⟨_,sm xs ys (i*3),rfl,⟨hlen,.inr ⟨g',o',cp,cur',rfl,⟨_,hg',.inr hfz'⟩,hcp,hmx,hsz',?_⟩⟩,?_,?_⟩
    .refine Z0 (m:=(n+1)*3) (by simp;omega) hlen λj hj=>?_;rw[aS hj,aR,ab];exact hget j hj
    .intro u hu;simp only[sm,List.mem_append]at hu;rcases hu with (hu|hu)|hu
     .exact hone u (List.mem_of_mem_take hu)
     .exact hone2 u hu
     exact hone u (aW hu)
    refine ZR (by omega) hxl hyl' (λq hq j hj=>?_) (λj hj=>?_)
    .obtain⟨u,hu,hr⟩:=hel q hq j hj;exact⟨u,hu,R.later _ b7 b7 u hL.b7 hr⟩
    obtain⟨u,hu,hr⟩:=hel2 0 (by omega) j hj;rw[bu,bp]at hu;exact⟨u,hu,R.later _ b7 b7 u hL.b7 hr⟩)
  refine⟨_,_,rfl,?_,happ.1.hp,happ.2⟩;simp only[R,dM];exact⟨bP,_,_,_,rfl⟩
 by_cases hroom:n+1<=cap+1
 .refine(ZS g o n (cap+1) i g2 o2 (cap2+1) xs ys w hi hroom (by unfold maxLen at hmax;omega) hgg hxl hyl' c1 (λj hj=>?_) (λj hj=>?_) c2 hone hone2 e2 143 cur2.size cur.size ?_ ?_ (by omega) ?_ ?_).mono ?_
  .simp only[aO,hg,bw,ai,ic];rw[aa (by omega)];rfl
  .simp only[aL,hg,hz];simp
  .simp only[aP,hg2]
  .simp only[aP,hg]
  .simp only[aL,hg2,hz2];simp
  .simp only[aL,hg2,hz2];simp
  rintro e' w' ⟨rfl,rfl⟩;have k1:(w.drew).heap[g]? =some (.cells cur 143 fz):=hg;have k2:=zF g (xs.drop (i*3)) (o+(i+1)*3) w.drew cur _ _ k1;have k3:=zF g ys (o+i*3) _ _ _ _ k2;obtain⟨a1,a2,a3,a4,a5⟩:=zH g (xs.drop (i*3)) (o+(i+1)*3) w.drew;obtain⟨b1,b2,b3,b4,b5⟩:=zH g ys (o+i*3) (w.drew.setCells g (o+(i+1)*3) (xs.drop (i*3)));refine fin g o cap _ (some g) _ _ k3 hz hroom hmax (by rw[u9,u9];exact hsz) (λj hj=>?_) ⟨b1.trans a1,b2.trans a2,b3.trans a3,by rw[b4,a4];exact br _,λk hk hne'=>?_,bP⟩ (λb hb=>by cases hb;rfl) (.inl rfl)
  .have hdl:(xs.drop (i*3)).length=n*3-i*3:=by rw[aU,hxl]
   rw[zD _ _ _ (by rw[u9,hyl'];omega),zD _ _ _ (by rw[hdl];omega),Ho _ _ _ (by rw[hxl];omega),hyl',hdl];by_cases q1:j<i*3
   .rw[bQ (by omega),bQ (by omega),bS q1,Hr htk hxl (by omega)]
   rw[bQ q1];by_cases q2:j<i*3+3
   .rw[bS (by omega),bS q2];congr 1;omega
   rw[bQ (by omega),bS (by omega),bQ q2,aR];congr 1;omega
  have hkg:k≠g:=λe=>hne' (by rw[e]);rw[b5 k hkg,a5 k hkg];rfl
 refine(ZT g o n (cap+1) i g2 o2 (cap2+1) xs ys w hi hcap (by omega) (by omega) hxl hyl' c1 c2 hone hone2).mono ?_;rintro e' w' ⟨G,ROW,hG1,hG2,hR1,hR2,rfl,rfl⟩;obtain⟨G,rfl⟩:∃ G',G=G'+1:=⟨G-1,by omega⟩;have k1:((w.alloc (.cells ROW 143)).drew).heap[w.heap.size]? =some (.cells ROW 143 (0,0)):=heap_alloc_new w _;have k2:=zF w.heap.size ys (i*3) _ _ _ _ k1;have k3:=zF w.heap.size (xs.drop (i*3)) ((i+1)*3) (((w.alloc (.cells ROW 143)).drew.setCells w.heap.size (i*3) ys).drew) _ _ _ k2;obtain⟨a1,a2,a3,a4,a5⟩:=zH w.heap.size ys (i*3) ((w.alloc (.cells ROW 143)).drew);obtain⟨b1,b2,b3,b4,b5⟩:=zH w.heap.size (xs.drop (i*3)) ((i+1)*3) (((w.alloc (.cells ROW 143)).drew.setCells w.heap.size (i*3) ys).drew);refine fin w.heap.size 0 G _ none _ _ k3 rfl hG1 hG2 (by rw[u9,u9,hR1];omega) (λj hj=>?_) ⟨b1.trans a1,b2.trans a2,b3.trans a3,?_,λk hk _=>?_,bP⟩ (λb hb=>by cases hb) (.inr rfl)
 .have hdl:(xs.drop (i*3)).length=n*3-i*3:=by rw[aU,hxl]
  rw[zD _ _ _ (by rw[u9,hR1,hdl];omega),zD _ _ _ (by rw[hR1,hyl'];omega),Ho _ _ _ (by rw[hxl];omega),hyl',hdl];by_cases q1:j<i*3
  .rw[bQ (by omega),bQ (by omega),bS q1,bp,hR2 j q1]
  rw[bQ q1];by_cases q2:j<i*3+3
  .rw[bQ (by omega),bS (by omega),bS q2];congr 1;omega
  rw[bS (by omega),bQ q2,aR];congr 1;omega
 .rw[b4];show _<=(aQ _).heap.size;show _<=(aI _ _ _ _).heap.size;rw[a4];simp[aQ]
 have hkg:k≠w.heap.size:=by omega
 rw[b5 k hkg];show(aI _ _ _ _).heap[k]? =_;rw[a5 k hkg];exact Below.heap_alloc _ _ _ hk
noncomputable def Z2:Env:={ P:=aF,lJ:=lK Dj,mu:=[219] }
noncomputable def Z3:Cx:={ E:=Z2,inl:=[],ok:=zK Oz }
theorem Z4(n i:Nat)(el:Nat->Nat->A)(t k m:Int)(hi:i<n)(hn:n<1000)(f1:cJ aF 216 [.sl 3 n el] (.int .i64 0,none))(f2:cJ aF 217 [.agg [.int .i64 t,.int .i64 k,.int .i64 m]] (.bool true,none))
  (f3:cJ aF 218 [.sl 3 n el,.agg [.int .i64 t,.int .i64 k,.int .i64 m]] (.cG [.int .i64 i,.bool false],none)) (f4:cJ aF 220 [.sl 3 n el] (.own 0,some (.row 143 3 n el))):
  cJ aF 169 [.sl 3 n el,.agg [.int .i64 t,.int .i64 k,.int .i64 m]] (.cG [.sl 3 (n+1) (qY el (λ_ j=>bT [.int .i64 t,.int .i64 k,.int .i64 m] j) i),.int .i64 0],none):=by
 refine c8 Z3 Tryz.func169 rfl ?_;refine cj zE (f1) (b8 zE (rfl) (cj zE (f2) (b8 zE (rfl) (cj zE (f3) (b8 zE (rfl) (b8 zE (beq_eq_false_iff_ne.2 (by omega)) (cN zE ?_)))))));refine cj zE (f4) ?_;refine zG zE (NS.xo (P:=aF) (vals:=[.own 26,.int .i64 i,.own 29]) (jJ.refl _) rfl (db.refl _) (by kernel_rfl) (Z1 _ 26 29 31 31 n i _ el _ rfl rfl (by decide) hi (by omega) (br _)) rfl ?_);refine cL zE rfl rfl (bY.cG (db.cons (bY.Z5 rfl λq hq j hj=>?_) (db.refl _)));have e:qY el (λi j=>bT [.int .i64 t,.int .i64 k,.int .i64 m] (i*3+j)) i q j=qY el (λ_ j=>bT [.int .i64 t,.int .i64 k,.int .i64 m] j) i q j:=by
  simp only[qY,bu,bp]
 exact bY.of e
def Dm(t k m:Int):List A:=[.int .i64 t,.int .i64 k,.int .i64 m]
def Z6(n i:Nat)(el:Nat->Nat->A)(t k m:Int):A:=.cG [.sl 3 (n+1) (qY el (λ_ j=>bT (Dm t k m) j) i),.int .i64 0]
def OB(c ca cb cp cl:Ct)(n i:Nat)(el:Nat->Nat->A)(t k m:Int):Bool:=
 bn i n&&(bn n 1000&&(bk ca.f 216&&(bk cb.f 217&&(bk cp.f 218&&(bk cl.f 220&&
 (lj (iN 8) [.sl 3 n el] ca.args&&(lj (iN 8) [.agg (Dm t k m)] cb.args&&(lj (iN 8) [.sl 3 n el,.agg (Dm t k m)] cp.args&&(lj (iN 8) [.sl 3 n el] cl.args&&
 (iN 8 ca.res (.int .i64 0)&&(iN 8 cb.res (.bool true)&&(iN 8 cp.res (.cG [.int .i64 i,.bool false])&&(ca.ob.isNone&&(cb.ob.isNone&&(cp.ob.isNone&&
 (bk c.f 169&&(lj (iN 8) c.args [.sl 3 n el,.agg (Dm t k m)]&&(iN 8 (Z6 n i el t k m) c.res&&(c.ob.isNone&& !c.fr)))))))))))))))))))
theorem xp(c:Ct){ca cb cp cl:Ct}{n:Nat}{el:Nat->Nat->A}(i:Nat)(t k m:Int)(ha:jI aF ca)(hb:jI aF cb)(hp:jI aF cp)(hl:jI aF cl)(hr:(cl.res,cl.ob)=(.own 0,some (.row 143 3 n el)))(h:OB c ca cb cp cl n i el t k m=true):jI aF c:=by
 simp only[OB,ak,Option.isNone_iff_eq_none]at h;obtain⟨h1,h2,h3,h4,h5,h6,h7,h8,h9,h10,h11,h12,h13,h14,h15,h16,h17,h18,h19,h20,h21⟩:=h;have fa:=ha.fn;have fb:=hb.fn;have fp:=hp.fn;have fl:=hl.fn;rw[ba h3,h14]at fa;rw[ba h4,h15]at fb;rw[ba h5,h16]at fp;rw[ba h6,hr]at fl;have h0:=Z4 n i el t k m (by simpa using h1) (by simpa using h2) ((fa.le (pc (ll 8) h7)).res (ll 8 _ _ h11)) ((fb.le (pc (ll 8) h8)).res (ll 8 _ _ h12)) ((fp.le (pc (ll 8) h9)).res (ll 8 _ _ h13)) (fl.le (pc (ll 8) h10));rw[<-ba h17]at h0;have h22:cJ aF c.f c.args (c.res,c.ob):=by rw[h20];exact(h0.le (pc (ll 8) h18)).res (ll 8 _ _ h19)
 unfold jI;rw[show c.fr=false by simpa using h21];exact h22
end Go.Proofs.YtjhmdfofhnijeaaGreatDoor
namespace Go.Proofs.YtjhmdfofhnijeaaGreatDoor
open Go.Sy Go.Mb
set_option maxRecDepth 100000
set_option maxHeartbeats 4000000
def mg:A->Int
 | .int _ n=>n
 |_=>0
def zL:A->ByteArray
 | .str s=>s
 |_=>.empty
def Z7:A->Bool
 | .bool b=>b
 | .kb b=>b
 |_=>false
def Z8(f:Nat->A):gm:=⟨mg (f 0),⟨mg (f 1),⟨mg (f 2),mg (f 3),mg (f 4),mg (f 5),mg (f 6)⟩,mg (f 7),mg (f 8),mg (f 9),Z7 (f 10),zL (f 11)⟩,⟨mg (f 12),mg (f 13),mg (f 14),mg (f 15),mg (f 16)⟩,mg (f 17),mg (f 18)⟩
def Dn(a:A):List gm:=match a with| .sl _ n el=>(pd 0 n).map λi=>Z8 (el i)|_=>[]
def OC(c:Ct)(args:List A)(r:A):Bool:=lj (iN 8) c.args args&&(iN 8 r c.res&&(c.ob.isNone&&flat 6 c.res))
theorem zM(c:Ct)(hf:c.f=288)(h:(Nat.ble (zL (bT c.args 0)).size 100000&&(Nat.ble (Dn (bT c.args 1)).length 100000&&OC c [.str (zL (bT c.args 0)),Hs (Dn (bT c.args 1))] (xq (qZ (ls (zL (bT c.args 0))) (Dn (bT c.args 1))))))=true):jI aF c:=by
 simp only[ak]at h;obtain⟨h1,h2,h3⟩:=h;have h4:=Z9 (zL (bT c.args 0)) (Dn (bT c.args 1)) (bd h1) (bd h2);rw[<-hf]at h4;exact OD h4 h3
theorem a_(c:Ct)(hf:c.f=584)(h:OC c [] (.agg (zN 256))=true):jI aF c:=by
 have h4:=OE;rw[<-hf]at h4;exact OD h4 h
def a!:A×Option Ob:=(.dA 0,some (.mp 779 false 1 true [([3],some (.fn 629 [])),([2],some (.fn 628 []))] (λ_=>false) (λ_=>.dU)))
noncomputable def b_:Cx:=CA []
theorem b?:cJ aF 598 [] a!:=by
 refine c8 b_ Tryz.func598 rfl ?_;refine zG zE (NS.OG 1 rfl rfl (bY.refl _) (λq a h=>?_));simp only[eu]at h
 repeat' split at h
 all_goals (cases h<;>rfl)
end Go.Proofs.YtjhmdfofhnijeaaGreatDoor
namespace Go.Proofs.YtjhmdfofhnijeaaGreatDoor
open Go.Sy
set_option maxRecDepth 100000
set_option maxHeartbeats 4000000
def v0:A:=L 7 2 [0,1,10,60,4,5,0,1,2,50,100,4,5,0]
def v1:A:=G [L 1 3 [100,100,100],v0]
def k0:=q 55 [] v1 []
def v2:A:=L 12 1 [0,0,0,0,0,1,2,200,0,0,.bN,S [104,105]]
def v3:A:=G [L 1 3 [100,100,100],v0,v2,.bN,.bN,tt]
def k1:=qo 19 [] v3 none [k0]
def k2:=q 192 [0,0,15] tt []
def k3:=q 192 [1,0,15] tt []
def k4:=q 192 [4,1,1000] tt []
def k5:=q 192 [5,1,1048576] tt []
def k6:=q 192 [0,0,16] tt []
def v4:A:=G [0,1,10,60,4,5,0]
def k7:=q 133 [v4] 0 [k2,k3,k4,k5,k6]
def v5:A:=.ip 7 (bT [0,1,10,60,4,5,0])
def k8:=q 193 [L 7 0 [],.fn 135 [v5]] m1 []
def k9:=q 134 [L 7 0 [],.fn 135 [v5]] ff [k8]
def b!:=q 192 [2,0,15] tt []
def v6:A:=G [1,2,50,100,4,5,0]
def zO:=q 133 [v6] 0 [k3,b!,k4,k5,k6]
def c_:=q 136 [v6,v4] ff [zO,k7]
def v7:A:=L 7 1 [0,1,10,60,4,5,0]
def v8:A:=.ip 7 (bT [1,2,50,100,4,5,0])
def c!:=q 193 [v7,.fn 135 [v8]] m1 [c_]
def d_:=q 134 [v7,.fn 135 [v8]] ff [c!]
def qa:=q 83 [v1] 0 [k7,k9,zO,d_]
def d?:=q 275 [0,0,15] tt []
def d!:=q 275 [0,0,1099511627776] tt []
def e_:=q 273 [G [0,0,0,0,0]] 0 [d?,d!]
def e?:=q 274 [G [1,2]] 0 []
def e!:=q 275 [0,0,2] tt []
def f_:=q 275 [0,0,127] tt []
def v9:A:=G [0,0,0,0,0,1,2,200,0,0,.bN,S [104,105]]
def f?:=q 276 [v9] 0 [f_]
def g_:=q 277 [.bN] 0 []
def g!:=q 278 [v9] 0 []
def Dp:=q 212 [v9] 0 [e_,e?,e!,f?,g_,g!]
def h_:=q 213 [v9] ff [Dp]
def v10:A:=.ip 12 (bT [0,0,0,0,0,1,2,200,0,0,.bN,S [104,105]])
def h!:=q 279 [L 12 0 [],.fn 215 [v10]] m1 []
def i_:=q 214 [L 12 0 [],.fn 215 [v10]] ff [h!]
def i?:=q 167 [v3,0] 0 [Dp,h_,i_]
def i!:=q 105 [v3] 0 [qa,i?]
def v11:A:=G [L 1 3 [100,100,100],v0,.bN,.bN]
def j_:=qo 106 [v1] (U [v11,0]) none [qa]
def xr:=q 168 [0,0,15] tt []
def nP:=q 168 [100,0,1073741824] tt []
def v12:A:=G [0,100,tt,S [],0,.bN,.bN,.bN]
def j?:=q 107 [0,100] (U [v12,0]) [xr,nP]
def xt:=q 168 [1,0,15] tt []
def zP:A:=G [1,100,tt,S [],0,.bN,.bN,.bN]
def j!:=q 107 [1,100] (U [zP,0]) [xt,nP]
def OH:=q 168 [2,0,15] tt []
def zQ:A:=G [2,100,tt,S [],0,.bN,.bN,.bN]
def k_:=q 107 [2,100] (U [zQ,0]) [OH,nP]
def k?:=q 216 [.bN] 0 []
def k!:=q 217 [G [0,7,0]] tt []
def l_:=q 218 [.bN,G [0,7,0]] (U [0,ff]) []
def l?:=qo 220 [.bN] (.own 0) (some (.row 143 3 0 (fQ 3 []))) []
def l!:A:=U [L 3 1 [0,7,0],0]
def m_:=qo 169 [.bN,G [0,7,0]] l! none [k?,k!,l_,l?]
def m?:A:=L 8 3 [0,100,tt,S [],0,.bN,.bN,.bN,1,100,tt,S [],0,.bN,.bN,.bN,2,100,tt,S [],0,.bN,.bN,.bN]
def v17:A:=G [L 1 3 [100,100,100],v0,v2,.bN,.bN,tt,0,0,L 1 3 [100,100,100],v0,.bN,.bN,m?,L 1 3 [0,0,0],.bN,L 3 1 [0,7,0],.bN]
def n_:A:=U [G [0,7,0],tt]
def n?:=q 53 [v17] n_ []
def OI:=qo 220 [L 3 0 []] (.own 0) (some (.row 143 3 0 (fQ 3 []))) []
def n!:=q 444 [3] tt []
def o_:=q 446 [3] 6 []
def o?:=qo 445 [6] (.fn 504 [.ip 1 (bT [6])]) none []
def o!:=q 376 [3] (U [S [6],0]) [n!,o_,o?]
def p_:=q 374 [S [77,66,49]] (U [S [6,77,66,49],0]) [o!]
def nQ:=q 444 [0] tt []
def p?:=q 446 [0] 0 []
def p!:=qo 445 [0] (.fn 504 [.ip 1 (bT [0])]) none []
def OJ:=q 376 [0] (U [S [0],0]) [nQ,p?,p!]
def Dq:=q 444 [1] tt []
def q_:=q 446 [1] 2 []
def q?:=qo 445 [2] (.fn 504 [.ip 1 (bT [2])]) none []
def q!:=q 376 [1] (U [S [2],0]) [Dq,q_,q?]
def Dr:=q 444 [2] tt []
def r_:=q 446 [2] 4 []
def r?:=qo 445 [4] (.fn 504 [.ip 1 (bT [4])]) none []
def OK:=q 376 [2] (U [S [4],0]) [Dr,r_,r?]
def OL:=q 444 [200] tt []
def r!:=q 446 [200] 400 []
def s_:=qo 445 [400] (.fn 504 [.ip 1 (bT [400])]) none []
def s?:=q 376 [200] (U [S [131,16],0]) [OL,r!,s_]
def t_:=q 377 [.bN] (U [S [0],0]) [OJ]
def t?:=q 374 [S [104,105]] (U [S [4,104,105],0]) [OK]
def t!:=q 444 [19] tt []
def u_:=q 446 [19] 38 []
def u?:=qo 445 [38] (.fn 504 [.ip 1 (bT [38])]) none []
def u!:=q 376 [19] (U [S [38],0]) [t!,u_,u?]
def OM:A:=S [6,77,66,49,0,0,0,0,0,2,4,131,16,0,0,0,4,104,105]
def v20:A:=S [38,6,77,66,49,0,0,0,0,0,2,4,131,16,0,0,0,4,104,105]
def v_:=q 374 [OM] (U [v20,0]) [u!]
def v21:A:=G [.int .u32 0,.int .u32 4067132163,.int .u32 3778769143,.int .u32 324072436,.int .u32 3348797215,.int .u32 904991772,.int .u32 648144872,.int .u32 3570033899,.int .u32 2329499855,.int .u32 2024987596,.int .u32 1809983544,.int .u32 2575936315,.int .u32 1296289744,.int .u32 3207089363,.int .u32 2893594407,.int .u32 1578318884,.int .u32 274646895,.int .u32 3795141740,.int .u32 4049975192,.int .u32 51262619,.int .u32 3619967088,.int .u32 632279923,.int .u32 922689671,.int .u32 3298075524,.int .u32 2592579488,.int .u32 1760304291,.int .u32 2075979607,.int .u32 2312596564,.int .u32 1562183871,.int .u32 2943781820,.int .u32 3156637768,.int .u32 1313733451,.int .u32 549293790,.int .u32 3537243613,.int .u32 3246849577,.int .u32 871202090,.int .u32 3878099393,.int .u32 357341890,.int .u32 102525238,.int .u32 4101499445,.int .u32 2858735121,.int .u32 1477399826,.int .u32 1264559846,.int .u32 3107202533,.int .u32 1845379342,.int .u32 2677391885,.int .u32 2361733625,.int .u32 2125378298,.int .u32 820201905,.int .u32 3263744690,.int .u32 3520608582,.int .u32 598981189,.int .u32 4151959214,.int .u32 85089709,.int .u32 373468761,.int .u32 3827903834,.int .u32 3124367742,.int .u32 1213305469,.int .u32 1526817161,.int .u32 2842354314,.int .u32 2107672161,.int .u32 2412447074,.int .u32 2627466902,.int .u32 1861252501,.int .u32 1098587580,.int .u32 3004210879,.int .u32 2688576843,.int .u32 1378610760,.int .u32 2262928035,.int .u32 1955203488,.int .u32 1742404180,.int .u32 2511436119,.int .u32 3416409459,.int .u32 969524848,.int .u32 714683780,.int .u32 3639785095,.int .u32 205050476,.int .u32 4266873199,.int .u32 3976438427,.int .u32 526918040,.int .u32 1361435347,.int .u32 2739821008,.int .u32 2954799652,.int .u32 1114974503,.int .u32 2529119692,.int .u32 1691668175,.int .u32 2005155131,.int .u32 2247081528,.int .u32 3690758684,.int .u32 697762079,.int .u32 986182379,.int .u32 3366744552,.int .u32 476452099,.int .u32 3993867776,.int .u32 4250756596,.int .u32 255256311,.int .u32 1640403810,.int .u32 2477592673,.int .u32 2164122517,.int .u32 1922457750,.int .u32 2791048317,.int .u32 1412925310,.int .u32 1197962378,.int .u32 3037525897,.int .u32 3944729517,.int .u32 427051182,.int .u32 170179418,.int .u32 4165941337,.int .u32 746937522,.int .u32 3740196785,.int .u32 3451792453,.int .u32 1070968646,.int .u32 1905808397,.int .u32 2213795598,.int .u32 2426610938,.int .u32 1657317369,.int .u32 3053634322,.int .u32 1147748369,.int .u32 1463399397,.int .u32 2773627110,.int .u32 4215344322,.int .u32 153784257,.int .u32 444234805,.int .u32 3893493558,.int .u32 1021025245,.int .u32 3467647198,.int .u32 3722505002,.int .u32 797665321,.int .u32 2197175160,.int .u32 1889384571,.int .u32 1674398607,.int .u32 2443626636,.int .u32 1164749927,.int .u32 3070701412,.int .u32 2757221520,.int .u32 1446797203,.int .u32 137323447,.int .u32 4198817972,.int .u32 3910406976,.int .u32 461344835,.int .u32 3484808360,.int .u32 1037989803,.int .u32 781091935,.int .u32 3705997148,.int .u32 2460548119,.int .u32 1623424788,.int .u32 1939049696,.int .u32 2180517859,.int .u32 1429367560,.int .u32 2807687179,.int .u32 3020495871,.int .u32 1180866812,.int .u32 410100952,.int .u32 3927582683,.int .u32 4182430767,.int .u32 186734380,.int .u32 3756733383,.int .u32 763408580,.int .u32 1053836080,.int .u32 3434856499,.int .u32 2722870694,.int .u32 1344288421,.int .u32 1131464017,.int .u32 2971354706,.int .u32 1708204729,.int .u32 2545590714,.int .u32 2229949006,.int .u32 1988219213,.int .u32 680717673,.int .u32 3673779818,.int .u32 3383336350,.int .u32 1002577565,.int .u32 4010310262,.int .u32 493091189,.int .u32 238226049,.int .u32 4233660802,.int .u32 2987750089,.int .u32 1082061258,.int .u32 1395524158,.int .u32 2705686845,.int .u32 1972364758,.int .u32 2279892693,.int .u32 2494862625,.int .u32 1725896226,.int .u32 952904198,.int .u32 3399985413,.int .u32 3656866545,.int .u32 731699698,.int .u32 4283874585,.int .u32 222117402,.int .u32 510512622,.int .u32 3959836397,.int .u32 3280807620,.int .u32 837199303,.int .u32 582374963,.int .u32 3504198960,.int .u32 68661723,.int .u32 4135334616,.int .u32 3844915500,.int .u32 390545967,.int .u32 1230274059,.int .u32 3141532936,.int .u32 2825850620,.int .u32 1510247935,.int .u32 2395924756,.int .u32 2091215383,.int .u32 1878366691,.int .u32 2644384480,.int .u32 3553878443,.int .u32 565732008,.int .u32 854102364,.int .u32 3229815391,.int .u32 340358836,.int .u32 3861050807,.int .u32 4117890627,.int .u32 119113024,.int .u32 1493875044,.int .u32 2875275879,.int .u32 3090270611,.int .u32 1247431312,.int .u32 2660249211,.int .u32 1828433272,.int .u32 2141937292,.int .u32 2378227087,.int .u32 3811616794,.int .u32 291187481,.int .u32 34330861,.int .u32 4032846830,.int .u32 615137029,.int .u32 3603020806,.int .u32 3314634738,.int .u32 939183345,.int .u32 1776939221,.int .u32 2609017814,.int .u32 2295496738,.int .u32 2058945313,.int .u32 2926798794,.int .u32 1545135305,.int .u32 1330124605,.int .u32 3173225534,.int .u32 4084100981,.int .u32 17165430,.int .u32 307568514,.int .u32 3762199681,.int .u32 888469610,.int .u32 3332340585,.int .u32 3587147933,.int .u32 665062302,.int .u32 2042050490,.int .u32 2346497209,.int .u32 2559330125,.int .u32 1793573966,.int .u32 3190661285,.int .u32 1279665062,.int .u32 1595330642,.int .u32 2910671697]
def zR:KK:=⟨⟨584,[],v21,none,true⟩,a_ _ rfl (by kernel_rfl)⟩
def v?:=qo 585 [v20] (.fn 611 [.ip 1 (bT [v20])]) none []
def v!:=q 540 [.int .u32 4294967295,v20] (.int .u32 1821520939) [zR,v?]
def w_:=q 505 [v20] 2473446356 [v!]
def w?:=q 448 [v20] (S [212,203,109,147]) [w_]
def v22:A:=S [38,6,77,66,49,0,0,0,0,0,2,4,131,16,0,0,0,4,104,105,212,203,109,147]
def w!:=q 378 [OM] (U [v22,0]) [v_,w?]
def ON:=q 313 [v9] (U [v22,0]) [Dp,p_,OJ,q!,OK,s?,t_,t?,w!]
def x_:=q 311 [v9] (U [24,0]) [ON]
def OO:=q 312 [v9] 200 [Dp]
def v23:A:=G [0,2,24,0,199,0,ff]
def x?:=q 245 [v9] v23 [x_,OO]
def x!:=q 477 [.bN,.fn 419 []] m1 []
def OP:=q 418 [.bN,.fn 419 []] ff [x!]
def zS:=q 84 [v1,.bN] 0 [qa]
def Ht:=q 423 [.bN] .bN []
def OQ:=q 527 [.bN,0,.fn 483 []] (U []) []
def OR:=q 528 [.bN,0,.fn 485 []] (U []) []
def y_:=q 151 [.int .u64 0] 0 []
def zT:=q 95 [.int .u64 0] 0 [y_]
def Dt:=q 194 [.bN,0,0,0] (U []) []
def OS:=q 100 [.bN,0] .bN [zT,Dt]
def OU:=q 99 [.bN] 0 []
def OV:=q 100 [.bN,1] .bN [zT,Dt]
def OW:=q 100 [.bN,2] .bN [zT,Dt]
def Du:=q 48 [v1,.bN] 0 [qa,OS,OU,OV,OW]
def OX:=q 38 [v11] 0 [qa,zS,Du]
def y?:=q 352 [v11] 0 [qa,OP,zS,Ht,OQ,OR,OX]
def Dv:=q 362 [v1,v23] 0 [qa]
def y!:=q 363 [v11] ff []
def z_:=q 257 [v1,.bN,0] 0 [zS]
def z?:=q 63 [.bN,0] .bN []
def z!:=q 258 [v1,.bN,0,10] (L 2 1 [10,60]) [z?]
def v24:A:=U [L 2 1 [10,60],0]
def A_:=qo 191 [v1,.bN,0] v24 none [z_,z!]
def OY:=q 192 [24,1,65536] tt []
def OZ:=q 529 [v4,24] 0 [k7,OY]
def O0:=qo 605 [24] (.fn 633 [.ip 1 (bT [24])]) none []
def O3:=q 574 [v4,16] 6 []
def A?:=q 574 [v4,8] 4 []
def A!:=q 573 [v4,24] 10 [O0,O3,A?]
def O4:=q 530 [v4,24] 10 [A!,O3]
def O5:=q 486 [v4,24] (U [10,0]) [OZ,O4]
def B_:=q 257 [v1,.bN,1] 0 [zS]
def B?:=q 63 [.bN,1] .bN []
def B!:=q 258 [v1,.bN,1,50] (L 2 1 [50,100]) [B?]
def v25:A:=U [L 2 1 [50,100],0]
def C_:=qo 191 [v1,.bN,1] v25 none [B_,B!]
def O6:=q 529 [v6,24] 0 [zO,OY]
def O7:=q 574 [v6,16] 6 []
def C?:=q 574 [v6,8] 4 []
def C!:=q 573 [v6,24] 10 [O0,O7,C?]
def O8:=q 530 [v6,24] 10 [C!,O7]
def O9:=q 486 [v6,24] (U [10,0]) [O6,O8]
def v26:A:=U [L 2 1 [0,1099511627776],0]
def D_:=q 487 [v1,.bN,0,24] v26 [Du,OS]
def D?:=q 487 [v1,.bN,1,24] v26 [Du,OV]
def D!:=q 487 [v1,.bN,2,24] v26 [Du,OW]
def E_:A:=L 1 2 [L 2 1 [10,60],L 2 1 [50,100]]
def v28:A:=L 1 3 [L 2 1 [0,1099511627776],L 2 1 [0,1099511627776],L 2 1 [0,1099511627776]]
def vd:A:=.ip 14 (bT [L 1 3 [100,100,100],v0,.bN,.bN,0,2,24,0,199,0,ff,E_,v28,L 1 2 [10,10]])
def E?:=qo 427 [v11,v23] (U [vd,tt]) none [OX,Dv,A_,O5,C_,O9,D_,D?,D!]
def v30:A:=L 4 1 [0,0,1099511627776,0]
def E!:=q 488 [v30,.fn 489 []] (G [0,0,1099511627776,0]) []
def F_:=q 432 [G [0,0,1099511627776,0],G [0,0,1099511627776,0]] tt []
def v31:A:=.ip 4 (bT [0,0,1099511627776,0])
def F?:=q 533 [v30,.fn 491 [v31]] 0 [F_]
def F!:=qo 496 [vd,1] (L 2 1 [0,1099511627776]) none []
def v32:A:=U [G [0,10,20,25],tt]
def G_:=q 497 [vd,0,0] v32 []
def G?:=q 498 [vd,G [0,10,20,25]] 20 []
def G!:=q 432 [G [1,0,1099511627776,25],G [0,0,1099511627776,0]] ff []
def v33:A:=.ip 8 (bT [1,0,1099511627776,25,0,10,20,25])
def H_:=q 533 [v30,.fn 493 [v33]] m1 [G!]
def H?:=q 492 [v30,.fn 493 [v33]] ff [H_]
def Pb:A:=L 4 1 [1,0,1099511627776,25]
def H!:=q 488 [Pb,.fn 489 []] (G [1,0,1099511627776,25]) []
def Pc:=q 432 [G [1,0,1099511627776,25],G [1,0,1099511627776,25]] tt []
def v35:A:=.ip 4 (bT [1,0,1099511627776,25])
def I_:=q 533 [Pb,.fn 491 [v35]] 0 [Pc]
def I?:=q 496 [vd,2] (L 2 1 [0,1099511627776]) []
def I!:A:=U [G [1,50,60,65],tt]
def J_:=q 497 [vd,1,25] I! []
def J?:=q 498 [vd,G [1,50,60,65]] 60 []
def J!:=q 151 [.int .u64 2] 2 []
def Hu:=q 95 [.int .u64 2] 2 [J!]
def xu:=q 141 [25] ff []
def tU:=q 141 [0] ff []
def K_:=q 92 [25,0] 1 [xu,tU]
def Dw:=q 141 [1] ff []
def q7:=q 92 [1,0] 1 [Dw,tU]
def zU:=q 92 [0,0] 0 [tU]
def Hv:=q 91 [L 1 3 [1,1,0]] 1 []
def K?:=q 489 [G [1,0,1099511627776,25],G [0,0,1099511627776,0]] 1 [K_,q7,zU,Hv]
def v37:A:=L 4 2 [0,0,1099511627776,0,1,0,1099511627776,25]
def K!:=q 534 [v37,0,2,2,.fn 489 []] (U []) [K?]
def L_:=q 432 [G [1,0,1099511627776,25],G [2,0,1099511627776,65]] ff []
def L?:=q 432 [G [2,0,1099511627776,65],G [2,0,1099511627776,65]] tt []
def qb:A:=L 4 2 [0,10,20,25,1,50,60,65]
def L!:=q 365 [v11,v23] (U [qb,0]) [E?,E!,F?,F!,G_,G?,H?,H!,I_,I?,J_,J?,Hu,K!,L_,L?,Pc]
def M_:=qo 303 [v11] v11 none []
def v39:A:=.ip 11 (bT [1,0,2,24,0,199,0,ff,qb,1,0])
def M?:=q 350 [.bN,.fn 359 [v39]] m1 []
end Go.Proofs.YtjhmdfofhnijeaaGreatDoor
