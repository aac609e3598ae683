import Derived.Test.YtjhmdfofhnijeaaGreatDoorQ2
import Derived.Test.YtjhmdfofhnijeaaGreatDoorV1
import Derived.Shelf.SlSortCmp.NoneTotal
import Derived.Shelf.SlGeneric
open Array renaming getElem?_eq_getElem->aa, getElem?_toList->ab, extract_size->ae
open Go renaming Value->af, Program->ai, World->aj, TypeId->ak, FuncId->al
open Go.Proofs.SlLaysF0 renaming n6->aq, n6->ar
open Go.Proofs.Tryz renaming underlying427->au, underlying426->av, underlying358->ay, underlying354->az, underlying282->aA, underlying280->aB, underlying277->aC, underlying273->aD, underlying272->aF, underlying232->aG, zeroValue427->aH, zeroValue426->aI, zeroValue358->aJ, zeroValue354->aK, zeroValue282->aL, zeroValue280->aM, zeroValue277->aN, zeroValue273->aO, zeroValue272->aP, zeroValue232->aQ, underlying9->aR, underlying5->aS, underlying4->aT, underlying3->aU, underlying0->aV, zeroValue9->aW, zeroValue5->aX, zeroValue4->aY, zeroValue3->aZ, zeroValue0->a6, sizeOf427->a7, sizeOf426->a8, sizeOf358->ba, sizeOf354->bc, sizeOf282->bd, sizeOf280->bg, sizeOf277->bh, sizeOf273->bj, sizeOf272->bk, sizeOf232->bl, isAgg427->bn, isAgg426->bp, isAgg358->bq, isAgg354->br, isAgg282->bu, isAgg280->bw, isAgg277->bx, isAgg273->bz, isAgg272->bA, isAgg232->bB, sizeOf9->bD, sizeOf5->bE, sizeOf4->bF, sizeOf3->bG, sizeOf0->bH, func205->bI, func204->bJ, func151->bK, func150->bL, isAgg9->bM, isAgg5->AI, isAgg4->AS, isAgg3->AT, isAgg0->By, func95->BY, prog->IN
open List renaming getElem?_eq_getElem->IS, getElem?_eq_none->IT
open Nat renaming mul_le_mul_right->No, mul_comm->OF, div_lt_of_lt_mul->abi, add_le_add_left->acK, div_add_mod'->adv, mod_lt->anc
set_option linter.all false
namespace Go.Proofs
open Go.Shelf
def Tryz.aiP:Go.Shelf.Ren:=⟨λ|6=>89|15=>95|14=>140|28=>150|29=>151|20=>195|21=>196|22=>197|23=>198|24=>199|25=>200|26=>201|27=>202|46=>268|47=>204|48=>205|49=>269|50=>270|57=>323|n=>n,λ|22=>223|24=>215|25=>227|3=>3|39=>232|0=>0|53=>280|55=>282|4=>4|46=>273|45=>272|50=>277|5=>5|9=>9|66=>354|70=>358|76=>426|77=>427|n=>n,λ|n=>n⟩
theorem Tryz.aiQ:aq IN Tryz.aiP:={
 mixed:=by kernel_rfl
 f6:=⟨Tryz.f89.name,by decide,dO Tryz.func89⟩
 f14:=⟨Tryz.f140.name,by decide,dO Tryz.func140⟩
 f15:=dO BY
 f20:=⟨Tryz.f195.name,by decide,dO Tryz.func195⟩
 f21:=⟨Tryz.f196.name,by decide,dO Tryz.func196⟩
 f22:=⟨Tryz.f197.name,by decide,dO Tryz.func197⟩
 f23:=⟨Tryz.f198.name,by decide,dO Tryz.func198⟩
 f24:=⟨Tryz.f199.name,by decide,dO Tryz.func199⟩
 f25:=⟨Tryz.f200.name,by decide,dO Tryz.func200⟩
 f26:=⟨Tryz.f201.name,by decide,dO Tryz.func201⟩
 f27:=⟨Tryz.f202.name,by decide,dO Tryz.func202⟩
 f28:=dO bL
 f29:=dO bK
 f46:=⟨Tryz.f268.name,by decide,dO Tryz.func268⟩
 f47:=dO bJ
 f48:=dO bI
 f49:=⟨Tryz.f269.name,by decide,dO Tryz.func269⟩
 f50:=⟨Tryz.f270.name,by decide,dO Tryz.func270⟩
 f57:=⟨Tryz.f323.name,by decide,dO Tryz.func323⟩
 t0:=aV
 a0:=By
 z0:=bH
 v0:=a6
 t3:=aU
 a3:=AT
 z3:=bG
 v3:=aZ
 t4:=aT
 a4:=AS
 z4:=bF
 v4:=aY
 t5:=aS
 a5:=AI
 z5:=bE
 v5:=aX
 t9:=aR
 a9:=bM
 z9:=bD
 v9:=aW
 t22:=Tryz.underlying223
 a22:=Tryz.isAgg223
 z22:=Tryz.sizeOf223
 v22:=Tryz.zeroValue223
 t25:=Tryz.underlying227
 a25:=Tryz.isAgg227
 z25:=Tryz.sizeOf227
 v25:=Tryz.zeroValue227
 t39:=aG
 a39:=bB
 z39:=bl
 v39:=aQ
 t45:=aF
 a45:=bA
 z45:=bk
 v45:=aP
 t46:=aD
 a46:=bz
 z46:=bj
 v46:=aO
 t50:=aC
 a50:=bx
 z50:=bh
 v50:=aN
 t53:=aB
 a53:=bw
 z53:=bg
 v53:=aM
 t55:=aA
 a55:=bu
 z55:=bd
 v55:=aL
 t66:=az
 a66:=br
 z66:=bc
 v66:=aK
 t70:=ay
 a70:=bq
 z70:=ba
 v70:=aJ
 t76:=av
 a76:=bp
 z76:=a8
 v76:=aI
 t77:=au
 a77:=bn
 z77:=a7
 v77:=aH }
def Tryz.aiR:Go.Shelf.Ren:=⟨λ|6=>44|15=>95|14=>94|28=>150|29=>151|20=>142|21=>143|22=>144|23=>145|24=>146|25=>147|26=>148|27=>149|46=>203|47=>204|48=>205|49=>206|50=>207|57=>271|n=>n,λ|22=>26|24=>126|25=>132|3=>3|39=>232|0=>0|53=>280|55=>282|4=>4|46=>273|45=>272|50=>277|5=>5|9=>9|66=>354|70=>358|76=>426|77=>427|n=>n,λ|n=>n⟩
theorem Tryz.aiS:aq IN Tryz.aiR:={
 mixed:=by kernel_rfl
 f6:=⟨Tryz.f44.name,by decide,dO Tryz.func44⟩
 f14:=⟨Tryz.f94.name,by decide,dO Tryz.func94⟩
 f15:=dO BY
 f20:=⟨Tryz.f142.name,by decide,dO Tryz.func142⟩
 f21:=⟨Tryz.f143.name,by decide,dO Tryz.func143⟩
 f22:=⟨Tryz.f144.name,by decide,dO Tryz.func144⟩
 f23:=⟨Tryz.f145.name,by decide,dO Tryz.func145⟩
 f24:=⟨Tryz.f146.name,by decide,dO Tryz.func146⟩
 f25:=⟨Tryz.f147.name,by decide,dO Tryz.func147⟩
 f26:=⟨Tryz.f148.name,by decide,dO Tryz.func148⟩
 f27:=⟨Tryz.f149.name,by decide,dO Tryz.func149⟩
 f28:=dO bL
 f29:=dO bK
 f46:=⟨Tryz.f203.name,by decide,dO Tryz.func203⟩
 f47:=dO bJ
 f48:=dO bI
 f49:=⟨Tryz.f206.name,by decide,dO Tryz.func206⟩
 f50:=⟨Tryz.f207.name,by decide,dO Tryz.func207⟩
 f57:=⟨Tryz.f271.name,by decide,dO Tryz.func271⟩
 t0:=aV
 a0:=By
 z0:=bH
 v0:=a6
 t3:=aU
 a3:=AT
 z3:=bG
 v3:=aZ
 t4:=aT
 a4:=AS
 z4:=bF
 v4:=aY
 t5:=aS
 a5:=AI
 z5:=bE
 v5:=aX
 t9:=aR
 a9:=bM
 z9:=bD
 v9:=aW
 t22:=Tryz.underlying26
 a22:=Tryz.isAgg26
 z22:=Tryz.sizeOf26
 v22:=Tryz.zeroValue26
 t25:=Tryz.underlying132
 a25:=Tryz.isAgg132
 z25:=Tryz.sizeOf132
 v25:=Tryz.zeroValue132
 t39:=aG
 a39:=bB
 z39:=bl
 v39:=aQ
 t45:=aF
 a45:=bA
 z45:=bk
 v45:=aP
 t46:=aD
 a46:=bz
 z46:=bj
 v46:=aO
 t50:=aC
 a50:=bx
 z50:=bh
 v50:=aN
 t53:=aB
 a53:=bw
 z53:=bg
 v53:=aM
 t55:=aA
 a55:=bu
 z55:=bd
 v55:=aL
 t66:=az
 a66:=br
 z66:=bc
 v66:=aK
 t70:=ay
 a70:=bq
 z70:=ba
 v70:=aJ
 t76:=av
 a76:=bp
 z76:=a8
 v76:=aI
 t77:=au
 a77:=bn
 z77:=a7
 v77:=aH }
def Tryz.aiT:Go.Shelf.Ren:=⟨λ|6=>46|15=>95|14=>96|28=>150|29=>151|20=>152|21=>153|22=>154|23=>155|24=>156|25=>157|26=>158|27=>159|46=>208|47=>204|48=>205|49=>209|50=>210|57=>272|n=>n,λ|22=>27|24=>130|25=>134|3=>3|39=>232|0=>0|53=>280|55=>282|4=>4|46=>273|45=>272|50=>277|5=>5|9=>9|66=>354|70=>358|76=>426|77=>427|n=>n,λ|n=>n⟩
theorem Tryz.aiU:aq IN Tryz.aiT:={
 mixed:=by kernel_rfl
 f6:=⟨Tryz.f46.name,by decide,dO Tryz.func46⟩
 f14:=⟨Tryz.f96.name,by decide,dO Tryz.func96⟩
 f15:=dO BY
 f20:=⟨Tryz.f152.name,by decide,dO Tryz.func152⟩
 f21:=⟨Tryz.f153.name,by decide,dO Tryz.func153⟩
 f22:=⟨Tryz.f154.name,by decide,dO Tryz.func154⟩
 f23:=⟨Tryz.f155.name,by decide,dO Tryz.func155⟩
 f24:=⟨Tryz.f156.name,by decide,dO Tryz.func156⟩
 f25:=⟨Tryz.f157.name,by decide,dO Tryz.func157⟩
 f26:=⟨Tryz.f158.name,by decide,dO Tryz.func158⟩
 f27:=⟨Tryz.f159.name,by decide,dO Tryz.func159⟩
 f28:=dO bL
 f29:=dO bK
 f46:=⟨Tryz.f208.name,by decide,dO Tryz.func208⟩
 f47:=dO bJ
 f48:=dO bI
 f49:=⟨Tryz.f209.name,by decide,dO Tryz.func209⟩
 f50:=⟨Tryz.f210.name,by decide,dO Tryz.func210⟩
 f57:=⟨Tryz.f272.name,by decide,dO Tryz.func272⟩
 t0:=aV
 a0:=By
 z0:=bH
 v0:=a6
 t3:=aU
 a3:=AT
 z3:=bG
 v3:=aZ
 t4:=aT
 a4:=AS
 z4:=bF
 v4:=aY
 t5:=aS
 a5:=AI
 z5:=bE
 v5:=aX
 t9:=aR
 a9:=bM
 z9:=bD
 v9:=aW
 t22:=Tryz.underlying27
 a22:=Tryz.isAgg27
 z22:=Tryz.sizeOf27
 v22:=Tryz.zeroValue27
 t25:=Tryz.underlying134
 a25:=Tryz.isAgg134
 z25:=Tryz.sizeOf134
 v25:=Tryz.zeroValue134
 t39:=aG
 a39:=bB
 z39:=bl
 v39:=aQ
 t45:=aF
 a45:=bA
 z45:=bk
 v45:=aP
 t46:=aD
 a46:=bz
 z46:=bj
 v46:=aO
 t50:=aC
 a50:=bx
 z50:=bh
 v50:=aN
 t53:=aB
 a53:=bw
 z53:=bg
 v53:=aM
 t55:=aA
 a55:=bu
 z55:=bd
 v55:=aL
 t66:=az
 a66:=br
 z66:=bc
 v66:=aK
 t70:=ay
 a70:=bq
 z70:=ba
 v70:=aJ
 t76:=av
 a76:=bp
 z76:=a8
 v76:=aI
 t77:=au
 a77:=bn
 z77:=a7
 v77:=aH }
end Go.Proofs
namespace Go.Sy
open Go.RowKit Go.Sort Go.Shelf Go.Proofs Go.Mb
variable [fI]
structure sy{α:Type}(enc:α->List af)(k:Nat)(cells:α->List A):Prop where
 pos:0<k
 len:∀ x,(enc x).length=k
 one:∀ x,∀ v∈enc x,v.oneCell'=true
 cell:∀ x j,j<k-> ∀w O u,R w O (bT (cells x) j) b7 u↔(enc x)[j]? =some u
section
variable {α:Type} [Inhabited α] {enc:α->List af} {k:Nat} {cells:α->List A}
theorem I9(H:sy enc k cells)(zs:List α){i j:Nat}(hi:i<zs.length)(hj:j<k):(flatK enc k zs.toArray).toList[i*k+j]? =(enc (zs.getD i default))[j]?:=by
 have hlt:i*k+j<zs.length*k:=by
  have:=No k (show i+1<=zs.length from hi);rw[Nat.succ_mul]at this;omega
 have h1:(i*k+j)/k=i:=by
  rw[OF,Nat.mul_add_div H.pos,Nat.div_eq_of_lt hj];rfl
 have h2:(i*k+j)%k=j:=by
  rw[OF,Nat.mul_add_mod,Nat.mod_eq_of_lt hj]
 have h3:=get_flatK enc k zs.toArray (i*k+j) (by simpa using hlt);have hs:i*k+j<(flatK enc k zs.toArray).size:=by rw[size_flatK];simpa using hlt
 rw[getElem!_pos (flatK enc k zs.toArray) (i*k+j) hs,h1,h2]at h3;rw[ab,aa hs,h3];have e1:(zs.toArray)[i]! =zs.getD i default:=by simp[List.getD,hi,getElem!_pos]
 rw[e1];have hj':j<(enc (zs.getD i default)).length:=by rw[H.len];exact hj
 rw[IS hj',getElem!_pos (enc (zs.getD i default)) j hj']
theorem aiV{w:aj}{O:Nat->Prop}{e:ak}{zs:List α}{l:Loc}(H:sy enc k cells)(h:fR w O b7 (.row e k zs.length (cO cells zs)) l):∃ v,l= .row v/\jP w e k v zs.length (flatK enc k zs.toArray).toList:=by
 obtain⟨v,xs,h1,h2,h3,h4⟩:=h;refine⟨v,h1,?_⟩;have hx:xs=(flatK enc k zs.toArray).toList:=by
  apply List.ext_getElem?;intro t;have hl:=h2.1;rcases Nat.lt_or_ge t (zs.length*k)with ht|ht
  .have hq:t/k<zs.length:=abi (by rw[OF];exact ht);have hr:t%k<k:=anc _ H.pos;have he:t/k*k+t%k=t:=adv t k;obtain⟨u,h5,h6⟩:=h4 (t/k) hq (t%k) hr;rw[he]at h5;have h7:=I9 H zs hq hr;rw[he]at h7;rw[h5,h7];exact((H.cell _ _ hr _ _ _).1 h6).symm
  rw[IT (by omega),IT (by simp;omega)]
 rw[<-hx];exact h2
theorem aiW(H:sy enc k cells)(zs:List α):∀ u∈(flatK enc k zs.toArray).toList,u.oneCell'=true:=by
 intro u hu;obtain⟨t,ht,rfl⟩:=List.getElem_of_mem hu;have ht':t<zs.length*k:=by simpa using ht
 have hq:t/k<zs.length:=abi (by rw[OF];exact ht');have hr:t%k<k:=anc _ H.pos;have he:t/k*k+t%k=t:=adv t k;have h7:=I9 H zs hq hr;rw[he,IS ht]at h7;exact H.one _ _ (List.mem_of_getElem? h7.symm)
theorem SB{w:aj}{O:Nat->Prop}{e:ak}{zs:List α}{v:af}(H:sy enc k cells)(h:jP w e k v zs.length (flatK enc k zs.toArray).toList):fR w O b7 (.row e k zs.length (cO cells zs)) (.row v):=by
 refine⟨v,_,rfl,h,aiW H zs,λi hi j hj=>?_⟩;have hj':j<(enc (zs.getD i default)).length:=by rw[H.len];exact hj
 refine⟨(enc (zs.getD i default))[j],?_,?_⟩
 .rw[I9 H zs hi hj,IS hj']
 exact(H.cell _ _ hj _ _ _).2 (IS hj')
def SC(P:ai)(g:al)(enc:α->List af)(cf:α->α->Int):Prop:=
 ∀x y W,Calls P g #[.agg (enc x).toArray,.agg (enc y).toArray] W λe w'=>e= .returned (.int .i64 (cf x y))/\ ∃q os',w'=grow (W.drewN q) os'
theorem Ja{P:ai}{ρ:Ren}(L:ar P ρ)(hent:jw P (ρ.f 6)=true)(H:sy enc k cells)(aE:∀ w,(isAgg (ρ.t 24)).run P w= .ok true w)(zE:∀ w,(Go.sizeOf (ρ.t 24)).run P w= .ok k w)(cf:α->α->Int)(hO:SWO (ltOf cf))(g:al)
  (eg:∀ args w,(callFunc g args).run P w= .ok (.enter g args) w) (hcmp:SC P g enc cf) (zs:List α) (e:ak) (hsz:zs.length<4611686018427387904):
  mq P (ρ.f 6) [.own 0,.fn g []] (.row e k zs.length (cO cells zs)) (λob r=>(∃zs':List α,zs'.Perm zs/\zs'.Pairwise (λa b=>ltOf cf b a=false)/\ob= .row e k zs.length (cO cells zs'))/\r= .cG []):=by
 refine⟨hent,λw l vs hb cy hr=>?_⟩;obtain⟨v,rfl,hx,hh⟩:=aiV H cy;simp only[RL,R,dM]at hr;obtain⟨v',_,rfl,⟨rfl,_⟩,v2,_,rfl,⟨SD,rfl,rfl⟩,rfl⟩:=hr;rcases hh with ⟨hn,a,rfl⟩|⟨b,o,cap,cur,rfl,⟨fz,hg,hfz⟩,h1,h2,h3,h4⟩
 .have hz:zs=[]:=List.eq_nil_of_length_eq_zero hn;subst hz;refine(AnyF.slices_SortFunc_none L a 0 _ w).mono ?_;rintro e' w' ⟨rfl,rfl⟩;refine⟨_,_,_,rfl,⟨⟨[],List.Perm.refl _,List.Pairwise.nil,rfl⟩,rfl⟩,fP.refl _ _,λ_ _ _=>rfl,?_,rfl,?_⟩
  .exact SB (zs:=[]) H ⟨by simp,.inl ⟨rfl,a,rfl⟩⟩
  simp[R,RL]
 have Jb:b<w.heap.size:=hb b rfl;have x5:(flatK enc k zs.toArray).size=zs.length*k:=by simp
 have hH:HoldsK enc k w b o zs.toArray:=by
  intro j hj;rw[x5]at hj;have h6:o+zs.length*k<=cur.size:=by rw[h3];exact acK (No k h1) o
  refine⟨?_,SE hg (vL hfz) _ (by omega)⟩;have vM:w.heap[b]? =some (.cells (List.toArray cur.toList) e fz):=by simpa using hg
  rw[sC vM];have h5:cur.toList[o+j]? =((cur.toList.drop o).take (zs.length*k))[j]?:=by rw[List.getElem?_take_of_lt hj,List.getElem?_drop]
  rw[h5,h4,ab];rw[aa (by rw[x5];exact hj)];simp only[id,getElem!_pos (flatK enc k zs.toArray) j (show j<(flatK enc k zs.toArray).size by rw[x5];exact hj)]
 have hcl:CmpLays P g #[] enc k cf b o zs.toArray.size w:=λ_ _ _ _ x y=>hcmp x y _;have Jc:=AnyQ.slices_SortFunc L k aE zE enc H.len H.one cf hO g #[] b o (cap+1) zs.toArray w eg hcl hH Jb (by simpa using hsz);refine Jc.mono ?_;rintro e' w' ⟨rfl,d',m,os,hp,hs,rfl⟩;obtain⟨p1,_,p3⟩:=hp;have e1:d'.extract 0 zs.toArray.size=d':=by rw[<-p1];exact ae
 rw[e1,ae]at p3;have hl:d'.toList.length=zs.length:=by simpa using p1
 have fm:d'.toList.toArray=d':=by simp
 refine⟨_,_,_,rfl,⟨⟨d'.toList,by simpa using p3,?_,rfl⟩,rfl⟩,SF,λc hb' hne=>SG hb' (λe=>hne (by rw[e];rfl)),?_,rfl,?_⟩
 .rw[List.pairwise_iff_getElem];intro i j hi hj hij;have hi':i<d'.size:=by simpa using hi
  have hj':j<d'.size:=by simpa using hj
  have:=hs i j (Nat.zero_le _) hij (by omega);rw[getElem!_pos d' j hj',getElem!_pos d' i hi']at this;simpa using this
 .have En:(flatK enc k d').size=zs.length*k:=by simp[p1]
  have:=SB (w:=sortWorldK enc k w b o m d' os) (O:=λ_=>True) (e:=e) (zs:=d'.toList) (v:=.slice (some ⟨b,o,none⟩) zs.length (cap+1)) H ⟨by simp,.inr ⟨b,o,cap,putCells id o (flatK enc k d') cur,by rw[hl],⟨fz,SH hg,by simpa[putCells]using hfz⟩,by omega,h2,by simp[putCells];omega,?_⟩⟩
  .rw[hl]at this;exact this
  have h6:=SI (enc:=(id:af->af)) (d:=flatK enc k d') (c:=cur) (n:=zs.length*k) (o:=o) En (by rw[h3];exact acK (No k h1) o);rw[hl,h6,fm];simp
 simp[R,RL]
theorem SJ{w:aj}{O:Nat->Prop}:∀ {l:List A} {vs:List af},l.length=vs.length->(∀j,j<l.length-> ∀u,vs[j]? =some u->R w O (bT l j) b7 u)->RL w O l b7 vs
 |[],[],_,_=>by simp[RL]
 |a::l,v::vs,hl,h=>by
  refine⟨v,vs,rfl,h 0 (by simp) v rfl,SJ (by simpa using hl) λj hj u hu=>?_⟩;have:=h (j+1) (by simpa using hj) u (by simpa using hu);simpa[bT]using this
theorem aiX{w w':aj}(h:@fP x6 w.heap.size w w'):∃ q os,w'=grow (w.drewN q) os:=by
 refine⟨w'.drawn-w.drawn,w'.heap.extract w.heap.size w'.heap.size,?_⟩;obtain⟨h1,h2,h3,h4,h5,h6⟩:=h;have h6:w.drawn<=w'.drawn:=h6;cases w with
 |mk hp tp dr os op=>
  cases w' with
  |mk hp' tp' SK os' op'=>
   simp only at h1 h2 h3 h4 h5 h6;subst h1;subst h2;subst h3;have e1:dr+(SK-dr)=SK:=by omega
   have e2:hp'=hp++hp'.extract hp.size hp'.size:=by
    apply Array.ext_getElem?;intro i;by_cases hi:i<hp.size
    .rw[h5 i hi,Array.getElem?_append_left hi]
    rw[Array.getElem?_append_right (by omega),Array.getElem?_extract];by_cases hj:i<hp'.size
    .rw[bS (by omega)];congr 1;omega
    rw[bQ (by omega),Array.getElem?_eq_none (by omega)]
   simp only[grow,World.drewN,e1];rw[<-e2]
theorem Jd{P:ai}(H:sy enc k cells)(hc:∀ x,(cells x).length=k){g:al}{cf:α->α->Int}(h:∀ x y,@cJ x6 P g [.agg (cells x),.agg (cells y)] (.int .i64 (cf x y),none)):SC P g enc cf:=by
 letI:fI:=x6
 intro x y W;have hag:∀ z,R W (λ_=>False) (.agg (cells z)) b7 (.agg (enc z).toArray):=λz=>⟨enc z,rfl,SJ (by rw[hc,H.len]) λj hj u hu=>(H.cell z j (by rw[<-hc z];exact hj) _ _ _).2 hu⟩;have hr:=(h x y).run W (λ_=>False) [.agg (enc x).toArray,.agg (enc y).toArray] (λb hb=>hb.elim) ⟨_,_,rfl,hag x,_,_,rfl,hag y,rfl⟩;refine hr.mono ?_;rintro e w' ⟨v,l,rfl,hb,hv,_,_⟩;simp only[R]at hv;subst hv;exact⟨rfl,aiX hb⟩
end
end Go.Sy
