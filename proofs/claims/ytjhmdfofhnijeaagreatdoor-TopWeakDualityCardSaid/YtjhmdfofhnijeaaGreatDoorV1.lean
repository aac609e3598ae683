import Derived.Test.YtjhmdfofhnijeaaGreatDoorR1
import Derived.Test.YtjhmdfofhnijeaaGreatDoorU1
set_option linter.unusedSimpArgs false
set_option linter.unusedSectionVars false
set_option linter.unusedVariables false
namespace Go.Mb
open Go.Sy
set_option maxRecDepth 100000
def intA:A -> Int
 | .int _ n=>n
 | _=>0
theorem int_of {a:A} {k:IntKind} (h:ShA (.int k) a):a = .int k (intA a):=by obtain ⟨n,rfl,_⟩:=h;rfl
theorem LeL_get:∀ {l m:List A},l.length = m.length -> (∀ j,j < l.length -> LeA (getA l j) (getA m j)) -> LeL l m
 | [],[],_,_=>LeL.nil
 | [],b :: m,h,_=>by simp at h
 | a :: l,[],h,_=>by simp at h
 | a :: l,b :: m,h,hj=>LeL.cons (hj 0 (by simp)) (LeL_get (by simpa using h) fun j hlt=>hj (j + 1) (by simpa using hlt))
theorem ints_of {n:Nat} {el:Nat -> Nat -> A} (h:∀ i,i < n -> ShAs [.int .i64] (el i) 0):∃ l:List Int,l.length = n /\ LeA (.sl 1 n el) (slN l):=by
 refine ⟨(List.range n).map fun i=>intA (el i 0),by simp,LeA.sl (by simp) fun i hi j hj=>?_⟩
 obtain rfl:j = 0:=by omega
 obtain ⟨h0,_⟩:=h i hi
 rw [int_of h0]
 simp [rowL,nC,getA,hi]
def shCtc:List Sh:=[.int .i64,.int .i64,.int .i64,.int .i64,.int .i64,.int .i64,.int .i64]
def ofCtc (f:Nat -> A):Ctc:=⟨intA (f 0),intA (f 1),intA (f 2),intA (f 3),intA (f 4),intA (f 5),intA (f 6)⟩
theorem cellsCtc {f:Nat -> A} (h:ShAs shCtc f 0):∀ j,j < 7 -> f j = getA (ofCtc f).cells j:=by
 obtain ⟨h0,h1,h2,h3,h4,h5,h6,_⟩:=h
 intro j hj
 match j,hj with
 | 0,_=>exact int_of h0
 | 1,_=>exact int_of h1
 | 2,_=>exact int_of h2
 | 3,_=>exact int_of h3
 | 4,_=>exact int_of h4
 | 5,_=>exact int_of h5
 | 6,_=>exact int_of h6
theorem listCtc {n:Nat} {el:Nat -> Nat -> A} (h:∀ i,i < n -> ShAs shCtc (el i) 0):∃ l:List Ctc,l.length = n /\ LeA (.sl 7 n el) (slCtc l):=by
 refine ⟨(List.range n).map fun i=>ofCtc (el i),by simp,LeA.sl (by simp) fun i hi j hj=>?_⟩
 rw [cellsCtc (h i hi) j hj]
 simp [rowL,hi]
def shBkg:List Sh:=[.int .i64,.int .i64,.int .i64,.int .i64]
def ofBkg (f:Nat -> A):Bkg:=⟨intA (f 0),intA (f 1),intA (f 2),intA (f 3)⟩
theorem cellsBkg {f:Nat -> A} (h:ShAs shBkg f 0):∀ j,j < 4 -> f j = getA (ofBkg f).cells j:=by
 obtain ⟨h0,h1,h2,h3,_⟩:=h
 intro j hj
 match j,hj with
 | 0,_=>exact int_of h0
 | 1,_=>exact int_of h1
 | 2,_=>exact int_of h2
 | 3,_=>exact int_of h3
theorem listBkg {n:Nat} {el:Nat -> Nat -> A} (h:∀ i,i < n -> ShAs shBkg (el i) 0):∃ l:List Bkg,l.length = n /\ LeA (.sl 4 n el) (slBkg l):=by
 refine ⟨(List.range n).map fun i=>ofBkg (el i),by simp,LeA.sl (by simp) fun i hi j hj=>?_⟩
 rw [cellsBkg (h i hi) j hj]
 simp [rowL,hi]
def shHld:List Sh:=[.int .i64,.int .i64,.int .i64,.int .i64,.int .i64]
def ofHld (f:Nat -> A):Hld:=⟨intA (f 0),intA (f 1),intA (f 2),intA (f 3),intA (f 4)⟩
theorem cellsHld {f:Nat -> A} (h:ShAs shHld f 0):∀ j,j < 5 -> f j = getA (ofHld f).cells j:=by
 obtain ⟨h0,h1,h2,h3,h4,_⟩:=h
 intro j hj
 match j,hj with
 | 0,_=>exact int_of h0
 | 1,_=>exact int_of h1
 | 2,_=>exact int_of h2
 | 3,_=>exact int_of h3
 | 4,_=>exact int_of h4
theorem listHld {n:Nat} {el:Nat -> Nat -> A} (h:∀ i,i < n -> ShAs shHld (el i) 0):∃ l:List Hld,l.length = n /\ LeA (.sl 5 n el) (slHld l):=by
 refine ⟨(List.range n).map fun i=>ofHld (el i),by simp,LeA.sl (by simp) fun i hi j hj=>?_⟩
 rw [cellsHld (h i hi) j hj]
 simp [rowL,hi]
def shTbl:List Sh:=[.sl 1 [.int .i64],.sl 7 shCtc,.sl 4 shBkg,.sl 5 shHld]
def shDem:List Sh:=[.int .i64,.int .i64,.int .i64,.int .i64,.int .i64]
def ofDem (f:Nat -> A):Dem:=⟨intA (f 0),intA (f 1),intA (f 2),intA (f 3),intA (f 4)⟩
theorem cellsDem {f:Nat -> A} (h:ShAs shDem f 0):∀ j,j < 5 -> f j = getA (ofDem f).cells j:=by
 obtain ⟨h0,h1,h2,h3,h4,_⟩:=h
 intro j hj
 match j,hj with
 | 0,_=>exact int_of h0
 | 1,_=>exact int_of h1
 | 2,_=>exact int_of h2
 | 3,_=>exact int_of h3
 | 4,_=>exact int_of h4
def shShp:List Sh:=[.int .i64,.int .i64,.int .i64]
def ofShp (f:Nat -> A):Shp:=⟨intA (f 0),intA (f 1),intA (f 2)⟩
theorem cellsShp {f:Nat -> A} (h:ShAs shShp f 0):∀ j,j < 3 -> f j = getA (ofShp f).cells j:=by
 obtain ⟨h0,h1,h2,_⟩:=h
 intro j hj
 match j,hj with
 | 0,_=>exact int_of h0
 | 1,_=>exact int_of h1
 | 2,_=>exact int_of h2
theorem listShp {n:Nat} {el:Nat -> Nat -> A} (h:∀ i,i < n -> ShAs shShp (el i) 0):∃ l:List Shp,l.length = n /\ LeA (.sl 3 n el) (slShp l):=by
 refine ⟨(List.range n).map fun i=>ofShp (el i),by simp,LeA.sl (by simp) fun i hi j hj=>?_⟩
 rw [cellsShp (h i hi) j hj]
 simp [rowL,hi]
end Go.Mb
namespace Go.Proofs.YtjhmdfofhnijeaaGreatDoor
open Go.Sy Go.Mb
set_option maxRecDepth 100000
section
variable {H:Type} {enc:TypeId × Value -> H} {W:World} {base:Nat} {spare:Nat -> Bool} {held:Bool} {v:Value} {dd:DataW H} {ps:List MemPlace} {r:Reach} {b0:Nat}
theorem argTbl (hok:Value.okWide Tryz.prog W r b0 29 v) (h:DataW.Trod enc Tryz.prog W base spare held 29 v dd ps):∃ x:Tbl,R W (fun _=>False) (.agg x.cells) virg v:=by
 obtain ⟨cs,hl,hr,hs⟩:=lift_arg (X:=fun _=>False) (fun _ h=>h) (show shOf Tryz.prog 6 29 = some shTbl by kernel_rfl) hok h
 have harg:argA Tryz.prog 29 cs = .agg cs:=by unfold argA;rw [show isAggT Tryz.prog 29 = some true by kernel_rfl]
 rw [harg] at hr
 obtain ⟨⟨n0,el0,e0,_,hel0⟩,⟨n1,el1,e1,_,hel1⟩,⟨n2,el2,e2,_,hel2⟩,⟨n3,el3,e3,_,hel3⟩,_⟩:=hs
 obtain ⟨l0,_,hle0⟩:=ints_of hel0
 obtain ⟨l1,_,hle1⟩:=listCtc hel1
 obtain ⟨l2,_,hle2⟩:=listBkg hel2
 obtain ⟨l3,_,hle3⟩:=listHld hel3
 refine ⟨⟨⟨l0,l1⟩,l2,l3⟩,LeA.agg (LeL_get (by rw [hl];rfl) fun j hj=>?_) _ _ _ _ hr⟩
 rw [hl] at hj
 match j,hj with
 | 0,_=>rw [show getA cs 0 = _ from e0];exact hle0
 | 1,_=>rw [show getA cs 1 = _ from e1];exact hle1
 | 2,_=>rw [show getA cs 2 = _ from e2];exact hle2
 | 3,_=>rw [show getA cs 3 = _ from e3];exact hle3
theorem argDem (hok:Value.okWide Tryz.prog W r b0 31 v) (h:DataW.Trod enc Tryz.prog W base spare held 31 v dd ps):∃ x:Dem,R W (fun _=>False) (.agg x.cells) virg v:=by
 obtain ⟨cs,hl,hr,hs⟩:=lift_arg (X:=fun _=>False) (fun _ h=>h) (show shOf Tryz.prog 6 31 = some shDem by kernel_rfl) hok h
 have harg:argA Tryz.prog 31 cs = .agg cs:=by unfold argA;rw [show isAggT Tryz.prog 31 = some true by kernel_rfl]
 rw [harg] at hr
 have hc:=cellsDem hs
 exact ⟨_,LeA.agg (LeL_get (by rw [hl];rfl) fun j hj=>LeA.of (hc j (by rw [hl] at hj;exact hj))) _ _ _ _ hr⟩
theorem argShps (hok:Value.okWide Tryz.prog W r b0 32 v) (h:DataW.Trod enc Tryz.prog W base spare held 32 v dd ps):∃ x:List Shp,R W (fun _=>False) (slShp x) virg v:=by
 obtain ⟨cs,hl,hr,hs⟩:=lift_arg (X:=fun _=>False) (fun _ h=>h) (show shOf Tryz.prog 6 32 = some [.sl 3 shShp] by kernel_rfl) hok h
 have harg:argA Tryz.prog 32 cs = getA cs 0:=by unfold argA;rw [show isAggT Tryz.prog 32 = some false by kernel_rfl]
 rw [harg] at hr
 obtain ⟨⟨n,el,e0,_,hel⟩,_⟩:=hs
 obtain ⟨l,_,hle⟩:=listShp hel
 rw [show getA cs 0 = _ from e0] at hr
 exact ⟨l,hle _ _ _ _ hr⟩
end
end Go.Proofs.YtjhmdfofhnijeaaGreatDoor
namespace Go.Proofs.YtjhmdfofhnijeaaGreatDoor
open Go.Sy Go.Mb
set_option maxRecDepth 100000
set_option maxHeartbeats 4000000
theorem skey_check (w:World) (em:Bool) (q:List Int) (hq:q.length = 2):(Instr.checkKey em 10000 91 (kvOf true q)).run Tryz.prog w = .ok () w:=by
 match q,hq with
 | [a,b],_=>
  rw [show (10000:Nat) = 9998 + 1 + 1 from rfl]
  unfold Instr.checkKey
  simp only [kvOf,Sem.run_bind,run_underlying Tryz.underlying91,Result.andThen_ok]
  have p0:=part_int Tryz.underlying3 w #[Value.int .i64 a,Value.int .i64 b] 0 _ rfl
  have p1:=part_int Tryz.underlying3 w #[Value.int .i64 a,Value.int .i64 b] 1 _ rfl
  simp [p0,p1,check_int Tryz.underlying3 w em 9998]
def eqTabS:List (TypeId × List Go.Sy.CK):=[(91,[.i .i64,.i .i64])]
theorem eqTabS_ok:EqTab Tryz.prog eqTabS:=by
 intro p hp
 simp only [eqTabS,List.mem_cons,List.not_mem_nil,or_false] at hp
 rcases hp with rfl
 exact ⟨by kernel_rfl,by kernel_rfl,by rw [Tryz.underlying91];trivial⟩
theorem mapSl:MapTab Tryz.prog [(86,true,2)]:=by
 intro p hp
 obtain rfl:=List.mem_singleton.1 hp
 exact ⟨91,4,by kernel_rfl,mapLaw_struct eqTabS_ok rfl ⟨_,Tryz.underlying91⟩ skey_check⟩
noncomputable def ESl:Env:={ P:=Tryz.prog,eqT:=lookE eqTabS,mps:=lookMp [(86,true,2)] }
theorem ESl_ok:EqOK ESl:=eqOK_mp eqTabS_ok mapSl
noncomputable def CSl:Cx:={ E:=ESl,inl:=[],ok:=ESl_ok }
def minUp (f:Nat -> Int):Nat -> Int
 | 0=>f 0
 | n + 1=>if f (n + 1) < minUp f n then f (n + 1) else minUp f n
theorem minUp_nn (f:Nat -> Int):∀ n,0 <= minUp f n ↔ ∀ i,i <= n -> 0 <= f i
 | 0=>⟨fun h i hi=>by rw [show i = 0 by omega];exact h,fun h=>h 0 (Nat.le_refl _)⟩
 | n + 1=>by
  have ih:=minUp_nn f n
  simp only [minUp]
  constructor
  ·intro h i hi
   by_cases e:i = n + 1
   ·subst e;split at h <;> omega
   ·exact (ih.1 (by split at h <;> omega)) i (by omega)
  ·intro h
   have h1:=ih.2 fun i hi=>h i (by omega)
   have h2:=h (n + 1) (Nat.le_refl _)
   split <;> omega
theorem slMin_ok (f:Nat -> Int) (n:Nat) (hn:n <= 1000000):FnOK Tryz.prog 25 [.sl 1 (n + 1) (fun b _=>.int .i64 (f b))] (.int .i64 (minUp f n),none):=by
 refine fn_ok CM rfl (by kernel_rfl) Tryz.func25 rfl ?_
 refine zG zE (NS.no (by show decide (((n + 1:Nat):Int) < 1) = false;exact decide_eq_false (by omega)) ?_)
 refine zG zE (NS.need (decide_eq_true (by show 0 <= (0:Int) /\ (0:Int) < ((n + 1:Nat):Int);omega)) ?_)
 refine zG zE ?_
 refine NS.loop (σ:={ k:Nat // k <= n }) (fun k=>[(0,.sl 1 (n + 1) (fun b _=>.int .i64 (f b))),(3,.int .i64 (minUp f k.1)),(4,.int .i64 ((k.1 + 1:Nat):Int))]) (fun _=>[]) (fun k=>n - k.1) ⟨0,Nat.zero_le _⟩ ?_ ?_
 ·exact weak_hd [] rfl ⟨rfl,rfl,rfl,trivial⟩ trivial trivial (by kernel_rfl)
 rintro ⟨k,hk⟩
 have hk:k <= n:=hk
 by_cases a:k < n
 ·refine zG zE (NS.yes (by show decide (((k + 1:Nat):Int) < ((n + 1:Nat):Int)) = true;exact decide_eq_true (by omega)) ?_)
  refine zG zE (NS.need (decide_eq_true (by show 0 <= ((k + 1:Nat):Int) /\ ((k + 1:Nat):Int) < ((n + 1:Nat):Int);omega)) ?_)
  refine zG zE (NS.next ⟨k + 1,a⟩ (by show n - (k + 1) < n - k;omega) ?_)
  exact weak_hd [] rfl ⟨rfl,ren_int rfl rfl,ren_int rfl (i64_k (k:=k + 1) (n:=n + 1) (by omega) (by omega)),trivial⟩ trivial trivial (by kernel_rfl)
 ·have a:n = k:=by omega
  subst a
  refine zG zE (NS.no (by show decide (((n + 1:Nat):Int) < ((n + 1:Nat):Int)) = false;exact decide_eq_false (Int.lt_irrefl _)) ?_)
  refine zG zE (NS.leave rfl zE ?_)
  exact zG zE (NS.ret rfl rfl (LeA.refl _))
theorem betw_ok (d:Dem) (node:Int):FnOK Tryz.prog 24 [.int .i64 node,.ip 5 (getA d.cells)] (.bool (node != d.src && node != d.dst),none):=by
 refine fn_ok CM rfl (by kernel_rfl) Tryz.func24 rfl ?_
 repeat' (first | (refine zG zE (NS.ite (fun h=>?_) (fun h=>?_))) | (refine zG zE (NS.chk (by kernel_rfl) ?_)) | (exact zG zE (NS.ret rfl rfl (LeA.of (congrArg A.bool (by simp only [*,Bool.true_and,Bool.false_and]))))))
def chkShs (t:Tbl) (d:Dem):List Shp -> List Shp -> Int
 | _,[]=>0
 | m,x :: l=>if chkShp t d x ≠ 0 then chkShp t d x else if m.any (fun y=>y.ct == x.ct && y.tm == x.tm) = true then 14 else chkShs t d (m ++ [x]) l
theorem chkShs_at {t:Tbl} {d:Dem} {l:List Shp} {k:Nat} (h:k < l.length):chkShs t d (l.take k) (l.drop k) = if chkShp t d (l.getD k default) ≠ 0 then chkShp t d (l.getD k default) else if (l.take k).any (fun y=>y.ct == (l.getD k default).ct && y.tm == (l.getD k default).tm) = true then 14 else chkShs t d (l.take (k + 1)) (l.drop (k + 1)):=by
 rw [drop_cons h,chkShs,take_snoc h]
theorem chkShs_ok {t:Tbl} {d:Dem}:∀ {l m:List Shp},chkShs t d m l = 0 -> (∀ x ∈ l,OkS t d x) /\ l.Pairwise nxtS /\ ∀ y ∈ m,∀ x ∈ l,nxtS y x
 | [],m,_=>⟨(fun x hx=>by cases hx),List.Pairwise.nil,fun y _ x hx=>by cases hx⟩
 | x :: l,m,h=>by
  unfold chkShs at h
  split at h
  ·rename_i h1;exact (h1 h).elim
  ·rename_i h1
   split at h
   ·cases h
   ·rename_i h2
    have h1:chkShp t d x = 0:=by omega
    have h2:∀ y ∈ m,nxtS y x:=by
     intro y hy e
     refine h2 (List.any_eq_true.2 ⟨y,hy,?_⟩)
     rw [Bool.and_eq_true,beq_iff_eq,beq_iff_eq];exact e
    obtain ⟨g1,g2,g3⟩:=chkShs_ok h
    refine ⟨fun y hy=>?_,List.pairwise_cons.2 ⟨fun y hy=>g3 x (by simp) y hy,g2⟩,fun y hy z hz=>?_⟩
    ·rcases List.mem_cons.1 hy with rfl | hy
     ·exact chkShp_ok.1 h1
     ·exact g1 y hy
    ·rcases List.mem_cons.1 hz with rfl | hz
     ·exact h2 y hy
     ·exact g3 y (List.mem_append_left _ hy) z hz
def betB (d:Dem) (node:Int):Bool:=node != d.src && node != d.dst
def okRow (t:Tbl) (d:Dem) (h:Nat) (l:List Shp) (a:Nat):Bool:=decide (0 <= minUp (fun b=>stM t d l a b) (h - 1)) && !(betB d a && stM t d l a ((h - 1:Nat):Int) != 0)
def okQuo (t:Tbl) (d:Dem) (l:List Shp) (a b:Nat):Bool:=!(betB d a && decide (stM t d l a b > quoM t a (d.ready + (b:Int))))
def flowR (t:Tbl) (d:Dem) (h:Nat) (l:List Shp):Int × Int:=
 if chkShs t d [] l ≠ 0 then (0,chkShs t d [] l)
 else if (List.range t.plan.qs.length).all (okRow t d h l) = false then (0,24)
 else if ((List.range t.plan.qs.length).all fun a=>(List.range (h - 1)).all (okQuo t d l a)) = false then (0,15)
 else (stM t d l d.dst ((h - 1:Nat):Int),0)
theorem flowR_le {t:Tbl} (ok:OkT t) {d:Dem} (hd:OkD t.plan.qs.length d) {h:Nat} (hH:d.dead = d.ready + h - 1 /\ 2 <= h /\ h <= 25) {l:List Shp} (hlen:l.length <= 60) (he:(flowR t d h l).2 = 0):(flowR t d h l).1 <= mostV t d h:=by
 unfold flowR at he ⊢
 split at he
 ·rename_i h1;exact (h1 he).elim
 ·rename_i h1
  rw [if_neg h1]
  split at he
  ·cases he
  ·rename_i h2
   rw [if_neg h2]
   split at he
   ·cases he
   ·rename_i h3
    rw [if_neg h3]
    obtain ⟨g1,g2,_⟩:=chkShs_ok (t:=t) (d:=d) (l:=l) (m:=[]) (Decidable.not_not.1 h1)
    have h2:=List.all_eq_true.1 (eq_true_of_ne_false h2)
    have h3:=List.all_eq_true.1 (eq_true_of_ne_false h3)
    have hb:∀ a:Nat,(a:Int) ≠ d.src -> (a:Int) ≠ d.dst -> betB d a = true:=fun a e1 e2=>by unfold betB;rw [Bool.and_eq_true,bne_iff_ne,bne_iff_ne];exact ⟨e1,e2⟩
    refine most_ge ok hd hH.2.1 hH.1 g1 g2 hlen (fun a b ha hb=>?_) (fun a ha e1 e2=>?_) (fun a b ha e1 e2 hbh=>?_)
    ·have h4:=h2 a (List.mem_range.2 ha)
     unfold okRow at h4
     rw [Bool.and_eq_true,decide_eq_true_eq,minUp_nn] at h4
     exact h4.1 b (by omega)
    ·have h4:=h2 a (List.mem_range.2 ha)
     unfold okRow at h4
     rw [hb a e1 e2] at h4
     simpa using (Bool.and_eq_true_iff.1 h4).2
    ·have h4:=List.all_eq_true.1 (h3 a (List.mem_range.2 ha)) b (List.mem_range.2 (by omega))
     unfold okQuo at h4
     rw [hb a e1 e2] at h4
     rw [roomM_quo e1 e2]
     simpa using h4
theorem slot_put {m:List Shp} {x:Shp} {q:List Int} (hq:q.length = 2):lookM (fun q=>m.any fun y=>y.ct == q.headD 0 && y.tm == q.getD 1 0) (fun _=>Go.Sy.A.kb true) [([x.ct,x.tm],some (.kb true))] q = lookM (fun q=>(m ++ [x]).any fun y=>y.ct == q.headD 0 && y.tm == q.getD 1 0) (fun _=>Go.Sy.A.kb true) [] q:=by
 match q,hq with
 | [a,b],_=>
  by_cases e:[a,b] = [x.ct,x.tm]
  ·have h1:eqKs [a,b] [x.ct,x.tm] = true:=eqKs_iff.2 e
   simp only [List.cons.injEq,and_true] at e
   have h2:((m ++ [x]).any fun y=>y.ct == ([a,b]:List Int).headD 0 && y.tm == ([a,b]:List Int).getD 1 0) = true:=by
    rw [List.any_append,Bool.or_eq_true]
    refine .inr ?_
    simp [e.1,e.2]
   simp only [lookM,h1,h2]
  ·have h1:eqKs [a,b] [x.ct,x.tm] = false:=eqKs_f e
   have h2:((m ++ [x]).any fun y=>y.ct == ([a,b]:List Int).headD 0 && y.tm == ([a,b]:List Int).getD 1 0) = m.any fun y=>y.ct == ([a,b]:List Int).headD 0 && y.tm == ([a,b]:List Int).getD 1 0:=by
    rw [List.any_append]
    have:([x].any fun y=>y.ct == ([a,b]:List Int).headD 0 && y.tm == ([a,b]:List Int).getD 1 0) = false:=by
     simp only [List.any_cons,List.any_nil,Bool.or_false]
     by_cases e1:x.ct = a
     ·have e2:x.tm ≠ b:=fun e2=>e (by rw [e1,e2])
      show (x.ct == a && x.tm == b) = false
      rw [show (x.tm == b) = false from beq_false_of_ne e2,Bool.and_false]
     ·show (x.ct == a && x.tm == b) = false
      rw [show (x.ct == a) = false from beq_false_of_ne e1,Bool.false_and]
    rw [this,Bool.or_false]
   simp only [lookM,h1,h2]
def usedB (m:List Shp) (q:List Int):Bool:=m.any fun y=>y.ct == q.headD 0 && y.tm == q.getD 1 0
theorem flow58_ok (t:Tbl) (d:Dem) (h:Nat) (l:List Shp) (ht:chkT t = 0) (hd:OkD t.plan.qs.length d) (hH:d.dead = d.ready + h - 1 /\ 2 <= h /\ h <= 25) (hlen:l.length <= 60):FnOK Tryz.prog 8 [.agg t.cells,.agg d.cells,slShp l] (.tup [.int .i64 (flowR t d h l).1,.int .i64 (flowR t d h l).2],none):=by
 have ok:=chkT_ok ht
 have hN:=ok.p.n2
 have hr0:=hd.ready
 have hrd:=hd.dead
 obtain ⟨R,hR⟩:∃ R,R = flowR t d h l:=⟨_,rfl⟩
 rw [<- hR]
 unfold flowR at hR
 have cc:=cCheck0_ok t d ht hd
 refine fn_ok CSl rfl (by kernel_rfl) Tryz.func8 rfl ?_
 refine zG zE (NS.call (cc) rfl ?_)
 refine zG zE (NS.no (rfl) ?_)
 refine zG zE ?_
 refine NS.loop (σ:={ k:Nat // k <= l.length /\ chkShs t d (l.take k) (l.drop k) = chkShs t d [] l }) (fun k=>[(2,slShp l),(3,.ptr 3 0),(4,.ptr 4 0),(9,.yld 29),(30,slShp l),(31,.int .i64 l.length),(32,.int .i64 (k.1:Nat))]) (fun k=>[(3,.box t.cells),(4,.box d.cells),(29,.mp 86 true 2 true [] (usedB (l.take k.1)) (fun _=>.kb true))]) (fun k=>l.length - k.1) ⟨0,Nat.zero_le _,rfl⟩ ?_ ?_
 ·exact weak_hd [] rfl ⟨rfl,rfl,rfl,rfl,rfl,rfl,rfl,trivial⟩ ⟨⟨_,rfl,renTbl _ _⟩,⟨_,rfl,renDem _ _⟩,⟨_,_,_,rfl,rfl,fun q hq=>rfl⟩,trivial⟩ trivial (by kernel_rfl)
 rintro ⟨k,hk,hc⟩
 have hk:k <= l.length:=hk
 by_cases a:k < l.length
 ·rw [chkShs_at a] at hc
  refine zG zE (NS.yes (by show decide ((k:Int) < (l.length:Int)) = true;exact decide_eq_true (by omega)) ?_)
  refine zG zE (NS.need (in_row a) ?_)
  refine zG zE (NS.call (checkShp_ok t d (l.getD k default) ok) rfl ?_)
  refine zG zE (NS.ite (fun b=>?_) (fun b=>?_))
  ·have b:chkShp t d (l.getD k default) ≠ 0:=bne_iff_ne.1 (show (chkShp t d (l.getD k default) != 0) = true from b)
   rw [if_pos b] at hc
   rw [<- hc,if_pos b] at hR
   exact zG zE (NS.leaveOut rfl zE (NS.ret rfl rfl (LeA.of (by rw [hR]))))
  have b:¬ chkShp t d (l.getD k default) ≠ 0:=by rw [<- bne_iff_ne (b:=(0:Int))];rw [show (chkShp t d (l.getD k default) != 0) = false from b];decide
  rw [if_neg b] at hc
  refine zG zE (NS.ite (fun c=>?_) (fun c=>?_))
  ·have c:(l.take k).any (fun y=>y.ct == (l.getD k default).ct && y.tm == (l.getD k default).tm) = true:=c
   rw [if_pos c] at hc
   rw [<- hc,if_pos (by decide)] at hR
   exact zG zE (NS.leaveOut rfl zE (NS.ret rfl rfl (LeA.of (by rw [hR]))))
  have c:(l.take k).any (fun y=>y.ct == (l.getD k default).ct && y.tm == (l.getD k default).tm) = false:=c
  rw [if_neg (by rw [c];decide)] at hc
  refine zG zE (NS.next ⟨k + 1,a,hc⟩ (by show l.length - (k + 1) < l.length - k;omega) ?_)
  exact weak_hd [] rfl ⟨rfl,rfl,rfl,rfl,rfl,rfl,ren_int rfl (i64_k a (by omega)),trivial⟩ ⟨⟨_,rfl,renTbl _ _⟩,⟨_,rfl,renDem _ _⟩,⟨_,_,_,rfl,rfl,fun q hq=>by show _ = lookM (usedB (l.take (k + 1))) _ _ q;rw [take_snoc a];exact slot_put hq⟩,trivial⟩ trivial (by kernel_rfl)
 have a:l.length = k:=by omega
 subst a
 rw [List.drop_length,chkShs] at hc
 rw [if_neg (by rw [<- hc];decide)] at hR
 obtain ⟨g1,g2,_⟩:=chkShs_ok (t:=t) (d:=d) (l:=l) (m:=[]) hc.symm
 have wH:IntKind.i64.wrap (d.dead - d.ready) = ((h - 1:Nat):Int):=by rw [wrap_i64 (by omega) (by omega)];omega
 refine zG zE (NS.no (by show decide ((l.length:Int) < (l.length:Int)) = false;exact decide_eq_false (Int.lt_irrefl _)) ?_)
 refine zG zE (NS.leave rfl zE ?_)
 refine zG zE (NS.call (stocks_ok t d h l ok hd hH g1 hlen) rfl ?_)
 obtain ⟨T,hT⟩:∃ T:Go.Sy.A,T = .sl 1 t.plan.qs.length (fun a _=>.sl 1 h (fun b _=>.int .i64 (stM t d l a b))):=⟨_,rfl⟩
 refine zG zE ?_
 refine NS.loop (σ:={ i:Nat // i <= t.plan.qs.length /\ ∀ j,j < i -> okRow t d h l j = true }) (fun i=>[(3,.ptr 3 0),(4,.ptr 4 0),(14,.sl 1 t.plan.qs.length (fun a _=>.sl 1 h (fun b _=>.int .i64 (stM t d l a b)))),(15,.int .i64 ((h - 1:Nat):Int)),(16,.fn 24 [.ptr 4 0]),(64,.sl 1 t.plan.qs.length (fun a _=>.sl 1 h (fun b _=>.int .i64 (stM t d l a b)))),(65,.int .i64 t.plan.qs.length),(66,.int .i64 (i.1:Nat))]) (fun _=>[(3,.box t.cells),(4,.box d.cells)]) (fun i=>t.plan.qs.length - i.1) ⟨0,Nat.zero_le _,fun j hj=>absurd hj (Nat.not_lt_zero j)⟩ ?_ ?_
 ·exact weak_hd [] rfl ⟨rfl,rfl,rfl,ren_int rfl wH,rfl,rfl,rfl,rfl,trivial⟩ ⟨⟨_,rfl,renTbl _ _⟩,⟨_,rfl,renDem _ _⟩,trivial⟩ trivial (by kernel_rfl)
 rintro ⟨i,hi,hok⟩
 have hi:i <= t.plan.qs.length:=hi
 by_cases a:i < t.plan.qs.length
 ·refine zG zE (NS.yes (by show decide ((i:Int) < (t.plan.qs.length:Int)) = true;exact decide_eq_true (by omega)) ?_)
  refine zG zE (NS.need (in_row a) ?_)
  refine zG zE (NS.call ((slMin_ok (fun b=>stM t d l i b) (h - 1) (by omega)).le (LeL.cons (LeA.sl (show h = h - 1 + 1 by omega) (fun q hq j hj=>rfl)) LeL.nil)) rfl ?_)
  have fail:okRow t d h l i = false -> R = (0,24):=fun e=>by
   rw [hR,if_pos]
   exact List.all_eq_false.2 ⟨i,List.mem_range.2 a,by rw [e];decide⟩
  refine zG zE (NS.ite (fun b=>?_) (fun b=>?_))
  ·have b:minUp (fun b=>stM t d l i b) (h - 1) < 0:=of_decide_eq_true (show decide (minUp (fun b=>stM t d l i b) (h - 1) < 0) = true from b)
   have hf:=fail (by unfold okRow;rw [decide_eq_false (by omega)];rfl)
   exact zG zE (NS.leaveOut rfl zE (NS.ret rfl rfl (LeA.of (by rw [hf]))))
  have b:¬ minUp (fun b=>stM t d l i b) (h - 1) < 0:=of_decide_eq_false (show decide (minUp (fun b=>stM t d l i b) (h - 1) < 0) = false from b)
  have hmin:decide (0 <= minUp (fun b=>stM t d l i b) (h - 1)) = true:=decide_eq_true (by omega)
  refine zG zE (NS.call (betw_ok d i) rfl ?_)
  have nexti:okRow t d h l i = true -> ∀ j,j < i + 1 -> okRow t d h l j = true:=fun e j hj=>by
   by_cases e1:j < i
   ·exact hok j e1
   ·rw [show j = i by omega];exact e
  refine zG zE (NS.ite (fun c=>?_) (fun c=>?_))
  ·have c:betB d i = true:=c
   refine zG zE (NS.need (decide_eq_true (by show 0 <= ((h - 1:Nat):Int) /\ ((h - 1:Nat):Int) < (h:Int);omega)) ?_)
   refine zG zE (NS.ite (fun e=>?_) (fun e=>?_))
   ·have e:(stM t d l i ((h - 1:Nat):Int) != 0) = true:=e
    have hf:=fail (by unfold okRow;rw [hmin,c,e];rfl)
    exact zG zE (NS.leaveOut rfl zE (NS.ret rfl rfl (LeA.of (by rw [hf]))))
   ·have e:(stM t d l i ((h - 1:Nat):Int) != 0) = false:=e
    refine zG zE (NS.next ⟨i + 1,a,nexti (by unfold okRow;rw [hmin,c,e];rfl)⟩ (by show t.plan.qs.length - (i + 1) < t.plan.qs.length - i;omega) ?_)
    exact weak_hd [] rfl ⟨rfl,rfl,rfl,rfl,rfl,rfl,rfl,ren_int rfl (i64_k a (by omega)),trivial⟩ ⟨⟨_,rfl,renTbl _ _⟩,⟨_,rfl,renDem _ _⟩,trivial⟩ trivial (by kernel_rfl)
  ·have c:betB d i = false:=c
   refine zG zE (NS.next ⟨i + 1,a,nexti (by unfold okRow;rw [hmin,c];rfl)⟩ (by show t.plan.qs.length - (i + 1) < t.plan.qs.length - i;omega) ?_)
   exact weak_hd [] rfl ⟨rfl,rfl,rfl,rfl,rfl,rfl,rfl,ren_int rfl (i64_k a (by omega)),trivial⟩ ⟨⟨_,rfl,renTbl _ _⟩,⟨_,rfl,renDem _ _⟩,trivial⟩ trivial (by kernel_rfl)
 have a:t.plan.qs.length = i:=by omega
 subst a
 rw [if_neg (by rw [Bool.not_eq_false];exact List.all_eq_true.2 fun j hj=>hok j (List.mem_range.1 hj))] at hR
 refine zG zE (NS.no (by show decide ((t.plan.qs.length:Int) < (t.plan.qs.length:Int)) = false;exact decide_eq_false (Int.lt_irrefl _)) ?_)
 refine zG zE (NS.leave rfl zE ?_)
 refine zG zE ?_
 refine NS.loop (σ:={ i:Nat // i <= t.plan.qs.length /\ ∀ j,j < i -> (List.range (h - 1)).all (okQuo t d l j) = true }) (fun i=>[(3,.ptr 3 0),(4,.ptr 4 0),(14,.sl 1 t.plan.qs.length (fun a _=>.sl 1 h (fun b _=>.int .i64 (stM t d l a b)))),(15,.int .i64 ((h - 1:Nat):Int)),(16,.fn 24 [.ptr 4 0]),(87,.sl 1 t.plan.qs.length (fun a _=>.sl 1 h (fun b _=>.int .i64 (stM t d l a b)))),(88,.int .i64 t.plan.qs.length),(89,.int .i64 (i.1:Nat))]) (fun _=>[(3,.box t.cells),(4,.box d.cells)]) (fun i=>t.plan.qs.length - i.1) ⟨0,Nat.zero_le _,fun j hj=>absurd hj (Nat.not_lt_zero j)⟩ ?_ ?_
 ·exact weak_hd [] rfl ⟨rfl,rfl,rfl,rfl,rfl,rfl,rfl,rfl,trivial⟩ ⟨⟨_,rfl,renTbl _ _⟩,⟨_,rfl,renDem _ _⟩,trivial⟩ trivial (by kernel_rfl)
 rintro ⟨i,hi,hok2⟩
 have hi:i <= t.plan.qs.length:=hi
 by_cases a:i < t.plan.qs.length
 ·refine zG zE (NS.yes (by show decide ((i:Int) < (t.plan.qs.length:Int)) = true;exact decide_eq_true (by omega)) ?_)
  refine zG zE (NS.need (in_row a) ?_)
  refine zG zE (NS.need (decide_eq_true (by show (0:Int) <= 0 /\ (0:Int) <= ((h - 1:Nat):Int) /\ ((h - 1:Nat):Int) <= (h:Int);omega)) ?_)
  have fail:∀ b,b < h - 1 -> okQuo t d l i b = false -> R = (0,15):=fun b hb e=>by
   rw [hR,if_pos]
   exact List.all_eq_false.2 ⟨i,List.mem_range.2 a,by rw [Bool.not_eq_true];exact List.all_eq_false.2 ⟨b,List.mem_range.2 hb,by rw [e];decide⟩⟩
  refine zG zE ?_
  refine NS.loop (σ:={ k:Nat // k <= h - 1 /\ ∀ b,b < k -> okQuo t d l i b = true }) (fun k=>[(3,.ptr 3 0),(4,.ptr 4 0),(14,.sl 1 t.plan.qs.length (fun a _=>.sl 1 h (fun b _=>.int .i64 (stM t d l a b)))),(15,.int .i64 ((h - 1:Nat):Int)),(16,.fn 24 [.ptr 4 0]),(19,.int .i64 (i:Nat)),(87,.sl 1 t.plan.qs.length (fun a _=>.sl 1 h (fun b _=>.int .i64 (stM t d l a b)))),(88,.int .i64 t.plan.qs.length),(89,.int .i64 (i:Nat)),(96,.sl 1 (h - 1) (fun b _=>.int .i64 (stM t d l i b))),(97,.int .i64 ((h - 1:Nat):Int)),(98,.int .i64 (k.1:Nat))]) (fun _=>[(3,.box t.cells),(4,.box d.cells)]) (fun k=>h - 1 - k.1) ⟨0,Nat.zero_le _,fun j hj=>absurd hj (Nat.not_lt_zero j)⟩ ?_ ?_
  ·have e0:(((h - 1:Nat):Int) - ((0:Nat):Int)).toNat = h - 1:=by omega
   refine (weak_slot 96 (x:=.sl 1 (h - 1) (fun b _=>.int .i64 (stM t d l i b))) ?_).trans ?_
   ·exact LeA.sl e0 fun q hq j hj=>congrArg (fun z:Nat=>Go.Sy.A.int .i64 (stM t d l (i:Nat) (z:Nat))) (show 0 + q = q from Nat.zero_add q)
   ·exact weak_hd [] rfl ⟨rfl,rfl,rfl,rfl,rfl,rfl,rfl,rfl,rfl,rfl,ren_int rfl (by show ((((h - 1:Nat):Int) - ((0:Nat):Int)).toNat:Int) = _;rw [e0]),rfl,trivial⟩ ⟨⟨_,rfl,renTbl _ _⟩,⟨_,rfl,renDem _ _⟩,trivial⟩ trivial (by kernel_rfl)
  rintro ⟨k,hk,hok3⟩
  have hk:k <= h - 1:=hk
  by_cases b:k < h - 1
  ·have nextk:okQuo t d l i k = true -> ∀ b,b < k + 1 -> okQuo t d l i b = true:=fun e j hj=>by
    by_cases e1:j < k
    ·exact hok3 j e1
    ·rw [show j = k by omega];exact e
   have wk:IntKind.i64.wrap (d.ready + (k:Int)) = d.ready + (k:Int):=wrap_i64 (by omega) (by omega)
   refine zG zE (NS.yes (by show decide ((k:Int) < ((h - 1:Nat):Int)) = true;exact decide_eq_true (by omega)) ?_)
   refine zG zE (NS.need (in_row b) ?_)
   refine zG zE (NS.call (betw_ok d i) rfl ?_)
   refine zG zE (NS.ite (fun c=>?_) (fun c=>?_))
   ·have c:betB d i = true:=c
    refine zG zE (NS.call ((croom_ok t ok i (d.ready + (k:Int)) (by omega)).le (LeL.cons (LeA.refl _) (LeL.cons (LeA.refl _) (LeL.cons (LeA.intE wk) LeL.nil)))) rfl ?_)
    refine zG zE (NS.ite (fun e=>?_) (fun e=>?_))
    ·have e:decide (stM t d l i k > quoM t i (d.ready + (k:Int))) = true:=e
     have hf:=fail k b (by unfold okQuo;rw [c,e];rfl)
     exact zG zE (NS.leaveOut rfl zE (NS.ret rfl rfl (LeA.of (by rw [hf]))))
    ·have e:decide (stM t d l i k > quoM t i (d.ready + (k:Int))) = false:=e
     refine zG zE (NS.next ⟨k + 1,b,nextk (by unfold okQuo;rw [c,e];rfl)⟩ (by show h - 1 - (k + 1) < h - 1 - k;omega) ?_)
     exact weak_hd [] rfl ⟨rfl,rfl,rfl,rfl,rfl,rfl,rfl,rfl,rfl,rfl,rfl,ren_int rfl (i64_k b (by omega)),trivial⟩ ⟨⟨_,rfl,renTbl _ _⟩,⟨_,rfl,renDem _ _⟩,trivial⟩ trivial (by kernel_rfl)
   ·have c:betB d i = false:=c
    refine zG zE (NS.next ⟨k + 1,b,nextk (by unfold okQuo;rw [c];rfl)⟩ (by show h - 1 - (k + 1) < h - 1 - k;omega) ?_)
    exact weak_hd [] rfl ⟨rfl,rfl,rfl,rfl,rfl,rfl,rfl,rfl,rfl,rfl,rfl,ren_int rfl (i64_k b (by omega)),trivial⟩ ⟨⟨_,rfl,renTbl _ _⟩,⟨_,rfl,renDem _ _⟩,trivial⟩ trivial (by kernel_rfl)
  have b:h - 1 = k:=by omega
  refine zG zE (NS.no (by show decide ((k:Int) < ((h - 1:Nat):Int)) = false;exact decide_eq_false (by omega)) ?_)
  refine zG zE (NS.leave rfl zE ?_)
  refine zG zE (NS.next ⟨i + 1,a,fun j hj=>?_⟩ (by show t.plan.qs.length - (i + 1) < t.plan.qs.length - i;omega) ?_)
  ·by_cases e1:j < i
   ·exact hok2 j e1
   ·rw [show j = i by omega]
    exact List.all_eq_true.2 fun b' hb'=>hok3 b' (by have:=List.mem_range.1 hb';omega)
  exact weak_hd [] rfl ⟨rfl,rfl,rfl,rfl,rfl,rfl,rfl,ren_int rfl (i64_k a (by omega)),trivial⟩ ⟨⟨_,rfl,renTbl _ _⟩,⟨_,rfl,renDem _ _⟩,trivial⟩ trivial (by kernel_rfl)
 have a:t.plan.qs.length = i:=by omega
 subst a
 rw [if_neg (by rw [Bool.not_eq_false];exact List.all_eq_true.2 fun j hj=>hok2 j (List.mem_range.1 hj))] at hR
 refine zG zE (NS.no (by show decide ((t.plan.qs.length:Int) < (t.plan.qs.length:Int)) = false;exact decide_eq_false (Int.lt_irrefl _)) ?_)
 refine zG zE (NS.leave rfl zE ?_)
 refine zG zE (NS.need (decide_eq_true (by have:=hd.dst;show 0 <= d.dst /\ d.dst < (t.plan.qs.length:Int);omega)) ?_)
 refine zG zE (NS.need (decide_eq_true (by show 0 <= ((h - 1:Nat):Int) /\ ((h - 1:Nat):Int) < (h:Int);omega)) ?_)
 refine zG zE (NS.ret rfl rfl (LeA.of ?_))
 rw [hR]
 show Go.Sy.A.tup [.int .i64 (stM t d l ((d.dst.toNat:Nat):Int) ((h - 1:Nat):Int)),.int .i64 0] = _
 rw [Int.toNat_of_nonneg hd.dst.1]
theorem vS_t {x:Spn} (h1:decide (x.lo < x.hi) = true) (h2:decide (x.lo >= -1152921504606846976) = true):decide (x.hi <= 1152921504606846976) = vS x:=by
 have h2':decide (-1152921504606846976 <= x.lo) = true:=h2
 simp only [vS,h1,h2',Bool.true_and]
theorem vS_f1 {x:Spn} (h1:decide (x.lo < x.hi) = false):false = vS x:=by simp only [vS,h1,Bool.false_and]
theorem vS_f2 {x:Spn} (h1:decide (x.lo < x.hi) = true) (h2:decide (x.lo >= -1152921504606846976) = false):false = vS x:=by
 have h2':decide (-1152921504606846976 <= x.lo) = false:=h2
 simp only [vS,h1,h2',Bool.true_and,Bool.false_and]
theorem ivalid_ok (x:Spn):FnOK Tryz.prog 60 [.agg x.cells] (.bool (vS x),none):=by
 refine fn_ok CM rfl (by kernel_rfl) Tryz.func60 rfl ?_
 refine zG zE (NS.ite (fun h=>?_) (fun h=>?_))
 ·refine zG zE (NS.ite (fun h2=>?_) (fun h2=>?_))
  ·exact zG zE (NS.ret rfl rfl (LeA.of (congrArg A.bool (vS_t h h2))))
  ·exact zG zE (NS.ret rfl rfl (LeA.of (congrArg A.bool (vS_f2 h h2))))
 ·exact zG zE (NS.ret rfl rfl (LeA.of (congrArg A.bool (vS_f1 h))))
def prevH (l:List Spn):Nat -> Option Int
 | 0=>none
 | k + 1=>some (l.getD k default).hi
def chkF (l:List Spn) (k:Nat):Int:=chkL (prevH l k) (l.drop k)
theorem chkF_bad {l:List Spn} {k:Nat} (h:k < l.length) (hv:vS (l.getD k default) = false):chkF l k = 2:=by
 unfold chkF;rw [drop_cons h,chkL,if_neg (by rw [hv];simp)]
theorem chkF_gap {l:List Spn} {k:Nat} (h:k < l.length) (hv:vS (l.getD k default) = true) (hg:gapB (prevH l k) (l.getD k default) = true):chkF l k = 9:=by
 unfold chkF;rw [drop_cons h,chkL,if_pos hv,if_pos hg]
theorem chkF_step {l:List Spn} {k:Nat} (h:k < l.length) (hv:vS (l.getD k default) = true) (hg:gapB (prevH l k) (l.getD k default) = false):chkF l k = chkF l (k + 1):=by
 unfold chkF;rw [drop_cons h,chkL,if_pos hv,if_neg (by rw [hg];simp)];rfl
theorem chkF_end {l:List Spn} {k:Nat} (h:l.length <= k):chkF l k = 0:=by
 unfold chkF;rw [drop_end h];cases prevH l k <;> rfl
theorem chkS_big {l:List Spn} (h:decide ((l.length:Int) > 1000) = true):chkS l = 4:=by
 unfold chkS;rw [if_pos (by simp at h;omega)]
theorem chkS_small {l:List Spn} (h:decide ((l.length:Int) > 1000) = false):chkS l = chkF l 0:=by
 unfold chkS;rw [if_neg (by simp at h;omega)];rfl
theorem icheck_ok (l:List Spn):FnOK Tryz.prog 27 [slS l] (.int .i64 (chkS l),none):=by
 refine fn_ok CM rfl (by kernel_rfl) Tryz.func27 rfl ?_
 refine zG zE (NS.ite (fun h0=>?_) (fun h0=>?_))
 ·exact zG zE (NS.ret rfl rfl (LeA.of (congrArg (A.int .i64) (chkS_big h0).symm)))
 have hl:l.length <= 1000:=by simp at h0;omega
 rw [chkS_small h0]
 refine zG zE ?_
 refine NS.loop (σ:={ k:Nat // k <= l.length /\ chkF l 0 = chkF l k }) (fun k=>[(0,slS l),(8,slS l),(9,.int .i64 l.length),(10,.int .i64 k.1)]) (fun _=>[]) (fun k=>l.length - k.1) ⟨0,Nat.zero_le _,rfl⟩ ?_ ?_
 ·exact weak_hd [] rfl ⟨rfl,rfl,rfl,rfl,trivial⟩ trivial trivial (by kernel_rfl)
 ·rintro ⟨k,hk,hn⟩
  refine zG zE (NS.ite (fun h=>?_) (fun h=>?_))
  ·simp at h
   refine zG zE (NS.need (by simp;omega) ?_)
   refine zG zE (NS.call (ivalid_ok (l.getD k default)) rfl ?_)
   refine zG zE (NS.ite (fun h2=>?_) (fun h2=>?_))
   ·refine zG zE (NS.leaveOut rfl zE (NS.ret rfl rfl (LeA.of (congrArg (A.int .i64) ?_))))
    rw [hn,chkF_bad h (not_t h2)]
   ·have hv:=not_f h2
    refine zG zE (NS.chk (by kernel_rfl) ?_)
    refine zG zE (NS.ite (fun h3=>?_) (fun h3=>?_))
    ·obtain ⟨m,rfl⟩:∃ m,k = m + 1:=⟨k - 1,by simp at h3;omega⟩
     have e1:IntKind.i64.wrap (((m + 1:Nat):Int) - 1) = (m:Int):=i64_s (n:=l.length) (by omega) (by omega)
     refine zG zE (NS.need (by rw [e1];simp;omega) ?_)
     rw [e1]
     refine zG zE (NS.ite (fun h4=>?_) (fun h4=>?_))
     ·refine zG zE (NS.leaveOut rfl zE (NS.ret rfl rfl (LeA.of (congrArg (A.int .i64) ?_))))
      rw [hn,chkF_gap h hv h4]
     ·refine zG zE (NS.next ⟨m + 2,by omega,hn.trans (chkF_step h hv h4)⟩ (by simp;omega) ?_)
      exact weak_hd [] rfl ⟨rfl,rfl,rfl,ren_int rfl (i64_k (k:=m + 1) (n:=l.length) (by omega) (by omega)),trivial⟩ trivial trivial (by kernel_rfl)
    ·obtain rfl:k = 0:=by simp at h3;omega
     refine zG zE (NS.next ⟨1,by omega,hn.trans (chkF_step h hv rfl)⟩ (by simp;omega) ?_)
     exact weak_hd [] rfl ⟨rfl,rfl,rfl,ren_int rfl (i64_k (k:=0) (n:=l.length) (by omega) (by omega)),trivial⟩ trivial trivial (by kernel_rfl)
  ·simp at h
   refine zG zE (NS.leave rfl zE ?_)
   refine zG zE (NS.ret rfl rfl (LeA.of (congrArg (A.int .i64) ?_)))
   rw [hn,chkF_end h]
theorem ihas1_ok (x:Spn) (t:Int):FnOK Tryz.prog 62 [.agg x.cells,.ip 1 (getA [.int .i64 t])] (.bool (has1 t x),none):=by
 refine fn_ok CM rfl (by kernel_rfl) Tryz.func62 rfl ?_
 refine zG zE (NS.ite (fun h=>?_) (fun h=>?_))
 ·refine zG zE (NS.ret rfl rfl (LeA.of (congrArg A.bool ?_)))
  simp only [has1,h,Bool.true_and]
 ·refine zG zE (NS.ret rfl rfl (LeA.of (congrArg A.bool ?_)))
  simp only [has1,h,Bool.false_and]
def hasM (l:List Spn) (t:Int):Bool:=(chkS l == 0) && hasL l t
theorem chkS_len {l:List Spn} (h:chkS l = 0):l.length <= 1000:=by
 unfold chkS at h
 split at h
 ·cases h
 ·omega
theorem ihas_ok (l:List Spn) (t:Int):FnOK Tryz.prog 28 [slS l,.int .i64 t] (.bool (hasM l t),none):=by
 refine fn_ok CM rfl (by kernel_rfl) Tryz.func28 rfl ?_
 refine zG zE (NS.call (icheck_ok l) rfl ?_)
 refine zG zE (NS.ite (fun h=>?_) (fun h=>?_))
 ·have h:(chkS l == 0) = true:=h
  refine zG zE (NS.call (contS_ok l (by have:=chkS_len (eq_of_beq h);omega) 62 1 (getA [.int .i64 t]) (has1 t) (fun x _=>ihas1_ok x t)) rfl ?_)
  exact zG zE (NS.ret rfl rfl (LeA.of (congrArg A.bool (by unfold hasM;rw [h];rfl))))
 ·have h:(chkS l == 0) = false:=h
  exact zG zE (NS.ret rfl rfl (LeA.of (congrArg A.bool (by unfold hasM;rw [h];rfl))))
def cutA (c:List (List Spn)):Go.Sy.A:=.sl 1 c.length (fun i _=>slS (c.getD i default))
def badC (d:Dem) (l:List Spn):Bool:=chkS l != 0 || (decide ((l.length:Int) > 0) && (decide ((l.getD 0 default).lo < d.ready) || decide ((l.getD (l.length - 1) default).hi > d.dead + 1)))
def cutS (d:Dem) (h:Nat) (c:List (List Spn)) (v:Nat):Bool:=hasM (c.getD (v / h) default) (d.ready + ((v % h:Nat):Int))
def crS (S:Nat -> Bool) (a:Arc):Int:=if S a.fr.toNat = true /\ S a.to.toNat = false then a.cap else 0
def capR (t:Tbl) (d:Dem) (h:Nat) (c:List (List Spn)):Int × Int:=
 if c.length ≠ t.plan.qs.length then (0,10)
 else if c.any (badC d) = true then (0,2)
 else if hasM (c.getD d.src.toNat default) d.ready = false \/ hasM (c.getD d.dst.toNat default) d.dead = true then (0,24)
 else (sumL (crS (cutS d h c)) (arcsM t d h),0)
theorem capR_ge {t:Tbl} (ok:OkT t) {d:Dem} (hd:OkD t.plan.qs.length d) {h:Nat} (hH:d.dead = d.ready + h - 1 /\ 2 <= h /\ h <= 25) {c:List (List Spn)} (he:(capR t d h c).2 = 0):mostV t d h <= (capR t d h c).1:=by
 unfold capR at he ⊢
 split at he
 ·cases he
 ·rename_i h1
  rw [if_neg h1]
  split at he
  ·cases he
  ·rename_i h2
   rw [if_neg h2]
   split at he
   ·cases he
   ·rename_i h3
    rw [if_neg h3]
    refine most_le ok hd hH.2.1 hH.1 (S:=cutS d h c) ?_ ?_
    ·have e1:=num_div (h:=h) (a:=d.src.toNat) (b:=0) (by omega)
     have e2:=num_mod (h:=h) (a:=d.src.toNat) (b:=0) (by omega)
     rw [Nat.add_zero] at e1 e2
     unfold cutS
     rw [e1,e2]
     cases e:hasM (c.getD d.src.toNat default) d.ready with
     | true=>simpa using e
     | false=>exact (h3 (.inl e)).elim
    ·unfold cutS
     rw [num_div (by omega),num_mod (by omega),show d.ready + ((h - 1:Nat):Int) = d.dead by omega]
     cases e:hasM (c.getD d.dst.toNat default) d.dead with
     | false=>rfl
     | true=>exact (h3 (.inr e)).elim
theorem sum_cap {S:Nat -> Bool}:∀ {L:List Arc},(∀ a ∈ L,0 <= a.cap /\ a.cap <= 1099511627776) -> 0 <= sumL (crS S) L /\ sumL (crS S) L <= 1099511627776 * (L.length:Int)
 | [],_=>by simp [sumL]
 | a :: L,h=>by
  have h1:=sum_cap (S:=S) (L:=L) fun x hx=>h x (List.mem_cons_of_mem _ hx)
  have h2:=h a List.mem_cons_self
  have h3:0 <= crS S a /\ crS S a <= 1099511627776:=by unfold crS;split <;> omega
  simp only [sumL,List.length_cons]
  push_cast
  omega
theorem wait_cap {t:Tbl} (ok:OkT t) {d:Dem} {h n:Nat} (hn:n <= t.plan.qs.length * h):∀ a ∈ (waitX t d h n).map XA.arc,0 <= a.cap /\ a.cap <= 1099511627776:=by
 intro a ha
 obtain ⟨y,hy,rfl⟩:=List.mem_map.1 ha
 obtain ⟨i,hi,_,rfl⟩:=mem_waitX.1 hy
 have h0:0 < h:=by
  rcases Nat.eq_zero_or_pos h with e | e
  ·subst e;simp at hn;omega
  ·exact e
 exact roomM_ok ok d (vtx_place (N:=t.plan.qs.length) h0 (by omega)).1 _
theorem arcsK_cap {t:Tbl} (ok:OkT t) {d:Dem} {h k:Nat} {l:List Int} (hk:k < t.plan.cts.length):∀ a ∈ arcsK t d h k l,0 <= a.cap /\ a.cap <= 1099511627776:=by
 have hr:∀ ct,ct < t.plan.cts.length -> 0 <= (t.plan.cts.getD ct default).rate /\ (t.plan.cts.getD ct default).rate <= 1099511627776:=fun ct hc=>by
  have:=(ok.p.cts (t.plan.cts.getD ct default) (by rw [getD_lt hc];exact List.getElem_mem _)).rate
  omega
 intro a ha
 unfold arcsK at ha
 rw [List.map_append,List.map_append] at ha
 rcases List.mem_append.1 ha with ha | ha
 ·rcases List.mem_append.1 ha with ha | ha
  ·exact wait_cap ok (Nat.le_refl _) a ha
  ·obtain ⟨y,hy,rfl⟩:=List.mem_map.1 ha
   obtain ⟨ct,hc,hy⟩:=List.mem_flatMap.1 hy
   unfold conX at hy
   obtain ⟨u,_,rfl⟩:=List.mem_map.1 hy
   exact hr ct (by have:=List.mem_range.1 hc;omega)
 ·obtain ⟨y,hy,rfl⟩:=List.mem_map.1 ha
  obtain ⟨u,_,rfl⟩:=List.mem_map.1 hy
  exact hr k hk
theorem arcsK_few {t:Tbl} (ok:OkT t) {d:Dem} {h k:Nat} {l:List Int} (hk:k < t.plan.cts.length) (hh:d.dead - d.ready <= 24):(arcsK t d h k l).length <= t.plan.qs.length * h + 64 * 24 + l.length:=by
 have h1:=waitX_len t d h (t.plan.qs.length * h)
 have h3:((List.range k).flatMap (conX t d h)).length <= (List.range k).length * 24:=flatMap_len fun x _=>by
  unfold conX
  rw [List.length_map]
  have:=tickM_len ok d x
  omega
 have h4:=ok.p.m
 rw [List.length_range] at h3
 unfold arcsK
 rw [List.length_map,List.length_append,List.length_append,List.length_map]
 have:k * 24 <= 64 * 24:=Nat.mul_le_mul_right 24 (by omega)
 omega
noncomputable def CCp:Cx:={ E:=EM,inl:=[29],ok:=EM_ok }
theorem cap58_ok (t:Tbl) (d:Dem) (h:Nat) (c:List (List Spn)) (ht:chkT t = 0) (hd:OkD t.plan.qs.length d) (hq:t.plan.qs.length <= 6) (hH:d.dead = d.ready + h - 1 /\ 2 <= h /\ h <= 25) (hlen:c.length <= 1000000):FnOK Tryz.prog 9 [.agg t.cells,.agg d.cells,cutA c] (.tup [.int .i64 (capR t d h c).1,.int .i64 (capR t d h c).2],none):=by
 have ok:=chkT_ok ht
 have hr0:=hd.ready
 have hrd:=hd.dead
 have hs:=hd.src
 have hdt:=hd.dst
 have hm:=ok.p.m
 obtain ⟨R,hR⟩:∃ R,R = capR t d h c:=⟨_,rfl⟩
 rw [<- hR]
 unfold capR at hR
 have cc:=cCheck0_ok t d ht hd
 refine fn_ok CCp rfl (by kernel_rfl) Tryz.func9 rfl ?_
 refine zG zE (NS.call (cc) rfl ?_)
 refine zG zE (NS.no (rfl) ?_)
 by_cases a:c.length = t.plan.qs.length
 ·rw [if_neg (by omega)] at hR
  refine zG zE (NS.no (by show ((c.length:Int) != (t.plan.qs.length:Int)) = false;rw [a];exact bne_self_eq_false _) ?_)
  refine zG zE ?_
  refine NS.loop (σ:={ k:Nat // k <= c.length /\ ∀ i,i < k -> badC d (c.getD i default) = false }) (fun k=>[(3,.ptr 3 0),(4,.ptr 4 0),(5,.ptr 5 0),(32,cutA c),(33,.int .i64 c.length),(34,.int .i64 (k.1:Nat))]) (fun _=>[(3,.box t.cells),(4,.box d.cells),(5,.box [cutA c])]) (fun k=>c.length - k.1) ⟨0,Nat.zero_le _,fun i hi=>absurd hi (Nat.not_lt_zero i)⟩ ?_ ?_
  ·exact weak_hd [] rfl ⟨rfl,rfl,rfl,rfl,rfl,rfl,trivial⟩ ⟨⟨_,rfl,renTbl _ _⟩,⟨_,rfl,renDem _ _⟩,⟨_,rfl,_,_,rfl,rfl,rfl⟩,trivial⟩ trivial (by kernel_rfl)
  rintro ⟨k,hk,hb⟩
  have hk:k <= c.length:=hk
  by_cases b:k < c.length
  ·obtain ⟨l,hl⟩:∃ l,l = c.getD k default:=⟨_,rfl⟩
   have fail:badC d l = true -> R = (0,2):=fun e=>by
    rw [hR,if_pos]
    exact List.any_eq_true.2 ⟨l,by rw [hl,getD_lt b];exact List.getElem_mem _,e⟩
   have nextk:badC d l = false -> ∀ i,i < k + 1 -> badC d (c.getD i default) = false:=fun e i hi=>by
    by_cases e1:i < k
    ·exact hb i e1
    ·rw [show i = k by omega,<- hl];exact e
   refine zG zE (NS.yes (by show decide ((k:Int) < (c.length:Int)) = true;exact decide_eq_true (by omega)) ?_)
   refine zG zE (NS.need (in_row b) ?_)
   refine zG zE (NS.chk (by kernel_rfl) ?_)
   refine zG zE (NS.call ((icheck_ok l).le (LeL.cons (LeA.of (by rw [hl];rfl)) LeL.nil)) rfl ?_)
   refine zG zE (NS.ite (fun b1=>?_) (fun b1=>?_))
   ·have b1:(chkS l != 0) = true:=b1
    have hf:=fail (by unfold badC;rw [b1];rfl)
    exact zG zE (NS.leaveOut rfl zE (NS.ret rfl rfl (LeA.of (by rw [hf]))))
   have b1:(chkS l != 0) = false:=b1
   have hl1:=chkS_len (l:=l) (by simpa using b1)
   refine zG zE (NS.ite (fun b2=>?_) (fun b2=>?_))
   ·have b2:decide ((l.length:Int) > 0) = true:=by rw [hl];exact b2
    have b2':=of_decide_eq_true b2
    refine zG zE (NS.need (decide_eq_true (by show 0 <= (0:Int) /\ (0:Int) < ((c.getD k default).length:Int);rw [<- hl];omega)) ?_)
    refine zG zE (NS.ite (fun b3=>?_) (fun b3=>?_))
    ·have b3:decide ((l.getD 0 default).lo < d.ready) = true:=by rw [hl];exact b3
     have hf:=fail (by unfold badC;rw [b2,b3];simp)
     exact zG zE (NS.leaveOut rfl zE (NS.ret rfl rfl (LeA.of (by rw [hf]))))
    have b3:decide ((l.getD 0 default).lo < d.ready) = false:=by rw [hl];exact b3
    have w1:IntKind.i64.wrap (((c.getD k default).length:Int) - 1) = ((l.length - 1:Nat):Int):=by rw [<- hl,wrap_i64 (by omega) (by omega)];omega
    have w2:IntKind.i64.wrap (d.dead + 1) = d.dead + 1:=wrap_i64 (by omega) (by omega)
    refine zG zE (NS.need (decide_eq_true (by show 0 <= IntKind.i64.wrap (((c.getD k default).length:Int) - 1) /\ IntKind.i64.wrap (((c.getD k default).length:Int) - 1) < ((c.getD k default).length:Int);rw [w1,<- hl];omega)) ?_)
    have key:decide (((c.getD k default).getD (IntKind.i64.wrap (((c.getD k default).length:Int) - 1)).toNat default).hi > IntKind.i64.wrap (d.dead + 1)) = decide ((l.getD (l.length - 1) default).hi > d.dead + 1):=by rw [w1,w2,<- hl];rfl
    refine zG zE (NS.ite (fun b4=>?_) (fun b4=>?_))
    ·have b4:decide ((l.getD (l.length - 1) default).hi > d.dead + 1) = true:=by rw [<- key];exact b4
     have hf:=fail (by unfold badC;rw [b2,b4];simp)
     exact zG zE (NS.leaveOut rfl zE (NS.ret rfl rfl (LeA.of (by rw [hf]))))
    ·have b4:decide ((l.getD (l.length - 1) default).hi > d.dead + 1) = false:=by rw [<- key];exact b4
     refine zG zE (NS.next ⟨k + 1,b,nextk (by unfold badC;rw [b1,b3,b4];simp)⟩ (by show c.length - (k + 1) < c.length - k;omega) ?_)
     exact weak_hd [] rfl ⟨rfl,rfl,rfl,rfl,rfl,ren_int rfl (i64_k b (by omega)),trivial⟩ ⟨⟨_,rfl,renTbl _ _⟩,⟨_,rfl,renDem _ _⟩,⟨_,rfl,_,_,rfl,rfl,rfl⟩,trivial⟩ trivial (by kernel_rfl)
   ·have b2:decide ((l.length:Int) > 0) = false:=by rw [hl];exact b2
    refine zG zE (NS.next ⟨k + 1,b,nextk (by unfold badC;rw [b1,b2];simp)⟩ (by show c.length - (k + 1) < c.length - k;omega) ?_)
    exact weak_hd [] rfl ⟨rfl,rfl,rfl,rfl,rfl,ren_int rfl (i64_k b (by omega)),trivial⟩ ⟨⟨_,rfl,renTbl _ _⟩,⟨_,rfl,renDem _ _⟩,⟨_,rfl,_,_,rfl,rfl,rfl⟩,trivial⟩ trivial (by kernel_rfl)
  have b:c.length = k:=by omega
  subst b
  rw [if_neg (by rw [Bool.not_eq_true];exact List.any_eq_false.2 fun x hx=>by obtain ⟨i,hi,rfl⟩:=List.getElem_of_mem hx;rw [<- getD_lt hi,hb i hi];decide)] at hR
  refine zG zE (NS.no (by show decide ((c.length:Int) < (c.length:Int)) = false;exact decide_eq_false (Int.lt_irrefl _)) ?_)
  refine zG zE (NS.leave rfl zE ?_)
  have hcs:d.src < (c.length:Int):=by omega
  have hcd:d.dst < (c.length:Int):=by omega
  refine zG zE (NS.chk (by kernel_rfl) ?_)
  refine zG zE (NS.need (decide_eq_true (by show 0 <= d.src /\ d.src < (c.length:Int);omega)) ?_)
  refine zG zE (NS.call (ihas_ok (c.getD d.src.toNat default) d.ready) rfl ?_)
  refine zG zE (NS.ite (fun b1=>?_) (fun b1=>?_))
  ·have b1:hasM (c.getD d.src.toNat default) d.ready = false:=not_t b1
   rw [if_pos (.inl b1)] at hR
   exact zG zE (NS.ret rfl rfl (LeA.of (by rw [hR])))
  have b1:hasM (c.getD d.src.toNat default) d.ready = true:=not_f b1
  refine zG zE (NS.need (decide_eq_true (by show 0 <= d.dst /\ d.dst < (c.length:Int);omega)) ?_)
  refine zG zE (NS.call (ihas_ok (c.getD d.dst.toNat default) d.dead) rfl ?_)
  refine zG zE (NS.ite (fun b2=>?_) (fun b2=>?_))
  ·have b2:hasM (c.getD d.dst.toNat default) d.dead = true:=b2
   rw [if_pos (.inr b2)] at hR
   exact zG zE (NS.ret rfl rfl (LeA.of (by rw [hR])))
  have b2:hasM (c.getD d.dst.toNat default) d.dead = false:=b2
  rw [if_neg (by rw [b1,b2];simp)] at hR
  obtain ⟨S,hS⟩:∃ S,S = cutS d h c:=⟨_,rfl⟩
  have hSa:∀ A B:Nat,B < h -> S (A * h + B) = hasM (c.getD A default) (d.ready + (B:Int)):=fun A B hB=>by rw [hS];unfold cutS;rw [num_div hB,num_mod hB]
  rw [<- hS] at hR
  refine zG zE ?_
  refine NS.loop (σ:={ i:Nat // i <= c.length }) (fun i=>[(3,.ptr 3 0),(4,.ptr 4 0),(5,.ptr 5 0),(11,.ptr 11 0),(12,.fn 29 [.ptr 5 0,.ptr 11 0]),(90,.int .i64 c.length),(91,.int .i64 (i.1:Nat))]) (fun i=>[(3,.box t.cells),(4,.box d.cells),(5,.box [cutA c]),(11,.box [.int .i64 (sumL (crS S) ((waitX t d h (i.1 * h)).map XA.arc))])]) (fun i=>c.length - i.1) ⟨0,Nat.zero_le _⟩ ?_ ?_
  ·exact weak_hd [] rfl ⟨rfl,rfl,rfl,rfl,rfl,rfl,rfl,trivial⟩ ⟨⟨_,rfl,renTbl _ _⟩,⟨_,rfl,renDem _ _⟩,⟨_,rfl,_,_,rfl,rfl,rfl⟩,⟨_,rfl,_,_,rfl,ren_int rfl (by show 0 = sumL (crS S) ((waitX t d h (0 * h)).map XA.arc);rw [Nat.zero_mul];rfl),rfl⟩,trivial⟩ trivial (by kernel_rfl)
  rintro ⟨A,hA⟩
  have hA:A <= c.length:=hA
  by_cases e:A < c.length
  ·have hAq:A < t.plan.qs.length:=by omega
   refine zG zE (NS.yes (by show decide ((A:Int) < (c.length:Int)) = true;exact decide_eq_true (by omega)) ?_)
   refine zG zE ?_
   refine NS.loop (σ:={ b:Nat // b <= h - 1 }) (fun b=>[(3,.ptr 3 0),(4,.ptr 4 0),(5,.ptr 5 0),(11,.ptr 11 0),(12,.fn 29 [.ptr 5 0,.ptr 11 0]),(13,.int .i64 (A:Nat)),(14,.int .i64 (d.ready + (b.1:Nat))),(90,.int .i64 c.length),(91,.int .i64 (A:Nat))]) (fun b=>[(3,.box t.cells),(4,.box d.cells),(5,.box [cutA c]),(11,.box [.int .i64 (sumL (crS S) ((waitX t d h (A * h + b.1)).map XA.arc))])]) (fun b=>h - 1 - b.1) ⟨0,Nat.zero_le _⟩ ?_ ?_
   ·exact weak_hd [] rfl ⟨rfl,rfl,rfl,rfl,rfl,rfl,ren_int rfl (by show d.ready = d.ready + ((0:Nat):Int);omega),rfl,rfl,trivial⟩ ⟨⟨_,rfl,renTbl _ _⟩,⟨_,rfl,renDem _ _⟩,⟨_,rfl,_,_,rfl,rfl,rfl⟩,⟨_,rfl,_,_,rfl,rfl,rfl⟩,trivial⟩ trivial (by kernel_rfl)
   rintro ⟨B,hB⟩
   have hB:B <= h - 1:=hB
   by_cases f:B < h - 1
   ·obtain ⟨s0,hs0⟩:∃ s0,s0 = sumL (crS S) ((waitX t d h (A * h + B)).map XA.arc):=⟨_,rfl⟩
    have hlt:=num_lt (h:=h) (a:=A) (b:=B) (N:=t.plan.qs.length) (by omega) hAq
    have hN:=Nat.mul_le_mul hq hH.2.2
    have hsb:0 <= s0 /\ s0 <= 1099511627776 * 150:=by
     have h1:=sum_cap (S:=S) (L:=(waitX t d h (A * h + B)).map XA.arc) (wait_cap ok (by omega))
     have h2:=waitX_len t d h (A * h + B)
     rw [List.length_map] at h1
     rw [hs0]
     have h3:(1099511627776:Int) * ((waitX t d h (A * h + B)).length:Int) <= 1099511627776 * 150:=by omega
     omega
    have hrm:=roomM_ok ok d hAq (d.ready + (B:Int))
    have hstep:sumL (crS S) ((waitX t d h (A * h + (B + 1))).map XA.arc) = s0 + if hasM (c.getD A default) (d.ready + (B:Int)) = true /\ hasM (c.getD A default) (d.ready + ((B + 1:Nat):Int)) = false then roomM t d A (d.ready + (B:Int)) else 0:=by
     rw [<- Nat.add_assoc,waitX_succ,num_mod (by omega),if_neg (by omega),List.map_append,sumL_append,<- hs0]
     simp only [List.map_cons,List.map_nil,sumL]
     have e1:(wX t d h (A * h + B)).arc.fr.toNat = A * h + B:=rfl
     have e2:(wX t d h (A * h + B)).arc.to.toNat = A * h + (B + 1):=wX_to t d h (A * h + B)
     have e3:(wX t d h (A * h + B)).arc.cap = roomM t d A (d.ready + (B:Int)):=by unfold wX timeN;rw [num_div (by omega),num_mod (by omega)]
     unfold crS
     rw [e1,e2,e3,hSa A B (by omega),hSa A (B + 1) (by omega),Int.add_zero]
    have w1:IntKind.i64.wrap (d.ready + (B:Int) + 1) = d.ready + ((B + 1:Nat):Int):=by rw [wrap_i64 (by omega) (by omega)];omega
    refine zG zE (NS.yes (by show decide (d.ready + (B:Int) < d.dead) = true;exact decide_eq_true (by omega)) ?_)
    by_cases c1:(A:Int) = d.src
    ·have hcap:roomM t d A (d.ready + (B:Int)) = 1099511627776:=by unfold roomM;rw [if_pos (.inl c1)]
     refine zG zE (NS.no (by show ((A:Int) != d.src) = false;rw [c1];exact bne_self_eq_false _) ?_)
     have w1':IntKind.i64.wrap (d.ready + (B:Int) + 1) = d.ready + ((B + 1:Nat):Int):=w1
     refine zG zE (NS.need (in_row e) ?_)
     refine zG zE (NS.call (ihas_ok (c.getD A default) (d.ready + (B:Int))) rfl ?_)
     refine zG zE (NS.ite (fun g1=>?_) (fun g1=>?_))
     ·have g1:hasM (c.getD A default) (d.ready + (B:Int)) = true:=g1
      refine zG zE (NS.need (in_row e) ?_)
      refine zG zE (NS.call ((ihas_ok (c.getD A default) (d.ready + ((B + 1:Nat):Int))).le (LeL.cons (LeA.refl _) (LeL.cons (LeA.intE w1) LeL.nil))) rfl ?_)
      refine zG zE (NS.ite (fun g2=>?_) (fun g2=>?_))
      ·have g2:hasM (c.getD A default) (d.ready + ((B + 1:Nat):Int)) = false:=not_t g2
       rw [if_pos ⟨g1,g2⟩] at hstep
       refine zG zE (NS.next ⟨B + 1,f⟩ (by show h - 1 - (B + 1) < h - 1 - B;omega) ?_)
       exact weak_hd [] rfl ⟨rfl,rfl,rfl,rfl,rfl,rfl,ren_int rfl w1,rfl,rfl,trivial⟩ ⟨⟨_,rfl,renTbl _ _⟩,⟨_,rfl,renDem _ _⟩,⟨_,rfl,_,_,rfl,rfl,rfl⟩,⟨_,rfl,_,_,rfl,ren_int rfl (by show IntKind.i64.wrap (sumL (crS S) ((waitX t d h (A * h + B)).map XA.arc) + 1099511627776) = sumL (crS S) ((waitX t d h (A * h + (B + 1))).map XA.arc);rw [hstep,<- hs0,hcap,wrap_i64 (by omega) (by omega)]),rfl⟩,trivial⟩ trivial (by kernel_rfl)
      ·have g2:hasM (c.getD A default) (d.ready + ((B + 1:Nat):Int)) = true:=not_f g2
       rw [if_neg (by rw [g2];simp)] at hstep
       refine zG zE (NS.next ⟨B + 1,f⟩ (by show h - 1 - (B + 1) < h - 1 - B;omega) ?_)
       exact weak_hd [] rfl ⟨rfl,rfl,rfl,rfl,rfl,rfl,ren_int rfl w1,rfl,rfl,trivial⟩ ⟨⟨_,rfl,renTbl _ _⟩,⟨_,rfl,renDem _ _⟩,⟨_,rfl,_,_,rfl,rfl,rfl⟩,⟨_,rfl,_,_,rfl,ren_int rfl (by show sumL (crS S) ((waitX t d h (A * h + B)).map XA.arc) = sumL (crS S) ((waitX t d h (A * h + (B + 1))).map XA.arc);rw [hstep,<- hs0,Int.add_zero]),rfl⟩,trivial⟩ trivial (by kernel_rfl)
     ·have g1:hasM (c.getD A default) (d.ready + (B:Int)) = false:=g1
      rw [if_neg (by rw [g1];simp)] at hstep
      refine zG zE (NS.next ⟨B + 1,f⟩ (by show h - 1 - (B + 1) < h - 1 - B;omega) ?_)
      exact weak_hd [] rfl ⟨rfl,rfl,rfl,rfl,rfl,rfl,ren_int rfl w1,rfl,rfl,trivial⟩ ⟨⟨_,rfl,renTbl _ _⟩,⟨_,rfl,renDem _ _⟩,⟨_,rfl,_,_,rfl,rfl,rfl⟩,⟨_,rfl,_,_,rfl,ren_int rfl (by show sumL (crS S) ((waitX t d h (A * h + B)).map XA.arc) = sumL (crS S) ((waitX t d h (A * h + (B + 1))).map XA.arc);rw [hstep,<- hs0,Int.add_zero]),rfl⟩,trivial⟩ trivial (by kernel_rfl)
    ·refine zG zE (NS.yes (by show ((A:Int) != d.src) = true;exact bne_iff_ne.2 c1) ?_)
     by_cases c2:(A:Int) = d.dst
     ·have hcap:roomM t d A (d.ready + (B:Int)) = 1099511627776:=by unfold roomM;rw [if_pos (.inr c2)]
      refine zG zE (NS.no (by show ((A:Int) != d.dst) = false;rw [c2];exact bne_self_eq_false _) ?_)
      have w1':IntKind.i64.wrap (d.ready + (B:Int) + 1) = d.ready + ((B + 1:Nat):Int):=w1
      refine zG zE (NS.need (in_row e) ?_)
      refine zG zE (NS.call (ihas_ok (c.getD A default) (d.ready + (B:Int))) rfl ?_)
      refine zG zE (NS.ite (fun g1=>?_) (fun g1=>?_))
      ·have g1:hasM (c.getD A default) (d.ready + (B:Int)) = true:=g1
       refine zG zE (NS.need (in_row e) ?_)
       refine zG zE (NS.call ((ihas_ok (c.getD A default) (d.ready + ((B + 1:Nat):Int))).le (LeL.cons (LeA.refl _) (LeL.cons (LeA.intE w1) LeL.nil))) rfl ?_)
       refine zG zE (NS.ite (fun g2=>?_) (fun g2=>?_))
       ·have g2:hasM (c.getD A default) (d.ready + ((B + 1:Nat):Int)) = false:=not_t g2
        rw [if_pos ⟨g1,g2⟩] at hstep
        refine zG zE (NS.next ⟨B + 1,f⟩ (by show h - 1 - (B + 1) < h - 1 - B;omega) ?_)
        exact weak_hd [] rfl ⟨rfl,rfl,rfl,rfl,rfl,rfl,ren_int rfl w1,rfl,rfl,trivial⟩ ⟨⟨_,rfl,renTbl _ _⟩,⟨_,rfl,renDem _ _⟩,⟨_,rfl,_,_,rfl,rfl,rfl⟩,⟨_,rfl,_,_,rfl,ren_int rfl (by show IntKind.i64.wrap (sumL (crS S) ((waitX t d h (A * h + B)).map XA.arc) + 1099511627776) = sumL (crS S) ((waitX t d h (A * h + (B + 1))).map XA.arc);rw [hstep,<- hs0,hcap,wrap_i64 (by omega) (by omega)]),rfl⟩,trivial⟩ trivial (by kernel_rfl)
       ·have g2:hasM (c.getD A default) (d.ready + ((B + 1:Nat):Int)) = true:=not_f g2
        rw [if_neg (by rw [g2];simp)] at hstep
        refine zG zE (NS.next ⟨B + 1,f⟩ (by show h - 1 - (B + 1) < h - 1 - B;omega) ?_)
        exact weak_hd [] rfl ⟨rfl,rfl,rfl,rfl,rfl,rfl,ren_int rfl w1,rfl,rfl,trivial⟩ ⟨⟨_,rfl,renTbl _ _⟩,⟨_,rfl,renDem _ _⟩,⟨_,rfl,_,_,rfl,rfl,rfl⟩,⟨_,rfl,_,_,rfl,ren_int rfl (by show sumL (crS S) ((waitX t d h (A * h + B)).map XA.arc) = sumL (crS S) ((waitX t d h (A * h + (B + 1))).map XA.arc);rw [hstep,<- hs0,Int.add_zero]),rfl⟩,trivial⟩ trivial (by kernel_rfl)
      ·have g1:hasM (c.getD A default) (d.ready + (B:Int)) = false:=g1
       rw [if_neg (by rw [g1];simp)] at hstep
       refine zG zE (NS.next ⟨B + 1,f⟩ (by show h - 1 - (B + 1) < h - 1 - B;omega) ?_)
       exact weak_hd [] rfl ⟨rfl,rfl,rfl,rfl,rfl,rfl,ren_int rfl w1,rfl,rfl,trivial⟩ ⟨⟨_,rfl,renTbl _ _⟩,⟨_,rfl,renDem _ _⟩,⟨_,rfl,_,_,rfl,rfl,rfl⟩,⟨_,rfl,_,_,rfl,ren_int rfl (by show sumL (crS S) ((waitX t d h (A * h + B)).map XA.arc) = sumL (crS S) ((waitX t d h (A * h + (B + 1))).map XA.arc);rw [hstep,<- hs0,Int.add_zero]),rfl⟩,trivial⟩ trivial (by kernel_rfl)
     ·have hcap:roomM t d A (d.ready + (B:Int)) = quoM t A (d.ready + (B:Int)):=roomM_quo c1 c2 _
      rw [hcap] at hrm
      refine zG zE (NS.yes (by show ((A:Int) != d.dst) = true;exact bne_iff_ne.2 c2) ?_)
      refine zG zE (NS.call (croom_ok t ok A (d.ready + (B:Int)) (by omega)) rfl ?_)
      have w1':IntKind.i64.wrap (d.ready + (B:Int) + 1) = d.ready + ((B + 1:Nat):Int):=w1
      refine zG zE (NS.need (in_row e) ?_)
      refine zG zE (NS.call (ihas_ok (c.getD A default) (d.ready + (B:Int))) rfl ?_)
      refine zG zE (NS.ite (fun g1=>?_) (fun g1=>?_))
      ·have g1:hasM (c.getD A default) (d.ready + (B:Int)) = true:=g1
       refine zG zE (NS.need (in_row e) ?_)
       refine zG zE (NS.call ((ihas_ok (c.getD A default) (d.ready + ((B + 1:Nat):Int))).le (LeL.cons (LeA.refl _) (LeL.cons (LeA.intE w1) LeL.nil))) rfl ?_)
       refine zG zE (NS.ite (fun g2=>?_) (fun g2=>?_))
       ·have g2:hasM (c.getD A default) (d.ready + ((B + 1:Nat):Int)) = false:=not_t g2
        rw [if_pos ⟨g1,g2⟩] at hstep
        refine zG zE (NS.next ⟨B + 1,f⟩ (by show h - 1 - (B + 1) < h - 1 - B;omega) ?_)
        exact weak_hd [] rfl ⟨rfl,rfl,rfl,rfl,rfl,rfl,ren_int rfl w1,rfl,rfl,trivial⟩ ⟨⟨_,rfl,renTbl _ _⟩,⟨_,rfl,renDem _ _⟩,⟨_,rfl,_,_,rfl,rfl,rfl⟩,⟨_,rfl,_,_,rfl,ren_int rfl (by show IntKind.i64.wrap (sumL (crS S) ((waitX t d h (A * h + B)).map XA.arc) + quoM t (A:Nat) (d.ready + (B:Int))) = sumL (crS S) ((waitX t d h (A * h + (B + 1))).map XA.arc);rw [hstep,<- hs0,hcap,wrap_i64 (by omega) (by omega)]),rfl⟩,trivial⟩ trivial (by kernel_rfl)
       ·have g2:hasM (c.getD A default) (d.ready + ((B + 1:Nat):Int)) = true:=not_f g2
        rw [if_neg (by rw [g2];simp)] at hstep
        refine zG zE (NS.next ⟨B + 1,f⟩ (by show h - 1 - (B + 1) < h - 1 - B;omega) ?_)
        exact weak_hd [] rfl ⟨rfl,rfl,rfl,rfl,rfl,rfl,ren_int rfl w1,rfl,rfl,trivial⟩ ⟨⟨_,rfl,renTbl _ _⟩,⟨_,rfl,renDem _ _⟩,⟨_,rfl,_,_,rfl,rfl,rfl⟩,⟨_,rfl,_,_,rfl,ren_int rfl (by show sumL (crS S) ((waitX t d h (A * h + B)).map XA.arc) = sumL (crS S) ((waitX t d h (A * h + (B + 1))).map XA.arc);rw [hstep,<- hs0,Int.add_zero]),rfl⟩,trivial⟩ trivial (by kernel_rfl)
      ·have g1:hasM (c.getD A default) (d.ready + (B:Int)) = false:=g1
       rw [if_neg (by rw [g1];simp)] at hstep
       refine zG zE (NS.next ⟨B + 1,f⟩ (by show h - 1 - (B + 1) < h - 1 - B;omega) ?_)
       exact weak_hd [] rfl ⟨rfl,rfl,rfl,rfl,rfl,rfl,ren_int rfl w1,rfl,rfl,trivial⟩ ⟨⟨_,rfl,renTbl _ _⟩,⟨_,rfl,renDem _ _⟩,⟨_,rfl,_,_,rfl,rfl,rfl⟩,⟨_,rfl,_,_,rfl,ren_int rfl (by show sumL (crS S) ((waitX t d h (A * h + B)).map XA.arc) = sumL (crS S) ((waitX t d h (A * h + (B + 1))).map XA.arc);rw [hstep,<- hs0,Int.add_zero]),rfl⟩,trivial⟩ trivial (by kernel_rfl)
   ·have f:h - 1 = B:=by omega
    refine zG zE (NS.no (by show decide (d.ready + (B:Int) < d.dead) = false;exact decide_eq_false (by omega)) ?_)
    refine zG zE (NS.leave rfl zE ?_)
    have hw:waitX t d h ((A + 1) * h) = waitX t d h (A * h + B):=by
     rw [Nat.add_mul,Nat.one_mul,show A * h + h = A * h + B + 1 by omega,waitX_succ,num_mod (by omega),if_pos (by omega),List.append_nil]
    refine zG zE (NS.next ⟨A + 1,e⟩ (by show c.length - (A + 1) < c.length - A;omega) ?_)
    exact weak_hd [] rfl ⟨rfl,rfl,rfl,rfl,rfl,rfl,ren_int rfl (i64_k e (by omega)),trivial⟩ ⟨⟨_,rfl,renTbl _ _⟩,⟨_,rfl,renDem _ _⟩,⟨_,rfl,_,_,rfl,rfl,rfl⟩,⟨_,rfl,_,_,rfl,ren_int rfl (by show sumL (crS S) ((waitX t d h (A * h + B)).map XA.arc) = sumL (crS S) ((waitX t d h ((A + 1) * h)).map XA.arc);rw [hw]),rfl⟩,trivial⟩ trivial (by kernel_rfl)
  have e:c.length = A:=by omega
  subst e
  refine zG zE (NS.no (by show decide ((c.length:Int) < (c.length:Int)) = false;exact decide_eq_false (Int.lt_irrefl _)) ?_)
  refine zG zE (NS.leave rfl zE ?_)
  refine zG zE ?_
  refine NS.loop (σ:={ k:Nat // k <= t.plan.cts.length }) (fun k=>[(3,.ptr 3 0),(4,.ptr 4 0),(5,.ptr 5 0),(11,.ptr 11 0),(12,.fn 29 [.ptr 5 0,.ptr 11 0]),(127,slCtc t.plan.cts),(128,.int .i64 t.plan.cts.length),(129,.int .i64 (k.1:Nat))]) (fun k=>[(3,.box t.cells),(4,.box d.cells),(5,.box [cutA c]),(11,.box [.int .i64 (sumL (crS S) (arcsK t d h k.1 []))])]) (fun k=>t.plan.cts.length - k.1) ⟨0,Nat.zero_le _⟩ ?_ ?_
  ·exact weak_hd [] rfl ⟨rfl,rfl,rfl,rfl,rfl,rfl,rfl,rfl,trivial⟩ ⟨⟨_,rfl,renTbl _ _⟩,⟨_,rfl,renDem _ _⟩,⟨_,rfl,_,_,rfl,rfl,rfl⟩,⟨_,rfl,_,_,rfl,ren_int rfl (by rw [arcsK_0,<- a]),rfl⟩,trivial⟩ trivial (by kernel_rfl)
  rintro ⟨k,hk⟩
  have hk:k <= t.plan.cts.length:=hk
  by_cases e:k < t.plan.cts.length
  ·obtain ⟨x,hx⟩:∃ x,x = t.plan.cts.getD k default:=⟨_,rfl⟩
   have okx:=ok.p.cts x (by rw [hx,getD_lt e];exact List.getElem_mem _)
   have hxt:=okx.time
   have hxr:=okx.rng
   have hxf:=okx.fr
   have hxo:=okx.to
   have hxc:=okx.rate
   obtain ⟨L,hL⟩:∃ L,L = (if d.ready > x.start then d.ready else x.start):=⟨_,rfl⟩
   have hL1:d.ready <= L /\ x.start <= L /\ (L = d.ready \/ L = x.start):=by rw [hL];split <;> omega
   obtain ⟨M,hM⟩:∃ M,M = ((if d.dead - x.rng < x.stop then d.dead - x.rng else x.stop) - L).toNat:=⟨_,rfl⟩
   have hM1:∀ m:Nat,m < M ↔ L + (m:Int) < x.stop /\ L + (m:Int) + 1 + x.rng <= d.dead:=by intro m;rw [hM];split <;> omega
   have hM2:M <= 25:=by rw [hM];split <;> omega
   refine zG zE (NS.yes (by show decide ((k:Int) < (t.plan.cts.length:Int)) = true;exact decide_eq_true (by omega)) ?_)
   refine zG zE (NS.need (in_row e) ?_)
   refine zG zE ?_
   refine NS.loop (σ:={ m:Nat // m <= M }) (fun m=>[(3,.ptr 3 0),(4,.ptr 4 0),(5,.ptr 5 0),(11,.ptr 11 0),(12,.fn 29 [.ptr 5 0,.ptr 11 0]),(16,.int .i64 (k:Nat)),(17,.ptr 17 0),(18,.int .i64 (L + (m.1:Nat))),(127,slCtc t.plan.cts),(128,.int .i64 t.plan.cts.length),(129,.int .i64 (k:Nat))]) (fun m=>[(3,.box t.cells),(4,.box d.cells),(5,.box [cutA c]),(11,.box [.int .i64 (sumL (crS S) (arcsK t d h k (tickF t d k L m.1)))]),(17,.box x.cells)]) (fun m=>M - m.1) ⟨0,Nat.zero_le _⟩ ?_ ?_
   ·exact weak_hd [] rfl ⟨rfl,rfl,rfl,rfl,rfl,rfl,rfl,ren_int rfl (by rw [hL,hx];exact (Int.add_zero _).symm),rfl,rfl,rfl,trivial⟩ ⟨⟨_,rfl,renTbl _ _⟩,⟨_,rfl,renDem _ _⟩,⟨_,rfl,_,_,rfl,rfl,rfl⟩,⟨_,rfl,_,_,rfl,rfl,rfl⟩,⟨_,rfl,by rw [hx];exact renCtc _ _⟩,trivial⟩ trivial (by kernel_rfl)
   rintro ⟨m,hm⟩
   have hm:m <= M:=hm
   have w1:IntKind.i64.wrap (L + (m:Int) + 1) = L + ((m + 1:Nat):Int):=by rw [wrap_i64 (by omega) (by omega)];omega
   have w2:IntKind.i64.wrap (IntKind.i64.wrap (L + (m:Int) + 1) + x.rng) = L + (m:Int) + 1 + x.rng:=by rw [w1,wrap_i64 (by omega) (by omega)];omega
   refine zG zE (NS.chk (by kernel_rfl) ?_)
   by_cases f:m < M
   ·obtain ⟨f1,f2⟩:=(hM1 m).1 f
    refine zG zE (NS.yes (by show decide (L + (m:Int) < x.stop) = true;exact decide_eq_true f1) ?_)
    refine zG zE (NS.call (arrival_ok x (L + (m:Int))) rfl ?_)
    refine zG zE (NS.yes (by show decide (IntKind.i64.wrap (IntKind.i64.wrap (L + (m:Int) + 1) + x.rng) <= d.dead) = true;rw [w2];exact decide_eq_true f2) ?_)
    refine zG zE (NS.call (booked_ok t k (L + (m:Int)) (by have:=ok.b.len;omega)) rfl ?_)
    obtain ⟨s0,hs0⟩:∃ s0,s0 = sumL (crS S) (arcsK t d h k (tickF t d k L m)):=⟨_,rfl⟩
    have hsb:0 <= s0 /\ s0 <= 1099511627776 * 2000:=by
     have h1:=sum_cap (S:=S) (L:=arcsK t d h k (tickF t d k L m)) (arcsK_cap ok e)
     have h2:=arcsK_few ok (h:=h) (l:=tickF t d k L m) e (show d.dead - d.ready <= 24 by omega)
     have h3:(tickF t d k L m).length <= m:=by unfold tickF;exact Nat.le_trans (List.length_filter_le _ _) (by simp)
     have h4:=Nat.mul_le_mul hq hH.2.2
     rw [hs0]
     have h5:(1099511627776:Int) * ((arcsK t d h k (tickF t d k L m)).length:Int) <= 1099511627776 * 2000:=by omega
     omega
    have hu1:okT t d k (L + (m:Int)) = !(busyM t.bks k).any (has1 (L + (m:Int))):=by
     unfold okT
     rw [<- hx,decide_eq_true (show x.start <= L + (m:Int) by omega),decide_eq_true f1,decide_eq_true (show d.ready <= L + (m:Int) by omega),decide_eq_true f2]
     simp only [Bool.true_and]
    have hF:S (cX t d h k (L + (m:Int))).arc.fr.toNat = hasM (c.getD x.fr.toNat default) (L + (m:Int)):=by
     have e1:(cX t d h k (L + (m:Int))).arc.fr = numV d h x.fr (L + (m:Int)):=by rw [hx];rfl
     rw [e1,numV_nat hxf.1 (by omega),Int.toNat_natCast,hSa _ _ (by omega),Int.toNat_of_nonneg (show 0 <= L + (m:Int) - d.ready by omega)]
     congr 1;omega
    have hT:S (cX t d h k (L + (m:Int))).arc.to.toNat = hasM (c.getD x.to.toNat default) (L + (m:Int) + 1 + x.rng):=by
     have e1:(cX t d h k (L + (m:Int))).arc.to = numV d h x.to (L + (m:Int) + 1 + x.rng):=by rw [hx];rfl
     rw [e1,numV_nat hxo.1 (by omega),Int.toNat_natCast,hSa _ _ (by omega),Int.toNat_of_nonneg (show 0 <= L + (m:Int) + 1 + x.rng - d.ready by omega)]
     congr 1;omega
    have hC:(cX t d h k (L + (m:Int))).arc.cap = x.rate:=by rw [hx];rfl
    refine zG zE (NS.ite (fun g=>?_) (fun g=>?_))
    ·have g:(!(busyM t.bks k).any (has1 (L + (m:Int)))) = true:=g
     have hstep:sumL (crS S) (arcsK t d h k (tickF t d k L (m + 1))) = s0 + if hasM (c.getD x.fr.toNat default) (L + (m:Int)) = true /\ hasM (c.getD x.to.toNat default) (L + (m:Int) + 1 + x.rng) = false then x.rate else 0:=by
      rw [tickF_succ,if_pos (hu1.trans g),arcsK_snoc,sumL_append,<- hs0]
      simp only [sumL]
      unfold crS
      rw [hF,hT,hC,Int.add_zero]
     refine zG zE (NS.chk (by kernel_rfl) ?_)
     refine zG zE (NS.call (arrival_ok x (L + (m:Int))) rfl ?_)
     refine zG zE (NS.need (decide_eq_true (by show 0 <= x.fr /\ x.fr < (c.length:Int);omega)) ?_)
     refine zG zE (NS.call (ihas_ok (c.getD x.fr.toNat default) (L + (m:Int))) rfl ?_)
     refine zG zE (NS.ite (fun g1=>?_) (fun g1=>?_))
     ·have g1:hasM (c.getD x.fr.toNat default) (L + (m:Int)) = true:=g1
      refine zG zE (NS.need (decide_eq_true (by show 0 <= x.to /\ x.to < (c.length:Int);omega)) ?_)
      refine zG zE (NS.call ((ihas_ok (c.getD x.to.toNat default) (L + (m:Int) + 1 + x.rng)).le (LeL.cons (LeA.refl _) (LeL.cons (LeA.intE w2) LeL.nil))) rfl ?_)
      refine zG zE (NS.ite (fun g2=>?_) (fun g2=>?_))
      ·have g2:hasM (c.getD x.to.toNat default) (L + (m:Int) + 1 + x.rng) = false:=not_t g2
       rw [if_pos ⟨g1,g2⟩] at hstep
       refine zG zE (NS.next ⟨m + 1,f⟩ (by show M - (m + 1) < M - m;omega) ?_)
       exact weak_hd [] rfl ⟨rfl,rfl,rfl,rfl,rfl,rfl,rfl,ren_int rfl w1,rfl,rfl,rfl,trivial⟩ ⟨⟨_,rfl,renTbl _ _⟩,⟨_,rfl,renDem _ _⟩,⟨_,rfl,_,_,rfl,rfl,rfl⟩,⟨_,rfl,_,_,rfl,ren_int rfl (by show IntKind.i64.wrap (sumL (crS S) (arcsK t d h k (tickF t d k L m)) + x.rate) = sumL (crS S) (arcsK t d h k (tickF t d k L (m + 1)));rw [hstep,<- hs0,wrap_i64 (by omega) (by omega)]),rfl⟩,⟨_,rfl,renCtc _ _⟩,trivial⟩ trivial (by kernel_rfl)
      ·have g2:hasM (c.getD x.to.toNat default) (L + (m:Int) + 1 + x.rng) = true:=not_f g2
       rw [if_neg (by rw [g2];simp)] at hstep
       refine zG zE (NS.next ⟨m + 1,f⟩ (by show M - (m + 1) < M - m;omega) ?_)
       exact weak_hd [] rfl ⟨rfl,rfl,rfl,rfl,rfl,rfl,rfl,ren_int rfl w1,rfl,rfl,rfl,trivial⟩ ⟨⟨_,rfl,renTbl _ _⟩,⟨_,rfl,renDem _ _⟩,⟨_,rfl,_,_,rfl,rfl,rfl⟩,⟨_,rfl,_,_,rfl,ren_int rfl (by show sumL (crS S) (arcsK t d h k (tickF t d k L m)) = sumL (crS S) (arcsK t d h k (tickF t d k L (m + 1)));rw [hstep,<- hs0,Int.add_zero]),rfl⟩,⟨_,rfl,renCtc _ _⟩,trivial⟩ trivial (by kernel_rfl)
     ·have g1:hasM (c.getD x.fr.toNat default) (L + (m:Int)) = false:=g1
      rw [if_neg (by rw [g1];simp)] at hstep
      refine zG zE (NS.next ⟨m + 1,f⟩ (by show M - (m + 1) < M - m;omega) ?_)
      exact weak_hd [] rfl ⟨rfl,rfl,rfl,rfl,rfl,rfl,rfl,ren_int rfl w1,rfl,rfl,rfl,trivial⟩ ⟨⟨_,rfl,renTbl _ _⟩,⟨_,rfl,renDem _ _⟩,⟨_,rfl,_,_,rfl,rfl,rfl⟩,⟨_,rfl,_,_,rfl,ren_int rfl (by show sumL (crS S) (arcsK t d h k (tickF t d k L m)) = sumL (crS S) (arcsK t d h k (tickF t d k L (m + 1)));rw [hstep,<- hs0,Int.add_zero]),rfl⟩,⟨_,rfl,renCtc _ _⟩,trivial⟩ trivial (by kernel_rfl)
    ·have g:(!(busyM t.bks k).any (has1 (L + (m:Int)))) = false:=g
     have hstep:sumL (crS S) (arcsK t d h k (tickF t d k L (m + 1))) = s0 + 0:=by
      rw [tickF_succ,if_neg (by rw [hu1,g];decide),List.append_nil,<- hs0,Int.add_zero]
     refine zG zE (NS.next ⟨m + 1,f⟩ (by show M - (m + 1) < M - m;omega) ?_)
     exact weak_hd [] rfl ⟨rfl,rfl,rfl,rfl,rfl,rfl,rfl,ren_int rfl w1,rfl,rfl,rfl,trivial⟩ ⟨⟨_,rfl,renTbl _ _⟩,⟨_,rfl,renDem _ _⟩,⟨_,rfl,_,_,rfl,rfl,rfl⟩,⟨_,rfl,_,_,rfl,ren_int rfl (by show sumL (crS S) (arcsK t d h k (tickF t d k L m)) = sumL (crS S) (arcsK t d h k (tickF t d k L (m + 1)));rw [hstep,<- hs0,Int.add_zero]),rfl⟩,⟨_,rfl,renCtc _ _⟩,trivial⟩ trivial (by kernel_rfl)
   ·have f:M = m:=by omega
    subst f
    have hM3:=fun q=>(hM1 M).2 q
    have hfin:arcsK t d h k (tickF t d k L M) = arcsK t d h (k + 1) []:=by
     rw [<- arcsK_next,tickF_all ok (lo:=L) (k:=M)]
     intro u hu
     obtain ⟨u1,u2,u3,u4,u5⟩:=okT_iff.1 hu
     rw [<- hx] at u1 u2 u4
     have h1:L <= u:=by omega
     refine ⟨h1,?_⟩
     have h2:=(hM1 (u - L).toNat).2 (by rw [Int.toNat_of_nonneg (by omega)];omega)
     omega
    by_cases f1:L + (M:Int) < x.stop
    ·have f2:¬ L + (M:Int) + 1 + x.rng <= d.dead:=fun q=>Nat.lt_irrefl _ (hM3 ⟨f1,q⟩)
     refine zG zE (NS.yes (by show decide (L + (M:Int) < x.stop) = true;exact decide_eq_true f1) ?_)
     refine zG zE (NS.call (arrival_ok x (L + (M:Int))) rfl ?_)
     refine zG zE (NS.no (by show decide (IntKind.i64.wrap (IntKind.i64.wrap (L + (M:Int) + 1) + x.rng) <= d.dead) = false;rw [w2];exact decide_eq_false f2) ?_)
     refine zG zE (NS.leave rfl zE ?_)
     refine zG zE (NS.next ⟨k + 1,e⟩ (by show t.plan.cts.length - (k + 1) < t.plan.cts.length - k;omega) ?_)
     exact weak_hd [] rfl ⟨rfl,rfl,rfl,rfl,rfl,rfl,rfl,ren_int rfl (i64_k e (by omega)),trivial⟩ ⟨⟨_,rfl,renTbl _ _⟩,⟨_,rfl,renDem _ _⟩,⟨_,rfl,_,_,rfl,rfl,rfl⟩,⟨_,rfl,_,_,rfl,ren_int rfl (by rw [<- hfin]),rfl⟩,trivial⟩ trivial (by kernel_rfl)
    ·refine zG zE (NS.no (by show decide (L + (M:Int) < x.stop) = false;exact decide_eq_false f1) ?_)
     refine zG zE (NS.leave rfl zE ?_)
     refine zG zE (NS.next ⟨k + 1,e⟩ (by show t.plan.cts.length - (k + 1) < t.plan.cts.length - k;omega) ?_)
     exact weak_hd [] rfl ⟨rfl,rfl,rfl,rfl,rfl,rfl,rfl,ren_int rfl (i64_k e (by omega)),trivial⟩ ⟨⟨_,rfl,renTbl _ _⟩,⟨_,rfl,renDem _ _⟩,⟨_,rfl,_,_,rfl,rfl,rfl⟩,⟨_,rfl,_,_,rfl,ren_int rfl (by rw [<- hfin]),rfl⟩,trivial⟩ trivial (by kernel_rfl)
  have e:t.plan.cts.length = k:=by omega
  subst e
  rw [<- arcsK_end] at hR
  refine zG zE (NS.no (by show decide ((t.plan.cts.length:Int) < (t.plan.cts.length:Int)) = false;exact decide_eq_false (Int.lt_irrefl _)) ?_)
  refine zG zE (NS.leave rfl zE ?_)
  exact zG zE (NS.ret rfl rfl (LeA.of (by rw [hR])))
 ·rw [if_pos a] at hR
  refine zG zE (NS.yes (by show ((c.length:Int) != (t.plan.qs.length:Int)) = true;exact bne_iff_ne.2 (by omega)) ?_)
  exact zG zE (NS.ret rfl rfl (LeA.of (by rw [hR])))
structure Dem58 (t:Tbl) (d:Dem):Prop where
 ct:chkT t = 0
 od:OkD t.plan.qs.length d
 q6:t.plan.qs.length <= 6
 hh:d.dead = d.ready + ((d.dead - d.ready + 1).toNat:Int) - 1 /\ 2 <= (d.dead - d.ready + 1).toNat /\ (d.dead - d.ready + 1).toNat <= 25
theorem dem58 {t:Tbl} {d:Dem} (h:(!great53 t d && (chkT t == 0 && demB t.plan.qs.length d)) = true):Dem58 t d:=by
 simp only [Bool.and_eq_true,Bool.not_eq_true',beq_iff_eq] at h
 obtain ⟨h1,h2,h3⟩:=h
 have hd:=demB_ok.1 h3
 unfold great53 great29 at h1
 simp only [Bool.or_eq_false_iff,Bool.and_eq_false_iff,decide_eq_false_iff_not] at h1
 obtain ⟨⟨g1,g2,g3,g4⟩,g5⟩:=h1
 have r1:=hd.ready
 have r2:=hd.lt
 have r3:=hd.dead
 have r4:=hd.hor
 have e1:IntKind.i64.wrap (d.ready + 24) = d.ready + 24:=wrap_i64 (by omega) (by omega)
 have e2:IntKind.i64.wrap (d.ready + 100) = d.ready + 100:=wrap_i64 (by omega) (by omega)
 rw [e1,e2] at g5
 exact ⟨h2,hd,by omega,by omega⟩
theorem weak58_ok (aw:FnOK Tryz.prog 6 [] (.bool true,none)) (t:Tbl) (d:Dem) (l:List Shp) (c:List (List Spn)):FnOK Tryz.prog 3 [.agg t.cells,.agg d.cells,slShp l,cutA c] (.bool true,none):=by
 refine fn_ok CM rfl (by kernel_rfl) Tryz.func3 rfl ?_
 refine zG zE (NS.call (top58Demand_ok t d) rfl ?_)
 refine zG zE (NS.ite (fun a=>?_) (fun a=>?_))
 ·refine zG zE (NS.call (aw) rfl ?_)
  exact zG zE (NS.ret rfl rfl (LeA.refl _))
 have a:=dem58 (not_f a)
 refine zG zE (NS.ite (fun b=>?_) (fun b=>?_))
 ·refine zG zE (NS.call (aw) rfl ?_)
  exact zG zE (NS.ret rfl rfl (LeA.refl _))
 have b:¬ (l.length:Int) > 60:=of_decide_eq_false (show decide ((l.length:Int) > 60) = false from b)
 refine zG zE (NS.ite (fun e=>?_) (fun e=>?_))
 ·refine zG zE (NS.call (aw) rfl ?_)
  exact zG zE (NS.ret rfl rfl (LeA.refl _))
 have e:¬ (c.length:Int) > 8:=of_decide_eq_false (show decide ((c.length:Int) > 8) = false from e)
 refine zG zE (NS.call (most58_ok t d _ a.ct a.od a.q6 a.hh) rfl ?_)
 refine zG zE (NS.call (flow58_ok t d _ l a.ct a.od a.hh (by omega)) rfl ?_)
 refine zG zE (NS.call (cap58_ok t d _ c a.ct a.od a.q6 a.hh (by omega)) rfl ?_)
 obtain ⟨h,hh⟩:∃ h,h = (d.dead - d.ready + 1).toNat:=⟨_,rfl⟩
 have hf:=flowR_le (t:=t) (d:=d) (h:=h) (l:=l) (chkT_ok a.ct) a.od (by rw [hh];exact a.hh) (by omega)
 have hc:=capR_ge (t:=t) (d:=d) (h:=h) (c:=c) (chkT_ok a.ct) a.od (by rw [hh];exact a.hh)
 rw [<- hh]
 refine zG zE (NS.yes (rfl) ?_)
 refine zG zE (NS.ite (fun f1=>?_) (fun f1=>?_))
 ·refine zG zE (NS.ite (fun f2=>?_) (fun f2=>?_))
  ·refine zG zE (NS.call (aw) rfl ?_)
   exact zG zE (NS.ret rfl rfl (LeA.refl _))
  ·have f2:(capR t d h c).2 = 0:=by simpa using show ((capR t d h c).2 != 0) = false from f2
   refine zG zE (NS.yes (by show decide ((capR t d h c).1 >= mostV t d h) = true;exact decide_eq_true (hc f2)) ?_)
   refine zG zE (NS.call (aw) rfl ?_)
   exact zG zE (NS.ret rfl rfl (LeA.refl _))
 ·have f1:(flowR t d h l).2 = 0:=by simpa using show ((flowR t d h l).2 != 0) = false from f1
  refine zG zE (NS.yes (by show decide ((flowR t d h l).1 <= mostV t d h) = true;exact decide_eq_true (hf f1)) ?_)
  refine zG zE (NS.ite (fun f2=>?_) (fun f2=>?_))
  ·refine zG zE (NS.call (aw) rfl ?_)
   exact zG zE (NS.ret rfl rfl (LeA.refl _))
  ·have f2:(capR t d h c).2 = 0:=by simpa using show ((capR t d h c).2 != 0) = false from f2
   refine zG zE (NS.yes (by show decide ((capR t d h c).1 >= mostV t d h) = true;exact decide_eq_true (hc f2)) ?_)
   refine zG zE (NS.call (aw) rfl ?_)
   exact zG zE (NS.ret rfl rfl (LeA.refl _))
end Go.Proofs.YtjhmdfofhnijeaaGreatDoor
namespace Go.Mb
open Go.Sy
def shSpn:List Sh:=[.int .i64,.int .i64]
def ofSpn (f:Nat -> A):Spn:=⟨intA (f 0),intA (f 1)⟩
theorem cellsSpn {f:Nat -> A} (h:ShAs shSpn f 0):∀ j,j < 2 -> f j = getA (ofSpn f).cells j:=by
 obtain ⟨h0,h1,_⟩:=h
 intro j hj
 match j,hj with
 | 0,_=>exact int_of h0
 | 1,_=>exact int_of h1
theorem listSpn {n:Nat} {el:Nat -> Nat -> A} (h:∀ i,i < n -> ShAs shSpn (el i) 0):∃ l:List Spn,l.length = n /\ LeA (.sl 2 n el) (slS l):=by
 refine ⟨(List.range n).map fun i=>ofSpn (el i),by simp,LeA.sl (by simp) fun i hi j hj=>?_⟩
 rw [cellsSpn (h i hi) j hj]
 simp [rowL,hi]
end Go.Mb
namespace Go.Proofs.YtjhmdfofhnijeaaGreatDoor
open Go.Sy Go.Mb
set_option maxRecDepth 100000
theorem listCut:∀ {n:Nat} {el:Nat -> Nat -> Go.Sy.A},(∀ i,i < n -> ShAs [.sl 2 shSpn] (el i) 0) -> ∃ c:List (List Spn),c.length = n /\ ∀ i,i < n -> LeA (el i 0) (slS (c.getD i default))
 | 0,el,_=>⟨[],rfl,fun i hi=>absurd hi (Nat.not_lt_zero i)⟩
 | n + 1,el,h=>by
  obtain ⟨c,hc,hl⟩:=listCut (n:=n) (el:=el) fun i hi=>h i (by omega)
  obtain ⟨⟨m,e1,h0,_,hel⟩,_⟩:=h n (Nat.lt_succ_self n)
  obtain ⟨l,_,hle⟩:=listSpn hel
  refine ⟨c ++ [l],by simp [hc],fun i hi=>?_⟩
  by_cases e:i < n
  ·rw [getD_append_left (by omega)];exact hl i e
  ·obtain rfl:i = n:=by omega
   rw [getD_append_right (by omega),hc,Nat.sub_self]
   rw [show el i 0 = _ from h0];exact hle
section
variable {H:Type} {enc:TypeId × Value -> H} {W:World} {base:Nat} {spare:Nat -> Bool} {held:Bool} {v:Value} {dd:DataW H} {ps:List MemPlace} {r:Reach} {b0:Nat}
theorem argCut (hok:Value.okWide Tryz.prog W r b0 34 v) (h:DataW.Trod enc Tryz.prog W base spare held 34 v dd ps):∃ x:List (List Spn),R W (fun _=>False) (cutA x) virg v:=by
 obtain ⟨cs,hl,hr,hs⟩:=lift_arg (X:=fun _=>False) (fun _ h=>h) (show shOf Tryz.prog 8 34 = some [.sl 1 [.sl 2 shSpn]] by kernel_rfl) hok h
 have harg:argA Tryz.prog 34 cs = getA cs 0:=by unfold argA;rw [show isAggT Tryz.prog 34 = some false by kernel_rfl]
 rw [harg] at hr
 obtain ⟨⟨n,el,e0,_,hel⟩,_⟩:=hs
 obtain ⟨c,hc,hle⟩:=listCut hel
 rw [show getA cs 0 = _ from e0] at hr
 exact ⟨c,LeA.slLe hc.symm (fun i hi j hj=>by rw [Nat.lt_one_iff.1 hj];exact hle i hi) _ _ _ _ hr⟩
end
end Go.Proofs.YtjhmdfofhnijeaaGreatDoor
