import Derived.Test.YtjhmdfofhnijeaaGreatDoorQ2
import Derived.Test.YtjhmdfofhnijeaaGreatDoorF1
set_option linter.unusedSimpArgs false
set_option linter.unusedSectionVars false
set_option linter.unusedVariables false
namespace Go.Proofs.YtjhmdfofhnijeaaGreatDoor
open Go.Sy Go.Mb
set_option maxRecDepth 100000
set_option maxHeartbeats 4000000
theorem part_int {P:Program} {t:TypeId} (ht:P.underlying t = some (.int .i64)) (w:World) (cs:Array Value) (off:Nat) (v:Value) (h:cs[off]? = some v):(part t cs off).run P w = .ok v w:=by
 simp [part,isAgg,run_underlying ht,h]
theorem check_int {P:Program} {t:TypeId} (ht:P.underlying t = some (.int .i64)) (w:World) (em:Bool) (n:Nat) (a:Int):(Instr.checkKey em (n + 1) t (.int .i64 a)).run P w = .ok () w:=by
 unfold Instr.checkKey
 simp only [Sem.run_bind,run_underlying ht,Result.andThen_ok]
 rfl
theorem key_check (w:World) (em:Bool) (q:List Int) (hq:q.length = 2):(Instr.checkKey em 10000 188 (kvOf true q)).run Tryz.prog w = .ok () w:=by
 match q,hq with
 | [a,b],_=>
  rw [show (10000:Nat) = 9998 + 1 + 1 from rfl]
  unfold Instr.checkKey
  simp only [kvOf,Sem.run_bind,run_underlying Tryz.underlying188,Result.andThen_ok]
  have p0:=part_int Tryz.underlying3 w #[Value.int .i64 a,Value.int .i64 b] 0 _ rfl
  have p1:=part_int Tryz.underlying3 w #[Value.int .i64 a,Value.int .i64 b] 1 _ rfl
  simp [p0,p1,check_int Tryz.underlying3 w em 9998]
def eqTabP:List (TypeId × List Go.Sy.CK):=[(188,[.i .i64,.i .i64])]
theorem eqTabP_ok:EqTab Tryz.prog eqTabP:=by
 intro p hp
 simp only [eqTabP,List.mem_cons,List.not_mem_nil,or_false] at hp
 rcases hp with rfl
 exact ⟨by kernel_rfl,by kernel_rfl,by rw [Tryz.underlying188];trivial⟩
theorem mapPl:MapTab Tryz.prog [(190,true,2)]:=by
 intro p hp
 obtain rfl:=List.mem_singleton.1 hp
 exact ⟨188,3,by kernel_rfl,mapLaw_struct eqTabP_ok rfl ⟨_,Tryz.underlying188⟩ key_check⟩
noncomputable def EPl:Env:={ P:=Tryz.prog,eqT:=lookE eqTabP,mps:=lookMp [(190,true,2)] }
theorem EPl_ok:EqOK EPl:=eqOK_mp eqTabP_ok mapPl
noncomputable def CPl:Cx:={ E:=EPl,inl:=[70,71,82,130,132,190],ok:=EPl_ok }
def numP (r H:Int) (q:List Int):Int:=q.headD 0 * H + (q.getD 1 0 - r)
def hasP (r H c:Int) (q:List Int):Bool:=decide (0 <= q.headD 0 /\ r <= q.getD 1 0 /\ q.getD 1 0 < r + H /\ numP r H q < c)
def mapP (r H c:Int):Ob:=.mp 190 true 2 true [] (hasP r H c) (fun q=>.int .i64 (numP r H q))
def plcC (r H:Int) (i:Nat):List A:=[.int .i64 ((i:Int) / H),.int .i64 (r + (i:Int) % H)]
theorem num_inj {r H x y x' y':Int} (hx:r <= y /\ y < r + H) (hx':r <= y' /\ y' < r + H) (h:numP r H [x,y] = numP r H [x',y']):x = x' /\ y = y':=by
 have h:x * H + (y - r) = x' * H + (y' - r):=h
 have hH:H ≠ 0:=by omega
 have e1:(x * H + (y - r)) / H = x:=by rw [Int.add_comm,Int.add_mul_ediv_right _ _ hH,Int.ediv_eq_zero_of_lt (by omega) (by omega)];omega
 have e2:(x' * H + (y' - r)) / H = x':=by rw [Int.add_comm,Int.add_mul_ediv_right _ _ hH,Int.ediv_eq_zero_of_lt (by omega) (by omega)];omega
 have e:x = x':=by rw [<- e1,<- e2,h]
 subst e
 exact ⟨rfl,by omega⟩
theorem plc_put {r H x y c:Int} (hx:0 <= x) (hy:r <= y /\ y < r + H) (hc:numP r H [x,y] = c) {q:List Int} (hq:q.length = 2):
  lookM (hasP r H c) (fun q=>A.int .i64 (numP r H q)) [([x,y],some (.int .i64 c))] q = lookM (hasP r H (c + 1)) (fun q=>A.int .i64 (numP r H q)) [] q:=by
 match q,hq with
 | [a,b],_=>
  by_cases e:[a,b] = [x,y]
  ·have h1:eqKs [a,b] [x,y] = true:=eqKs_iff.2 e
   have h2:hasP r H (c + 1) [a,b] = true:=by rw [e];exact decide_eq_true ⟨hx,hy.1,hy.2,by omega⟩
   simp only [lookM,h1,h2]
   rw [e,hc]
  ·have h1:eqKs [a,b] [x,y] = false:=eqKs_f e
   have h2:hasP r H (c + 1) [a,b] = hasP r H c [a,b]:=by
    unfold hasP
    refine decide_eq_decide.2 ⟨fun h=>⟨h.1,h.2.1,h.2.2.1,?_⟩,fun h=>⟨h.1,h.2.1,h.2.2.1,by omega⟩⟩
    have hne:numP r H [a,b] ≠ c:=fun k=>by
     have:=num_inj (x:=a) (y:=b) (x':=x) (y':=y) ⟨h.2.1,h.2.2.1⟩ hy (k.trans hc.symm)
     exact e (by rw [this.1,this.2])
    omega
   simp only [lookM,h1,h2]
theorem look_0 (r:Int) (h:Nat) {q:List Int} (hq:q.length = 2):lookM (fun _=>false) (fun _=>A.junk) [] q = lookM (hasP r h ((0 * h:Nat):Int)) (fun q=>A.int .i64 (numP r h q)) [] q:=by
 have:hasP r h ((0 * h:Nat):Int) q = false:=decide_eq_false fun k=>by
  obtain ⟨h1,h2,h3,h4⟩:=k
  unfold numP at h4
  have:=Int.mul_nonneg h1 (Int.natCast_nonneg h)
  omega
 simp only [lookM,this]
def netC (t:Tbl) (d:Dem) (p m:A):List A:=[slN t.plan.qs,slCtc t.plan.cts,slBkg t.bks,slHld t.hlds,.int .i64 d.src,.int .i64 d.dst,.int .i64 d.vol,.int .i64 d.ready,.int .i64 d.dead,p,m]
theorem renNet (σ:Nat -> Nat) (t:Tbl) (d:Dem) {i j k:Nat} (h:σ i = j) (h':σ k = k):RenL σ (netC t d (.own i) (.yld k)) (netC t d (.own j) (.yld k)):=⟨_,_,rfl,rfl,_,_,rfl,rfl,_,_,rfl,rfl,_,_,rfl,rfl,_,_,rfl,rfl,_,_,rfl,rfl,_,_,rfl,rfl,_,_,rfl,rfl,_,_,rfl,rfl,_,_,rfl,by rw [<- h];rfl,_,_,rfl,by show A.yld k = A.yld (σ k);rw [h'],rfl⟩
def rowP (r:Int) (h c:Nat):Ob:=.row 188 2 c (fun i j=>getA (plcC r h i) j)
theorem has_in {r x y:Int} {h n:Nat} (hx:0 <= x /\ x < (n:Int)) (hy:r <= y /\ y < r + (h:Int)):hasP r h ((n * h:Nat):Int) [x,y] = true:=by
 refine decide_eq_true ⟨hx.1,hy.1,hy.2,?_⟩
 show x * (h:Int) + (y - r) < _
 have h1:(x + 1) * (h:Int) <= (n:Int) * (h:Int):=Int.mul_le_mul_of_nonneg_right (by omega) (by omega)
 rw [Int.add_mul] at h1
 rw [Int.natCast_mul]
 omega
theorem row_plc {r:Int} {h k m q j:Nat} (hm:m < h) {ex:Nat -> Nat -> A} (hx:∀ j,j < 2 -> ex 0 j = getA [.int .i64 (k:Nat),.int .i64 (r + (m:Nat))] j) (hq:q < k * h + m + 1) (hj:j < 2):(if q < k * h + m then getA (plcC r h q) j else ex (q - (k * h + m)) j) = getA (plcC r h q) j:=by
 by_cases c:q < k * h + m
 ·rw [if_pos c]
 ·rw [if_neg c]
  obtain rfl:q = k * h + m:=by omega
  rw [Nat.sub_self,hx j hj]
  have e1:((k * h + m:Nat):Int) / (h:Int) = (k:Int):=by
   rw [<- Int.natCast_ediv,Nat.mul_comm,Nat.mul_add_div (by omega),Nat.div_eq_of_lt hm];rfl
  have e2:((k * h + m:Nat):Int) % (h:Int) = (m:Int):=by
   rw [<- Int.natCast_emod,Nat.mul_comm,Nat.mul_add_mod,Nat.mod_eq_of_lt hm]
  unfold plcC
  rw [e1,e2]
theorem numP_at (r:Int) (h A B:Nat):numP r h [(A:Int),r + (B:Int)] = ((A * h + B:Nat):Int):=by
 show (A:Int) * (h:Int) + (r + (B:Int) - r) = _
 rw [Int.natCast_add,Int.natCast_mul];omega
theorem nroom_ok (t:Tbl) (d:Dem) (hp:OkT t) (n:Nat) (el:Nat -> Nat -> A) (node time:Int) (hn:0 <= node /\ node < (t.plan.qs.length:Int)):FnOK Tryz.prog 131 [.ip 11 (getA (netC t d (.sl 2 n el) .junk)),.agg [.int .i64 node,.int .i64 time]] (.int .i64 (roomM t d node time),none):=by
 obtain ⟨R,hR⟩:∃ R,R = roomM t d node time:=⟨_,rfl⟩
 rw [<- hR]
 unfold roomM at hR
 have hl:=hp.h.len
 have hq:=hp.p.qs (t.plan.qs.getD node.toNat default) (by rw [getD_lt (by omega)];exact List.getElem_mem _)
 refine fn_ok CM rfl (by kernel_rfl) Tryz.func131 rfl ?_
 refine zG zE (NS.chk (by kernel_rfl) ?_)
 have both:node = d.src \/ node = d.dst -> R = 1099511627776:=fun h=>by rw [hR,if_pos h]
 refine zG zE (NS.ite (fun a=>?_) (fun a=>?_))
 ·have a:node = d.src:=eq_of_beq (show (node == d.src) = true from a)
  exact zG zE (NS.ret rfl rfl (LeA.of (congrArg (A.int .i64) ((both (.inl a)).symm))))
 have a:node ≠ d.src:=ne_of_beq_false (show (node == d.src) = false from a)
 refine zG zE (NS.ite (fun b=>?_) (fun b=>?_))
 ·have b:node = d.dst:=eq_of_beq (show (node == d.dst) = true from b)
  exact zG zE (NS.ret rfl rfl (LeA.of (congrArg (A.int .i64) ((both (.inr b)).symm))))
 have b:node ≠ d.dst:=ne_of_beq_false (show (node == d.dst) = false from b)
 rw [if_neg (by rintro (h | h);exact a h;exact b h)] at hR
 repeat' (first | (refine zG zE (NS.chk (by kernel_rfl) ?_)) | (refine zG zE (NS.need (by show decide (0 <= node /\ node < (t.plan.qs.length:Int)) = true;exact decide_eq_true hn) ?_)))
 refine zG zE ?_
 refine NS.loop (σ:={ q:Nat × Int // q.1 <= t.hlds.length /\ holdsM node time (t.hlds.drop q.1) q.2 = R /\ -(65536 * (q.1:Int)) <= q.2 /\ q.2 <= 1073741824 }) (fun q=>[(3,.ptr 3 0),(5,.int .i64 q.1.2),(40,slHld t.hlds),(41,.int .i64 t.hlds.length),(42,.int .i64 (q.1.1:Nat))]) (fun _=>[(3,.box [.int .i64 node,.int .i64 time])]) (fun q=>t.hlds.length - q.1.1) ⟨(0,t.plan.qs.getD node.toNat default),Nat.zero_le _,hR.symm,by show -(65536 * (0:Int)) <= _;omega,hq.2⟩ ?_ ?_
 ·exact weak_hd [] rfl ⟨rfl,rfl,rfl,rfl,rfl,trivial⟩ ⟨⟨_,rfl,_,_,rfl,rfl,_,_,rfl,rfl,rfl⟩,trivial⟩ trivial (by kernel_rfl)
 rintro ⟨⟨k,n⟩,hk,hx,h1,h2⟩
 have hk:k <= t.hlds.length:=hk
 have hx:holdsM node time (t.hlds.drop k) n = R:=hx
 have h1:-(65536 * (k:Int)) <= n:=h1
 have h2:n <= 1073741824:=h2
 by_cases c:k < t.hlds.length
 ·have hs:=hp.h.all (t.hlds.getD k default) (by rw [getD_lt c];exact List.getElem_mem _)
  have hs:=hs.size
  rw [drop_cons c,holdsM] at hx
  refine zG zE (NS.yes (by show decide ((k:Int) < (t.hlds.length:Int)) = true;exact decide_eq_true (by omega)) ?_)
  refine zG zE (NS.need (in_row c) ?_)
  refine zG zE (NS.ite (fun b1=>?_) (fun b1=>?_))
  ·have b1:((t.hlds.getD k default).node == node) = true:=b1
   refine zG zE (NS.ite (fun b2=>?_) (fun b2=>?_))
   ·have b2:decide ((t.hlds.getD k default).fr <= time) = true:=b2
    refine zG zE (NS.ite (fun b3=>?_) (fun b3=>?_))
    ·have b3:decide (time < (t.hlds.getD k default).to) = true:=b3
     rw [if_pos (by unfold inH;rw [b1,b2,b3];rfl)] at hx
     have e1:IntKind.i64.wrap (n - (t.hlds.getD k default).size) = n - (t.hlds.getD k default).size:=wrap_i64 (by omega) (by omega)
     refine zG zE (NS.next ⟨(k + 1,n - (t.hlds.getD k default).size),c,hx,by show -(65536 * ((k + 1:Nat):Int)) <= n - _;omega,by show n - _ <= 1073741824;omega⟩ (by show t.hlds.length - (k + 1) < t.hlds.length - k;omega) ?_)
     exact weak_hd [] rfl ⟨rfl,ren_int rfl e1,rfl,rfl,ren_int rfl (i64_k c (by omega)),trivial⟩ ⟨⟨_,rfl,_,_,rfl,rfl,_,_,rfl,rfl,rfl⟩,trivial⟩ trivial (by kernel_rfl)
    ·have b3:decide (time < (t.hlds.getD k default).to) = false:=b3
     rw [if_neg (by unfold inH;rw [b3];simp)] at hx
     refine zG zE (NS.next ⟨(k + 1,n),c,hx,by show -(65536 * ((k + 1:Nat):Int)) <= n;omega,h2⟩ (by show t.hlds.length - (k + 1) < t.hlds.length - k;omega) ?_)
     exact weak_hd [] rfl ⟨rfl,rfl,rfl,rfl,ren_int rfl (i64_k c (by omega)),trivial⟩ ⟨⟨_,rfl,_,_,rfl,rfl,_,_,rfl,rfl,rfl⟩,trivial⟩ trivial (by kernel_rfl)
   ·have b2:decide ((t.hlds.getD k default).fr <= time) = false:=b2
    rw [if_neg (by unfold inH;rw [b2];simp)] at hx
    refine zG zE (NS.next ⟨(k + 1,n),c,hx,by show -(65536 * ((k + 1:Nat):Int)) <= n;omega,h2⟩ (by show t.hlds.length - (k + 1) < t.hlds.length - k;omega) ?_)
    exact weak_hd [] rfl ⟨rfl,rfl,rfl,rfl,ren_int rfl (i64_k c (by omega)),trivial⟩ ⟨⟨_,rfl,_,_,rfl,rfl,_,_,rfl,rfl,rfl⟩,trivial⟩ trivial (by kernel_rfl)
  ·have b1:((t.hlds.getD k default).node == node) = false:=b1
   rw [if_neg (by unfold inH;rw [b1];simp)] at hx
   refine zG zE (NS.next ⟨(k + 1,n),c,hx,by show -(65536 * ((k + 1:Nat):Int)) <= n;omega,h2⟩ (by show t.hlds.length - (k + 1) < t.hlds.length - k;omega) ?_)
   exact weak_hd [] rfl ⟨rfl,rfl,rfl,rfl,ren_int rfl (i64_k c (by omega)),trivial⟩ ⟨⟨_,rfl,_,_,rfl,rfl,_,_,rfl,rfl,rfl⟩,trivial⟩ trivial (by kernel_rfl)
 ·have c:t.hlds.length = k:=by omega
  subst c
  refine zG zE (NS.no (by show decide ((t.hlds.length:Int) < (t.hlds.length:Int)) = false;exact decide_eq_false (Int.lt_irrefl _)) ?_)
  refine zG zE (NS.leave rfl zE ?_)
  rw [List.drop_length,holdsM] at hx
  refine zG zE (NS.ret rfl rfl (LeA.intE hx))
def rowA (l:List Arc):Ob:=.row 199 3 l.length (rowL Arc.cells l)
def arcsK (t:Tbl) (d:Dem) (h k:Nat) (l:List Int):List Arc:=(waitX t d h (t.plan.qs.length * h) ++ (List.range k).flatMap (conX t d h) ++ l.map (cX t d h k)).map XA.arc
theorem arcsK_0 (t:Tbl) (d:Dem) (h:Nat):arcsK t d h 0 [] = (waitX t d h (t.plan.qs.length * h)).map XA.arc:=by unfold arcsK;simp
def tickK (t:Tbl) (d:Dem) (k j m:Nat):List Int:=((freeM t.plan t.bks k).take j).flatMap (spanT d (t.plan.cts.getD k default).rng) ++ (List.range m).map fun i=>loT d ((freeM t.plan t.bks k).getD j default) + (i:Nat)
theorem flatMap_len {α β:Type} {f:α -> List β} {n:Nat}:∀ {L:List α},(∀ x ∈ L,(f x).length <= n) -> (L.flatMap f).length <= L.length * n
 | [],_=>Nat.zero_le _
 | x :: L,h=>by
  have h1:=h x List.mem_cons_self
  have h2:=flatMap_len (L:=L) fun y hy=>h y (List.mem_cons_of_mem _ hy)
  rw [List.flatMap_cons,List.length_append,List.length_cons,Nat.add_mul]
  omega
theorem tickK_all (t:Tbl) (d:Dem) (k:Nat):tickK t d k (freeM t.plan t.bks k).length 0 = tickM t d k:=by
 unfold tickK tickM
 rw [List.take_length,List.range_zero,List.map_nil,List.append_nil]
theorem tickK_len {t:Tbl} (ok:OkT t) (d:Dem) (k j m:Nat) (hh:d.dead - d.ready <= 24):(tickK t d k j m).length <= 24 + m:=by
 have h1:=tickM_len ok d k
 have h2:tickM t d k = ((freeM t.plan t.bks k).take j).flatMap (spanT d (t.plan.cts.getD k default).rng) ++ ((freeM t.plan t.bks k).drop j).flatMap (spanT d (t.plan.cts.getD k default).rng):=by
  rw [<- List.flatMap_append,List.take_append_drop];rfl
 rw [h2,List.length_append] at h1
 unfold tickK
 rw [List.length_append,List.length_map,List.length_range]
 omega
theorem arcsK_len {t:Tbl} (ok:OkT t) {d:Dem} {h k j m:Nat} (hm:m <= 25) (hk:k < t.plan.cts.length) (hh:d.dead - d.ready <= 24):(arcsK t d h k (tickK t d k j m)).length <= t.plan.qs.length * h + 64 * 24 + 49:=by
 have h1:=waitX_len t d h (t.plan.qs.length * h)
 have h2:=tickK_len ok d k j m hh
 have h3:((List.range k).flatMap (conX t d h)).length <= (List.range k).length * 24:=flatMap_len fun x _=>by
  unfold conX
  rw [List.length_map]
  have:=tickM_len ok d x
  omega
 have h4:=ok.p.m
 rw [List.length_range] at h3
 unfold arcsK
 rw [List.length_map,List.length_append,List.length_append,List.length_map]
 have:k * 24 <= 64 * 24:=Nat.mul_le_mul_right 24 (by omega)
 omega
theorem tickK_succ (t:Tbl) (d:Dem) (k j m:Nat):tickK t d k j (m + 1) = tickK t d k j m ++ [loT d ((freeM t.plan t.bks k).getD j default) + (m:Nat)]:=by
 unfold tickK
 rw [List.range_succ,List.map_append,<- List.append_assoc];rfl
theorem tickK_next {t:Tbl} {d:Dem} {k j:Nat} (hj:j < (freeM t.plan t.bks k).length):tickK t d k (j + 1) 0 = tickK t d k j (hiT d (t.plan.cts.getD k default).rng ((freeM t.plan t.bks k).getD j default) - loT d ((freeM t.plan t.bks k).getD j default)).toNat:=by
 unfold tickK
 rw [take_snoc hj,List.flatMap_append,List.range_zero,List.map_nil,List.append_nil]
 congr 1
 rw [List.flatMap_cons,List.flatMap_nil,List.append_nil];rfl
theorem arcsK_snoc (t:Tbl) (d:Dem) (h k:Nat) (l:List Int) (u:Int):arcsK t d h k (l ++ [u]) = arcsK t d h k l ++ [(cX t d h k u).arc]:=by
 unfold arcsK
 rw [List.map_append (f:=cX t d h k),<- List.append_assoc,List.map_append (l₂:=List.map (cX t d h k) [u])];rfl
theorem arcsK_next (t:Tbl) (d:Dem) (h k:Nat):arcsK t d h k (tickM t d k) = arcsK t d h (k + 1) []:=by
 unfold arcsK
 rw [List.range_succ,List.flatMap_append,List.map_nil,List.append_nil,List.append_assoc]
 simp [conX]
theorem arcsK_end (t:Tbl) (d:Dem) (h:Nat):arcsK t d h t.plan.cts.length [] = arcsM t d h:=by
 unfold arcsK arcsM xarcs
 rw [List.map_nil,List.append_nil]
theorem chkB_of {t:Tbl} (h:chkT t = 0):chkB t.plan t.bks = 0:=by
 unfold chkT at h
 split at h
 ·rename_i h1
  rw [h] at h1
  exact absurd h1 (by decide)
 ·split at h
  ·rename_i h1
   rw [h] at h1
   exact absurd h1 (by decide)
  ·rename_i h1
   simpa using h1
def graphA (t:Tbl) (d:Dem) (h:Nat):List Go.Sy.A:=[.int .i64 ((t.plan.qs.length * h:Nat):Int),slArc (arcsM t d h),.int .i64 ((d.src.toNat * h:Nat):Int),.int .i64 ((d.dst.toNat * h + (h - 1):Nat):Int)]
theorem graph_ok (t:Tbl) (d:Dem) (h:Nat) (ht:chkT t = 0) (hd:OkD t.plan.qs.length d) (hq:t.plan.qs.length <= 6) (hH:d.dead = d.ready + h - 1 /\ 2 <= h /\ h <= 25):FnOK Tryz.prog 56 [.agg t.cells,.agg d.cells] (.tup [.agg (graphA t d h),.int .i64 0],none):=by
 have hh:d.dead - d.ready <= 24:=by omega
 have n1:((d.src.toNat * h:Nat):Int) = numP d.ready h [d.src,d.ready]:=by have:=numP_at d.ready h d.src.toNat 0;rw [Int.toNat_of_nonneg hd.src.1,Nat.add_zero] at this;rw [<- this];simp
 have n2:((d.dst.toNat * h + (h - 1):Nat):Int) = numP d.ready h [d.dst,d.dead]:=by have:=numP_at d.ready h d.dst.toNat (h - 1);rw [Int.toNat_of_nonneg hd.dst.1,show d.ready + ((h - 1:Nat):Int) = d.dead by omega] at this;exact this.symm
 unfold graphA
 rw [<- arcsK_end,n1,n2]
 obtain ⟨r,hr⟩:∃ r,r = d.ready:=⟨_,rfl⟩
 have hr0:=hd.ready
 have hrd:=hd.dead
 have okt:=chkT_ok ht
 have hb:=chkB_of ht
 have hbl:=okt.b.len
 have hc:=okt.p.m
 refine fn_ok CPl rfl (by kernel_rfl) Tryz.func56 rfl ?_
 refine zG zE (NS.call (valid_ok t d ht hd) rfl ?_)
 refine zG zE (NS.no (rfl) ?_)
 refine zG zE ?_
 refine NS.loop (σ:={ k:Nat // k <= t.plan.qs.length }) (fun k=>[(3,.ptr 22 0),(6,.ptr 37 0),(22,.int .i64 t.plan.qs.length),(23,.int .i64 (k.1:Nat))]) (fun k=>[(22,.box d.cells),(35,mapP d.ready h ((k.1 * h:Nat):Int)),(37,.box (netC t d (.own 79) (.yld 35))),(79,rowP d.ready h (k.1 * h))]) (fun k=>t.plan.qs.length - k.1) ⟨0,Nat.zero_le _⟩ ?_ ?_
 ·refine (weak_promoteB 37 9 79 188 2 (fun i j=>getA (plcC d.ready h i) j) rfl rfl rfl).trans ?_
  exact weak_hd [] rfl ⟨rfl,rfl,rfl,rfl,trivial⟩ ⟨⟨_,rfl,renDem _ _⟩,⟨_,_,_,rfl,rfl,fun q hq=>look_0 d.ready h hq⟩,⟨_,rfl,renNet _ _ _ rfl rfl⟩,ren_row rfl (by show 0 = 0 * h;omega) (fun q hq=>absurd hq (by show ¬ q < 0 * h;omega)),trivial⟩ (Pre_cut (by kernel_rfl)) (by kernel_rfl)
 rintro ⟨k,hk⟩
 have hk:k <= t.plan.qs.length:=hk
 by_cases a:k < t.plan.qs.length
 ·refine zG zE (NS.yes (by show decide ((k:Int) < (t.plan.qs.length:Int)) = true;exact decide_eq_true (by omega)) ?_)
  refine zG zE ?_
  refine NS.loop (σ:={ m:Nat // m <= h }) (fun m=>[(3,.ptr 22 0),(6,.ptr 37 0),(7,.int .i64 (k:Nat)),(8,.int .i64 (d.ready + (m.1:Nat))),(22,.int .i64 t.plan.qs.length),(23,.int .i64 (k:Nat))]) (fun m=>[(22,.box d.cells),(35,mapP d.ready h ((k * h + m.1:Nat):Int)),(37,.box (netC t d (.own 79) (.yld 35))),(79,rowP d.ready h (k * h + m.1))]) (fun m=>h - m.1) ⟨0,Nat.zero_le _⟩ ?_ ?_
  ·exact weak_hd [] rfl ⟨rfl,rfl,rfl,ren_int rfl (by show d.ready = d.ready + ((0:Nat):Int);omega),rfl,rfl,trivial⟩ ⟨⟨_,rfl,renDem _ _⟩,⟨_,_,_,rfl,rfl,fun q hq=>rfl⟩,⟨_,rfl,renNet _ _ _ rfl rfl⟩,ren_row rfl rfl (fun q hq j hj=>rfl),trivial⟩ (Pre_cut (by kernel_rfl)) (by kernel_rfl)
  rintro ⟨m,hm⟩
  have hm:m <= h:=hm
  by_cases b:m < h
  ·refine zG zE (NS.yes (by show decide (d.ready + (m:Int) <= d.dead) = true;exact decide_eq_true (by omega)) ?_)
   have hb:k * h + m <= 150:=by have:=Nat.mul_le_mul (show k <= 5 by omega) hH.2.2;omega
   refine zG zE (NS.chk (by kernel_rfl) ?_)
   refine zG zE (NS.chk (by kernel_rfl) ?_)
   refine zG zE (NS.need (decide_eq_true (by show (k * h + m + 1) * (15 + 1 + 1) <= maxRow;simp only [maxRow];omega)) ?_)
   have hw:IntKind.i64.wrap (d.ready + (m:Int) + 1) = d.ready + ((m + 1:Nat):Int):=by rw [wrap_i64 (by omega) (by omega)];omega
   have hn:numP d.ready h [(k:Int),d.ready + (m:Int)] = ((k * h + m:Nat):Int):=by unfold numP;show (k:Int) * (h:Int) + (d.ready + (m:Int) - d.ready) = _;rw [Int.natCast_add,Int.natCast_mul];omega
   refine zG zE (NS.next ⟨m + 1,b⟩ (by show h - (m + 1) < h - m;omega) ?_)
   exact weak_hd [(79,73)] rfl ⟨rfl,rfl,rfl,ren_int rfl hw,rfl,rfl,trivial⟩ ⟨⟨_,rfl,renDem _ _⟩,⟨_,_,_,rfl,rfl,fun q hq=>plc_put (Int.natCast_nonneg k) (by omega) hn hq⟩,⟨_,rfl,renNet _ _ _ rfl rfl⟩,ren_row rfl rfl (fun q hq j hj=>by show (if q < k * h + m then getA (plcC d.ready h q) j else (fun i j=>getA [.int .i64 (k:Nat),.int .i64 (d.ready + (m:Nat))] (i * 2 + j)) (q - (k * h + m)) j) = getA (plcC d.ready h q) j;exact row_plc (r:=d.ready) (ex:=fun i j=>getA [.int .i64 (k:Nat),.int .i64 (d.ready + (m:Nat))] (i * 2 + j)) b (fun j hj=>by show getA _ (0 * 2 + j) = _;rw [Nat.zero_mul,Nat.zero_add]) hq hj),trivial⟩ (Pre_cut (by kernel_rfl)) (by kernel_rfl)
  have b:h = m:=by omega
  subst b
  refine zG zE (NS.no (by show decide (d.ready + (h:Int) <= d.dead) = false;exact decide_eq_false (by omega)) ?_)
  refine zG zE (NS.leave rfl zE ?_)
  have e:k * h + h = (k + 1) * h:=(Nat.succ_mul k h).symm
  refine zG zE (NS.next ⟨k + 1,a⟩ (by show t.plan.qs.length - (k + 1) < t.plan.qs.length - k;omega) ?_)
  exact weak_hd [] rfl ⟨rfl,rfl,rfl,ren_int rfl (i64_k a (by omega)),trivial⟩ ⟨⟨_,rfl,renDem _ _⟩,⟨_,_,_,rfl,rfl,fun q hq=>by rw [e]⟩,⟨_,rfl,renNet _ _ _ rfl rfl⟩,ren_row rfl e (fun q hq j hj=>rfl),trivial⟩ (Pre_cut (by kernel_rfl)) (by kernel_rfl)
 have a:t.plan.qs.length = k:=by omega
 subst a
 refine zG zE (NS.no (by show decide ((t.plan.qs.length:Int) < (t.plan.qs.length:Int)) = false;exact decide_eq_false (Int.lt_irrefl _)) ?_)
 refine zG zE (NS.leave rfl zE ?_)
 have hin:∀ x y:Int,0 <= x /\ x < (t.plan.qs.length:Int) -> d.ready <= y /\ y <= d.dead -> hasP d.ready h ((t.plan.qs.length * h:Nat):Int) [x,y] = true:=fun x y hx hy=>has_in hx (by omega)
 refine zG zE (NS.chk (by kernel_rfl) ?_)
 refine zG zE (NS.yes (hin _ _ hd.src ⟨Int.le_refl _,by omega⟩) ?_)
 refine zG zE (NS.yes (hin _ _ hd.dst ⟨by omega,Int.le_refl _⟩) ?_)
 refine zG zE ?_
 refine NS.loop (σ:={ i:Nat // i <= t.plan.qs.length * h }) (fun i=>[(0,.yld 136),(1,.ptr 135 0),(2,.ptr 139 0),(13,.own 79),(14,.int .i64 ((t.plan.qs.length * h:Nat):Int)),(15,.int .i64 (i.1:Nat))]) (fun i=>[(83,.box [.int .i64 ((t.plan.qs.length * h:Nat):Int),.own 150,.int .i64 (numP d.ready h [d.src,d.ready]),.int .i64 (numP d.ready h [d.dst,d.dead])]),(139,.box [.yld 136]),(150,rowA ((waitX t d h i.1).map XA.arc))]) (fun i=>t.plan.qs.length * h - i.1) ⟨0,Nat.zero_le _⟩ ?_ ?_
 ·refine (weak_promoteB 83 1 150 199 3 (rowL Arc.cells []) rfl rfl rfl).trans ?_
  exact weak_hd [] rfl ⟨rfl,rfl,rfl,rfl,rfl,rfl,trivial⟩ ⟨⟨_,rfl,_,_,rfl,rfl,_,_,rfl,rfl,_,_,rfl,rfl,_,_,rfl,rfl,rfl⟩,⟨_,rfl,_,_,rfl,rfl,rfl⟩,ren_row rfl rfl (fun q hq=>absurd hq (Nat.not_lt_zero q)),trivial⟩ (Pre_cut (by kernel_rfl)) (by kernel_rfl)
 rintro ⟨i,hi⟩
 have hi:i <= t.plan.qs.length * h:=hi
 by_cases a:i < t.plan.qs.length * h
 ·refine zG zE (NS.yes (by show decide ((i:Int) < ((t.plan.qs.length * h:Nat):Int)) = true;exact decide_eq_true (by omega)) ?_)
  refine zG zE (NS.need (in_row a) ?_)
  refine zG zE (NS.need (in_rowN a) ?_)
  obtain ⟨A,B,hA,hB,rfl⟩:∃ A B:Nat,A < t.plan.qs.length /\ B < h /\ i = A * h + B:=⟨i / h,i % h,vtx_place (by omega) a⟩
  have hN:t.plan.qs.length * h <= 150:=by have:=Nat.mul_le_mul hq hH.2.2;omega
  have q1:((A * h + B:Nat):Int) / (h:Int) = (A:Int):=by rw [<- Int.natCast_ediv,num_div hB]
  have q2:((A * h + B:Nat):Int) % (h:Int) = (B:Int):=by rw [<- Int.natCast_emod,num_mod hB]
  have q3:(A * h + B) % h = B:=num_mod hB
  have q4:(A * h + B) / h = A:=num_div hB
  refine zG zE (NS.chk (by kernel_rfl) ?_)
  by_cases b:B = h - 1
  ·have wE:waitX t d h (A * h + B + 1) = waitX t d h (A * h + B):=by rw [waitX_succ,q3,if_pos b,List.append_nil]
   refine zG zE (NS.yes (by show ((d.ready + ((A * h + B:Nat):Int) % (h:Int)) == d.dead) = true;rw [q2,b];exact beq_iff_eq.2 (by omega)) ?_)
   refine zG zE (NS.next ⟨A * h + B + 1,a⟩ (by show t.plan.qs.length * h - (A * h + B + 1) < t.plan.qs.length * h - (A * h + B);omega) ?_)
   exact weak_hd [] rfl ⟨rfl,rfl,rfl,rfl,rfl,ren_int rfl (i64_k a (by omega)),trivial⟩ ⟨⟨_,rfl,_,_,rfl,rfl,_,_,rfl,rfl,_,_,rfl,rfl,_,_,rfl,rfl,rfl⟩,⟨_,rfl,_,_,rfl,rfl,rfl⟩,ren_row rfl (by rw [wE]) (fun q hq j hj=>by rw [wE]),trivial⟩ (Pre_cut (by kernel_rfl)) (by kernel_rfl)
  ·have wE:waitX t d h (A * h + B + 1) = waitX t d h (A * h + B) ++ [wX t d h (A * h + B)]:=by rw [waitX_succ,q3,if_neg b]
   have q5:IntKind.i64.wrap (d.ready + (B:Int) + 1) = d.ready + ((B + 1:Nat):Int):=by rw [wrap_i64 (by omega) (by omega)];omega
   refine zG zE (NS.no (by show ((d.ready + ((A * h + B:Nat):Int) % (h:Int)) == d.dead) = false;rw [q2];exact beq_false_of_ne (by omega)) ?_)
   refine zG zE (NS.chk (by kernel_rfl) ?_)
   refine zG zE (NS.yes (by show hasP d.ready h ((t.plan.qs.length * h:Nat):Int) [((A * h + B:Nat):Int) / (h:Int),d.ready + ((A * h + B:Nat):Int) % (h:Int)] = true;rw [q1,q2];exact hin _ _ (by omega) (by omega)) ?_)
   refine zG zE (NS.yes (by show hasP d.ready h ((t.plan.qs.length * h:Nat):Int) [((A * h + B:Nat):Int) / (h:Int),IntKind.i64.wrap (d.ready + ((A * h + B:Nat):Int) % (h:Int) + 1)] = true;rw [q1,q2,q5];exact hin _ _ (by omega) (by omega)) ?_)
   refine zG zE (NS.call ((nroom_ok t d (chkT_ok ht) (t.plan.qs.length * h) (fun i j=>getA (plcC d.ready h i) j) A (d.ready + (B:Int)) (by omega)).le (LeL.cons (LeA.refl _) (LeL.cons (LeA.of (by show Go.Sy.A.agg [.int .i64 (((A * h + B:Nat):Int) / (h:Int)),.int .i64 (d.ready + ((A * h + B:Nat):Int) % (h:Int))] = _;rw [q1,q2])) LeL.nil))) rfl ?_)
   refine zG zE (NS.need (decide_eq_true (by have:=waitX_len t d h (A * h + B);show (((waitX t d h (A * h + B)).map XA.arc).length + 1) * (23 + 1 + 1) <= maxRow;rw [List.length_map];simp only [maxRow];omega)) ?_)
   have hcs:[Go.Sy.A.int .i64 (numP d.ready h [((A * h + B:Nat):Int) / (h:Int),d.ready + ((A * h + B:Nat):Int) % (h:Int)]),.int .i64 (numP d.ready h [((A * h + B:Nat):Int) / (h:Int),IntKind.i64.wrap (d.ready + ((A * h + B:Nat):Int) % (h:Int) + 1)]),.int .i64 (roomM t d A (d.ready + (B:Int)))] = Arc.cells (wX t d h (A * h + B)).arc:=by
    have e3:(wX t d h (A * h + B)).arc = ⟨((A * h + B:Nat):Int),((A * h + B:Nat):Int) + 1,roomM t d A (d.ready + (B:Int))⟩:=by unfold wX timeN;rw [q3,q4]
    rw [e3,q1,q2,q5,numP_at,numP_at];rfl
   refine zG zE (NS.next ⟨A * h + B + 1,a⟩ (by show t.plan.qs.length * h - (A * h + B + 1) < t.plan.qs.length * h - (A * h + B);omega) ?_)
   exact weak_hd [(150,293)] rfl ⟨rfl,rfl,rfl,rfl,rfl,ren_int rfl (i64_k a (by omega)),trivial⟩ ⟨⟨_,rfl,_,_,rfl,rfl,_,_,rfl,rfl,_,_,rfl,rfl,_,_,rfl,rfl,rfl⟩,⟨_,rfl,_,_,rfl,rfl,rfl⟩,ren_row rfl (by rw [wE,List.map_append];simp) (fun q hq j hj=>by rw [wE,List.map_append] at hq ⊢;exact row_snoc (cells:=Arc.cells) (x:=(wX t d h (A * h + B)).arc) hcs q (by simpa using hq) j hj),trivial⟩ (Pre_cut (by kernel_rfl)) (by kernel_rfl)
 have a:t.plan.qs.length * h = i:=by omega
 subst a
 refine zG zE (NS.no (by show decide (((t.plan.qs.length * h:Nat):Int) < ((t.plan.qs.length * h:Nat):Int)) = false;exact decide_eq_false (Int.lt_irrefl _)) ?_)
 refine zG zE (NS.leave rfl zE ?_)
 refine zG zE ?_
 refine NS.loop (σ:={ k:Nat // k <= t.plan.cts.length }) (fun k=>[(0,.yld 136),(1,.ptr 135 0),(2,.ptr 139 0),(61,slCtc t.plan.cts),(62,.int .i64 t.plan.cts.length),(63,.int .i64 (k.1:Nat))]) (fun k=>[(83,.box [.int .i64 ((t.plan.qs.length * h:Nat):Int),.own 150,.int .i64 (numP d.ready h [d.src,d.ready]),.int .i64 (numP d.ready h [d.dst,d.dead])]),(139,.box [.yld 136]),(150,rowA (arcsK t d h k.1 []))]) (fun k=>t.plan.cts.length - k.1) ⟨0,Nat.zero_le _⟩ ?_ ?_
 ·exact weak_hd [] rfl ⟨rfl,rfl,rfl,rfl,rfl,rfl,trivial⟩ ⟨⟨_,rfl,_,_,rfl,rfl,_,_,rfl,rfl,_,_,rfl,rfl,_,_,rfl,rfl,rfl⟩,⟨_,rfl,_,_,rfl,rfl,rfl⟩,ren_row rfl (by rw [arcsK_0]) (fun q hq j hj=>by rw [arcsK_0]),trivial⟩ (Pre_cut (by kernel_rfl)) (by kernel_rfl)
 rintro ⟨k,hk⟩
 have hk:k <= t.plan.cts.length:=hk
 by_cases a:k < t.plan.cts.length
 ·refine zG zE (NS.yes (by show decide ((k:Int) < (t.plan.cts.length:Int)) = true;exact decide_eq_true (by omega)) ?_)
  refine zG zE (NS.need (in_row a) ?_)
  have cF:=Free_ok t.plan t.bks k a hb (by omega) (by omega) (by omega)
  refine zG zE (NS.chk (by kernel_rfl) ?_)
  refine zG zE (NS.need (in_row a) ?_)
  refine zG zE (NS.chk (by kernel_rfl) ?_)
  refine zG zE (NS.call (cF) rfl ?_)
  obtain ⟨c,hcE⟩:∃ c,c = t.plan.cts.getD k default:=⟨_,rfl⟩
  have okc:=okt.p.cts c (by rw [hcE,getD_lt a];exact List.getElem_mem _)
  have hfl:(freeM t.plan t.bks k).length <= 1000:=by
   have:=freeL_len (t.plan.cts.getD k default).stop (busyM t.bks k) (t.plan.cts.getD k default).start []
   have h1:=busyM_len t.bks k
   unfold freeM
   simp only [List.length_nil] at this
   omega
  have fsp:=free_spec okt.b k
  refine zG zE ?_
  refine NS.loop (σ:={ j:Nat // j <= (freeM t.plan t.bks k).length }) (fun j=>[(0,.yld 246),(1,.ptr 244 0),(2,.ptr 245 0),(4,.ptr 251 0),(34,slS (freeM t.plan t.bks k)),(35,.int .i64 (freeM t.plan t.bks k).length),(36,.int .i64 (j.1:Nat))]) (fun j=>[(83,.box [.int .i64 ((t.plan.qs.length * h:Nat):Int),.own 260,.int .i64 (numP d.ready h [d.src,d.ready]),.int .i64 (numP d.ready h [d.dst,d.dead])]),(150,.dead),(251,.box (t.plan.cts.getD k default).cells),(260,rowA (arcsK t d h k (tickK t d k j.1 0)))]) (fun j=>(freeM t.plan t.bks k).length - j.1) ⟨0,Nat.zero_le _⟩ ?_ ?_
  ·refine (moveB 83 1 150 260 rfl rfl rfl rfl).weak.trans ?_
   exact weak_hd [] rfl ⟨rfl,rfl,rfl,rfl,rfl,rfl,rfl,trivial⟩ ⟨⟨_,rfl,_,_,rfl,rfl,_,_,rfl,rfl,_,_,rfl,rfl,_,_,rfl,rfl,rfl⟩,rfl,⟨_,rfl,renCtc _ _⟩,ren_row rfl rfl (fun q hq j hj=>rfl),trivial⟩ (Pre_cut (by kernel_rfl)) (by kernel_rfl)
  rintro ⟨j,hj⟩
  have hj:j <= (freeM t.plan t.bks k).length:=hj
  by_cases b:j < (freeM t.plan t.bks k).length
  ·obtain ⟨x,hx⟩:∃ x,x = (freeM t.plan t.bks k).getD j default:=⟨_,rfl⟩
   have hxs:=fsp.all x (by rw [hx,getD_lt b];exact List.getElem_mem _)
   refine zG zE (NS.yes (by show decide ((j:Int) < ((freeM t.plan t.bks k).length:Int)) = true;exact decide_eq_true (by omega)) ?_)
   refine zG zE (NS.need (in_row b) ?_)
   refine zG zE (NS.chk (by kernel_rfl) ?_)
   obtain ⟨L,hL⟩:∃ L,L = loT d x:=⟨_,rfl⟩
   obtain ⟨M,hM⟩:∃ M,M = (hiT d c.rng x - L).toNat:=⟨_,rfl⟩
   have hL1:d.ready <= L /\ x.lo <= L /\ (L = d.ready \/ L = x.lo):=by rw [hL];unfold loT;split <;> omega
   have hM1:∀ m:Nat,m < M ↔ L + (m:Int) < x.hi /\ L + (m:Int) + 1 + c.rng <= d.dead:=by intro m;rw [hM];unfold hiT;split <;> omega
   have hM2:M <= 25:=by rw [hM];unfold hiT;have:=okc.rng;split <;> omega
   have hx2:=okc.time
   rw [<- hcE] at hxs
   have hcr:=okc.rng
   refine zG zE ?_
   refine NS.loop (σ:={ m:Nat // m <= M }) (fun m=>[(0,.yld 246),(1,.ptr 244 0),(2,.ptr 245 0),(4,.ptr 251 0),(8,.ptr 255 0),(9,.int .i64 (L + (m.1:Nat))),(34,slS (freeM t.plan t.bks k)),(35,.int .i64 (freeM t.plan t.bks k).length),(36,.int .i64 (j:Nat))]) (fun m=>[(83,.box [.int .i64 ((t.plan.qs.length * h:Nat):Int),.own 260,.int .i64 (numP d.ready h [d.src,d.ready]),.int .i64 (numP d.ready h [d.dst,d.dead])]),(150,.dead),(251,.box c.cells),(255,.box x.cells),(260,rowA (arcsK t d h k (tickK t d k j m.1)))]) (fun m=>M - m.1) ⟨0,Nat.zero_le _⟩ ?_ ?_
   ·exact weak_hd [] rfl ⟨rfl,rfl,rfl,rfl,rfl,ren_int rfl (by rw [hL,hx];exact (Int.add_zero _).symm),rfl,rfl,rfl,trivial⟩ ⟨⟨_,rfl,_,_,rfl,rfl,_,_,rfl,rfl,_,_,rfl,rfl,_,_,rfl,rfl,rfl⟩,rfl,⟨_,rfl,by rw [hcE];exact renCtc _ _⟩,⟨_,rfl,by rw [hx];exact ⟨_,_,rfl,rfl,_,_,rfl,rfl,rfl⟩⟩,ren_row rfl rfl (fun q hq j hj=>rfl),trivial⟩ (Pre_cut (by kernel_rfl)) (by kernel_rfl)
   rintro ⟨m,hm⟩
   have hm:m <= M:=hm
   have w1:IntKind.i64.wrap (L + (m:Int) + 1) = L + ((m + 1:Nat):Int):=by rw [wrap_i64 (by omega) (by omega)];omega
   have w2:IntKind.i64.wrap (IntKind.i64.wrap (L + (m:Int) + 1) + c.rng) = L + (m:Int) + 1 + c.rng:=by rw [w1,wrap_i64 (by omega) (by omega)];omega
   refine zG zE (NS.chk (by kernel_rfl) ?_)
   by_cases e:m < M
   ·obtain ⟨e1,e2⟩:=(hM1 m).1 e
    refine zG zE (NS.yes (by show decide (L + (m:Int) < x.hi) = true;exact decide_eq_true e1) ?_)
    refine zG zE (NS.yes (by show decide (IntKind.i64.wrap (IntKind.i64.wrap (L + (m:Int) + 1) + c.rng) <= d.dead) = true;rw [w2];exact decide_eq_true e2) ?_)
    refine zG zE (NS.chk (by kernel_rfl) ?_)
    have k1:0 <= (t.plan.cts.getD k default).fr /\ (t.plan.cts.getD k default).fr < (t.plan.qs.length:Int):=by rw [<- hcE];exact okc.fr
    have k2:0 <= (t.plan.cts.getD k default).to /\ (t.plan.cts.getD k default).to < (t.plan.qs.length:Int):=by rw [<- hcE];exact okc.to
    have w3:IntKind.i64.wrap (IntKind.i64.wrap (L + (m:Int) + 1) + (t.plan.cts.getD k default).rng) = L + (m:Int) + 1 + c.rng:=by rw [<- hcE];exact w2
    refine zG zE (NS.yes (hin _ _ k1 (by show d.ready <= L + (m:Int) /\ L + (m:Int) <= d.dead;omega)) ?_)
    refine zG zE (NS.yes (hin _ _ k2 (by show d.ready <= IntKind.i64.wrap (IntKind.i64.wrap (L + (m:Int) + 1) + (t.plan.cts.getD k default).rng) /\ IntKind.i64.wrap (IntKind.i64.wrap (L + (m:Int) + 1) + (t.plan.cts.getD k default).rng) <= d.dead;rw [w3];omega)) ?_)
    have hlen:=arcsK_len okt (h:=h) (k:=k) (j:=j) (m:=m) (by omega) a hh
    have hqh:t.plan.qs.length * h <= 150:=by have:=Nat.mul_le_mul hq hH.2.2;omega
    refine zG zE (NS.need (decide_eq_true (by show ((arcsK t d h k (tickK t d k j m)).length + 1) * (23 + 1 + 1) <= maxRow;simp only [maxRow];omega)) ?_)
    have hcs:[Go.Sy.A.int .i64 (numP d.ready h [(t.plan.cts.getD k default).fr,L + (m:Int)]),.int .i64 (numP d.ready h [(t.plan.cts.getD k default).to,IntKind.i64.wrap (IntKind.i64.wrap (L + (m:Int) + 1) + (t.plan.cts.getD k default).rng)]),.int .i64 (t.plan.cts.getD k default).rate] = Arc.cells (cX t d h k (L + (m:Int))).arc:=by
     rw [w3,hcE];rfl
    have hsn:arcsK t d h k (tickK t d k j (m + 1)) = arcsK t d h k (tickK t d k j m) ++ [(cX t d h k (L + (m:Int))).arc]:=by rw [tickK_succ,<- hx,<- hL,arcsK_snoc]
    refine zG zE (NS.next ⟨m + 1,e⟩ (by show M - (m + 1) < M - m;omega) ?_)
    exact weak_hd [(260,475)] rfl ⟨rfl,rfl,rfl,rfl,rfl,ren_int rfl w1,rfl,rfl,rfl,trivial⟩ ⟨⟨_,rfl,_,_,rfl,rfl,_,_,rfl,rfl,_,_,rfl,rfl,_,_,rfl,rfl,rfl⟩,rfl,⟨_,rfl,renCtc _ _⟩,⟨_,rfl,_,_,rfl,rfl,_,_,rfl,rfl,rfl⟩,ren_row rfl (by rw [hsn,List.length_append];rfl) (fun q hq j hj=>by rw [hsn] at hq ⊢;exact row_snoc (cells:=Arc.cells) (x:=(cX t d h k (L + (m:Int))).arc) hcs q (by simpa using hq) j hj),trivial⟩ (Pre_cut (by kernel_rfl)) (by kernel_rfl)
   have e:M = m:=by omega
   subst e
   have e3:=fun q=>(hM1 M).2 q
   have hsp:arcsK t d h k (tickK t d k j M) = arcsK t d h k (tickK t d k (j + 1) 0):=by rw [tickK_next b,<- hx,<- hcE,<- hL,<- hM]
   by_cases e1:L + (M:Int) < x.hi
   ·refine zG zE (NS.yes (by show decide (L + (M:Int) < x.hi) = true;exact decide_eq_true e1) ?_)
    refine zG zE (NS.no (by show decide (IntKind.i64.wrap (IntKind.i64.wrap (L + (M:Int) + 1) + c.rng) <= d.dead) = false;rw [w2];exact decide_eq_false fun q=>Nat.lt_irrefl _ (e3 ⟨e1,q⟩)) ?_)
    refine zG zE (NS.leave rfl zE ?_)
    refine zG zE (NS.next ⟨j + 1,b⟩ (by show (freeM t.plan t.bks k).length - (j + 1) < (freeM t.plan t.bks k).length - j;omega) ?_)
    exact weak_hd [] rfl ⟨rfl,rfl,rfl,rfl,rfl,rfl,ren_int rfl (i64_k b (by omega)),trivial⟩ ⟨⟨_,rfl,_,_,rfl,rfl,_,_,rfl,rfl,_,_,rfl,rfl,_,_,rfl,rfl,rfl⟩,rfl,⟨_,rfl,by rw [hcE];exact renCtc _ _⟩,ren_row rfl (by rw [hsp]) (fun q hq j hj=>by rw [hsp]),trivial⟩ (Pre_cut (by kernel_rfl)) (by kernel_rfl)
   ·refine zG zE (NS.no (by show decide (L + (M:Int) < x.hi) = false;exact decide_eq_false e1) ?_)
    refine zG zE (NS.leave rfl zE ?_)
    refine zG zE (NS.next ⟨j + 1,b⟩ (by show (freeM t.plan t.bks k).length - (j + 1) < (freeM t.plan t.bks k).length - j;omega) ?_)
    exact weak_hd [] rfl ⟨rfl,rfl,rfl,rfl,rfl,rfl,ren_int rfl (i64_k b (by omega)),trivial⟩ ⟨⟨_,rfl,_,_,rfl,rfl,_,_,rfl,rfl,_,_,rfl,rfl,_,_,rfl,rfl,rfl⟩,rfl,⟨_,rfl,by rw [hcE];exact renCtc _ _⟩,ren_row rfl (by rw [hsp]) (fun q hq j hj=>by rw [hsp]),trivial⟩ (Pre_cut (by kernel_rfl)) (by kernel_rfl)
  have b:(freeM t.plan t.bks k).length = j:=by omega
  subst b
  refine zG zE (NS.no (by show decide (((freeM t.plan t.bks k).length:Int) < ((freeM t.plan t.bks k).length:Int)) = false;exact decide_eq_false (Int.lt_irrefl _)) ?_)
  refine zG zE (NS.leave rfl zE ?_)
  have hfin:arcsK t d h k (tickK t d k (freeM t.plan t.bks k).length 0) = arcsK t d h (k + 1) []:=by rw [tickK_all,arcsK_next]
  refine zG zE (NS.next ⟨k + 1,a⟩ (by show t.plan.cts.length - (k + 1) < t.plan.cts.length - k;omega) ?_)
  exact weak_hd [(150,260)] rfl ⟨rfl,rfl,rfl,rfl,rfl,ren_int rfl (i64_k a (by omega)),trivial⟩ ⟨⟨_,rfl,_,_,rfl,rfl,_,_,rfl,rfl,_,_,rfl,rfl,_,_,rfl,rfl,rfl⟩,⟨_,rfl,_,_,rfl,rfl,rfl⟩,ren_row rfl (by rw [hfin]) (fun q hq j hj=>by rw [hfin]),trivial⟩ (Pre_cut (by kernel_rfl)) (by kernel_rfl)
 have a:t.plan.cts.length = k:=by omega
 subst a
 refine zG zE (NS.no (by show decide ((t.plan.cts.length:Int) < (t.plan.cts.length:Int)) = false;exact decide_eq_false (Int.lt_irrefl _)) ?_)
 refine zG zE (NS.leave rfl zE ?_)
 exact zG zE (NS.ret rfl rfl (LeA.refl _))
theorem roomM_ok {t:Tbl} (ok:OkT t) (d:Dem) {a:Nat} (ha:a < t.plan.qs.length) (u:Int):0 <= roomM t d (a:Nat) u /\ roomM t d (a:Nat) u <= 1099511627776:=by
 unfold roomM
 split
 ·omega
 ·rw [holdsM_eq]
  have h1:=sto_fit ok.p ok.h.all ok.h.fit ha u
  have h2:=sto_bound (node:=(a:Int)) (t:=u) (l:=t.hlds) fun x hx=>(ok.h.all x hx).size
  have h3:=ok.p.qs (t.plan.qs.getD a default) (by rw [getD_lt ha];exact List.getElem_mem _)
  have h4:t.plan.qs.getD (a:Int).toNat 0 = t.plan.qs.getD a default:=rfl
  rw [h4]
  omega
theorem arcs_ok {t:Tbl} (ok:OkT t) {d:Dem} {h:Nat} (h2:2 <= h) (hv:d.dead = d.ready + (h:Int) - 1):∀ a ∈ arcsM t d h,OkA (t.plan.qs.length * h) a:=by
 intro a ha
 obtain ⟨y,hy,rfl⟩:=List.mem_map.1 ha
 obtain ⟨g1,g2,g3,g4,g5⟩:=arcs_vtx ok h2 hv hy
 refine ⟨⟨g1,g2⟩,⟨g3,g4⟩,g5,?_⟩
 rcases (mem_xarcs ok).1 hy with ⟨i,hi,hm,rfl⟩ | ⟨ct,u,hc,hu,rfl⟩
 ·exact roomM_ok ok d (wX_place (by omega) hi hm).1 _
 ·have:=(ok.p.cts (t.plan.cts.getD ct default) (by rw [getD_lt hc];exact List.getElem_mem _)).rate
  show 0 <= (t.plan.cts.getD ct default).rate /\ (t.plan.cts.getD ct default).rate <= 1099511627776
  omega
theorem arcs_few {t:Tbl} (ok:OkT t) {d:Dem} {h:Nat} (hq:t.plan.qs.length <= 6) (h25:h <= 25) (hh:d.dead - d.ready <= 24):(arcsM t d h).length <= 20000:=by
 have h1:=waitX_len t d h (t.plan.qs.length * h)
 have h3:((List.range t.plan.cts.length).flatMap (conX t d h)).length <= (List.range t.plan.cts.length).length * 24:=flatMap_len fun x _=>by
  unfold conX
  rw [List.length_map]
  have:=tickM_len ok d x
  omega
 have h4:=ok.p.m
 have h5:=Nat.mul_le_mul hq h25
 rw [List.length_range] at h3
 rw [arcs_len]
 unfold xarcs
 rw [List.length_append]
 omega
def mostV (t:Tbl) (d:Dem) (h:Nat):Int:=maxVal (netA (arcsM t d h)) (t.plan.qs.length * h) (d.src.toNat * h) (d.dst.toNat * h + (h - 1))
def mostL (t:Tbl) (d:Dem) (h:Nat):List Int:=maxL (arcsM t d h) (t.plan.qs.length * h) (d.src.toNat * h) (d.dst.toNat * h + (h - 1))
theorem dem_net {t:Tbl} (ok:OkT t) {d:Dem} (hd:OkD t.plan.qs.length d) {h:Nat} (h2:2 <= h) (hv:d.dead = d.ready + (h:Int) - 1):d.src.toNat * h < t.plan.qs.length * h /\ d.dst.toNat * h + (h - 1) < t.plan.qs.length * h /\ d.src.toNat * h ≠ d.dst.toNat * h + (h - 1) /\ NetOK (netA (arcsM t d h)) (t.plan.qs.length * h) (d.src.toNat * h) (d.dst.toNat * h + (h - 1)):=by
 have hs:=hd.src
 have ht:=hd.dst
 have hne:=hd.ne
 have n1:=num_lt (h:=h) (a:=d.src.toNat) (b:=0) (N:=t.plan.qs.length) (by omega) (by omega)
 have n2:=num_lt (h:=h) (a:=d.dst.toNat) (b:=h - 1) (N:=t.plan.qs.length) (by omega) (by omega)
 have n3:d.src.toNat * h ≠ d.dst.toNat * h + (h - 1):=fun e=>by
  have:=(num_eq (h:=h) (a:=d.src.toNat) (b:=0) (a':=d.dst.toNat) (b':=h - 1) (by omega) (by omega)).1 (by omega)
  omega
 exact ⟨by omega,n2,n3,netA_ok (arcs_ok ok h2 hv) (by omega) n2 n3⟩
theorem pmax_ok (t:Tbl) (d:Dem) (h:Nat) (ht:chkT t = 0) (hd:OkD t.plan.qs.length d) (hq:t.plan.qs.length <= 6) (hH:d.dead = d.ready + h - 1 /\ 2 <= h /\ h <= 25):FnOK Tryz.prog 20 [.agg t.cells,.agg d.cells] (.tup [.agg (graphA t d h),slN (mostL t d h),.int .i64 (mostV t d h),.int .i64 0],none):=by
 have ok:=chkT_ok ht
 obtain ⟨n1,n2,n3,n4⟩:=dem_net ok hd hH.2.1 hH.1
 have hN:=Nat.mul_le_mul hq hH.2.2
 have cg:=graph_ok t d h ht hd hq hH
 have cm:=max_ok (t.plan.qs.length * h) (arcsM t d h) (d.src.toNat * h) (d.dst.toNat * h + (h - 1)) (by omega) (arcs_few ok hq hH.2.2 (by omega)) (arcs_ok ok hH.2.1 hH.1) n1 n2 n3
 refine fn_ok CM rfl (by kernel_rfl) Tryz.func20 rfl ?_
 refine zG zE (NS.call (cg) rfl ?_)
 refine zG zE (NS.no (rfl) ?_)
 refine zG zE (NS.call (cm) rfl ?_)
 refine zG zE (NS.no (rfl) ?_)
 exact zG zE (NS.ret rfl rfl (LeA.refl _))
theorem most58_ok (t:Tbl) (d:Dem) (h:Nat) (ht:chkT t = 0) (hd:OkD t.plan.qs.length d) (hq:t.plan.qs.length <= 6) (hH:d.dead = d.ready + h - 1 /\ 2 <= h /\ h <= 25):FnOK Tryz.prog 7 [.agg t.cells,.agg d.cells] (.tup [.int .i64 (mostV t d h),.int .i64 0],none):=by
 have cm:=pmax_ok t d h ht hd hq hH
 refine fn_ok CM rfl (by kernel_rfl) Tryz.func7 rfl ?_
 refine zG zE (NS.call (cm) rfl ?_)
 exact zG zE (NS.ret rfl rfl (LeA.refl _))
theorem most_ge {t:Tbl} (ok:OkT t) {d:Dem} (hd:OkD t.plan.qs.length d) {h:Nat} (h2:2 <= h) (hv:d.dead = d.ready + (h:Int) - 1) {l:List Shp} (hl:∀ x ∈ l,OkS t d x) (hp:l.Pairwise nxtS) (hlen:l.length <= 60)
  (c1:∀ a b:Nat,a < t.plan.qs.length -> b < h -> 0 <= stM t d l a b) (c2:∀ a:Nat,a < t.plan.qs.length -> (a:Int) ≠ d.src -> (a:Int) ≠ d.dst -> stM t d l a ((h - 1:Nat):Int) = 0)
  (c3:∀ a b:Nat,a < t.plan.qs.length -> (a:Int) ≠ d.src -> (a:Int) ≠ d.dst -> b + 1 < h -> stM t d l a b <= roomM t d a (d.ready + (b:Int))):stM t d l d.dst ((h - 1:Nat):Int) <= mostV t d h:=by
 obtain ⟨n1,n2,n3,n4⟩:=dem_net ok hd h2 hv
 obtain ⟨g1,g2⟩:=ship_flow ok hd h2 hv hl hp hlen c1 c2 c3
 rw [<- g2]
 refine maxVal_ge n4 (fun k hk=>?_) g1
 exact (arcs_ok ok h2 hv _ (by rw [getD_lt hk];exact List.getElem_mem _)).cap.1
theorem most_le {t:Tbl} (ok:OkT t) {d:Dem} (hd:OkD t.plan.qs.length d) {h:Nat} (h2:2 <= h) (hv:d.dead = d.ready + (h:Int) - 1) {S:Nat -> Bool} (hs:S (d.src.toNat * h) = true) (ht:S (d.dst.toNat * h + (h - 1)) = false):mostV t d h <= sumL (fun a:Arc=>if S a.fr.toNat = true /\ S a.to.toNat = false then a.cap else 0) (arcsM t d h):=by
 obtain ⟨n1,n2,n3,n4⟩:=dem_net ok hd h2 hv
 rw [<- across_list]
 refine maxVal_le n4 (fun k hk=>?_) hs ht
 exact (arcs_ok ok h2 hv _ (by rw [getD_lt hk];exact List.getElem_mem _)).cap.1
end Go.Proofs.YtjhmdfofhnijeaaGreatDoor
