import Derived.Test.YtjhmdfofhnijeaaGreatDoorQ1
import Derived.Shelf.Sort.Plain
import Derived.Shelf.Slices.In.SortNone
set_option linter.unusedSimpArgs false
set_option linter.unusedSectionVars false
set_option linter.unusedVariables false
namespace Go.Sy
open Go.RowKit Go.Sort Go.Shelf Go.Proofs
section
variable {α:Type} [Inhabited α] {enc:α -> Value} {w:World} {g o m:Nat} {d:Array α} {os:Array Obj}
theorem heap_same {b:Nat} (hb:b < w.heap.size) (hne:b ≠ g):(grow (putRow enc (Sort.ahead w m) g o d) os).heap[b]? = w.heap[b]?:=by
 simp only [grow,putRow,mapBlock,Sort.ahead]
 rw [Array.getElem?_append_left (by simpa using hb),Array.getElem?_modify,if_neg (Ne.symm hne)]
theorem heap_here {c:Array Value} {e:TypeId} {fr:Nat × Nat} (hg:w.heap[g]? = some (.cells c e fr)):(grow (putRow enc (Sort.ahead w m) g o d) os).heap[g]? = some (.cells (putCells enc o d c) e fr):=by
 have hb:g < w.heap.size:=by
  rcases Nat.lt_or_ge g w.heap.size with h | h
  ·exact h
  ·rw [Array.getElem?_eq_none h] at hg;cases hg
 simp only [grow,putRow,mapBlock,Sort.ahead]
 rw [Array.getElem?_append_left (by simpa using hb),Array.getElem?_modify,if_pos rfl,hg]
 rfl
theorem heap_below:Bel 0 w (grow (putRow enc (Sort.ahead w m) g o d) os):=
 ⟨rfl,rfl,rfl,by simp [grow,putRow,mapBlock,Sort.ahead],fun k hk=>by omega,trivial⟩
theorem frozen_no {c:Array Value} {e:TypeId} {fz:Nat × Nat} (hg:w.heap[g]? = some (.cells c e fz)) (hz:c.size <= fz.1 \/ fz.2 = 0) (j:Nat) (hj:j < c.size):w.frozen? ⟨g,j,none⟩ = false:=by
 obtain ⟨lo,hi⟩:=fz
 simp only [World.frozen?,hg,Bool.and_eq_false_iff,decide_eq_false_iff_not]
 simp only at hz
 omega
theorem take_put {c:Array Value} {n o:Nat} (hn:d.size = n) (hc:o + n <= c.size):((putCells enc o d c).toList.drop o).take n = d.toList.map enc:=by
 apply List.ext_getElem?
 intro k
 rw [List.getElem?_take]
 split
 ·rename_i hk
  have hk':k < d.size:=by omega
  rw [List.getElem?_drop]
  simp only [putCells,Array.toList_mapIdx,List.getElem?_mapIdx,List.getElem?_map]
  rw [List.getElem?_eq_getElem (by simp;omega),List.getElem?_eq_getElem (by simpa using hk')]
  simp only [Option.map_some]
  rw [if_pos (by omega),Nat.add_sub_cancel_left,getElem!_pos d k hk']
  simp
 ·rename_i hk
  rw [List.getElem?_eq_none]
  simp;omega
end
def elI (l:List Int):Nat -> Nat -> A:=fun i j=>getA [.int .i64 (l.getD i default)] j
theorem ObR_ints {w:World} {O:Nat -> Prop} {e:TypeId} {zs:List Int} {l:Loc} (h:ObR w O virg (.row e 1 zs.length (elI zs)) l):∃ v,l = .row v /\ rowR w e 1 v zs.length (zs.map (Value.int .i64)):=by
 obtain ⟨v,xs,h1,h2,h3,h4⟩:=h
 refine ⟨v,h1,?_⟩
 have hx:xs = zs.map (Value.int .i64):=by
  apply List.ext_getElem?
  intro k
  have hl:=h2.1
  rcases Nat.lt_or_ge k zs.length with hk | hk
  ·obtain ⟨u,h5,h6⟩:=h4 k hk 0 (by omega)
   simp only [Nat.mul_one,Nat.add_zero] at h5
   simp only [elI,getA,R] at h6
   rw [h5,h6]
   simp [List.getD,hk]
  ·rw [List.getElem?_eq_none (by omega),List.getElem?_eq_none (by simp;omega)]
 rw [<- hx]
 exact h2
theorem ints_ObR {w:World} {O:Nat -> Prop} {e:TypeId} {zs:List Int} {v:Value} (h:rowR w e 1 v zs.length (zs.map (Value.int .i64))):ObR w O virg (.row e 1 zs.length (elI zs)) (.row v):=by
 refine ⟨v,_,rfl,h,?_,fun i hi j hj=>?_⟩
 ·intro u hu
  simp only [List.mem_map] at hu
  obtain ⟨x,_,rfl⟩:=hu
  rfl
 ·obtain rfl:j = 0:=by omega
  refine ⟨.int .i64 (zs.getD i default),?_,rfl⟩
  simp [List.getD,hi]
def srt (zs:List Int):List Int:=zs.mergeSort fun x y=>decide (x <= y)
theorem srt_len (zs:List Int):(srt zs).length = zs.length:=by simp [srt]
theorem sortI_mu {P:Program} {ρ:Ren} (L:Lays.n189 P ρ) (hent:entB P (ρ.f 189) = true) (zs:List Int) (e:TypeId) (hsz:zs.length < 4611686018427387904):
  FnMu P (ρ.f 189) [.own 0] (.row e 1 zs.length (elI zs)) (fun ob r=>ob = .row e 1 zs.length (elI (srt zs)) /\ r = .tup []):=by
 refine ⟨hent,fun w l vs hb hob hr=>?_⟩
 obtain ⟨v,rfl,hx,hh⟩:=ObR_ints hob
 simp only [RL,R,upd_same] at hr
 obtain ⟨v',_,rfl,⟨rfl,_⟩,rfl⟩:=hr
 rcases hh with ⟨hn,a,rfl⟩ | ⟨g,o,cap,cur,rfl,⟨fz,hg,hfz⟩,h1,h2,h3,h4⟩
 ·have hz:zs = []:=List.eq_nil_of_length_eq_zero hn
  subst hz
  refine (Any.slices_Sort_int_none L a 0 w).mono ?_
  rintro e' w' ⟨rfl,rfl⟩
  refine ⟨_,_,_,rfl,⟨rfl,rfl⟩,Bel.refl _ _,fun _ _ _=>rfl,?_,rfl,?_⟩
  ·rw [show srt [] = [] by simp [srt]]
   exact ints_ObR (zs:=[]) ⟨rfl,.inl ⟨rfl,a,rfl⟩⟩
  ·simp [R,RL]
 ·simp only [Nat.mul_one] at h3 h4 hx
  have hg0:g < w.heap.size:=hb g rfl
  have hH:Holds (Value.int .i64) w g o zs.toArray:=by
   intro j hj
   simp only [List.size_toArray] at hj
   refine ⟨?_,frozen_no hg (fzOr hfz) _ (by omega)⟩
   have hcur:w.heap[g]? = some (.cells (List.toArray cur.toList) e fz):=by simpa using hg
   rw [cell_of_block hcur]
   have h5:cur.toList[o + j]? = ((cur.toList.drop o).take zs.length)[j]?:=by rw [List.getElem?_take_of_lt hj,List.getElem?_drop]
   rw [h5,h4]
   simp [hj]
  refine (Any.slices_Sort_int L g o (cap + 1) zs w hH hg0 hsz).mono ?_
  rintro e' w' ⟨rfl,m,os,rfl⟩
  refine ⟨_,_,_,rfl,⟨rfl,rfl⟩,heap_below,fun b hb' hne=>heap_same hb' (fun e=>hne (by rw [e];rfl)),?_,rfl,?_⟩
  ·have hl:=srt_len zs
   have:=ints_ObR (w:=grow (putRow (Value.int .i64) (Sort.ahead w m) g o (srt zs).toArray) os) (O:=fun _=>True) (e:=e) (zs:=srt zs) (v:=.slice (some ⟨g,o,none⟩) zs.length (cap + 1)) ⟨by simp,.inr ⟨g,o,cap,putCells (Value.int .i64) o (srt zs).toArray cur,by rw [hl],⟨fz,heap_here hg,by simpa [putCells] using hfz⟩,by omega,h2,by simp [putCells];omega,?_⟩⟩
   ·rw [hl] at this
    exact this
   ·rw [Nat.mul_one]
    have:=take_put (enc:=Value.int .i64) (d:=(srt zs).toArray) (c:=cur) (n:=(srt zs).length) (o:=o) (by simp) (by omega)
    simpa using this
  ·simp [R,RL]
end Go.Sy
namespace Go.Mb
open Go.Sy
theorem srt_perm (zs:List Int):(srt zs).Perm zs:=List.mergeSort_perm _ _
theorem srt_asc {zs:List Int} (h:zs.Nodup):(srt zs).Pairwise (· < ·):=by
 have h1:(srt zs).Pairwise fun a b=>decide (a <= b) = true:=List.pairwise_mergeSort (by intro a b c h1 h2;simp at *;omega) (by intro a b;simp;omega) zs
 have h2:(srt zs).Nodup:=(srt_perm zs).nodup_iff.2 h
 exact (h1.and h2).imp fun ⟨h3,h4⟩=>by simp at h3;omega
def sumC (f:Int -> Int):List Int -> Int
 | []=>0
 | z :: l=>f z + sumC f l
theorem sumC_append (f:Int -> Int):∀ l m:List Int,sumC f (l ++ m) = sumC f l + sumC f m
 | [],m=>by simp [sumC]
 | z :: l,m=>by simp only [List.cons_append,sumC,sumC_append f l m];omega
theorem sumC_add (f g:Int -> Int):∀ l:List Int,sumC (fun z=>f z + g z) l = sumC f l + sumC g l
 | []=>rfl
 | z :: l=>by simp only [sumC,sumC_add f g l];omega
theorem sumC_sub (f g:Int -> Int):∀ l:List Int,sumC (fun z=>f z - g z) l = sumC f l - sumC g l
 | []=>rfl
 | z :: l=>by simp only [sumC,sumC_sub f g l];omega
theorem sumC_zero:∀ l:List Int,sumC (fun _=>0) l = 0
 | []=>rfl
 | z :: l=>by simp only [sumC,sumC_zero l];rfl
theorem sumC_one (x s:Int):∀ {l:List Int},l.Nodup -> sumC (fun z=>if x = z then s else 0) l = if x ∈ l then s else 0
 | [],_=>rfl
 | z :: l,h=>by
  obtain ⟨h1,h2⟩:=List.nodup_cons.1 h
  simp only [sumC,sumC_one x s h2]
  by_cases e:x = z
  ·subst e
   rw [if_pos rfl,if_neg h1,if_pos List.mem_cons_self];omega
  ·rw [if_neg e]
   by_cases e2:x ∈ l
   ·rw [if_pos e2,if_pos (List.mem_cons_of_mem _ e2)];omega
   ·rw [if_neg e2,if_neg (by simp [e,e2])];rfl
theorem sumC_ch {node t:Int} {T:List Int} (hT:T.Nodup):∀ {l:List Hld},(∀ h ∈ l,h.node = node -> (h.fr ∈ T ↔ h.fr <= t) /\ (h.to ∈ T ↔ h.to <= t)) -> (∀ h ∈ l,h.fr < h.to) -> sumC (fun z=>chM node z l) T = sto node t l
 | [],_,_=>by simp only [chM,sto,sumC_zero]
 | h :: l,H,hlt=>by
  have ih:=sumC_ch (node:=node) (t:=t) hT (l:=l) (fun x hx=>H x (List.mem_cons_of_mem _ hx)) fun x hx=>hlt x (List.mem_cons_of_mem _ hx)
  have hl:=hlt h List.mem_cons_self
  simp only [chM,sto,sumC_add,ih]
  congr 1
  unfold inH dH
  by_cases hn:h.node = node
  ·obtain ⟨h1,h2⟩:=H h List.mem_cons_self hn
   have e:(h.node == node) = true:=by rw [hn];simp
   simp only [e,if_true,Bool.true_and,Bool.and_eq_true,decide_eq_true_eq]
   rw [sumC_sub,sumC_one _ _ hT,sumC_one _ _ hT]
   by_cases h3:h.fr <= t
   ·rw [if_pos (h1.2 h3)]
    by_cases h4:h.to <= t
    ·rw [if_pos (h2.2 h4),if_neg (by omega)];omega
    ·rw [if_neg (fun q=>h4 (h2.1 q)),if_pos (by omega)];omega
   ·rw [if_neg (fun q=>h3 (h1.1 q)),if_neg (fun q=>absurd (h2.1 q) (by omega)),if_neg (by omega)];rfl
  ·have e:(h.node == node) = false:=by simpa using hn
   simp only [e,Bool.false_eq_true,if_false,Bool.false_and,sumC_zero]
def tmS (node:Int) (l:List Hld):List Int:=srt (tmK node l l.length)
theorem tmS_len (node:Int) (l:List Hld):(tmS node l).length <= 2 * l.length:=by
 unfold tmS
 rw [srt_len]
 exact tmK_len node l l.length (Nat.le_refl _)
theorem tmS_asc (node:Int) (l:List Hld):(tmS node l).Pairwise (· < ·):=srt_asc (tmK_nodup node l l.length (Nat.le_refl _))
theorem tmS_mem (node:Int) (l:List Hld) (x:Int):x ∈ tmS node l ↔ ∃ h ∈ l,h.node = node /\ (h.fr = x \/ h.to = x):=by
 unfold tmS
 rw [(srt_perm _).mem_iff,tmK_mem node l l.length (Nat.le_refl _),List.take_length]
theorem asc_take {l:List Int} (h:l.Pairwise (· < ·)) {k:Nat} (hk:k < l.length) (x:Int):x ∈ l.take (k + 1) ↔ x ∈ l /\ x <= l.getD k default:=by
 rw [List.mem_take_iff_getElem]
 rw [getD_lt hk]
 constructor
 ·rintro ⟨i,hi,rfl⟩
  refine ⟨List.getElem_mem _,?_⟩
  rcases Nat.lt_or_ge i k with h1 | h1
  ·have:=List.pairwise_iff_getElem.1 h i k (by omega) hk h1
   omega
  ·have:i = k:=by omega
   subst this;exact Int.le_refl _
 ·rintro ⟨hx,hle⟩
  obtain ⟨i,hi,rfl⟩:=List.getElem_of_mem hx
  refine ⟨i,?_,rfl⟩
  rcases Nat.lt_or_ge k i with h1 | h1
  ·have:=List.pairwise_iff_getElem.1 h k i hk hi h1
   omega
  ·omega
theorem sum_sto {node:Int} {l:List Hld} (hlt:∀ h ∈ l,h.fr < h.to) {k:Nat} (hk:k < (tmS node l).length):sumC (fun z=>chM node z l) ((tmS node l).take (k + 1)) = sto node ((tmS node l).getD k default) l:=by
 have hasc:=tmS_asc node l
 refine sumC_ch (List.Nodup.sublist (List.take_sublist _ _) (hasc.imp fun h=>by omega)) (fun h hh hn=>?_) hlt
 rw [asc_take hasc hk,asc_take hasc hk]
 exact ⟨⟨fun q=>q.2,fun q=>⟨(tmS_mem node l _).2 ⟨h,hh,hn,.inl rfl⟩,q⟩⟩,⟨fun q=>q.2,fun q=>⟨(tmS_mem node l _).2 ⟨h,hh,hn,.inr rfl⟩,q⟩⟩⟩
def lvK (node:Int) (l:List Hld) (k:Nat):List Spn:=(((tmS node l).take k).filter fun z=>!(chM node z l == 0)).map fun z=>⟨z,sto node z l⟩
theorem lvK_succ {node:Int} {l:List Hld} {k:Nat} (hk:k < (tmS node l).length):lvK node l (k + 1) = if chM node ((tmS node l).getD k default) l == 0 then lvK node l k else lvK node l k ++ [⟨(tmS node l).getD k default,sto node ((tmS node l).getD k default) l⟩]:=by
 unfold lvK
 rw [take_snoc hk,List.filter_append,List.map_append]
 generalize (tmS node l).getD k default = z
 cases h:chM node z l == 0 <;> simp [List.filter_cons,h]
theorem lvK_len (node:Int) (l:List Hld) (k:Nat):(lvK node l k).length <= 2 * l.length:=by
 unfold lvK
 rw [List.length_map]
 refine Nat.le_trans (List.length_filter_le _ _) ?_
 rw [List.length_take]
 have:=tmS_len node l
 omega
theorem lvK_mem {node:Int} {l:List Hld} {k:Nat}:∀ x ∈ lvK node l k,x.hi = sto node x.lo l:=by
 intro x hx
 unfold lvK at hx
 obtain ⟨z,_,rfl⟩:=List.mem_map.1 hx
 rfl
theorem sto_le {node t u:Int}:∀ {l:List Hld},(∀ h ∈ l,1 <= h.size) -> (∀ h ∈ l,inH node t h = true -> inH node u h = true) -> sto node t l <= sto node u l
 | [],_,_=>Int.le_refl _
 | h :: l,hs,H=>by
  have ih:=sto_le (node:=node) (t:=t) (u:=u) (l:=l) (fun x hx=>hs x (List.mem_cons_of_mem _ hx)) fun x hx=>H x (List.mem_cons_of_mem _ hx)
  have h1:=H h List.mem_cons_self
  have h2:=hs h List.mem_cons_self
  simp only [sto]
  by_cases h3:inH node t h = true
  ·rw [if_pos h3,if_pos (h1 h3)];omega
  ·rw [if_neg h3];split <;> omega
theorem sto_none {node t:Int}:∀ {l:List Hld},(∀ h ∈ l,inH node t h = false) -> sto node t l = 0
 | [],_=>rfl
 | h :: l,H=>by
  simp only [sto]
  rw [H h List.mem_cons_self,sto_none fun x hx=>H x (List.mem_cons_of_mem _ hx)]
  rfl
theorem last_in (node t:Int):∀ l:List Hld,(∀ h ∈ l,inH node t h = false) \/ ∃ h ∈ l,inH node t h = true /\ ∀ g ∈ l,inH node t g = true -> g.fr <= h.fr
 | []=>.inl fun h hh=>by cases hh
 | x :: l=>by
  by_cases hx:inH node t x = true
  ·rcases last_in node t l with h1 | ⟨h,h1,h2,h3⟩
   ·refine .inr ⟨x,List.mem_cons_self,hx,fun g hg hgi=>?_⟩
    rcases List.mem_cons.1 hg with rfl | hg
    ·exact Int.le_refl _
    ·rw [h1 g hg] at hgi;cases hgi
   ·by_cases hc:h.fr <= x.fr
    ·refine .inr ⟨x,List.mem_cons_self,hx,fun g hg hgi=>?_⟩
     rcases List.mem_cons.1 hg with rfl | hg
     ·exact Int.le_refl _
     ·have:=h3 g hg hgi;omega
    ·refine .inr ⟨h,List.mem_cons_of_mem _ h1,h2,fun g hg hgi=>?_⟩
     rcases List.mem_cons.1 hg with rfl | hg
     ·omega
     ·exact h3 g hg hgi
  ·rcases last_in node t l with h1 | ⟨h,h1,h2,h3⟩
   ·refine .inl fun g hg=>?_
    rcases List.mem_cons.1 hg with rfl | hg
    ·simpa using hx
    ·exact h1 g hg
   ·refine .inr ⟨h,List.mem_cons_of_mem _ h1,h2,fun g hg hgi=>?_⟩
    rcases List.mem_cons.1 hg with rfl | hg
    ·exact (hx hgi).elim
    ·exact h3 g hg hgi
theorem inH_iff {node t:Int} {h:Hld}:inH node t h = true ↔ h.node = node /\ h.fr <= t /\ t < h.to:=by
 unfold inH
 simp only [Bool.and_eq_true,beq_iff_eq,decide_eq_true_eq]
theorem sto_fit {p:Pln} {l:List Hld} (hp:OkP p) (hl:∀ h ∈ l,OkHd p h) (hf:∀ h ∈ l,sto h.node h.fr l <= p.qs.getD h.node.toNat default) {node:Nat} (hn:node < p.qs.length) (t:Int):sto node t l <= p.qs.getD node default:=by
 have hq:=hp.qs (p.qs.getD node default) (by rw [getD_lt hn];exact List.getElem_mem _)
 rcases last_in node t l with h1 | ⟨h,h1,h2,h3⟩
 ·rw [sto_none h1];exact hq.1
 ·obtain ⟨e,h4,h5⟩:=inH_iff.1 h2
  have:=hf h h1
  rw [e] at this
  refine Int.le_trans (sto_le (u:=h.fr) (fun g hg=>(hl g hg).size.1) fun g hg hgi=>?_) this
  obtain ⟨h6,h7,h8⟩:=inH_iff.1 hgi
  exact inH_iff.2 ⟨h6,h3 g hg hgi,by omega⟩
theorem mostM_le {q:Int}:∀ {l:List Spn} {n:Int},n <= q -> (∀ x ∈ l,x.hi <= q) -> l.foldl (fun n x=>if x.hi > n then x.hi else n) n <= q
 | [],n,h,_=>h
 | x :: l,n,h,H=>mostM_le (l:=l) (by have:=H x List.mem_cons_self;show (if x.hi > n then x.hi else n) <= q;split <;> omega) fun y hy=>H y (List.mem_cons_of_mem _ hy)
def mostM (l:List Spn):Int:=l.foldl (fun n x=>if x.hi > n then x.hi else n) 0
end Go.Mb
namespace Go.Proofs.YtjhmdfofhnijeaaGreatDoor
open Go.Sy Go.Mb
set_option maxRecDepth 100000
set_option maxHeartbeats 4000000
theorem most_ok (l:List Spn) (hl:l.length <= 1000000):FnOK Tryz.prog 99 [slS l] (.int .i64 (mostM l),none):=by
 refine fn_ok CM rfl (by kernel_rfl) Tryz.func99 rfl ?_
 refine zG zE ?_
 refine NS.loop (σ:={ q:Nat × Int // q.1 <= l.length /\ (l.drop q.1).foldl (fun n x=>if x.hi > n then x.hi else n) q.2 = mostM l }) (fun q=>[(3,.int .i64 q.1.2),(6,slS l),(7,.int .i64 l.length),(8,.int .i64 (q.1.1:Nat))]) (fun _=>[]) (fun q=>l.length - q.1.1) ⟨(0,0),Nat.zero_le _,rfl⟩ ?_ ?_
 ·exact weak_hd [] rfl ⟨rfl,rfl,rfl,rfl,trivial⟩ trivial trivial (by kernel_rfl)
 rintro ⟨⟨k,n⟩,hk,hn⟩
 have hk:k <= l.length:=hk
 have hn:(l.drop k).foldl (fun n x=>if x.hi > n then x.hi else n) n = mostM l:=hn
 refine zG zE (NS.ite (fun a=>?_) (fun a=>?_))
 ·have a:k < l.length:=by have a:decide ((k:Int) < (l.length:Int)) = true:=a;have:=of_decide_eq_true a;omega
  rw [drop_cons a,List.foldl_cons] at hn
  refine zG zE (NS.need (in_row a) ?_)
  refine zG zE (NS.next ⟨(k + 1,if (l.getD k default).hi > n then (l.getD k default).hi else n),a,hn⟩ (by show l.length - (k + 1) < l.length - k;omega) ?_)
  exact weak_hd [] rfl ⟨rfl,rfl,rfl,ren_int rfl (i64_k (n:=l.length) a (by omega)),trivial⟩ trivial trivial (by kernel_rfl)
 have a:k = l.length:=by have a:decide ((k:Int) < (l.length:Int)) = false:=a;have:=of_decide_eq_false a;omega
 subst a
 rw [List.drop_length] at hn
 refine zG zE (NS.leave rfl zE ?_)
 exact zG zE (NS.ret rfl rfl (LeA.of (congrArg (A.int .i64) (hn))))
end Go.Proofs.YtjhmdfofhnijeaaGreatDoor
namespace Go.Proofs
open Go.Shelf
def Tryz.ly189_ren:Go.Shelf.Ren:=⟨fun | 189=>139 | 125=>95 | 257=>194 | 128=>150 | 129=>151 | 294=>259 | 295=>260 | 296=>261 | 297=>262 | 298=>263 | 299=>264 | 216=>265 | 300=>266 | 301=>267 | 328=>320 | 329=>204 | 330=>205 | 331=>321 | 332=>322 | 215=>141 | 343=>387 | n=>n,fun | 28=>22 | 3=>3 | 46=>232 | 0=>0 | 51=>280 | 53=>282 | 4=>4 | 183=>273 | 182=>272 | 131=>277 | 5=>5 | 9=>9 | 218=>354 | 222=>358 | 228=>426 | 229=>427 | n=>n,fun | n=>n⟩
theorem Tryz.ly189:Go.Proofs.Lays.n189 Tryz.prog Tryz.ly189_ren:={
 mixed:=by kernel_rfl
 f125:=Tryz.func95.trans (congrArg some (by kernel_rfl))
 f128:=Tryz.func150.trans (congrArg some (by kernel_rfl))
 f129:=Tryz.func151.trans (congrArg some (by kernel_rfl))
 f189:=Tryz.func139.trans (congrArg some (by kernel_rfl))
 f215:=Tryz.func141.trans (congrArg some (by kernel_rfl))
 f216:=Tryz.func265.trans (congrArg some (by kernel_rfl))
 f257:=Tryz.func194.trans (congrArg some (by kernel_rfl))
 f294:=Tryz.func259.trans (congrArg some (by kernel_rfl))
 f295:=Tryz.func260.trans (congrArg some (by kernel_rfl))
 f296:=Tryz.func261.trans (congrArg some (by kernel_rfl))
 f297:=Tryz.func262.trans (congrArg some (by kernel_rfl))
 f298:=Tryz.func263.trans (congrArg some (by kernel_rfl))
 f299:=Tryz.func264.trans (congrArg some (by kernel_rfl))
 f300:=Tryz.func266.trans (congrArg some (by kernel_rfl))
 f301:=Tryz.func267.trans (congrArg some (by kernel_rfl))
 f328:=Tryz.func320.trans (congrArg some (by kernel_rfl))
 f329:=Tryz.func204.trans (congrArg some (by kernel_rfl))
 f330:=Tryz.func205.trans (congrArg some (by kernel_rfl))
 f331:=Tryz.func321.trans (congrArg some (by kernel_rfl))
 f332:=Tryz.func322.trans (congrArg some (by kernel_rfl))
 f343:=Tryz.func387.trans (congrArg some (by kernel_rfl))
 t0:=Tryz.underlying0
 a0:=Tryz.isAgg0
 z0:=Tryz.sizeOf0
 v0:=Tryz.zeroValue0
 t3:=Tryz.underlying3
 a3:=Tryz.isAgg3
 z3:=Tryz.sizeOf3
 v3:=Tryz.zeroValue3
 t4:=Tryz.underlying4
 a4:=Tryz.isAgg4
 z4:=Tryz.sizeOf4
 v4:=Tryz.zeroValue4
 t5:=Tryz.underlying5
 a5:=Tryz.isAgg5
 z5:=Tryz.sizeOf5
 v5:=Tryz.zeroValue5
 t9:=Tryz.underlying9
 a9:=Tryz.isAgg9
 z9:=Tryz.sizeOf9
 v9:=Tryz.zeroValue9
 t28:=Tryz.underlying22
 a28:=Tryz.isAgg22
 z28:=Tryz.sizeOf22
 v28:=Tryz.zeroValue22
 t46:=Tryz.underlying232
 a46:=Tryz.isAgg232
 z46:=Tryz.sizeOf232
 v46:=Tryz.zeroValue232
 t51:=Tryz.underlying280
 a51:=Tryz.isAgg280
 z51:=Tryz.sizeOf280
 v51:=Tryz.zeroValue280
 t53:=Tryz.underlying282
 a53:=Tryz.isAgg282
 z53:=Tryz.sizeOf282
 v53:=Tryz.zeroValue282
 t131:=Tryz.underlying277
 a131:=Tryz.isAgg277
 z131:=Tryz.sizeOf277
 v131:=Tryz.zeroValue277
 t182:=Tryz.underlying272
 a182:=Tryz.isAgg272
 z182:=Tryz.sizeOf272
 v182:=Tryz.zeroValue272
 t183:=Tryz.underlying273
 a183:=Tryz.isAgg273
 z183:=Tryz.sizeOf273
 v183:=Tryz.zeroValue273
 t218:=Tryz.underlying354
 a218:=Tryz.isAgg354
 z218:=Tryz.sizeOf354
 v218:=Tryz.zeroValue354
 t222:=Tryz.underlying358
 a222:=Tryz.isAgg358
 z222:=Tryz.sizeOf358
 v222:=Tryz.zeroValue358
 t228:=Tryz.underlying426
 a228:=Tryz.isAgg426
 z228:=Tryz.sizeOf426
 v228:=Tryz.zeroValue426
 t229:=Tryz.underlying427
 a229:=Tryz.isAgg427
 z229:=Tryz.sizeOf427
 v229:=Tryz.zeroValue427 }
end Go.Proofs
namespace Go.Proofs.YtjhmdfofhnijeaaGreatDoor
open Go.Sy Go.Mb
set_option maxRecDepth 100000
set_option maxHeartbeats 4000000
theorem FnMu.row' {P:Program} {f:FuncId} {args:List A} {e:TypeId} {c n:Nat} {el el':Nat -> Nat -> A} {post:Ob -> A -> Prop} (h:FnMu P f args (.row e c n el') post) (he:∀ i,i < n -> ∀ j,j < c -> el i j = el' i j):FnMu P f args (.row e c n el) post:=
 ⟨h.ent,fun w l vs hb hob hr=>h.run w l vs hb (by
  obtain ⟨v,xs,h1,h2,h3,h4⟩:=hob
  exact ⟨v,xs,h1,h2,h3,fun i hi j hj=>by
   obtain ⟨u,h5,h6⟩:=h4 i hi j hj
   exact ⟨u,h5,by rw [<- he i hi j hj];exact h6⟩⟩) hr⟩
theorem levels_ok (l:List Hld) (node:Int) (hl:l.length <= 1000) (hs:∀ h ∈ l,1 <= h.size /\ h.size <= 65536) (hlt:∀ h ∈ l,h.fr < h.to):FnOK Tryz.prog 100 [slHld l,.int .i64 node] (slS (lvK node l (tmS node l).length),none):=by
 refine fn_ok CLv rfl (by kernel_rfl) Tryz.func100 rfl ?_
 refine zG zE ?_
 refine NS.loop (σ:={ k:Nat // k <= l.length }) (fun k=>[(1,.int .i64 node),(5,.ptr 5 0),(6,.ptr 6 0),(7,.fn 160 [.ptr 5 0,.ptr 6 0]),(16,slHld l),(17,.int .i64 l.length),(18,.int .i64 (k.1:Nat))]) (fun k=>[(5,.box [.yld 14]),(6,.box [.own 63]),(14,.mp 216 false 1 true [] (miH (fK node l k.1)) (miV (fK node l k.1))),(63,.row 3 1 (tmK node l k.1).length (rowL nC (tmK node l k.1)))]) (fun k=>l.length - k.1) ⟨0,Nat.zero_le _⟩ ?_ ?_
 ·refine (weak_promoteB 6 0 63 3 1 (rowL nC []) rfl rfl rfl).trans ?_
  exact weak_hd [] rfl ⟨rfl,rfl,rfl,rfl,rfl,rfl,rfl,trivial⟩ ⟨⟨_,rfl,_,_,rfl,rfl,rfl⟩,⟨_,rfl,_,_,rfl,rfl,rfl⟩,⟨_,_,_,rfl,rfl,fun q hq=>rfl⟩,ren_row rfl rfl (fun i hi=>absurd hi (Nat.not_lt_zero i)),trivial⟩ trivial (by kernel_rfl)
 rintro ⟨k,hk⟩
 have hk:k <= l.length:=hk
 refine zG zE (NS.ite (fun a=>?_) (fun a=>?_))
 ·have a:k < l.length:=by have a:decide ((k:Int) < (l.length:Int)) = true:=a;have:=of_decide_eq_true a;omega
  have hsk:=hs (l.getD k default) (by rw [getD_lt a];exact List.getElem_mem _)
  have hlk:=hlt (l.getD k default) (by rw [getD_lt a];exact List.getElem_mem _)
  have hne:eqKs [(l.getD k default).to] [(l.getD k default).fr] = false:=eqKs_f (by simp only [ne_eq,List.cons.injEq,and_true];omega)
  repeat' (first | (refine zG zE (NS.need (in_row a) ?_)) | (refine zG zE (NS.chk (by kernel_rfl) ?_)))
  refine zG zE (NS.ite (fun b1=>?_) (fun b1=>?_))
  ·have b1:((l.getD k default).node == node) = true:=b1
   have ht:=tm_st a b1
   have htl:=tmK_len node l k hk
   refine zG zE (NS.ite (fun c1=>?_) (fun c1=>?_))
   ·have c1:miH (fK node l k) [(l.getD k default).fr] = true:=c1
    rw [noteT_in (fK_c c1)] at ht
    repeat' (first | (refine zG zE (NS.chk (by kernel_rfl) ?_)) | (refine zG zE (NS.yes (c1) ?_)) | (refine zG zE (NS.no (hne) ?_)) | (fail))
    refine zG zE (NS.ite (fun c2=>?_) (fun c2=>?_))
    ·have c2:miH (fK node l k) [(l.getD k default).to] = true:=c2
     rw [noteT_in (fK_c c2)] at ht
     repeat' (first | (refine zG zE (NS.chk (by kernel_rfl) ?_)) | (refine zG zE (NS.yes (c2) ?_)) | (refine zG zE (NS.no (hne) ?_)) | (fail))
     refine zG zE (NS.next ⟨k + 1,a⟩ (by show l.length - (k + 1) < l.length - k;omega) ?_)
     exact weak_hd [] rfl ⟨rfl,rfl,rfl,rfl,rfl,rfl,ren_int rfl (i64_k (n:=l.length) a (by omega)),trivial⟩ ⟨⟨_,rfl,_,_,rfl,rfl,rfl⟩,⟨_,rfl,_,_,rfl,rfl,rfl⟩,⟨_,_,_,rfl,rfl,fun q hq=>lv_put a (eq_of_beq b1) hlk hl hs (fK_val hk _) (fK_val hk _) hq⟩,ren_row rfl (by rw [ht];skip) (fun q hq j hj=>by rw [ht] at hq ⊢;skip),trivial⟩ trivial (by kernel_rfl)
    ·have c2:miH (fK node l k) [(l.getD k default).to] = false:=c2
     rw [noteT_new (fK_c c2)] at ht
     repeat' (first | (refine zG zE (NS.chk (by kernel_rfl) ?_)) | (refine zG zE (NS.no (c2) ?_)) | (refine zG zE (NS.no (hne) ?_)) | (refine zG zE (NS.need (decide_eq_true (by simp only [maxRow];omega)) ?_)) | (fail))
     refine zG zE (NS.next ⟨k + 1,a⟩ (by show l.length - (k + 1) < l.length - k;omega) ?_)
     exact weak_hd [(63,84)] rfl ⟨rfl,rfl,rfl,rfl,rfl,rfl,ren_int rfl (i64_k (n:=l.length) a (by omega)),trivial⟩ ⟨⟨_,rfl,_,_,rfl,rfl,rfl⟩,⟨_,rfl,_,_,rfl,rfl,rfl⟩,⟨_,_,_,rfl,rfl,fun q hq=>lv_put a (eq_of_beq b1) hlk hl hs (fK_val hk _) (fK_0 hk c2) hq⟩,ren_row rfl (by rw [ht];simp only [List.length_append,List.length_cons,List.length_nil]) (fun q hq j hj=>by rw [ht] at hq ⊢;exact row_snoc (cells:=nC) (x:=(l.getD k default).to) rfl q (by simpa using hq) j hj),trivial⟩ trivial (by kernel_rfl)
   ·have c1:miH (fK node l k) [(l.getD k default).fr] = false:=c1
    rw [noteT_new (fK_c c1)] at ht
    repeat' (first | (refine zG zE (NS.chk (by kernel_rfl) ?_)) | (refine zG zE (NS.no (c1) ?_)) | (refine zG zE (NS.no (hne) ?_)) | (refine zG zE (NS.need (decide_eq_true (by simp only [maxRow];omega)) ?_)) | (fail))
    refine zG zE (NS.ite (fun c2=>?_) (fun c2=>?_))
    ·have c2:miH (fK node l k) [(l.getD k default).to] = true:=c2
     rw [noteT_in (show (tmK node l k ++ [(l.getD k default).fr]).contains (l.getD k default).to = true by rw [List.contains_iff_mem];exact List.mem_append_left _ (List.contains_iff_mem.1 (fK_c c2)))] at ht
     repeat' (first | (refine zG zE (NS.chk (by kernel_rfl) ?_)) | (refine zG zE (NS.yes (c2) ?_)) | (refine zG zE (NS.no (hne) ?_)) | (fail))
     refine zG zE (NS.next ⟨k + 1,a⟩ (by show l.length - (k + 1) < l.length - k;omega) ?_)
     exact weak_hd [(63,84)] rfl ⟨rfl,rfl,rfl,rfl,rfl,rfl,ren_int rfl (i64_k (n:=l.length) a (by omega)),trivial⟩ ⟨⟨_,rfl,_,_,rfl,rfl,rfl⟩,⟨_,rfl,_,_,rfl,rfl,rfl⟩,⟨_,_,_,rfl,rfl,fun q hq=>lv_put a (eq_of_beq b1) hlk hl hs (fK_0 hk c1) (fK_val hk _) hq⟩,ren_row rfl (by rw [ht];simp only [List.length_append,List.length_cons,List.length_nil]) (fun q hq j hj=>by rw [ht] at hq ⊢;exact row_snoc (cells:=nC) (x:=(l.getD k default).fr) rfl q (by simpa using hq) j hj),trivial⟩ trivial (by kernel_rfl)
    ·have c2:miH (fK node l k) [(l.getD k default).to] = false:=c2
     rw [noteT_new (cont_app (fK_c c2) (by omega))] at ht
     repeat' (first | (refine zG zE (NS.chk (by kernel_rfl) ?_)) | (refine zG zE (NS.no (c2) ?_)) | (refine zG zE (NS.no (hne) ?_)) | (refine zG zE (NS.need (decide_eq_true (by simp only [maxRow];omega)) ?_)) | (fail))
     refine zG zE (NS.next ⟨k + 1,a⟩ (by show l.length - (k + 1) < l.length - k;omega) ?_)
     exact weak_hd [(63,104)] rfl ⟨rfl,rfl,rfl,rfl,rfl,rfl,ren_int rfl (i64_k (n:=l.length) a (by omega)),trivial⟩ ⟨⟨_,rfl,_,_,rfl,rfl,rfl⟩,⟨_,rfl,_,_,rfl,rfl,rfl⟩,⟨_,_,_,rfl,rfl,fun q hq=>lv_put a (eq_of_beq b1) hlk hl hs (fK_0 hk c1) (fK_0 hk c2) hq⟩,ren_row rfl (by rw [ht];simp only [List.length_append,List.length_cons,List.length_nil]) (fun q hq j hj=>by rw [ht] at hq ⊢;exact row_two (tmK node l k) (l.getD k default).fr (l.getD k default).to q (by simpa using hq) j hj),trivial⟩ trivial (by kernel_rfl)
  ·have b1:((l.getD k default).node == node) = false:=b1
   have ht:=tm_skip a b1
   refine zG zE (NS.next ⟨k + 1,a⟩ (by show l.length - (k + 1) < l.length - k;omega) ?_)
   exact weak_hd [] rfl ⟨rfl,rfl,rfl,rfl,rfl,rfl,ren_int rfl (i64_k (n:=l.length) a (by omega)),trivial⟩ ⟨⟨_,rfl,_,_,rfl,rfl,rfl⟩,⟨_,rfl,_,_,rfl,rfl,rfl⟩,⟨_,_,_,rfl,rfl,fun q hq=>by rw [mi_look,mi_look,fK_skip a b1]⟩,ren_row rfl (by rw [ht]) (fun q hq j hj=>by rw [ht]),trivial⟩ trivial (by kernel_rfl)
 have a:k = l.length:=by have a:decide ((k:Int) < (l.length:Int)) = false:=a;have:=of_decide_eq_false a;omega
 subst a
 refine zG zE (NS.leave rfl zE ?_)
 have hN:=tmK_len node l l.length (Nat.le_refl _)
 have c3:=sortI_mu Tryz.ly189 (by kernel_rfl) (tmK node l l.length) 3 (by omega)
 refine zG zE (NS.mut 63 (Eq.refl _) rfl (FnMu.row' c3 fun i hi j hj=>rfl) rfl ?_)
 rintro ob r ⟨rfl,rfl⟩
 have hS:=tmS_len node l
 have hSl:(tmS node l).length = (tmK node l l.length).length:=srt_len _
 refine zG zE ?_
 refine NS.loop (σ:={ k:Nat // k <= (tmS node l).length }) (fun k=>[(5,.ptr 5 0),(10,.own 60),(11,.int .i64 (sumC (fun z=>chM node z l) ((tmS node l).take k.1))),(42,slN (tmS node l)),(43,.int .i64 (tmS node l).length),(44,.int .i64 (k.1:Nat))]) (fun k=>[(5,.box [.yld 14]),(14,.mp 216 false 1 true [] (miH (fK node l l.length)) (miV (fK node l l.length))),(60,.row 289 2 (lvK node l k.1).length (rowL Spn.cells (lvK node l k.1)))]) (fun k=>(tmS node l).length - k.1) ⟨0,Nat.zero_le _⟩ ?_ ?_
 ·refine (weak_promote 10 60 289 2 (rowL Spn.cells []) rfl rfl).trans ((weak_freeze 42 63 rfl rfl).trans ((weak_slot 42 (x:=slN (tmS node l)) ?_).trans ?_))
  ·exact LeA.sl hSl.symm fun i hi j hj=>rfl
  exact weak_hd [] rfl ⟨rfl,rfl,rfl,rfl,ren_int rfl (by rw [hSl]),rfl,trivial⟩ ⟨⟨_,rfl,_,_,rfl,rfl,rfl⟩,⟨_,_,_,rfl,rfl,fun q hq=>rfl⟩,ren_row rfl rfl (fun i hi=>absurd hi (Nat.not_lt_zero i)),trivial⟩ trivial (by kernel_rfl)
 rintro ⟨k,hk⟩
 have hk:k <= (tmS node l).length:=hk
 refine zG zE (NS.ite (fun a=>?_) (fun a=>?_))
 ·have a:k < (tmS node l).length:=by have a:decide ((k:Int) < ((tmS node l).length:Int)) = true:=a;have:=of_decide_eq_true a;omega
  have hz:(tmS node l).getD k default ∈ tmS node l:=by rw [getD_lt a];exact List.getElem_mem _
  have hin:miH (fK node l l.length) [(tmS node l).getD k default] = true:=by
   have h1:(tmS node l).getD k default ∈ tmK node l l.length:=by unfold tmS at hz ⊢;exact (srt_perm _).mem_iff.1 hz
   show (fK node l l.length ((tmS node l).getD k default)).isSome = true
   unfold fK
   rw [if_pos (by simpa using h1)];rfl
  have hval:(fK node l l.length ((tmS node l).getD k default)).getD 0 = chM node ((tmS node l).getD k default) l:=by rw [fK_val (Nat.le_refl _),List.take_length]
  have hsum:sumC (fun z=>chM node z l) ((tmS node l).take (k + 1)) = sumC (fun z=>chM node z l) ((tmS node l).take k) + chM node ((tmS node l).getD k default) l:=by rw [take_snoc a,sumC_append];simp [sumC]
  have hs1:=sum_sto hlt a
  have hb1:=sto_bound (node:=node) (t:=(tmS node l).getD k default) hs
  have hc:=chM_bound (node:=node) (t:=(tmS node l).getD k default) hs
  have hlv:=lvK_succ a
  have hll:=lvK_len node l k
  repeat' (first | (refine zG zE (NS.need (in_row a) ?_)) | (refine zG zE (NS.chk (by kernel_rfl) ?_)) | (refine zG zE (NS.yes (hin) ?_)) | (fail))
  refine zG zE (NS.ite (fun b=>?_) (fun b=>?_))
  ·have b:(chM node ((tmS node l).getD k default) l == 0) = true:=by rw [<- hval];exact b
   rw [if_pos b] at hlv
   have b0:chM node ((tmS node l).getD k default) l = 0:=eq_of_beq b
   refine zG zE (NS.next ⟨k + 1,a⟩ (by show (tmS node l).length - (k + 1) < (tmS node l).length - k;omega) ?_)
   exact weak_hd [] rfl ⟨rfl,rfl,ren_int rfl (by show sumC (fun z=>chM node z l) ((tmS node l).take k) = sumC (fun z=>chM node z l) ((tmS node l).take (k + 1));rw [hsum,b0,Int.add_zero]),rfl,rfl,ren_int rfl (i64_k (n:=(tmS node l).length) a (by omega)),trivial⟩ ⟨⟨_,rfl,_,_,rfl,rfl,rfl⟩,⟨_,_,_,rfl,rfl,fun q hq=>rfl⟩,ren_row rfl (by rw [hlv]) (fun q hq j hj=>by rw [hlv]),trivial⟩ trivial (by kernel_rfl)
  ·have b:(chM node ((tmS node l).getD k default) l == 0) = false:=by rw [<- hval];exact b
   rw [if_neg (by rw [b];decide)] at hlv
   have e1:IntKind.i64.wrap (sumC (fun z=>chM node z l) ((tmS node l).take k) + (fK node l l.length ((tmS node l).getD k default)).getD 0) = sumC (fun z=>chM node z l) ((tmS node l).take (k + 1)):=by rw [hval,wrap_i64 (by omega) (by omega),hsum]
   repeat' (first | (refine zG zE (NS.chk (by kernel_rfl) ?_)) | (refine zG zE (NS.yes (hin) ?_)) | (refine zG zE (NS.need (decide_eq_true (by simp only [maxRow];omega)) ?_)) | (fail))
   refine zG zE (NS.next ⟨k + 1,a⟩ (by show (tmS node l).length - (k + 1) < (tmS node l).length - k;omega) ?_)
   exact weak_hd [(60,62)] rfl ⟨rfl,rfl,ren_int rfl e1,rfl,rfl,ren_int rfl (i64_k (n:=(tmS node l).length) a (by omega)),trivial⟩ ⟨⟨_,rfl,_,_,rfl,rfl,rfl⟩,⟨_,_,_,rfl,rfl,fun q hq=>rfl⟩,ren_row rfl (by rw [hlv];simp only [List.length_append,List.length_cons,List.length_nil]) (fun q hq j hj=>by rw [hlv] at hq ⊢;exact row_snoc (cells:=Spn.cells) (x:=⟨(tmS node l).getD k default,sto node ((tmS node l).getD k default) l⟩) (by rw [<- hs1,<- e1];rfl) q (by simpa using hq) j hj),trivial⟩ trivial (by kernel_rfl)
 have a:k = (tmS node l).length:=by have a:decide ((k:Int) < ((tmS node l).length:Int)) = false:=a;have:=of_decide_eq_false a;omega
 subst a
 refine zG zE (NS.leave rfl zE ?_)
 exact zG zE (NS.ret rfl rfl (LeA.refl _))
end Go.Proofs.YtjhmdfofhnijeaaGreatDoor
namespace Go.Mb
open Go.Sy
def cmpH (a b:Hld):Int:=orL [cmpI a.node b.node,cmpI a.fr b.fr,cmpI a.to b.to,cmpI a.tk b.tk,cmpI a.size b.size]
theorem cmpH_neg {a b:Hld}:cmpH a b < 0 ↔ ltH a b:=by
 unfold cmpH ltH
 simp only [orL_neg,orL_nil,cmpI_neg,cmpI_zero]
 omega
theorem cmpH_zero {a b:Hld}:cmpH a b = 0 ↔ a.node = b.node /\ a.fr = b.fr /\ a.to = b.to /\ a.tk = b.tk /\ a.size = b.size:=by
 unfold cmpH
 simp only [orL_zero,orL_nil,cmpI_zero,and_true]
theorem cmpH_le {a b:Hld} (h:lessH b a = false):¬ cmpH a b > 0:=by
 intro h1
 have h2:¬ ltH b a:=fun h2=>by rw [<- lessH_iff,h] at h2;cases h2
 have h3:¬ cmpH a b < 0:=by omega
 have h4:¬ cmpH a b = 0:=by omega
 rw [cmpH_neg] at h3
 rw [cmpH_zero] at h4
 unfold ltH at h2 h3
 omega
end Go.Mb
namespace Go.Proofs.YtjhmdfofhnijeaaGreatDoor
open Go.Sy Go.Mb
set_option maxRecDepth 100000
set_option maxHeartbeats 4000000
theorem lit_5 {el:Nat -> Nat -> A} {a b c d e:Int} (h0:el 0 0 = .int .i64 a) (h1:el 1 0 = .int .i64 b) (h2:el 2 0 = .int .i64 c) (h3:el 3 0 = .int .i64 d) (h4:el 4 0 = .int .i64 e):∀ i,i < 5 -> ∀ j,j < 1 -> el i j = rowL nC [a,b,c,d,e] i j:=by
 intro i hi j hj
 obtain rfl:j = 0:=by omega
 match i,hi with
 | 0,_=>exact h0
 | 1,_=>exact h1
 | 2,_=>exact h2
 | 3,_=>exact h3
 | 4,_=>exact h4
theorem hCompare_ok (a b:Hld):FnOK Tryz.prog 98 [.agg a.cells,.agg b.cells] (.int .i64 (cmpH a b),none):=by
 refine fn_ok CM rfl (by kernel_rfl) Tryz.func98 rfl ?_
 refine zG zE (NS.chk (by kernel_rfl) ?_)
 refine zG zE (NS.call (compare_ok a.node b.node) rfl ?_)
 refine zG zE (NS.call (compare_ok a.fr b.fr) rfl ?_)
 refine zG zE (NS.call (compare_ok a.to b.to) rfl ?_)
 refine zG zE (NS.call (compare_ok a.tk b.tk) rfl ?_)
 refine zG zE (NS.call (compare_ok a.size b.size) rfl ?_)
 refine zG zE (NS.call ((or_ok [cmpI a.node b.node,cmpI a.fr b.fr,cmpI a.to b.to,cmpI a.tk b.tk,cmpI a.size b.size] (by simp)).le (LeL.cons (LeA.sl rfl (lit_5 rfl rfl rfl rfl rfl)) LeL.nil)) rfl ?_)
 exact zG zE (NS.ret rfl rfl (LeA.refl _))
theorem hCheck_ok (p:Pln) (l:List Hld) (hp:chkP p = 0) (h:OkH p l):FnOK Tryz.prog 48 [.agg p.cells,slHld l] (.int .i64 0,none):=by
 have okp:=chkP_ok hp
 have n2:=okp.n2
 have m:=okp.m
 have hl:=h.len
 have cp:=planCheck_ok p (by omega) (by omega)
 rw [hp] at cp
 have hsz:∀ x ∈ l,1 <= x.size /\ x.size <= 65536:=fun x hx=>(h.all x hx).size
 have hlt:∀ x ∈ l,x.fr < x.to:=fun x hx=>(h.all x hx).lt
 refine fn_ok CM rfl (by kernel_rfl) Tryz.func48 rfl ?_
 refine zG zE (NS.call (cp) rfl ?_)
 refine zG zE (NS.no (rfl) ?_)
 refine zG zE (NS.no (by show decide ((l.length:Int) > 512) = false;exact decide_eq_false (by omega)) ?_)
 refine zG zE ?_
 refine NS.loop (σ:={ k:Nat // k <= l.length }) (fun k=>[(1,slHld l),(2,.ptr 2 0),(15,slHld l),(16,.int .i64 l.length),(17,.int .i64 (k.1:Nat))]) (fun _=>[(2,.box p.cells)]) (fun k=>l.length - k.1) ⟨0,Nat.zero_le _⟩ ?_ ?_
 ·exact weak_hd [] rfl ⟨rfl,rfl,rfl,rfl,rfl,trivial⟩ ⟨⟨_,rfl,renPln _ _⟩,trivial⟩ trivial (by kernel_rfl)
 rintro ⟨k,hk⟩
 have hk:k <= l.length:=hk
 refine zG zE (NS.ite (fun a=>?_) (fun a=>?_))
 ·have a:k < l.length:=by have a:decide ((k:Int) < (l.length:Int)) = true:=a;have:=of_decide_eq_true a;omega
  have hv:validH p (l.getD k default) = true:=validH_ok.2 (h.all _ (by rw [getD_lt a];exact List.getElem_mem _))
  have cv:=hValid_ok p (l.getD k default)
  rw [hv] at cv
  repeat' (first | (refine zG zE (NS.need (in_row a) ?_)) | (refine zG zE (NS.chk (by kernel_rfl) ?_)) | (refine zG zE (NS.call (cv) rfl ?_)))
  refine zG zE (NS.no (rfl) ?_)
  repeat' (first | (refine zG zE (NS.chk (by kernel_rfl) ?_)))
  refine zG zE (NS.ite (fun b2=>?_) (fun b2=>?_))
  ·obtain ⟨j,rfl⟩:∃ j,k = j + 1:=⟨k - 1,by have b2:decide ((k:Int) > 0) = true:=b2;have:=of_decide_eq_true b2;omega⟩
   have e1:IntKind.i64.wrap (((j + 1:Nat):Int) - 1) = (j:Int):=by rw [wrap_i64 (by omega) (by omega)];omega
   have hn:decide (0 <= IntKind.i64.wrap (((j + 1:Nat):Int) - 1) /\ IntKind.i64.wrap (((j + 1:Nat):Int) - 1) < (l.length:Int)) = true:=by rw [e1];exact decide_eq_true (by omega)
   have hg:l.getD (IntKind.i64.wrap (((j + 1:Nat):Int) - 1)).toNat default = l.getD j default:=by rw [e1];rfl
   have ho:lessH (l.getD (j + 1) default) (l.getD j default) = false:=by
    rw [getD_lt a,getD_lt (show j < l.length by omega)]
    exact List.pairwise_iff_getElem.1 h.ord j (j + 1) (by omega) a (by omega)
   have hc:=cmpH_le ho
   repeat' (first | (refine zG zE (NS.chk (by kernel_rfl) ?_)) | (refine zG zE (NS.need (hn) ?_)) | (refine zG zE (NS.call ((hCompare_ok (l.getD j default) (l.getD (j + 1) default)).le (LeL.cons (LeA.of (by show A.agg (Hld.cells (l.getD (IntKind.i64.wrap (((j + 1:Nat):Int) - 1)).toNat default)) = _;rw [hg])) (LeL.cons (LeA.refl _) LeL.nil))) rfl ?_)))
   refine zG zE (NS.no (by show decide (cmpH (l.getD j default) (l.getD (j + 1) default) > 0) = false;exact decide_eq_false hc) ?_)
   refine zG zE (NS.next ⟨j + 1 + 1,a⟩ (by show l.length - (j + 1 + 1) < l.length - (j + 1);omega) ?_)
   exact weak_hd [] rfl ⟨rfl,rfl,rfl,rfl,ren_int rfl (i64_k (k:=j + 1) (n:=l.length) a (by omega)),trivial⟩ ⟨⟨_,rfl,renPln _ _⟩,trivial⟩ trivial (by kernel_rfl)
  ·refine zG zE (NS.next ⟨k + 1,a⟩ (by show l.length - (k + 1) < l.length - k;omega) ?_)
   exact weak_hd [] rfl ⟨rfl,rfl,rfl,rfl,ren_int rfl (i64_k (k:=k) (n:=l.length) a (by omega)),trivial⟩ ⟨⟨_,rfl,renPln _ _⟩,trivial⟩ trivial (by kernel_rfl)
 have a:k = l.length:=by have a:decide ((k:Int) < (l.length:Int)) = false:=a;have:=of_decide_eq_false a;omega
 subst a
 refine zG zE (NS.leave rfl zE ?_)
 refine zG zE ?_
 refine NS.loop (σ:={ k:Nat // k <= p.qs.length }) (fun k=>[(1,slHld l),(40,slN p.qs),(41,.int .i64 p.qs.length),(42,.int .i64 (k.1:Nat))]) (fun _=>[]) (fun k=>p.qs.length - k.1) ⟨0,Nat.zero_le _⟩ ?_ ?_
 ·exact weak_hd [] rfl ⟨rfl,rfl,rfl,rfl,trivial⟩ trivial trivial (by kernel_rfl)
 rintro ⟨k,hk⟩
 have hk:k <= p.qs.length:=hk
 refine zG zE (NS.ite (fun a=>?_) (fun a=>?_))
 ·have a:k < p.qs.length:=by have a:decide ((k:Int) < (p.qs.length:Int)) = true:=a;have:=of_decide_eq_true a;omega
  have hll:=lvK_len k l (tmS k l).length
  have hq:=okp.qs (p.qs.getD k default) (by rw [getD_lt a];exact List.getElem_mem _)
  have hm:mostM (lvK k l (tmS k l).length) <= p.qs.getD k default:=mostM_le hq.1 fun x hx=>by rw [lvK_mem x hx];exact sto_fit okp h.all h.fit a x.lo
  repeat' (first | (refine zG zE (NS.need (in_row a) ?_)) | (refine zG zE (NS.chk (by kernel_rfl) ?_)) | (refine zG zE (NS.call (levels_ok l (k:Nat) (by omega) hsz hlt) rfl ?_)) | (refine zG zE (NS.call (most_ok (lvK k l (tmS k l).length) (by omega)) rfl ?_)))
  refine zG zE (NS.no (by show decide (mostM (lvK k l (tmS k l).length) > p.qs.getD k default) = false;exact decide_eq_false (by omega)) ?_)
  refine zG zE (NS.next ⟨k + 1,a⟩ (by show p.qs.length - (k + 1) < p.qs.length - k;omega) ?_)
  exact weak_hd [] rfl ⟨rfl,rfl,rfl,ren_int rfl (i64_k (k:=k) (n:=p.qs.length) a (by omega)),trivial⟩ trivial trivial (by kernel_rfl)
 refine zG zE (NS.leave rfl zE ?_)
 exact zG zE (NS.ret rfl rfl (LeA.refl _))
theorem rTables_ok (t:Tbl) (h1:t.plan.qs.length <= 1000000) (h2:t.plan.cts.length <= 1000000) (h3:t.bks.length <= 1000000) (h4:t.hlds.length <= 1000000):FnOK Tryz.prog 50 [.agg t.cells] (.int .i64 (chkT t),none):=by
 refine fn_ok CM rfl (by kernel_rfl) Tryz.func50 rfl ?_
 refine zG zE (NS.call (rPlan_ok t.plan h1 h2) rfl ?_)
 refine zG zE (NS.ite (fun a=>?_) (fun a=>?_))
 ·have a:(chkP t.plan != 0) = true:=a
  exact zG zE (NS.ret rfl rfl (LeA.of (congrArg (A.int .i64) (by unfold chkT;rw [if_pos a]))))
 have a:(chkP t.plan != 0) = false:=a
 refine zG zE (NS.call (rBCheck_ok t.plan t.bks h1 h2 h3) rfl ?_)
 refine zG zE (NS.ite (fun b=>?_) (fun b=>?_))
 ·have b:(chkB t.plan t.bks != 0) = true:=b
  exact zG zE (NS.ret rfl rfl (LeA.of (congrArg (A.int .i64) (by unfold chkT;rw [if_neg (by rw [a];decide),if_pos b]))))
 have b:(chkB t.plan t.bks != 0) = false:=b
 refine zG zE (NS.call (rHCheck_ok t.plan t.hlds h1 h2 h4) rfl ?_)
 exact zG zE (NS.ret rfl rfl (LeA.of (congrArg (A.int .i64) (by unfold chkT;rw [if_neg (by rw [a];decide),if_neg (by rw [b];decide)]))))
theorem tables_ok (t:Tbl) (h:chkT t = 0):FnOK Tryz.prog 38 [.agg t.cells] (.int .i64 0,none):=by
 have ok:=chkT_ok h
 have n2:=ok.p.n2
 have m:=ok.p.m
 have hl:=ok.b.len
 unfold chkT at h
 have hp:chkP t.plan = 0:=by
  by_cases e:chkP t.plan = 0
  ·exact e
  ·rw [if_pos (by simpa using e)] at h;exact h
 rw [if_neg (by rw [hp];decide)] at h
 have hb:chkB t.plan t.bks = 0:=by
  by_cases e:chkB t.plan t.bks = 0
  ·exact e
  ·rw [if_pos (by simpa using e)] at h;exact h
 have cp:=planCheck_ok t.plan (by omega) (by omega)
 rw [hp] at cp
 have cb:=bCheck_ok t.plan t.bks (by omega) (by omega) (by omega)
 rw [hb] at cb
 refine fn_ok CM rfl (by kernel_rfl) Tryz.func38 rfl ?_
 refine zG zE (NS.call (cp) rfl ?_)
 refine zG zE (NS.no (rfl) ?_)
 refine zG zE (NS.call (cb) rfl ?_)
 refine zG zE (NS.no (rfl) ?_)
 refine zG zE (NS.call (hCheck_ok t.plan t.hlds hp ok.h) rfl ?_)
 exact zG zE (NS.ret rfl rfl (LeA.refl _))
theorem rDemand_ok (p:Pln) (d:Dem):FnOK Tryz.prog 51 [.agg p.cells,.agg d.cells] (.bool (demB p.qs.length d),none):=by
 refine fn_ok CM rfl (by kernel_rfl) Tryz.func51 rfl ?_
 repeat' (first | (refine zG zE (NS.ite (fun h=>?_) (fun h=>?_))) | (refine zG zE (NS.chk (by kernel_rfl) ?_)) | (exact zG zE (NS.ret rfl rfl (LeA.of (congrArg A.bool (by rw [Bool.eq_iff_iff,demB_iff];simp only [decide_eq_true_eq,decide_eq_false_iff_not,beq_iff_eq,beq_eq_false_iff_ne,Bool.false_eq_true,false_iff] at *;first | omega | (rw [wrap_i64 (by omega) (by omega)];omega)))))))
theorem rCheck53_ok (t:Tbl) (d:Dem) (h1:t.plan.qs.length <= 1000000) (h2:t.plan.cts.length <= 1000000) (h3:t.bks.length <= 1000000) (h4:t.hlds.length <= 1000000):FnOK Tryz.prog 17 [.agg t.cells,.agg d.cells] (.bool (chkT t == 0 && demB t.plan.qs.length d),none):=by
 refine fn_ok CM rfl (by kernel_rfl) Tryz.func17 rfl ?_
 refine zG zE (NS.call (rTables_ok t h1 h2 h3 h4) rfl ?_)
 refine zG zE (NS.ite (fun a=>?_) (fun a=>?_))
 ·refine zG zE (NS.call (rDemand_ok t.plan d) rfl ?_)
  exact zG zE (NS.ret rfl rfl (LeA.of (congrArg A.bool (by rw [show (chkT t == 0) = true from a];rfl))))
 ·exact zG zE (NS.ret rfl rfl (LeA.of (congrArg A.bool (by rw [show (chkT t == 0) = false from a];rfl))))
theorem rGreatP_ok (p:Pln):FnOK Tryz.prog 101 [.agg p.cells] (.bool (decide ((p.qs.length:Int) > 6) || decide ((p.cts.length:Int) > 10)),none):=by
 refine fn_ok CM rfl (by kernel_rfl) Tryz.func101 rfl ?_
 repeat' (first | (refine zG zE (NS.ite (fun h=>?_) (fun h=>?_))) | (refine zG zE (NS.chk (by kernel_rfl) ?_)) | (exact zG zE (NS.ret rfl rfl (LeA.of (congrArg A.bool (by simp only [*,Bool.true_or,Bool.false_or]))))))
theorem rGreat29_ok (t:Tbl):FnOK Tryz.prog 49 [.agg t.cells] (.bool (great29 t),none):=by
 refine fn_ok CM rfl (by kernel_rfl) Tryz.func49 rfl ?_
 repeat' (first | (refine zG zE (NS.ite (fun h=>?_) (fun h=>?_))) | (refine zG zE (NS.chk (by kernel_rfl) ?_)) | (refine zG zE (NS.call (rGreatP_ok t.plan) rfl ?_)) | (exact zG zE (NS.ret rfl rfl (LeA.of (congrArg A.bool (by unfold great29;rw [<- Bool.or_assoc];simp only [*,Bool.true_or,Bool.false_or]))))))
theorem rGreat53_ok (t:Tbl) (d:Dem):FnOK Tryz.prog 16 [.agg t.cells,.agg d.cells] (.bool (great53 t d),none):=by
 refine fn_ok CM rfl (by kernel_rfl) Tryz.func16 rfl ?_
 repeat' (first | (refine zG zE (NS.ite (fun h=>?_) (fun h=>?_))) | (refine zG zE (NS.chk (by kernel_rfl) ?_)) | (refine zG zE (NS.call (rGreat29_ok t) rfl ?_)) | (exact zG zE (NS.ret rfl rfl (LeA.of (congrArg A.bool (by unfold great53;simp only [*,Bool.true_or,Bool.false_or,Bool.true_and,Bool.false_and]))))))
theorem top58Demand_ok (t:Tbl) (d:Dem):FnOK Tryz.prog 5 [.agg t.cells,.agg d.cells] (.bool (!great53 t d && (chkT t == 0 && demB t.plan.qs.length d)),none):=by
 refine fn_ok CM rfl (by kernel_rfl) Tryz.func5 rfl ?_
 refine zG zE (NS.call (rGreat53_ok t d) rfl ?_)
 refine zG zE (NS.ite (fun a=>?_) (fun a=>?_))
 ·have a:(!great53 t d) = true:=a
  have g:=not_t a
  unfold great53 great29 at g
  simp only [Bool.or_eq_false_iff,decide_eq_false_iff_not] at g
  refine zG zE (NS.call (rCheck53_ok t d (by omega) (by omega) (by omega) (by omega)) rfl ?_)
  exact zG zE (NS.ret rfl rfl (LeA.of (congrArg A.bool (by rw [a];rfl))))
 ·exact zG zE (NS.ret rfl rfl (LeA.of (congrArg A.bool (by rw [show (!great53 t d) = false from a];rfl))))
theorem valid_ok (t:Tbl) (d:Dem) (ht:chkT t = 0) (hd:OkD t.plan.qs.length d):FnOK Tryz.prog 126 [.agg t.cells,.agg d.cells] (.bool true,none):=by
 obtain ⟨h1,h2,h3,h4,h5,h6,h7,h8⟩:=hd
 have e1:IntKind.i64.wrap (d.dead - d.ready) = d.dead - d.ready:=wrap_i64 (by omega) (by omega)
 refine fn_ok CM rfl (by kernel_rfl) Tryz.func126 rfl ?_
 refine zG zE (NS.call (tables_ok t ht) rfl ?_)
 refine zG zE (NS.no (rfl) ?_)
 repeat' (first | (refine zG zE (NS.ite (fun h=>?_) (fun h=>?_))) | (refine zG zE (NS.chk (by kernel_rfl) ?_)) | (exact zG zE (NS.ret rfl rfl (LeA.of (congrArg A.bool (by (try simp only [decide_eq_true_eq,decide_eq_false_iff_not,beq_iff_eq,beq_eq_false_iff_ne,Bool.false_eq_true] at *) <;> first | omega | (rw [e1];exact decide_eq_true (by omega)) | rfl))))))
theorem cIsNode_ok (n k:Int):FnOK Tryz.prog 58 [.int .i64 k,.ip 1 (getA [.int .i64 n])] (.bool (decide (k >= 0) && decide (k < n)),none):=by
 refine fn_ok CM rfl (by kernel_rfl) Tryz.func58 rfl ?_
 repeat' (first | (refine zG zE (NS.ite (fun h=>?_) (fun h=>?_))) | (refine zG zE (NS.chk (by kernel_rfl) ?_)) | (exact zG zE (NS.ret rfl rfl (LeA.of (congrArg A.bool (by simp only [*,Bool.true_and,Bool.false_and]))))))
theorem cCheck0_ok (t:Tbl) (d:Dem) (ht:chkT t = 0) (hd:OkD t.plan.qs.length d):FnOK Tryz.prog 21 [.agg t.cells,.agg d.cells] (.int .i64 0,none):=by
 obtain ⟨h1,h2,h3,h4,h5,h6,h7,h8⟩:=hd
 have e1:IntKind.i64.wrap (d.dead - d.ready) = d.dead - d.ready:=wrap_i64 (by omega) (by omega)
 have c1:=cIsNode_ok t.plan.qs.length d.src
 rw [show (decide (d.src >= 0) && decide (d.src < (t.plan.qs.length:Int))) = true by simp;omega] at c1
 have c2:=cIsNode_ok t.plan.qs.length d.dst
 rw [show (decide (d.dst >= 0) && decide (d.dst < (t.plan.qs.length:Int))) = true by simp;omega] at c2
 refine fn_ok CM rfl (by kernel_rfl) Tryz.func21 rfl ?_
 refine zG zE (NS.call (tables_ok t ht) rfl ?_)
 refine zG zE (NS.no (rfl) ?_)
 refine zG zE (NS.call (c1) rfl ?_)
 refine zG zE (NS.no (rfl) ?_)
 refine zG zE (NS.call (c2) rfl ?_)
 refine zG zE (NS.no (rfl) ?_)
 repeat' (first | (refine zG zE (NS.ite (fun h=>?_) (fun h=>?_))) | (refine zG zE (NS.chk (by kernel_rfl) ?_)) | (exact zG zE (NS.ret rfl rfl (LeA.of (congrArg (A.int .i64) (by (try simp only [decide_eq_true_eq,decide_eq_false_iff_not,beq_iff_eq,beq_eq_false_iff_ne,Bool.false_eq_true] at *) <;> first | omega | (rw [e1] at *;omega) | rfl))))))
theorem busy_ok (l:List Bkg) (ct:Int) (hl:l.length <= 1000000):FnOK Tryz.prog 63 [slBkg l,.int .i64 ct] (slS (busyM l ct),none):=by
 refine fn_ok CM rfl (by kernel_rfl) Tryz.func63 rfl ?_
 refine zG zE ?_
 refine NS.loop (σ:={ k:Nat // k <= l.length }) (fun k=>[(1,.int .i64 ct),(5,.own 5),(8,slBkg l),(9,.int .i64 l.length),(10,.int .i64 (k.1:Nat))]) (fun k=>[(5,.row 100 2 (busyM (l.take k.1) ct).length (rowL Spn.cells (busyM (l.take k.1) ct)))]) (fun k=>l.length - k.1) ⟨0,Nat.zero_le _⟩ ?_ ?_
 ·refine (weak_promote 5 5 100 2 (rowL Spn.cells []) rfl rfl).trans ?_
  exact weak_hd [] rfl ⟨rfl,rfl,rfl,rfl,rfl,trivial⟩ ⟨ren_row rfl rfl (fun i hi=>absurd hi (Nat.not_lt_zero i)),trivial⟩ trivial (by kernel_rfl)
 rintro ⟨k,hk⟩
 have hk:k <= l.length:=hk
 refine zG zE (NS.ite (fun a=>?_) (fun a=>?_))
 ·have a:k < l.length:=by have a:decide ((k:Int) < (l.length:Int)) = true:=a;have:=of_decide_eq_true a;omega
  have hb:=busyM_snoc (ct:=ct) a
  have hbl:=busyM_len (l.take k) ct
  have htl:(l.take k).length = k:=by simp;omega
  refine zG zE (NS.need (in_row a) ?_)
  refine zG zE (NS.ite (fun b=>?_) (fun b=>?_))
  ·have b:((l.getD k default).ct == ct) = true:=b
   rw [if_pos b] at hb
   refine zG zE (NS.need (decide_eq_true (by simp only [maxRow];omega)) ?_)
   refine zG zE (NS.next ⟨k + 1,a⟩ (by show l.length - (k + 1) < l.length - k;omega) ?_)
   exact weak_hd [(5,25)] rfl ⟨rfl,rfl,rfl,rfl,ren_int rfl (i64_k (n:=l.length) a (by omega)),trivial⟩ ⟨ren_row rfl (by rw [hb];simp only [List.length_append,List.length_cons,List.length_nil]) (fun q hq j hj=>by rw [hb] at hq ⊢;exact row_snoc (cells:=Spn.cells) (x:=⟨(l.getD k default).fr,(l.getD k default).to⟩) rfl q (by simpa using hq) j hj),trivial⟩ trivial (by kernel_rfl)
  ·have b:((l.getD k default).ct == ct) = false:=b
   rw [if_neg (by rw [b];decide)] at hb
   refine zG zE (NS.next ⟨k + 1,a⟩ (by show l.length - (k + 1) < l.length - k;omega) ?_)
   exact weak_hd [] rfl ⟨rfl,rfl,rfl,rfl,ren_int rfl (i64_k (n:=l.length) a (by omega)),trivial⟩ ⟨ren_row rfl (by rw [hb]) (fun q hq j hj=>by rw [hb]),trivial⟩ trivial (by kernel_rfl)
 have a:k = l.length:=by have a:decide ((k:Int) < (l.length:Int)) = false:=a;have:=of_decide_eq_false a;omega
 subst a
 refine zG zE (NS.leave rfl zE ?_)
 refine zG zE (NS.ret rfl rfl (?_))
 rw [List.take_length]
 exact LeA.refl _
noncomputable def CFr:Cx:={ E:=EM,inl:=[319],ok:=EM_ok }
theorem free_ok (p:Pln) (l:List Bkg) (ct:Nat) (hc:ct < p.cts.length) (hl:l.length <= 1000000):FnOK Tryz.prog 258 [.agg p.cells,slBkg l,.int .i64 (ct:Nat),.int .i64 (p.cts.getD ct default).start] (slS (freeM p l ct),none):=by
 obtain ⟨R,hR⟩:∃ R,R = freeM p l ct:=⟨_,rfl⟩
 rw [<- hR]
 unfold freeM at hR
 have hbl:=busyM_len l ct
 refine fn_ok CFr rfl (by kernel_rfl) Tryz.func258 rfl ?_
 refine zG zE (NS.need (in_row hc) ?_)
 refine zG zE (NS.call (busy_ok l ct hl) rfl ?_)
 refine zG zE ?_
 refine NS.loop (σ:={ q:Nat × Int × List Spn // q.1 <= (busyM l ct).length /\ freeL (p.cts.getD ct default).stop q.2.1 ((busyM l ct).drop q.1) q.2.2 = R /\ q.2.2.length <= q.1 }) (fun q=>[(9,.ptr 9 0),(10,.ptr 10 0),(11,.ptr 11 0),(12,.fn 319 [.ptr 11 0,.ptr 10 0]),(27,slS (busyM l ct)),(28,.int .i64 (busyM l ct).length),(29,.int .i64 (q.1.1:Nat))]) (fun q=>[(9,.box (p.cts.getD ct default).cells),(10,.box [.own 46]),(11,.box [.int .i64 q.1.2.1]),(46,.row 100 2 q.1.2.2.length (rowL Spn.cells q.1.2.2))]) (fun q=>(busyM l ct).length - q.1.1) ⟨(0,(p.cts.getD ct default).start,[]),Nat.zero_le _,hR.symm,Nat.le_refl _⟩ ?_ ?_
 ·refine (weak_promoteB 10 0 46 100 2 (rowL Spn.cells []) rfl rfl rfl).trans ?_
  refine weak_hd [] rfl ⟨rfl,rfl,rfl,rfl,rfl,rfl,rfl,trivial⟩ ⟨⟨_,rfl,renCtc _ _⟩,⟨_,rfl,_,_,rfl,rfl,rfl⟩,⟨_,rfl,_,_,rfl,ren_int rfl ?_,rfl⟩,ren_row rfl rfl (fun i hi=>absurd hi (Nat.not_lt_zero i)),trivial⟩ trivial (by kernel_rfl)
  show (if (p.cts.getD ct default).start > (p.cts.getD ct default).start then (p.cts.getD ct default).start else (p.cts.getD ct default).start) = (p.cts.getD ct default).start
  split <;> rfl
 rintro ⟨⟨k,lo,out⟩,hk,hf,ho⟩
 have hk:k <= (busyM l ct).length:=hk
 have hf:freeL (p.cts.getD ct default).stop lo ((busyM l ct).drop k) out = R:=hf
 have ho:out.length <= k:=ho
 refine zG zE (NS.ite (fun a=>?_) (fun a=>?_))
 ·have a:k < (busyM l ct).length:=by have a:decide ((k:Int) < ((busyM l ct).length:Int)) = true:=a;have:=of_decide_eq_true a;omega
  rw [drop_cons a,freeL] at hf
  refine zG zE (NS.need (in_row a) ?_)
  refine zG zE (NS.ite (fun b=>?_) (fun b=>?_))
  ·have b:decide (lo < ((busyM l ct).getD k default).lo) = true:=b
   rw [addS_t b] at hf
   refine zG zE (NS.need (decide_eq_true (by simp only [maxRow];omega)) ?_)
   refine zG zE (NS.next ⟨(k + 1,(if ((busyM l ct).getD k default).hi > lo then ((busyM l ct).getD k default).hi else lo),out ++ [⟨lo,((busyM l ct).getD k default).lo⟩]),a,hf,by simp;omega⟩ (by show (busyM l ct).length - (k + 1) < (busyM l ct).length - k;omega) ?_)
   exact weak_hd [(46,59)] rfl ⟨rfl,rfl,rfl,rfl,rfl,rfl,ren_int rfl (i64_k (n:=(busyM l ct).length) a (by omega)),trivial⟩ ⟨⟨_,rfl,renCtc _ _⟩,⟨_,rfl,_,_,rfl,rfl,rfl⟩,⟨_,rfl,_,_,rfl,rfl,rfl⟩,ren_row rfl (by simp) (fun q hq j hj=>row_snoc (cells:=Spn.cells) (l:=out) (x:=⟨lo,((busyM l ct).getD k default).lo⟩) rfl q (by simpa using hq) j hj),trivial⟩ trivial (by kernel_rfl)
  ·have b:decide (lo < ((busyM l ct).getD k default).lo) = false:=b
   rw [addS_f b] at hf
   refine zG zE (NS.next ⟨(k + 1,(if ((busyM l ct).getD k default).hi > lo then ((busyM l ct).getD k default).hi else lo),out),a,hf,by show out.length <= k + 1;omega⟩ (by show (busyM l ct).length - (k + 1) < (busyM l ct).length - k;omega) ?_)
   exact weak_hd [] rfl ⟨rfl,rfl,rfl,rfl,rfl,rfl,ren_int rfl (i64_k (n:=(busyM l ct).length) a (by omega)),trivial⟩ ⟨⟨_,rfl,renCtc _ _⟩,⟨_,rfl,_,_,rfl,rfl,rfl⟩,⟨_,rfl,_,_,rfl,rfl,rfl⟩,ren_row rfl rfl (fun q hq j hj=>rfl),trivial⟩ trivial (by kernel_rfl)
 have a:k = (busyM l ct).length:=by have a:decide ((k:Int) < ((busyM l ct).length:Int)) = false:=a;have:=of_decide_eq_false a;omega
 subst a
 rw [List.drop_length,freeL] at hf
 refine zG zE (NS.leave rfl zE ?_)
 refine zG zE (NS.ite (fun b=>?_) (fun b=>?_))
 ·have b:decide (lo < (p.cts.getD ct default).stop) = true:=b
  rw [addS_t b] at hf
  refine zG zE (NS.need (decide_eq_true (by simp only [maxRow];omega)) ?_)
  refine zG zE (NS.ret rfl rfl (?_))
  subst hf
  exact LeA.sl (by simp) (fun q hq j hj=>row_snoc (cells:=Spn.cells) (l:=out) (x:=⟨lo,(p.cts.getD ct default).stop⟩) rfl q hq j hj)
 ·have b:decide (lo < (p.cts.getD ct default).stop) = false:=b
  rw [addS_f b] at hf
  refine zG zE (NS.ret rfl rfl (?_))
  subst hf
  exact LeA.refl _
theorem bcheck_ok (p:Pln) (l:List Bkg) (ct:Nat) (hc:ct < p.cts.length) (hb:chkB p l = 0) (h1:p.qs.length <= 1000000) (h2:p.cts.length <= 1000000) (h3:l.length <= 1000000):FnOK Tryz.prog 257 [.agg p.cells,slBkg l,.int .i64 (ct:Nat)] (.int .i64 0,none):=by
 have cb:=bCheck_ok p l h1 h2 h3
 rw [hb] at cb
 refine fn_ok CM rfl (by kernel_rfl) Tryz.func257 rfl ?_
 refine zG zE (NS.call (cb) rfl ?_)
 refine zG zE (NS.no (rfl) ?_)
 refine zG zE (NS.no (by show decide ((ct:Int) < 0) = false;exact decide_eq_false (by omega)) ?_)
 refine zG zE (NS.no (by show decide ((ct:Int) >= (p.cts.length:Int)) = false;exact decide_eq_false (by omega)) ?_)
 exact zG zE (NS.ret rfl rfl (LeA.refl _))
theorem Free_ok (p:Pln) (l:List Bkg) (ct:Nat) (hc:ct < p.cts.length) (hb:chkB p l = 0) (h1:p.qs.length <= 1000000) (h2:p.cts.length <= 1000000) (h3:l.length <= 1000000):FnOK Tryz.prog 191 [.agg p.cells,slBkg l,.int .i64 (ct:Nat)] (.tup [slS (freeM p l ct),.int .i64 0],none):=by
 refine fn_ok CM rfl (by kernel_rfl) Tryz.func191 rfl ?_
 refine zG zE (NS.call (bcheck_ok p l ct hc hb h1 h2 h3) rfl ?_)
 refine zG zE (NS.no (rfl) ?_)
 repeat' (first | (refine zG zE (NS.need (in_row hc) ?_)) | (refine zG zE (NS.chk (by kernel_rfl) ?_)) | (refine zG zE (NS.call (free_ok p l ct hc h3) rfl ?_)))
 exact zG zE (NS.ret rfl rfl (LeA.refl _))
end Go.Proofs.YtjhmdfofhnijeaaGreatDoor
