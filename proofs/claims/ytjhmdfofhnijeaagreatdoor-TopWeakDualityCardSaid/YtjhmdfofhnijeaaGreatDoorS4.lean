import Derived.Test.YtjhmdfofhnijeaaGreatDoorS3
import Derived.RangeFuncLeaves
set_option linter.unusedSimpArgs false
set_option linter.unusedSectionVars false
set_option linter.unusedVariables false
namespace Go.Sy
open Go.RowKit
structure LtB (B:Nat) (w w':World) (O O':Nat -> Prop) (ρ ρ':Nat -> Loc):Prop where
 size:w.heap.size <= w'.heap.size
 same:∀ b,b < w.heap.size -> ¬ O b -> w'.heap[b]? = w.heap[b]?
 own:∀ b,b < w.heap.size -> O' b -> O b
 loc:∀ id,id < B -> ρ' id = ρ id \/ ρ id = .virgin \/ ρ' id = .dead
section
variable {B:Nat} {w w1 w2:World} {O O1 O2:Nat -> Prop} {ρ ρ1 ρ2:Nat -> Loc}
theorem LtB.refl (B:Nat) (w:World) (O:Nat -> Prop) (ρ:Nat -> Loc):LtB B w w O O ρ ρ:=⟨Nat.le_refl _,fun _ _ _=>rfl,fun _ _ h=>h,fun _ _=>.inl rfl⟩
theorem Later.ltB (h:Later w w1 O O1 ρ ρ1):LtB B w w1 O O1 ρ ρ1:=⟨h.size,h.same,h.own,fun id _=>h.loc id⟩
theorem LtB.trans (h:LtB B w w1 O O1 ρ ρ1) (k:LtB B w1 w2 O1 O2 ρ1 ρ2):LtB B w w2 O O2 ρ ρ2:=by
 refine ⟨Nat.le_trans h.size k.size,fun b hb hn=>?_,fun b hb ho=>?_,fun id hid=>?_⟩
 ·have h1:¬ O1 b:=fun ho=>hn (h.own b hb ho)
  exact (k.same b (Nat.lt_of_lt_of_le hb h.size) h1).trans (h.same b hb hn)
 ·exact h.own b hb (k.own b (Nat.lt_of_lt_of_le hb h.size) ho)
 ·rcases h.loc id hid with e | e | e
  ·rcases k.loc id hid with e' | e' | e'
   ·exact .inl (e'.trans e)
   ·exact .inr (.inl (e.symm.trans e'))
   ·exact .inr (.inr e')
  ·exact .inr (.inl e)
  ·rcases k.loc id hid with e' | e' | e'
   ·exact .inr (.inr (e'.trans e))
   ·rw [e] at e';cases e'
   ·exact .inr (.inr e')
theorem LtB.later (h:LtB B w w1 O O1 ρ ρ1) (hv:∀ id,B <= id -> ρ id = .virgin):Later w w1 O O1 ρ ρ1:=by
 refine ⟨h.size,h.same,h.own,fun id=>?_⟩
 rcases Nat.lt_or_ge id B with hid | hid
 ·exact h.loc id hid
 ·exact .inr (.inl (hv id hid))
end
def Ex.of:Ex -> Exit
 | .normal=>.normal
 | .exit id=>.exit id
 | .ret=>.ret
def Post (w0:World) (X:Nat -> Prop) (B:Nat) (a:Act) (w:World) (ρ:Nat -> Loc) (Q:Ex -> St -> Prop):Exit -> Act -> World -> Prop:=fun e' a' w'=>
 ∃ e st' ρ' Ds,e' = Ex.of e /\ Q e st' /\ Rel w0 X st' a' w' ρ' /\ LtB B w w' (Ow X ρ) (Ow X ρ') ρ ρ' /\ a'.defers = List.map markOf Ds ++ a.defers /\ ∀ D ∈ Ds,w.heap.size <= D
def W (E:Env) (B:Nat) (fl:Bool) (c:Code) (st:St) (Q:Ex -> St -> Prop):Prop:=
 ∀ (ro:Option Nat) (n:Nat) (w0:World) (X:Nat -> Prop) (a:Act) (w:World) (ρ:Nat -> Loc),(fl = false -> ro = none) -> Rel w0 X st a w ρ -> c.wpIn (fw ro) n E.P (Post w0 X B a w ρ Q) a w
def WO (E:Env) (B:Nat) (fl:Bool) (ops:Array Oper) (l:List Nat) (st:St) (K:St -> Prop):Prop:=
 ∀ (ro:Option Nat) (n:Nat) (w0:World) (X:Nat -> Prop) (a:Act) (w:World) (ρ:Nat -> Loc) (Q:Exit -> Act -> World -> Prop),(fl = false -> ro = none) -> Rel w0 X st a w ρ ->
  (∀ st' a' w' ρ',K st' -> Rel w0 X st' a' w' ρ' -> Later w w' (Ow X ρ) (Ow X ρ') ρ ρ' -> a'.defers = a.defers -> Q .normal a' w') -> wpOpsIn (fw ro) n E.P ops Q l a w
def Weak (B:Nat) (st st':St):Prop:=∀ (w0:World) (X:Nat -> Prop) (a:Act) (w:World) (ρ:Nat -> Loc),Rel w0 X st a w ρ -> ∃ ρ',Rel w0 X st' a w ρ' /\ LtB B w w (Ow X ρ) (Ow X ρ') ρ ρ'
section
variable {w0:World} {X:Nat -> Prop} {E:Env} {B:Nat} {fl:Bool} {st:St} {Q:Ex -> St -> Prop}
theorem Post.chain {a a1:Act} {w w1:World} {ρ ρ1:Nat -> Loc} {Ds:List Nat} (hl:LtB B w w1 (Ow X ρ) (Ow X ρ1) ρ ρ1) (hd:a1.defers = List.map markOf Ds ++ a.defers) (hD:∀ D ∈ Ds,w.heap.size <= D)
  {e:Exit} {a2:Act} {w2:World} (h:Post w0 X B a1 w1 ρ1 Q e a2 w2):Post w0 X B a w ρ Q e a2 w2:=by
 obtain ⟨e0,st',ρ',Ds',rfl,hq,hrel,hl',hd',hD'⟩:=h
 refine ⟨e0,st',ρ',Ds' ++ Ds,rfl,hq,hrel,hl.trans hl',by rw [hd',hd,List.map_append,List.append_assoc],fun D hm=>?_⟩
 rcases List.mem_append.1 hm with h | h
 ·exact Nat.le_trans hl.size (hD' D h)
 ·exact hD D h
theorem W.mono {c:Code} {Q':Ex -> St -> Prop} (h:W E B fl c st Q) (hq:∀ e s,Q e s -> Q' e s):W E B fl c st Q':=fun ro n w0 X a w ρ hro hr=>by
 refine wpIn_mono (h ro n w0 X a w ρ hro hr) ?_
 rintro e a' w' ⟨e0,st',ρ',Ds,rfl,h1,h2⟩
 exact ⟨e0,st',ρ',Ds,rfl,hq _ _ h1,h2⟩
theorem W.weak {c:Code} {st':St} (hw:Weak B st st') (h:W E B fl c st' Q):W E B fl c st Q:=fun ro n w0 X a w ρ hro hr=>by
 obtain ⟨ρ',h1,h2⟩:=hw _ _ _ _ _ hr
 exact wpIn_mono (h ro n w0 X a w ρ' hro h1) fun e a' w' hp=>Post.chain (Ds:=[]) h2 rfl (by simp) hp
theorem W.skip (h:Q .normal st):W E B fl .skip st Q:=fun ro n w0 X a w ρ hro hr=>wpIn_skip ⟨.normal,st,ρ,[],rfl,h,hr,LtB.refl _ _ _ _,rfl,by simp⟩
theorem W.exit {id:Nat} (h:Q (.exit id) st):W E B fl (.exit id) st Q:=fun ro n w0 X a w ρ hro hr=>wpIn_exit ⟨.exit id,st,ρ,[],rfl,h,hr,LtB.refl _ _ _ _,rfl,by simp⟩
theorem W.ret (h:Q .ret st):W E B fl .ret st Q:=fun ro n w0 X a w ρ hro hr=>wpIn_ret ⟨.ret,st,ρ,[],rfl,h,hr,LtB.refl _ _ _ _,rfl,by simp⟩
theorem W.seq {c d:Code} (h:W E B fl c st fun e s=>match e with | .normal=>W E B fl d s Q | .exit i=>Q (.exit i) s | .ret=>Q .ret s):W E B fl (.seq c d) st Q:=fun ro n w0 X a w ρ hro hr=>by
 refine wpIn_seq (wpIn_mono (h ro n w0 X a w ρ hro hr) ?_)
 rintro e a' w' ⟨e0,st',ρ',Ds,rfl,h1,h2,h3,h4,h5⟩
 cases e0 with
 | normal=>exact wpIn_mono (h1 ro n w0 X a' w' ρ' hro h2) fun e a'' w'' hp=>Post.chain h3 h4 h5 hp
 | exit id=>exact ⟨.exit id,st',ρ',Ds,rfl,h1,h2,h3,h4,h5⟩
 | ret=>exact ⟨.ret,st',ρ',Ds,rfl,h1,h2,h3,h4,h5⟩
theorem W.block {id:Nat} {c:Code} (h:W E B fl c st fun e s=>match e with | .normal=>Q .normal s | .exit i=>(if i = id then Q .normal s else Q (.exit i) s) | .ret=>Q .ret s):W E B fl (.block id c) st Q:=fun ro n w0 X a w ρ hro hr=>by
 refine wpIn_block (wpIn_mono (h ro n w0 X a w ρ hro hr) ?_)
 rintro e a' w' ⟨e0,st',ρ',Ds,rfl,h1,h2,h3,h4,h5⟩
 cases e0 with
 | normal=>exact ⟨.normal,st',ρ',Ds,rfl,h1,h2,h3,h4,h5⟩
 | exit i=>
  simp only [Ex.of,Exit.inBlock]
  simp only at h1
  by_cases hi:i = id
  ·rw [if_pos hi];rw [if_pos hi] at h1
   exact ⟨.normal,st',ρ',Ds,rfl,h1,h2,h3,h4,h5⟩
  ·rw [if_neg hi];rw [if_neg hi] at h1
   exact ⟨.exit i,st',ρ',Ds,rfl,h1,h2,h3,h4,h5⟩
 | ret=>exact ⟨.ret,st',ρ',Ds,rfl,h1,h2,h3,h4,h5⟩
theorem W.condB {x:Operand} {c d:Code} {b:Bool} (hx:evA st.tmps x = .bool b \/ evA st.tmps x = .kb b) (ht:b = true -> W E B fl c st Q) (hf:b = false -> W E B fl d st Q):W E B fl (.cond x c d) st Q:=fun ro n w0 X a w ρ hro hr=>by
 have hx':a.eval x = .bool b:=by
  have:=evA_R hr.tmp x
  rcases hx with hx | hx <;> (rw [hx] at this;simpa only [R] using this)
 exact wpIn_cond_split hx' (fun h=>ht h ro n w0 X a w ρ hro hr) fun h=>hf h ro n w0 X a w ρ hro hr
theorem W.condAny {x:Operand} {c d:Code} (hx:evA st.tmps x = .anyb) (ht:W E B fl c st Q) (hf:W E B fl d st Q):W E B fl (.cond x c d) st Q:=fun ro n w0 X a w ρ hro hr=>by
 have:=evA_R hr.tmp x
 rw [hx] at this
 simp only [R] at this
 obtain ⟨b,hx'⟩:=this
 exact wpIn_cond_split hx' (fun h=>ht ro n w0 X a w ρ hro hr) fun h=>hf ro n w0 X a w ρ hro hr
theorem W.region {id:Nat} {ops:Array Oper} (h:WO E B fl ops (List.range ops.size) st fun s=>Q .normal s):W E B fl (.region id ops false) st Q:=fun ro n w0 X a w ρ hro hr=>
 wpIn_region (h ro n w0 X a w ρ _ hro hr fun st' a' w' ρ' hk hr' hl hd=>⟨.normal,st',ρ',[],rfl,hk,hr',hl.ltB,hd,by simp⟩)
theorem WO.nil {ops:Array Oper} {K:St -> Prop} (h:K st):WO E B fl ops [] st K:=fun ro n w0 X a w ρ Q hro hr hq=>hq st a w ρ h hr (Later.refl _ _ _) rfl
theorem WO.step (hE:EqOK E) {F:List Nat} {ops:Array Oper} {i:Nat} {l:List Nat} {o:Oper} {s1:St} {K:St -> Prop} (ho:ops[i]? = some o) (hs:Step E B F ops.toList o st s1) (h:WO E B fl ops l s1 K):WO E B fl ops (i :: l) st K:=fun ro n w0 X a w ρ Q hro hr hq=>by
 simp only [wpOpsIn,ho]
 exact Step.sound hE hr hs fun a' w' ρ' h' hL hd=>h ro n w0 X a' w' ρ' Q hro h' fun st'' a'' w'' ρ'' hk hr'' hl hd'=>hq st'' a'' w'' ρ'' hk hr'' (hL.trans hl) (hd'.trans hd)
def WD (E:Env) (B:Nat) (fl:Bool) (ops:Array Oper) (k:Nat) (st:St) (K:St -> Prop):Prop:=∀ l,Allowed ops k l -> WO E B fl ops l st K
theorem WO.run (hE:EqOK E) {F:List Nat} {ops:Array Oper} {p q:List Nat} {s1:St} {K:St -> Prop} (hr:RunI E B F ops p st s1) (h:WO E B fl ops q s1 K):WO E B fl ops (p ++ q) st K:=fun ro n w0 X a w ρ Q hro hrel hq=>
 RunI.soundK hE p _ _ _ _ _ hr hrel fun a' w' ρ' hr' hl hd=>h ro n w0 X a' w' ρ' Q hro hr' fun st'' a'' w'' ρ'' hk hr'' hl'' hd''=>hq st'' a'' w'' ρ'' hk hr'' (hl.trans hl'') (hd''.trans hd)
theorem WD.run (hE:EqOK E) {ops:Array Oper} {k m:Nat} {s1:St} {K:St -> Prop} (hchk:chkD ops = true) (hm:k + m <= ops.size \/ m = 0) (hc:cutAt ops (k + m) = true) (hr:RunI E B (sitesOf B ops.toList) ops (List.range' k m) st s1) (h:WD E B fl ops (k + m) s1 K):WD E B fl ops k st K:=fun l hl=>by
 rcases hm with hm | rfl
 ·obtain ⟨p,q,rfl,hq,hp⟩:=hl.run (E:=E) (B:=B) hchk hc hm
  exact WO.run hE (hp _ _ hr) (h q hq)
 ·simp only [List.range'_zero,RunI] at hr
  subst hr
  exact h l hl
theorem W.draw {id:Nat} {ops:Array Oper} (hc:chkD ops = true) (h:WD E B fl ops 0 st fun s=>Q .normal s):W E B fl (.region id ops true) st Q:=fun ro n w0 X a w ρ hro hr=>
 wpIn_region_draw fun t=>by
  refine h _ (allowed_schedule hc (E.P.follows .mixedOrders) t) ro n w0 X a _ ρ _ hro hr.drew fun st'' a'' w'' ρ'' hk hr'' hl hd=>?_
  exact ⟨.normal,st'',ρ'',[],rfl,hk,hr'',((laterDrew w _ ρ).trans hl).ltB,hd,by simp⟩
theorem exists_min {p:Nat -> Prop} (h:∃ n,p n):∃ n,p n /\ ∀ m,p m -> n <= m:=by
 obtain ⟨n,hn⟩:=h
 induction n using Nat.strongRecOn with
 | _ n ih=>
  rcases Classical.em (∃ m,m < n /\ p m) with ⟨m,hm,hp⟩ | hno
  ·exact ih m hm hp
  ·exact ⟨n,hn,fun m hm=>Nat.le_of_not_lt fun hlt=>hno ⟨m,hlt,hm⟩⟩
theorem wpIn_loop_family {F:Fence} {n:Nat} {P:Program} {Q:Exit -> Act -> World -> Prop} {a:Act} {w:World} {c:Code} {σ:Type} (I:σ -> Act -> World -> Prop) (m:σ -> Nat) (s0:σ) (h0:I s0 a w)
  (round:∀ s a w,I s a w -> c.wpIn F n P (Exit.then (fun a' w'=>∃ s',I s' a' w' /\ m s' < m s) Q) a w):(Code.loop c).wpIn F n P Q a w:=by
 have hmin:∀ a w,(∃ s,I s a w) -> ∃ k,(∃ s,I s a w /\ m s = k) /\ ∀ s,I s a w -> k <= m s:=by
  intro a w ⟨s,hs⟩
  obtain ⟨k,hk,hmin⟩:=exists_min (p:=fun k=>∃ s,I s a w /\ m s = k) ⟨m s,s,hs,rfl⟩
  exact ⟨k,hk,fun s hs=>hmin _ ⟨s,hs,rfl⟩⟩
 let μ:Act -> World -> Nat:=fun a w=>@dite _ (∃ s,I s a w) (Classical.propDecidable _) (fun h=>Classical.choose (hmin a w h)) (fun _=>0)
 have hμ:∀ a w,(∃ s,I s a w) -> (∃ s,I s a w /\ m s = μ a w) /\ ∀ s,I s a w -> μ a w <= m s:=by
  intro a w h
  have:=Classical.choose_spec (hmin a w h)
  simp only [μ,dif_pos h]
  exact this
 refine wpIn_loop (fun a w=>∃ s,I s a w) μ ⟨s0,h0⟩ fun a w h=>?_
 obtain ⟨⟨s,hs,hm⟩,_⟩:=hμ a w h
 refine wpIn_mono (round s a w hs) fun e a' w' hp=>?_
 cases e with
 | normal=>
  obtain ⟨s',h1,h2⟩:=hp
  exact ⟨⟨s',h1⟩,by have:=(hμ a' w' ⟨s',h1⟩).2 s' h1;omega⟩
 | _=>exact hp
theorem W.loop {σ:Type} (hd:σ -> St) (m:σ -> Nat) (s0:σ) {body:Code} (hw:Weak B st (hd s0))
  (step:∀ s,W E B fl body (hd s) fun e st'=>match e with | .normal=>(∃ s',m s' < m s /\ Weak B st' (hd s')) | .exit i=>Q (.exit i) st' | .ret=>Q .ret st'):W E B fl (.loop body) st Q:=fun ro n w0 X a w ρ hro hr=>by
 obtain ⟨ρ0,hr0,hl0⟩:=hw _ _ _ _ _ hr
 refine wpIn_loop_family (fun s a' w'=>∃ ρ' Ds,Rel w0 X (hd s) a' w' ρ' /\ LtB B w w' (Ow X ρ) (Ow X ρ') ρ ρ' /\ a'.defers = List.map markOf Ds ++ a.defers /\ ∀ D ∈ Ds,w.heap.size <= D) m s0 ⟨ρ0,[],hr0,hl0,rfl,by simp⟩ ?_
 rintro s a1 w1 ⟨ρ1,Ds1,hr1,hl1,hd1,hD1⟩
 refine wpIn_mono (step s ro n w0 X a1 w1 ρ1 hro hr1) ?_
 rintro e a' w' ⟨e0,st',ρ',Ds,rfl,h1,h2,h3,h4,h5⟩
 have hc:a'.defers = List.map markOf (Ds ++ Ds1) ++ a.defers:=by rw [h4,hd1,List.map_append,List.append_assoc]
 have hD:∀ D ∈ Ds ++ Ds1,w.heap.size <= D:=fun D hm=>by
  rcases List.mem_append.1 hm with h | h
  ·exact Nat.le_trans hl1.size (h5 D h)
  ·exact hD1 D h
 cases e0 with
 | normal=>
  obtain ⟨s',hlt,hwk⟩:=h1
  obtain ⟨ρ2,hr2,hl2⟩:=hwk _ _ _ _ _ h2
  exact ⟨s',⟨ρ2,Ds ++ Ds1,hr2,(hl1.trans h3).trans hl2,hc,hD⟩,hlt⟩
 | exit id=>exact ⟨.exit id,st',ρ',Ds ++ Ds1,rfl,h1,h2,hl1.trans h3,hc,hD⟩
 | ret=>exact ⟨.ret,st',ρ',Ds ++ Ds1,rfl,h1,h2,hl1.trans h3,hc,hD⟩
end
end Go.Sy
namespace Go.Sy
open Go.RowKit
theorem cell_putObj {w:World} {D:Nat} {ds:Option (List Deferred)} {x:Obj} (hD:w.heap[D]? = some (.deferred ds)) {p:Addr} {u:Value} (h:w.cell? p = some u):(w.putObj D x).cell? p = some u:=by
 rw [<- h]
 refine World.cell?_of_block (w:=w) (World.putObj_heap_other fun e=>?_)
 simp only [World.cell?,e,hD] at h
 cases h
mutual
theorem R.putObj {w:World} {O:Nat -> Prop} {D:Nat} {ds:Option (List Deferred)} {x:Obj} (hD:w.heap[D]? = some (.deferred ds)):∀ (a:A) (ρ:Nat -> Loc) (v:Value),R w O a ρ v -> R (w.putObj D x) O a ρ v
 | .junk,_,_,_=>by simp only [R]
 | .opq,_,_,h=>by simpa only [R] using h
 | .kb _,_,_,h=>by simpa only [R] using h
 | .bool _,_,_,h=>by simpa only [R] using h
 | .int _ _,_,_,h=>by simpa only [R] using h
 | .str _,_,_,h=>by simpa only [R] using h
 | .nils,_,_,h=>by simpa only [R] using h
 | .anyb,_,_,h=>by simpa only [R] using h
 | .nilp,_,_,h=>by simpa only [R] using h
 | .own _,_,_,h=>by simpa only [R] using h
 | .ptr _ _,_,_,h=>by simpa only [R] using h
 | .rp _ _ _ _,_,_,h=>by simpa only [R] using h
 | .yld _,_,_,h=>by simpa only [R] using h
 | .ov _ _ _ _,_,_,h=>by simpa only [R] using h
 | .ap _ _,_,_,h=>by simpa only [R] using h
 | .bm _ _ _,_,_,h=>by simpa only [R] using h
 | .rv _ _,_,_,h=>by simpa only [R] using h
 | .sl c n el,_,_,h=>by
  simp only [R] at h ⊢
  obtain ⟨a,cap,rfl,h1,h2,h3⟩:=h
  refine ⟨a,cap,rfl,h1,h2,fun hp=>?_⟩
  obtain ⟨ad,rfl,hi,hc⟩:=h3 hp
  refine ⟨ad,rfl,⟨by simpa using hi.1,hi.2⟩,fun i hin j hj=>?_⟩
  obtain ⟨u,hu,h1,hr⟩:=hc i hin j hj
  exact ⟨u,cell_putObj hD hu,h1,R.putObj hD (el i j) virg u hr⟩
 | .ip c el,_,_,h=>by
  simp only [R] at h ⊢
  obtain ⟨ad,rfl,h3⟩:=h
  refine ⟨ad,rfl,fun hp=>?_⟩
  obtain ⟨hi,hc⟩:=h3 hp
  refine ⟨⟨by simpa using hi.1,hi.2⟩,fun j hj=>?_⟩
  obtain ⟨u,hu,hr⟩:=hc j hj
  exact ⟨u,cell_putObj hD hu,R.putObj hD (el j) virg u hr⟩
 | .fn f l,ρ,v,h=>by
  simp only [R] at h ⊢
  obtain ⟨vs,rfl,h⟩:=h
  exact ⟨vs,rfl,RL.putObj hD l ρ vs h⟩
 | .agg l,ρ,v,h=>by
  simp only [R] at h ⊢
  obtain ⟨vs,rfl,h⟩:=h
  exact ⟨vs,rfl,RL.putObj hD l ρ vs h⟩
 | .bv _ l,ρ,v,h=>by
  simp only [R] at h ⊢
  obtain ⟨vs,rfl,h⟩:=h
  exact ⟨vs,rfl,RL.putObj hD l ρ vs h⟩
 | .tup l,ρ,v,h=>by
  simp only [R] at h ⊢
  obtain ⟨vs,rfl,h⟩:=h
  exact ⟨vs,rfl,RL.putObj hD l ρ vs h⟩
theorem RL.putObj {w:World} {O:Nat -> Prop} {D:Nat} {ds:Option (List Deferred)} {x:Obj} (hD:w.heap[D]? = some (.deferred ds)):∀ (l:List A) (ρ:Nat -> Loc) (vs:List Value),RL w O l ρ vs -> RL (w.putObj D x) O l ρ vs
 | [],_,_,h=>by simpa only [RL] using h
 | a :: l,ρ,vs,h=>by
  simp only [RL] at h ⊢
  obtain ⟨v,vs',rfl,h1,h2⟩:=h
  exact ⟨v,vs',rfl,R.putObj hD a ρ v h1,RL.putObj hD l ρ vs' h2⟩
end
theorem ObR.putObj {w:World} {O:Nat -> Prop} {D:Nat} {ds:Option (List Deferred)} {x:Obj} {ρ:Nat -> Loc} (hD:w.heap[D]? = some (.deferred ds)) {o:Ob} {l:Loc} (h:ObR w O ρ o l):ObR (w.putObj D x) O ρ o l:=by
 have other:∀ {b:Nat} {y:Obj},w.heap[b]? = some y -> (∀ ds,y ≠ .deferred ds) -> (w.putObj D x).heap[b]? = some y:=fun {b y} hb hy=>by
  rw [World.putObj_heap_other (fun e=>by subst e;rw [hD] at hb;simp only [Option.some.injEq] at hb;exact hy _ hb.symm)];exact hb
 cases o with
 | virgin=>exact h
 | dead=>exact h
 | box cells=>
  obtain ⟨b,vs,t,rfl,hg,hr⟩:=h
  exact ⟨b,vs,t,rfl,other hg (fun _ h=>by cases h),RL.putObj hD cells ρ vs hr⟩
 | row e c n el=>
  obtain ⟨v,xs,rfl,hown,h1,h2⟩:=h
  refine ⟨v,xs,rfl,?_,h1,fun i hi j hj=>?_⟩
  ·obtain ⟨hl',hh⟩:=hown
   refine ⟨hl',?_⟩
   rcases hh with hh | ⟨g,o,cap,cur,rfl,⟨fz,hg,hz⟩,hr⟩
   ·exact .inl hh
   ·exact .inr ⟨g,o,cap,cur,rfl,⟨fz,other hg (fun _ h=>by cases h),hz⟩,hr⟩
  ·obtain ⟨u,hu,hr⟩:=h2 i hi j hj
   exact ⟨u,hu,R.putObj hD _ virg u hr⟩
 | lp ts ps asg bod sta pend=>
  obtain ⟨b,r,vs,rfl,hg,h1,h2,h3⟩:=h
  exact ⟨b,r,vs,rfl,other hg (fun _ h=>by cases h),h1,RL.putObj hD ts ρ vs h2,h3⟩
 | mp t ag n cl u hh v=>
  obtain ⟨b,es,clock,rfl,hg,hm,hc⟩:=h
  exact ⟨b,es,clock,rfl,other hg (fun _ h=>by cases h),hm.mono fun a v h=>R.putObj hD a ρ v h,hc⟩
 | rr te e c n len el hole=>
  obtain ⟨v,us,vs,rfl,⟨⟨h1,h2⟩,h3,h4,h5⟩,hh⟩:=h
  have same:∀ {e:TypeId} {c n:Nat} {v:Value} {xs:List Value},rowR w e c v n xs -> rowR (w.putObj D x) e c v n xs:=fun {e c n v xs} hr=>by
   obtain ⟨hl',hh⟩:=hr
   refine ⟨hl',?_⟩
   rcases hh with hh | ⟨g,o,cap,cur,rfl,⟨fz,hg,hz⟩,hr⟩
   ·exact .inl hh
   ·exact .inr ⟨g,o,cap,cur,rfl,⟨fz,other hg (fun _ h=>by cases h),hz⟩,hr⟩
  refine ⟨v,us,vs,rfl,⟨⟨same h1,h2⟩,h3,fun i u hu hne=>?_,h5⟩,fun i a e=>?_⟩
  ·obtain ⟨xs,h6,h7,h8⟩:=h4 i u hu hne
   refine ⟨xs,same h6,h7,fun q hq j hj=>?_⟩
   obtain ⟨y,hy,hr⟩:=h8 q hq j hj
   exact ⟨y,hy,R.putObj hD _ virg y hr⟩
  ·obtain ⟨h6,u,h7,h8⟩:=hh i a e
   exact ⟨h6,u,h7,R.putObj hD a ρ u h8⟩
structure Hp (w0:World) (X:Nat -> Prop) (objs:List Ob) (w:World) (ρ:Nat -> Loc):Prop where
 obj:∀ id,ObR w (Ow X ρ) ρ (getO objs id) (ρ id)
 dis:∀ i j b,(ρ i).has b -> (ρ j).has b -> i = j
 kept:Bel w0.heap.size w0 w
 new:∀ b,owned ρ b -> w0.heap.size <= b /\ b < w.heap.size
 old:∀ b,X b -> b < w0.heap.size
section
variable {w0 w w':World} {X:Nat -> Prop} {E:Env} {B:Nat} {fl:Bool} {st:St} {a:Act} {ρ ρ':Nat -> Loc} {objs:List Ob}
theorem Rel.hp (h:Rel w0 X st a w ρ):Hp w0 X st.objs w ρ:=⟨h.obj,h.dis,h.kept,h.new,h.old⟩
theorem below_putObj (h:Bel w0.heap.size w0 w) {D:Nat} (hle:w0.heap.size <= D) (x:Obj):Bel w0.heap.size w0 (w.putObj D x):=
 ⟨h.os,h.tape,h.output,by simpa using h.size,fun k hk=>(World.putObj_heap_other (by omega)).trans (h.block k hk),h.drawn⟩
theorem Hp.putObj (h:Hp w0 X objs w ρ) {D:Nat} {ds:Option (List Deferred)} (hD:w.heap[D]? = some (.deferred ds)) (hle:w0.heap.size <= D) (x:Obj):Hp w0 X objs (w.putObj D x) ρ:=
 ⟨fun id=>(h.obj id).putObj hD,h.dis,below_putObj h.kept hle x,fun b hb=>by simpa using h.new b hb,h.old⟩
theorem Later.putObj {O O':Nat -> Prop} (h:Later w w' O O' ρ ρ') {D:Nat} (hle:w.heap.size <= D) (x:Obj):Later w (w'.putObj D x) O O' ρ ρ':=
 ⟨by simpa using h.size,fun b hb hn=>(World.putObj_heap_other (by omega)).trans (h.same b hb hn),h.own,h.loc⟩
theorem Rel.after (h:Rel w0 X st a w ρ) (hl:Later w w' (Ow X ρ) (Ow X ρ') ρ ρ') (hp:Hp w0 X objs w' ρ'):Rel w0 X ⟨st.tmps,objs⟩ a w' ρ':=
 h.next hl hp.kept hp.obj hp.dis hp.new
def resV (P:Program) (st:St):List ResultVar -> Option (List A)
 | []=>some []
 | .tmp t :: l=>match resV P st l with
  | some m=>some (getA st.tmps t :: m)
  | none=>none
 | .cell a t :: l=>match (loadA P st.objs t (getA st.tmps a)).eval,resV P st l with
  | some v,some m=>some (v :: m)
  | _,_=>none
def packV:List A -> A
 | [a]=>a
 | l=>.tup l
theorem resV_sound {P:Program} (hob:Hp w0 X st.objs w ρ) (htm:∀ i,R w (Ow X ρ) (getA st.tmps i) ρ (a.tmps.getD i undef)):∀ (rs:List ResultVar) (l:List A),resV P st rs = some l ->
  ∃ vs,(rs.mapM (fun | .tmp t=>pure (a.tmps.getD t undef) | .cell x t=>do loadVar t (<- asAddr (a.tmps.getD x undef)):ResultVar -> Sem Value)).run P w = .ok vs w /\ RL w (Ow X ρ) l ρ vs
 | [],l,hr=>by simp [resV] at hr;subst hr;exact ⟨[],by simp,by simp [RL]⟩
 | .tmp t :: rs,l,hr=>by
  simp only [resV] at hr
  split at hr
  ·rename_i m hm
   simp at hr;subst hr
   obtain ⟨vs,h1,h2⟩:=resV_sound hob htm rs m hm
   refine ⟨a.tmps.getD t undef :: vs,by rw [List.mapM_cons,Sem.run_bind];simp only [Sem.run_pure,Result.andThen_ok,Sem.run_bind,h1],?_⟩
   simp only [RL]
   exact ⟨_,_,rfl,htm t,h2⟩
  ·cases hr
 | .cell x t :: rs,l,hr=>by
  simp only [resV] at hr
  split at hr
  ·rename_i v m hv hm
   simp at hr;subst hr
   obtain ⟨vs,h1,h2⟩:=resV_sound hob htm rs m hm
   obtain ⟨u,hu,hru⟩:=loadA_sound (fun id=>.inr (hob.obj id)) (htm x) hv
   have hload:(do loadVar t (<- asAddr (a.tmps.getD x undef)):Sem Value).run P w = .ok u w:=by
    cases hx:a.tmps.getD x undef with
    | pointer p=>
     cases p with
     | none=>rw [hx] at hu;simp [Instr.loadAt,Instr.sureAddr,stuck] at hu
     | some ad=>
      rw [hx] at hu
      simp [Instr.loadAt,Instr.sureAddr] at hu
      simp [asAddr,hu]
    | _=>rw [hx] at hu;simp [Instr.loadAt,Instr.sureAddr,stuck] at hu
   refine ⟨u :: vs,by rw [List.mapM_cons,Sem.run_bind];simp only [hload,Result.andThen_ok,Sem.run_bind,h1,Sem.run_pure],?_⟩
   simp only [RL]
   exact ⟨_,_,rfl,hru,h2⟩
  ·cases hr
theorem results_sound {P:Program} {fn:Func} {l:List A} (hob:Hp w0 X st.objs w ρ) (htm:∀ i,R w (Ow X ρ) (getA st.tmps i) ρ (a.tmps.getD i undef)) (hres:resV P st fn.results.toList = some l):
  ∃ v,(results fn a.tmps).run P w = .ok v w /\ R w (Ow X ρ) (packV l) ρ v:=by
 obtain ⟨us,hrun,hus⟩:=resV_sound hob htm _ _ hres
 have hm:(fn.results.mapM (fun | .tmp t=>pure (a.tmps.getD t undef) | .cell x t=>do loadVar t (<- asAddr (a.tmps.getD x undef)):ResultVar -> Sem Value)).run P w = .ok us.toArray w:=by
  rw [Array.mapM_eq_mapM_toList,Sem.run_map,hrun]
  rfl
 match l,us,hus,hm with
 | [x],us,hus,hm=>
  simp only [RL] at hus
  obtain ⟨v,vs',rfl,h1,rfl⟩:=hus
  refine ⟨v,?_,h1⟩
  show ((fn.results.mapM (fun | .tmp t=>pure (a.tmps.getD t undef) | .cell x t=>do loadVar t (<- asAddr (a.tmps.getD x undef)):ResultVar -> Sem Value)) >>= fun vs=>(pure (if h:vs.size = 1 then vs[0] else .tuple vs):Sem Value)).run P w = _
  rw [Sem.run_bind,hm]
  simp
 | [],us,hus,hm=>
  simp only [RL] at hus
  subst hus
  refine ⟨.tuple #[],?_,by simp only [packV,R,RL];exact ⟨[],rfl,rfl⟩⟩
  show ((fn.results.mapM (fun | .tmp t=>pure (a.tmps.getD t undef) | .cell x t=>do loadVar t (<- asAddr (a.tmps.getD x undef)):ResultVar -> Sem Value)) >>= fun vs=>(pure (if h:vs.size = 1 then vs[0] else .tuple vs):Sem Value)).run P w = _
  rw [Sem.run_bind,hm]
  simp
 | x :: y :: l,us,hus,hm=>
  have hlen:=hus.len
  refine ⟨.tuple us.toArray,?_,by simp only [packV,R];exact ⟨us,rfl,hus⟩⟩
  show ((fn.results.mapM (fun | .tmp t=>pure (a.tmps.getD t undef) | .cell x t=>do loadVar t (<- asAddr (a.tmps.getD x undef)):ResultVar -> Sem Value)) >>= fun vs=>(pure (if h:vs.size = 1 then vs[0] else .tuple vs):Sem Value)).run P w = _
  rw [Sem.run_bind,hm]
  simp only [Result.andThen_ok,Sem.run_pure]
  rw [dif_neg (by simp [hlen])]
def Ex.out:Ex -> Prop
 | .exit _=>False
 | _=>True
def st0 (n:Nat) (args:List A) (objs:List Ob):St:=⟨args ++ List.replicate (n - args.length) (.tup []),objs⟩
theorem getA_replicate (n i:Nat) (x:A):getA (List.replicate n x) i = if i < n then x else .junk:=by
 induction n generalizing i with
 | zero=>simp [getA]
 | succ n ih=>
  cases i with
  | zero=>simp [List.replicate_succ,getA]
  | succ i=>simp [List.replicate_succ,getA,ih]
theorem rel0 {n:Nat} {args:List A} {vs:List Value} (hp:Hp w0 X objs w ρ) (hargs:RL w (Ow X ρ) args ρ vs):
  Rel w0 X (st0 n args objs) { tmps:=vs.toArray ++ Array.replicate (n - vs.toArray.size) undef,defers:=[] } w ρ:=by
 have hlen:=hargs.len
 refine ⟨by simp [st0,hlen],fun i=>?_,hp.obj,hp.dis,hp.kept,hp.new,hp.old,⟨[],rfl,List.nodup_nil,by simp⟩⟩
 simp only [st0,getA_append]
 split
 ·rename_i hi
  have hv:vs[i]? = some (vs[i]'(by omega)):=List.getElem?_eq_getElem (by omega)
  have hg:(vs.toArray ++ Array.replicate (n - vs.toArray.size) undef).getD i undef = vs[i]'(by omega):=by
   rw [Array.getD_eq_getD_getElem?,Array.getElem?_append_left (by simp;omega)]
   simp [hv]
  rw [hg]
  exact hargs.get i _ hv
 ·rename_i hi
  rw [getA_replicate]
  split
  ·rename_i hi2
   have hg:(vs.toArray ++ Array.replicate (n - vs.toArray.size) undef).getD i undef = undef:=by
    rw [Array.getD_eq_getD_getElem?,Array.getElem?_append_right (by simp;omega)]
    simp only [List.size_toArray,Array.getElem?_replicate]
    split <;> rfl
   rw [hg]
   simp only [R,RL]
   exact ⟨[],rfl,rfl⟩
  ·simp only [R]
theorem call_inl {g:FuncId} {fn:Func} {c:Code} {args:List A} {vs:List Value} {B':Nat} {Q:A -> List Ob -> Prop} (hp:Hp w0 X objs w ρ) (hargs:RL w (Ow X ρ) args ρ vs) (hf:E.P.funcs[g]? = some fn) (hb:fn.body = some c) (hv:∀ id,B' <= id -> ρ id = .virgin)
  (h:W E B' false c (st0 fn.ntmps args objs) fun e s=>e.out /\ ∃ l,resV E.P s fn.results.toList = some l /\ Q (packV l) s.objs):
  Calls E.P g vs.toArray w fun e w'=>∃ v r objs' ρ',e = .returned v /\ Q r objs' /\ R w' (Ow X ρ') r ρ' v /\ Hp w0 X objs' w' ρ' /\ Later w w' (Ow X ρ) (Ow X ρ') ρ ρ':=by
 refine (callsIn_fw (ro:=none) (n:=0)).1 (callsIn_of_wp_marks hf hb trivial (wpIn_mono (h none 0 w0 X _ w ρ (fun _=>rfl) (rel0 hp hargs)) ?_))
 rintro e a' w1 ⟨e0,st',ρ',Ds,rfl,⟨hout,l,hres,hq⟩,hrel,hl,hd,hDs⟩
 simp only [List.append_nil] at hd
 have key:LeavesInM (fw none) 0 E.P fn a'.tmps (fun e w'=>∃ v r objs' ρ',e = .returned v /\ Q r objs' /\ R w' (Ow X ρ') r ρ' v /\ Hp w0 X objs' w' ρ' /\ Later w w' (Ow X ρ) (Ow X ρ') ρ ρ') a'.defers .returning w1:=by
  rw [hd]
  obtain ⟨Ds',hd',hn',hD'⟩:=hrel.dfr
  have hDD:Ds' = Ds:=by
   have:List.map markOf Ds' = List.map markOf Ds:=by rw [<- hd',hd]
   refine (List.map_inj_right ?_).1 this
   intro x y hxy
   simpa [markOf] using hxy
  subst hDD
  have hdo:∀ (Ds:List Nat) (w2:World),Ds.Nodup -> (∀ D ∈ Ds,w2.heap[D]? = some (.deferred (some [])) /\ w0.heap.size <= D /\ w.heap.size <= D) -> (Hp w0 X st'.objs w2 ρ' /\ (∀ i,R w2 (Ow X ρ') (getA st'.tmps i) ρ' (a'.tmps.getD i undef)) /\ Later w w2 (Ow X ρ) (Ow X ρ') ρ ρ') ->
    LeavesInM (fw none) 0 E.P fn a'.tmps (fun e w'=>∃ v r objs' ρ',e = .returned v /\ Q r objs' /\ R w' (Ow X ρ') r ρ' v /\ Hp w0 X objs' w' ρ' /\ Later w w' (Ow X ρ) (Ow X ρ') ρ ρ') (Ds.map markOf) .returning w2:=by
   intro Ds
   induction Ds with
   | nil=>
    rintro w2 _ _ ⟨h1,h2,h3⟩
    obtain ⟨v,hrun,hr⟩:=results_sound h1 h2 hres
    exact ⟨v,hrun,v,_,_,ρ',rfl,hq,hr,h1,h3⟩
   | cons D Ds ih=>
    rintro w2 hn hD ⟨h1,h2,h3⟩
    obtain ⟨h4,h5,h6⟩:=hD D List.mem_cons_self
    obtain ⟨hn1,hn2⟩:=List.nodup_cons.1 hn
    refine ⟨by simp,.inl ⟨D,_,rfl,run_takeDeferred h4,ih _ hn2 (fun D' hD'=>?_) ⟨h1.putObj h4 h5 _,fun i=>R.putObj h4 _ _ _ (h2 i),h3.putObj h6 _⟩⟩⟩
    rw [World.putObj_heap_other (show D' ≠ D from fun e=>hn1 (e ▸ hD'))]
    exact hD D' (List.mem_cons_of_mem _ hD')
  exact hdo Ds' w1 hn' (fun D hm=>⟨(hD' D hm).1,(hD' D hm).2,hDs D hm⟩) ⟨hrel.hp,hrel.tmp,hl.later hv⟩
 cases e0 with
 | normal=>exact key
 | ret=>exact key
 | exit i=>exact hout.elim
end
end Go.Sy
namespace Go.Sy
open Go.RowKit
section
variable {w0 w w':World} {X:Nat -> Prop} {E:Env} {B:Nat} {fl:Bool} {st:St} {a:Act} {ρ ρ':Nat -> Loc} {objs:List Ob}
theorem len_virgin:∀ (l:List Ob) (id:Nat),l.length <= id -> getO l id = .virgin
 | [],_,_=>rfl
 | a :: l,0,h=>by simp at h
 | a :: l,id + 1,h=>by simp only [getO];exact len_virgin l id (by simpa using h)
theorem virgin_from (h:Rel w0 X st a w ρ) {B':Nat} (hB:st.objs.length <= B'):∀ id,B' <= id -> ρ id = .virgin:=fun id hid=>h.virgin (len_virgin _ _ (Nat.le_trans hB hid))
theorem WO.inl {ops:Array Oper} {i:Nat} {l:List Nat} {o:Oper} {K:St -> Prop} {g:FuncId} {caps args:List A} {fn:Func} {c:Code} {B':Nat} (ho:ops[i]? = some o) (hg:guardO ops.toList st.tmps o = some true) (hc:CallAt o st.tmps (.fn g caps) args)
  (hent:entB E.P g = true) (hf:E.P.funcs[g]? = some fn) (hb:fn.body = some c) (hB:st.objs.length <= B')
  (h:W E B' false c (st0 fn.ntmps (args ++ caps) st.objs) fun e s=>e.out /\ ∃ r,resV E.P s fn.results.toList = some r /\ WO E B fl ops l ⟨putT st.tmps o.dst (packV r),s.objs⟩ K):WO E B fl ops (i :: l) st K:=by
 intro ro n w0 X a w ρ Q hro hr hq
 simp only [wpOpsIn,ho]
 rw [wanted_of hr hg,if_pos rfl]
 refine ⟨fun _ _=>trivial,?_⟩
 obtain ⟨cx,as,tys,hop,hfv,rfl⟩:=hc
 have hev:=evA_R hr.tmp
 have hfx:=hev cx
 rw [<- hfv] at hfx
 simp only [R] at hfx
 obtain ⟨cvs,hfe,hcaps⟩:=hfx
 have hall:=RL.append (mapEv_RL hev as.toList) hcaps
 have hx:(execOp a.eval o).run E.P w = .ok (.enter g (as.toList.map a.eval ++ cvs).toArray) w:=by
  simp only [execOp,hop,resolve,hfe,Deferred.ofValue,Sem.run_bind,Sem.run_pure,Result.andThen_ok,invoke]
  rw [run_callFunc hent]
  congr 2
  simp
 rw [Oper.semAt_eq _ _ _ (by rw [hop];intro c hc;cases hc),hx]
 refine And.intro (fun h=>(by cases h)) ?_
 rw [callsIn_fw]
 refine (call_inl (Q:=fun r objs'=>WO E B fl ops l ⟨putT st.tmps o.dst r,objs'⟩ K) hr.hp hall hf hb (virgin_from hr hB) ?_).mono ?_
 ·exact h.mono fun e s ⟨h1,r,h2,h3⟩=>⟨h1,r,h2,h3⟩
 ·rintro e w1 ⟨v,r,objs',ρ',rfl,hwo,hrv,hp,hl⟩
  have hr1:=(hr.after hl hp).put' o.dst hrv
  exact hwo ro n w0 X _ w1 ρ' Q hro hr1 fun st' a' w' ρ'' hk hr' hl' hd'=>hq st' a' w' ρ'' hk hr' (hl.trans hl') (hd'.trans (put_defers _ _ _))
theorem WO.inlB {ops:Array Oper} {i:Nat} {l:List Nat} {o:Oper} {K:St -> Prop} {g:FuncId} {id off:Nat} {args:List A} {fn:Func} {c:Code} {B':Nat} (ho:ops[i]? = some o) (hg:guardO ops.toList st.tmps o = some true) (hc:CallAt o st.tmps (.bm g id off) args)
  (hent:entB E.P g = true) (hf:E.P.funcs[g]? = some fn) (hb:fn.body = some c) (hB:st.objs.length <= B')
  (h:W E B' false c (st0 fn.ntmps (.ptr id off :: args) st.objs) fun e s=>e.out /\ ∃ r,resV E.P s fn.results.toList = some r /\ WO E B fl ops l ⟨putT st.tmps o.dst (packV r),s.objs⟩ K):WO E B fl ops (i :: l) st K:=by
 intro ro n w0 X a w ρ Q hro hr hq
 simp only [wpOpsIn,ho]
 rw [wanted_of hr hg,if_pos rfl]
 refine ⟨fun _ _=>trivial,?_⟩
 obtain ⟨cx,as,tys,hop,hfv,rfl⟩:=hc
 have hev:=evA_R hr.tmp
 have hfx:=hev cx
 rw [<- hfv] at hfx
 obtain ⟨ad,hfe⟩:=hfx.bm_shape
 have hptr:R w (Ow X ρ) (.ptr id off) ρ (.pointer (some ad)):=by
  rw [hfe] at hfx
  simp only [R] at hfx ⊢
  split at hfx
  ·simp only [Value.func.injEq,Array.mk.injEq,List.cons.injEq,and_true,true_and] at hfx;exact hfx
  ·exact ⟨_,rfl⟩
  ·exact hfx
 have hall:RL w (Ow X ρ) (.ptr id off :: mapEv (evA st.tmps) as.toList) ρ (.pointer (some ad) :: as.toList.map a.eval):=by
  simp only [RL]
  exact ⟨_,_,rfl,hptr,mapEv_RL hev as.toList⟩
 have hx:(execOp a.eval o).run E.P w = .ok (.enter g (.pointer (some ad) :: as.toList.map a.eval).toArray) w:=by
  simp only [execOp,hop,resolve,hfe,Deferred.ofValue,Sem.run_bind,Sem.run_pure,Result.andThen_ok,invoke]
  rw [run_callFunc hent]
  congr 2
  simp
 rw [Oper.semAt_eq _ _ _ (by rw [hop];intro c hc;cases hc),hx]
 refine And.intro (fun h=>(by cases h)) ?_
 rw [callsIn_fw]
 refine (call_inl (Q:=fun r objs'=>WO E B fl ops l ⟨putT st.tmps o.dst r,objs'⟩ K) hr.hp hall hf hb (virgin_from hr hB) ?_).mono ?_
 ·exact h.mono fun e s ⟨h1,r,h2,h3⟩=>⟨h1,r,h2,h3⟩
 ·rintro e w1 ⟨v,r,objs',ρ',rfl,hwo,hrv,hp,hl⟩
  have hr1:=(hr.after hl hp).put' o.dst hrv
  exact hwo ro n w0 X _ w1 ρ' Q hro hr1 fun st' a' w' ρ'' hk hr' hl' hd'=>hq st' a' w' ρ'' hk hr' (hl.trans hl') (hd'.trans (put_defers _ _ _))
theorem WO.inlV {ops:Array Oper} {i:Nat} {l:List Nat} {o:Oper} {K:St -> Prop} {g:FuncId} {rl args:List A} {fn:Func} {c:Code} {B':Nat} (ho:ops[i]? = some o) (hg:guardO ops.toList st.tmps o = some true) (hc:CallAt o st.tmps (.bv g rl) args)
  (hent:entB E.P g = true) (hf:E.P.funcs[g]? = some fn) (hb:fn.body = some c) (hB:st.objs.length <= B')
  (h:W E B' false c (st0 fn.ntmps (.agg rl :: args) st.objs) fun e s=>e.out /\ ∃ r,resV E.P s fn.results.toList = some r /\ WO E B fl ops l ⟨putT st.tmps o.dst (packV r),s.objs⟩ K):WO E B fl ops (i :: l) st K:=by
 intro ro n w0 X a w ρ Q hro hr hq
 simp only [wpOpsIn,ho]
 rw [wanted_of hr hg,if_pos rfl]
 refine ⟨fun _ _=>trivial,?_⟩
 obtain ⟨cx,as,tys,hop,hfv,rfl⟩:=hc
 have hev:=evA_R hr.tmp
 have hfx:=hev cx
 rw [<- hfv] at hfx
 simp only [R] at hfx
 obtain ⟨us,hfe,hus⟩:=hfx
 have hall:RL w (Ow X ρ) (.agg rl :: mapEv (evA st.tmps) as.toList) ρ (.agg (List.toArray us) :: as.toList.map a.eval):=by
  simp only [RL]
  exact ⟨_,_,rfl,by simp only [R];exact ⟨us,rfl,hus⟩,mapEv_RL hev as.toList⟩
 have hx:(execOp a.eval o).run E.P w = .ok (.enter g (.agg (List.toArray us) :: as.toList.map a.eval).toArray) w:=by
  simp only [execOp,hop,resolve,hfe,Deferred.ofValue,Sem.run_bind,Sem.run_pure,Result.andThen_ok,invoke]
  rw [run_callFunc hent]
  congr 2
  simp
 rw [Oper.semAt_eq _ _ _ (by rw [hop];intro c hc;cases hc),hx]
 refine And.intro (fun h=>(by cases h)) ?_
 rw [callsIn_fw]
 refine (call_inl (Q:=fun r objs'=>WO E B fl ops l ⟨putT st.tmps o.dst r,objs'⟩ K) hr.hp hall hf hb (virgin_from hr hB) ?_).mono ?_
 ·exact h.mono fun e s ⟨h1,r,h2,h3⟩=>⟨h1,r,h2,h3⟩
 ·rintro e w1 ⟨v,r,objs',ρ',rfl,hwo,hrv,hp,hl⟩
  have hr1:=(hr.after hl hp).put' o.dst hrv
  exact hwo ro n w0 X _ w1 ρ' Q hro hr1 fun st' a' w' ρ'' hk hr' hl' hd'=>hq st' a' w' ρ'' hk hr' (hl.trans hl') (hd'.trans (put_defers _ _ _))
def WeakL (st st':St):Prop:=∀ (w0:World) (X:Nat -> Prop) (a:Act) (w:World) (ρ:Nat -> Loc),Rel w0 X st a w ρ -> ∃ ρ1,Rel w0 X st' a w ρ1 /\ Later w w (Ow X ρ) (Ow X ρ1) ρ ρ1
structure FnIn (P:Program) (f:FuncId) (args:List A) (objs:List Ob) (B:Nat) (r:A) (objs':List Ob):Prop where
 ent:entB P f = true
 run:∀ (w0:World) (X:Nat -> Prop) (w:World) (ρ:Nat -> Loc) (vs:List Value),Hp w0 X objs w ρ -> RL w (Ow X ρ) args ρ vs -> (∀ id,B <= id -> ρ id = .virgin) ->
  Calls P f vs.toArray w fun e w'=>∃ v ρ',e = .returned v /\ R w' (Ow X ρ') r ρ' v /\ Hp w0 X objs' w' ρ' /\ Later w w' (Ow X ρ) (Ow X ρ') ρ ρ'
theorem WO.inn {ops:Array Oper} {i:Nat} {l:List Nat} {o:Oper} {K:St -> Prop} {g:FuncId} {caps args vals:List A} {st1:St} {objs2:List Ob} {r:A} {B':Nat} (ho:ops[i]? = some o) (hg:guardO ops.toList st.tmps o = some true) (hc:CallAt o st.tmps (.fn g caps) args)
  (hw:WeakL st st1) (hle:∀ w O ρ v,RL w O (args ++ caps) ρ v -> RL w O vals ρ v) (hB:st1.objs.length <= B') (hf:FnIn E.P g vals st1.objs B' r objs2)
  (h:WO E B fl ops l ⟨putT st1.tmps o.dst r,objs2⟩ K):WO E B fl ops (i :: l) st K:=by
 intro ro n w0 X a w ρ Q hro hr hq
 simp only [wpOpsIn,ho]
 rw [wanted_of hr hg,if_pos rfl]
 refine ⟨fun _ _=>trivial,?_⟩
 obtain ⟨cx,as,tys,hop,hfv,rfl⟩:=hc
 have hev:=evA_R hr.tmp
 have hfx:=hev cx
 rw [<- hfv] at hfx
 simp only [R] at hfx
 obtain ⟨cvs,hfe,hcaps⟩:=hfx
 have hall:=RL.append (mapEv_RL hev as.toList) hcaps
 have hx:(execOp a.eval o).run E.P w = .ok (.enter g (as.toList.map a.eval ++ cvs).toArray) w:=by
  simp only [execOp,hop,resolve,hfe,Deferred.ofValue,Sem.run_bind,Sem.run_pure,Result.andThen_ok,invoke]
  rw [run_callFunc hf.ent]
  congr 2
  simp
 rw [Oper.semAt_eq _ _ _ (by rw [hop];intro c hc;cases hc),hx]
 refine And.intro (fun h=>(by cases h)) ?_
 rw [callsIn_fw]
 obtain ⟨ρ1,hr1,hl1⟩:=hw w0 X a w ρ hr
 refine (hf.run w0 X w ρ1 _ hr1.hp (hle _ _ _ _ (RL.later _ _ _ _ hl1 hall)) (virgin_from hr1 hB)).mono ?_
 rintro e w1 ⟨v,ρ',rfl,hrv,hp,hl⟩
 have hr2:=(hr1.after hl hp).put' o.dst hrv
 exact h ro n w0 X _ w1 ρ' Q hro hr2 fun st' a' w' ρ'' hk hr' hl' hd'=>hq st' a' w' ρ'' hk hr' (hl1.trans (hl.trans hl')) (hd'.trans (put_defers _ _ _))
theorem WO.innB {ops:Array Oper} {i:Nat} {l:List Nat} {o:Oper} {K:St -> Prop} {g:FuncId} {id off:Nat} {args vals:List A} {st1:St} {objs2:List Ob} {r:A} {B':Nat} (ho:ops[i]? = some o) (hg:guardO ops.toList st.tmps o = some true) (hc:CallAt o st.tmps (.bm g id off) args)
  (hw:WeakL st st1) (hle:∀ w O ρ v,RL w O (.ptr id off :: args) ρ v -> RL w O vals ρ v) (hB:st1.objs.length <= B') (hf:FnIn E.P g vals st1.objs B' r objs2)
  (h:WO E B fl ops l ⟨putT st1.tmps o.dst r,objs2⟩ K):WO E B fl ops (i :: l) st K:=by
 intro ro n w0 X a w ρ Q hro hr hq
 simp only [wpOpsIn,ho]
 rw [wanted_of hr hg,if_pos rfl]
 refine ⟨fun _ _=>trivial,?_⟩
 obtain ⟨cx,as,tys,hop,hfv,rfl⟩:=hc
 have hev:=evA_R hr.tmp
 have hfx:=hev cx
 rw [<- hfv] at hfx
 obtain ⟨ad,hfe⟩:=hfx.bm_shape
 have hptr:R w (Ow X ρ) (.ptr id off) ρ (.pointer (some ad)):=by
  rw [hfe] at hfx
  simp only [R] at hfx ⊢
  split at hfx
  ·simp only [Value.func.injEq,Array.mk.injEq,List.cons.injEq,and_true,true_and] at hfx;exact hfx
  ·exact ⟨_,rfl⟩
  ·exact hfx
 have hall:RL w (Ow X ρ) (.ptr id off :: mapEv (evA st.tmps) as.toList) ρ (.pointer (some ad) :: as.toList.map a.eval):=by
  simp only [RL]
  exact ⟨_,_,rfl,hptr,mapEv_RL hev as.toList⟩
 have hx:(execOp a.eval o).run E.P w = .ok (.enter g (.pointer (some ad) :: as.toList.map a.eval).toArray) w:=by
  simp only [execOp,hop,resolve,hfe,Deferred.ofValue,Sem.run_bind,Sem.run_pure,Result.andThen_ok,invoke]
  rw [run_callFunc hf.ent]
  congr 2
  simp
 rw [Oper.semAt_eq _ _ _ (by rw [hop];intro c hc;cases hc),hx]
 refine And.intro (fun h=>(by cases h)) ?_
 rw [callsIn_fw]
 obtain ⟨ρ1,hr1,hl1⟩:=hw w0 X a w ρ hr
 refine (hf.run w0 X w ρ1 _ hr1.hp (hle _ _ _ _ (RL.later _ _ _ _ hl1 hall)) (virgin_from hr1 hB)).mono ?_
 rintro e w1 ⟨v,ρ',rfl,hrv,hp,hl⟩
 have hr2:=(hr1.after hl hp).put' o.dst hrv
 exact h ro n w0 X _ w1 ρ' Q hro hr2 fun st' a' w' ρ'' hk hr' hl' hd'=>hq st' a' w' ρ'' hk hr' (hl1.trans (hl.trans hl')) (hd'.trans (put_defers _ _ _))
theorem expo1_sound {id:Nat} {x x':A} {v:Value} (h:Rel w0 X st a w ρ) (hr:R w (Ow X ρ) x ρ v) (he:expo1 id (setX st.objs id .dead) x = some x'):R w (fun b=>(ρ id).has b) x' (upd virg 0 (ρ id)) v:=by
 have key:∀ x',expo (setX st.objs id .dead) 5 x = some x' -> R w (fun b=>(ρ id).has b) x' (upd virg 0 (ρ id)) v:=by
  intro x' he
  have:=(expo_sound (O':=fun b=>(ρ id).has b) (objs:=setX st.objs id .dead) (h.obs [id]) (fun b _ hb=>.inr ⟨id,hb⟩) (fun j b hj hb=>⟨(h.new b ⟨j,hb⟩).2,fun hi=>?_⟩) 5).1 x x' v hr he
  ·exact R.later _ virg (upd virg 0 (ρ id)) v ⟨Nat.le_refl _,fun _ _ _=>rfl,fun _ _ h=>h,fun _=>.inr (.inl rfl)⟩ this
  ·have:=h.dis j id b hb hi
   subst this
   rw [getO_setX,if_pos rfl] at hj
   exact hj rfl
 unfold expo1 at he
 split at he
 ·rename_i j
  cases hj:Nat.beq j id with
  | true=>
   rw [hj] at he
   simp only [cond_true,Option.some.injEq] at he
   subst he
   have:=Nat.eq_of_beq_eq_true hj
   subst this
   simp only [R,upd_same] at hr ⊢
   exact hr
  | false=>rw [hj] at he;exact key x' he
 ·exact key x' he
theorem expoM_sound {id:Nat} (h:Rel w0 X st a w ρ):∀ {l l':List A} {vs:List Value},RL w (Ow X ρ) l ρ vs -> expoM id (setX st.objs id .dead) l = some l' -> RL w (fun b=>(ρ id).has b) l' (upd virg 0 (ρ id)) vs
 | [],l',vs,hr,he=>by simp only [expoM,Option.some.injEq] at he;subst he;simpa only [RL] using hr
 | x :: l,l',vs,hr,he=>by
  simp only [expoM] at he
  split at he
  ·rename_i b m h1 h2
   simp only [Option.some.injEq] at he
   subst he
   simp only [RL] at hr ⊢
   obtain ⟨v,vs',rfl,h3,h4⟩:=hr
   exact ⟨v,vs',rfl,expo1_sound h h3 h1,expoM_sound h h4 h2⟩
  ·cases he
theorem WO.mut {ops:Array Oper} {i:Nat} {l:List Nat} {o:Oper} {K:St -> Prop} {g:FuncId} {caps args vals:List A} {post:Ob -> A -> Prop} (id:Nat) {e:TypeId} {c n:Nat} {el:Nat -> Nat -> A} (ho:ops[i]? = some o) (hg:guardO ops.toList st.tmps o = some true) (hc:CallAt o st.tmps (.fn g caps) args)
  (hob:getO st.objs id = .row e c n el) (hv:expoM id (setX st.objs id .dead) (args ++ caps) = some vals) (hf:FnMu E.P g vals (.row e c n el) post)
  (h:∀ ob' r,post ob' r -> WO E B fl ops l ⟨putT st.tmps o.dst (ren 0 id 6 r),setX st.objs id ob'⟩ K):WO E B fl ops (i :: l) st K:=by
 intro ro n' w0 X a w ρ Q hro hr hq
 simp only [wpOpsIn,ho]
 rw [wanted_of hr hg,if_pos rfl]
 refine ⟨fun _ _=>trivial,?_⟩
 obtain ⟨cx,as,tys,hop,hfv,rfl⟩:=hc
 have hev:=evA_R hr.tmp
 have hfx:=hev cx
 rw [<- hfv] at hfx
 simp only [R] at hfx
 obtain ⟨cvs,hfe,hcaps⟩:=hfx
 have hall:=RL.append (mapEv_RL hev as.toList) hcaps
 have hx:(execOp a.eval o).run E.P w = .ok (.enter g (as.toList.map a.eval ++ cvs).toArray) w:=by
  simp only [execOp,hop,resolve,hfe,Deferred.ofValue,Sem.run_bind,Sem.run_pure,Result.andThen_ok,invoke]
  rw [run_callFunc hf.ent]
  congr 2
  simp
 rw [Oper.semAt_eq _ _ _ (by rw [hop];intro c hc;cases hc),hx]
 refine And.intro (fun h=>(by cases h)) ?_
 rw [callsIn_fw]
 have hrow:=hr.obj id
 rw [hob] at hrow
 have hrow':ObR w (fun b=>(ρ id).has b) virg (.row e c n el) (ρ id):=by
  obtain ⟨v,xs,h1,h2,h3,h4⟩:=hrow
  refine ⟨v,xs,h1,h2,h3,fun i hi j hj=>?_⟩
  obtain ⟨u,h5,h6⟩:=h4 i hi j hj
  exact ⟨u,h5,R.later _ virg virg u ⟨Nat.le_refl _,fun _ _ _=>rfl,fun b _ hb=>.inr ⟨id,hb⟩,fun _=>.inl rfl⟩ h6⟩
 refine (hf.run w (ρ id) _ (fun b hb=>(hr.new b ⟨id,hb⟩).2) hrow' (expoM_sound hr hall hv)).mono ?_
 rintro e' w' ⟨v,ob',r,rfl,hp,hbl,hsame,hob',hfl,hrv⟩
 have hL:Later w w' (Ow X ρ) (Ow X ρ) ρ ρ:=⟨hbl.size,fun b hb hn=>hsame b hb (fun e=>hn (.inr ⟨id,e⟩)),fun _ _ h=>h,fun _=>.inl rfl⟩
 have hkept:Bel w0.heap.size w0 w':=hr.kept.trans ⟨hbl.os,hbl.tape,hbl.output,hbl.size,fun k hk=>hsame k (Nat.lt_of_lt_of_le hk hr.size) (fun e=>by have:=(hr.new k ⟨id,e⟩).1;omega),hbl.drawn⟩
 have hrel:Rel w0 X ⟨st.tmps,setX st.objs id ob'⟩ a w' ρ:=by
  refine hr.next hL hkept (fun j=>?_) hr.dis (fun b hb=>⟨(hr.new b hb).1,Nat.lt_of_lt_of_le (hr.new b hb).2 hbl.size⟩)
  rw [getO_setX]
  by_cases hj:j = id
  ·subst hj
   rw [if_pos rfl]
   exact ObR.later (ρ:=virg) ⟨Nat.le_refl _,fun _ _ hn=>(hn trivial).elim,fun _ _ _=>trivial,fun _=>.inr (.inl rfl)⟩ (fun _ _=>rfl) hob'
  ·rw [if_neg hj]
   exact (hr.obj j).later hL fun b hb=>hsame b (hr.new b ⟨j,hb⟩).2 (fun e=>hj (hr.dis j id b hb e))
 have hr1:=hrel.put' o.dst (x:=ren 0 id 6 r) (v:=v) ((ren_sound (w':=w') (O:=Ow X ρ) (l:=ρ id) (ρ':=ρ) (d:=id) rfl 6).1 r v ((flat_sound 5).1 _ _ hfl hrv))
 exact h ob' r hp ro n' w0 X _ w' ρ Q hro hr1 fun st' a' w'' ρ'' hk hr' hl' hd'=>hq st' a' w'' ρ'' hk hr' (hL.trans hl') (hd'.trans (put_defers _ _ _))
theorem WO.mutB {ops:Array Oper} {i:Nat} {l:List Nat} {o:Oper} {K:St -> Prop} {g:FuncId} {pid off:Nat} {args vals:List A} {post:Ob -> A -> Prop} (id:Nat) {e:TypeId} {c n:Nat} {el:Nat -> Nat -> A} (ho:ops[i]? = some o) (hg:guardO ops.toList st.tmps o = some true) (hc:CallAt o st.tmps (.bm g pid off) args)
  (hob:getO st.objs id = .row e c n el) (hv:expoM id (setX st.objs id .dead) (.ptr pid off :: args) = some vals) (hf:FnMu E.P g vals (.row e c n el) post)
  (h:∀ ob' r,post ob' r -> WO E B fl ops l ⟨putT st.tmps o.dst (ren 0 id 6 r),setX st.objs id ob'⟩ K):WO E B fl ops (i :: l) st K:=by
 intro ro n' w0 X a w ρ Q hro hr hq
 simp only [wpOpsIn,ho]
 rw [wanted_of hr hg,if_pos rfl]
 refine ⟨fun _ _=>trivial,?_⟩
 obtain ⟨cx,as,tys,hop,hfv,rfl⟩:=hc
 have hev:=evA_R hr.tmp
 have hfx:=hev cx
 rw [<- hfv] at hfx
 obtain ⟨ad,hfe⟩:=hfx.bm_shape
 have hptr:R w (Ow X ρ) (.ptr pid off) ρ (.pointer (some ad)):=by
  rw [hfe] at hfx
  simp only [R] at hfx ⊢
  split at hfx
  ·simp only [Value.func.injEq,Array.mk.injEq,List.cons.injEq,and_true,true_and] at hfx;exact hfx
  ·exact ⟨_,rfl⟩
  ·exact hfx
 have hall:RL w (Ow X ρ) (.ptr pid off :: mapEv (evA st.tmps) as.toList) ρ (.pointer (some ad) :: as.toList.map a.eval):=by
  simp only [RL]
  exact ⟨_,_,rfl,hptr,mapEv_RL hev as.toList⟩
 have hx:(execOp a.eval o).run E.P w = .ok (.enter g (.pointer (some ad) :: as.toList.map a.eval).toArray) w:=by
  simp only [execOp,hop,resolve,hfe,Deferred.ofValue,Sem.run_bind,Sem.run_pure,Result.andThen_ok,invoke]
  rw [run_callFunc hf.ent]
  congr 2
  simp
 rw [Oper.semAt_eq _ _ _ (by rw [hop];intro c hc;cases hc),hx]
 refine And.intro (fun h=>(by cases h)) ?_
 rw [callsIn_fw]
 have hrow:=hr.obj id
 rw [hob] at hrow
 have hrow':ObR w (fun b=>(ρ id).has b) virg (.row e c n el) (ρ id):=by
  obtain ⟨v,xs,h1,h2,h3,h4⟩:=hrow
  refine ⟨v,xs,h1,h2,h3,fun i hi j hj=>?_⟩
  obtain ⟨u,h5,h6⟩:=h4 i hi j hj
  exact ⟨u,h5,R.later _ virg virg u ⟨Nat.le_refl _,fun _ _ _=>rfl,fun b _ hb=>.inr ⟨id,hb⟩,fun _=>.inl rfl⟩ h6⟩
 refine (hf.run w (ρ id) _ (fun b hb=>(hr.new b ⟨id,hb⟩).2) hrow' (expoM_sound hr hall hv)).mono ?_
 rintro e' w' ⟨v,ob',r,rfl,hp,hbl,hsame,hob',hfl,hrv⟩
 have hL:Later w w' (Ow X ρ) (Ow X ρ) ρ ρ:=⟨hbl.size,fun b hb hn=>hsame b hb (fun e=>hn (.inr ⟨id,e⟩)),fun _ _ h=>h,fun _=>.inl rfl⟩
 have hkept:Bel w0.heap.size w0 w':=hr.kept.trans ⟨hbl.os,hbl.tape,hbl.output,hbl.size,fun k hk=>hsame k (Nat.lt_of_lt_of_le hk hr.size) (fun e=>by have:=(hr.new k ⟨id,e⟩).1;omega),hbl.drawn⟩
 have hrel:Rel w0 X ⟨st.tmps,setX st.objs id ob'⟩ a w' ρ:=by
  refine hr.next hL hkept (fun j=>?_) hr.dis (fun b hb=>⟨(hr.new b hb).1,Nat.lt_of_lt_of_le (hr.new b hb).2 hbl.size⟩)
  rw [getO_setX]
  by_cases hj:j = id
  ·subst hj
   rw [if_pos rfl]
   exact ObR.later (ρ:=virg) ⟨Nat.le_refl _,fun _ _ hn=>(hn trivial).elim,fun _ _ _=>trivial,fun _=>.inr (.inl rfl)⟩ (fun _ _=>rfl) hob'
  ·rw [if_neg hj]
   exact (hr.obj j).later hL fun b hb=>hsame b (hr.new b ⟨j,hb⟩).2 (fun e=>hj (hr.dis j id b hb e))
 have hr1:=hrel.put' o.dst (x:=ren 0 id 6 r) (v:=v) ((ren_sound (w':=w') (O:=Ow X ρ) (l:=ρ id) (ρ':=ρ) (d:=id) rfl 6).1 r v ((flat_sound 5).1 _ _ hfl hrv))
 exact h ob' r hp ro n' w0 X _ w' ρ Q hro hr1 fun st' a' w'' ρ'' hk hr' hl' hd'=>hq st' a' w'' ρ'' hk hr' (hL.trans hl') (hd'.trans (put_defers _ _ _))
theorem Rel.kill (h:Rel w0 X st a w ρ) (L:Nat):Rel w0 X ⟨st.tmps,setX st.objs L .dead⟩ a w (upd ρ L .dead) /\ Later w w (Ow X ρ) (Ow X (upd ρ L .dead)) ρ (upd ρ L .dead):=by
 have hblk:∀ id b,(upd ρ L .dead id).has b -> (ρ id).has b /\ id ≠ L:=by
  intro id b hb
  by_cases hid:id = L
  ·subst hid;rw [upd_same] at hb;cases hb
  ·rw [upd_ne _ _ _ hid] at hb;exact ⟨hb,hid⟩
 have how:∀ b,owned (upd ρ L .dead) b -> owned ρ b:=fun b ⟨id,hid⟩=>⟨id,(hblk id b hid).1⟩
 have hL:Later w w (Ow X ρ) (Ow X (upd ρ L .dead)) ρ (upd ρ L .dead):=by
  refine ⟨Nat.le_refl _,fun _ _ _=>rfl,fun b _ ho=>?_,fun id=>?_⟩
  ·rcases ho with ho | ho
   ·exact .inl ho
   ·exact .inr (how b ho)
  ·by_cases hid:id = L
   ·subst hid;exact .inr (.inr (upd_same _ _ _))
   ·exact .inl (upd_ne _ _ _ hid)
 refine ⟨h.next hL h.kept (fun id=>?_) (fun i j b hi hj=>h.dis i j b (hblk i b hi).1 (hblk j b hj).1) (fun b hb=>h.new b (how b hb)),hL⟩
 rw [getO_setX]
 by_cases hid:id = L
 ·subst hid;rw [if_pos rfl,upd_same];exact rfl
 ·rw [if_neg hid,upd_ne _ _ _ hid]
  exact (h.obj id).later hL fun _ _=>rfl
theorem Rel.setLoop (h:Rel w0 X st a w ρ) {L b:Nat} {r:Loop} {ts:List A} {ps:List Nat} {asg bod:Code} {sta:LoopState} {pend:Option Code} (hob:getO st.objs L = .lp ts ps asg bod sta pend) (hρ:ρ L = .loop b) (hg:w.heap[b]? = some (.loop r)) (sta':LoopState) (pend':Option Code):
  Rel w0 X ⟨st.tmps,setX st.objs L (.lp ts ps asg bod sta' pend')⟩ a (w.putObj b (.loop { r with state:=sta',pending:=pend' })) ρ /\
   Later w (w.putObj b (.loop { r with state:=sta',pending:=pend' })) (Ow X ρ) (Ow X ρ) ρ ρ:=by
 have hbl:(ρ L).has b:=by rw [hρ];rfl
 have hL:Later w (w.putObj b (.loop { r with state:=sta',pending:=pend' })) (Ow X ρ) (Ow X ρ) ρ ρ:=
  ⟨by simp,fun b' _ hn=>World.putObj_heap_other (fun e=>hn (by subst e;exact .inr ⟨L,hbl⟩)),fun _ _ h=>h,fun _=>.inl rfl⟩
 refine ⟨h.next hL (below_putObj h.kept (h.new b ⟨L,hbl⟩).1 _) (fun i=>?_) h.dis (fun b' hb'=>by have:=h.new b' hb';simpa using this),hL⟩
 rw [getO_setX]
 by_cases hid:i = L
 ·subst hid
  rw [if_pos rfl]
  have:=h.obj i
  rw [hob] at this
  obtain ⟨b',r',vs,h1,h2,h3,h4,h5,h6,h7,h8,h9⟩:=this
  rw [hρ] at h1
  simp only [Loc.loop.injEq] at h1
  subst h1
  rw [hg] at h2
  simp only [Option.some.injEq,Obj.loop.injEq] at h2
  subst h2
  exact ⟨b,_,vs,hρ,World.putObj_heap_same (Array.getElem?_eq_some_iff.1 hg).1,h3,RL.later _ _ _ _ hL h4,h5,h6,h7,rfl,rfl⟩
 ·rw [if_neg hid]
  exact (h.obj i).later hL fun b' hb'=>World.putObj_heap_other (fun e=>hid (h.dis i L b (e ▸ hb') hbl))
def putPs:List A -> List Nat -> List A -> List A
 | ts,p :: ps,a :: as=>putPs (setL ts p a) ps as
 | ts,_,_=>ts
theorem putPs_sound {O:Nat -> Prop}:∀ (ps:List Nat) (args:List A) (vs:List Value) (ts:List A) (tv:Array Value),RL w O args ρ vs -> tv.size = ts.length -> (∀ i,R w O (getA ts i) ρ (tv.getD i undef)) ->
  ((ps.zip vs).foldl (fun t (p:Nat × Value)=>t.setIfInBounds p.1 p.2) tv).size = (putPs ts ps args).length /\ ∀ i,R w O (getA (putPs ts ps args) i) ρ (((ps.zip vs).foldl (fun t (p:Nat × Value)=>t.setIfInBounds p.1 p.2) tv).getD i undef)
 | [],args,vs,ts,tv,ha,hl,ht=>by cases args <;> exact ⟨hl,ht⟩
 | p :: ps,[],vs,ts,tv,ha,hl,ht=>by
  simp only [RL] at ha;subst ha
  exact ⟨hl,ht⟩
 | p :: ps,x :: args,vs,ts,tv,ha,hl,ht=>by
  simp only [RL] at ha
  obtain ⟨v,vs',rfl,h1,h2⟩:=ha
  simp only [putPs,List.zip_cons_cons,List.foldl_cons]
  refine putPs_sound ps args vs' (setL ts p x) (tv.setIfInBounds p v) h2 (by simp [length_setL,hl]) fun i=>?_
  rw [getA_setL]
  by_cases hi:i = p /\ p < ts.length
  ·rw [if_pos hi]
   obtain ⟨rfl,hp⟩:=hi
   have:(tv.setIfInBounds i v).getD i undef = v:=by simp [Array.getD,hl,hp]
   rw [this];exact h1
  ·rw [if_neg hi]
   have:(tv.setIfInBounds p v).getD i undef = tv.getD i undef:=by
    by_cases hid:i = p
    ·subst hid
     have hge:tv.size <= i:=by rw [hl];exact Nat.le_of_not_lt fun h'=>hi ⟨rfl,h'⟩
     rw [Array.setIfInBounds_eq_of_size_le hge]
    ·simp [Array.getD_eq_getD_getElem?,Ne.symm hid]
   rw [this];exact ht i
def Ex.jump:Ex -> Option Code
 | .normal=>none
 | .exit id=>some (.exit id)
 | .ret=>some .ret
def Ex.goes:Ex -> Bool
 | .normal=>true
 | _=>false
def Ex.sta:Ex -> LoopState
 | .normal=>.ready
 | _=>.done
theorem WO.yield {ops:Array Oper} {i:Nat} {l:List Nat} {o:Oper} {K:St -> Prop} {L:Nat} {args:List A} {ts:List A} {ps:List Nat} {asg bod:Code} {pend:Option Code} {B':Nat} (ho:ops[i]? = some o) (hg:guardO ops.toList st.tmps o = some true) (hc:CallAt o st.tmps (.yld L) args)
  (hlp:getO st.objs L = .lp ts ps asg bod .ready pend) (hlen:args.length = ps.length) (hB:st.objs.length <= B')
  (h:W E B' true asg ⟨putPs ts ps args,st.objs⟩ fun e s1=>match e with
   | .normal=>∃ ts1 ps1 asg1 bod1 pend1,getO s1.objs L = .lp ts1 ps1 asg1 bod1 .ready pend1 /\
    W E B' true bod ⟨s1.tmps,setX s1.objs L (.lp ts1 ps1 asg1 bod1 .busy pend1)⟩ fun e2 s2=>∃ ts2 ps2 asg2 bod2 sta2 pend2,getO s2.objs L = .lp ts2 ps2 asg2 bod2 sta2 pend2 /\
     WO E B fl ops l ⟨putT st.tmps o.dst (.kb e2.goes),setX s2.objs L (.lp ts2 ps2 asg2 bod2 e2.sta e2.jump)⟩ K
   | _=>False):WO E B fl ops (i :: l) st K:=by
 intro ro n w0 X a w ρ Q hro hr hq
 simp only [wpOpsIn,ho]
 rw [wanted_of hr hg,if_pos rfl]
 refine ⟨fun _ _=>trivial,?_⟩
 obtain ⟨cx,as,tys,hop,hfv,rfl⟩:=hc
 have hev:=evA_R hr.tmp
 have hfx:=hev cx
 rw [<- hfv] at hfx
 have hob:=hr.obj L
 rw [hlp] at hob
 obtain ⟨b,r,vs,hρ,hgb,htm,hts,hps,hasg,hbod,hsta,hpend⟩:=hob
 simp only [R,hρ] at hfx
 have hargs:=mapEv_RL hev as.toList
 have hsz:(as.map a.eval).size = r.params.size:=by
  have h1:r.params.size = ps.length:=by rw [<- hps];simp
  have h2:=hargs.len
  simp only [List.length_map,Array.length_toList] at h2
  simp only [Array.size_map,h1,<- hlen]
  exact h2
 have hx:(execOp a.eval o).run E.P w = .ok (.round b r.fn ((r.params.zip (as.map a.eval)).foldl (fun tmps (t,a)=>tmps.setIfInBounds t a) r.tmps) r.assign r.body) w:=by
  simp only [execOp,hop,resolve,hfx,Deferred.ofValue,Sem.run_bind,Sem.run_pure,Result.andThen_ok,invoke]
  simpa using run_yield (P:=E.P) hgb hsz
 rw [Oper.semAt_eq _ _ _ (by rw [hop];intro c hc;cases hc),hx]
 refine And.intro (fun h=>(by cases h)) ?_
 have hv:=virgin_from hr hB
 -- the round's frame
 have htv:((r.params.zip (as.map a.eval)).foldl (fun tmps (t,a)=>tmps.setIfInBounds t a) r.tmps) = ((ps.zip (as.toList.map a.eval)).foldl (fun t (p:Nat × Value)=>t.setIfInBounds p.1 p.2) (List.toArray vs)):=by
  rw [htm,<- hps]
  rw [<- Array.foldl_toList]
  congr 1
  simp
 rw [htv]
 have hput:=putPs_sound (w:=w) (ρ:=ρ) (O:=Ow X ρ) ps _ _ ts (List.toArray vs) hargs (by simp [hts.len]) (fun i=>by
  by_cases hi:i < vs.length
  ·have:(List.toArray vs).getD i undef = vs[i]:=by simp [Array.getD,hi]
   rw [this]
   exact hts.get i _ (List.getElem?_eq_getElem hi)
  ·have hl:=hts.len
   have:getA ts i = .junk:=by
    have:∀ (l:List A) (i:Nat),l.length <= i -> getA l i = .junk:=by
     intro l
     induction l with
     | nil=>intro i _;rfl
     | cons x l ih=>intro i h;cases i with
      | zero=>simp at h
      | succ i=>exact ih i (by simpa using h)
    exact this ts i (by omega)
   rw [this];simp only [R])
 have hrel0:Rel w0 X ⟨putPs ts ps (mapEv (evA st.tmps) as.toList),st.objs⟩ { tmps:=((ps.zip (as.toList.map a.eval)).foldl (fun t (p:Nat × Value)=>t.setIfInBounds p.1 p.2) (List.toArray vs)),defers:=[] } w ρ:=
  ⟨hput.1,hput.2,hr.obj,hr.dis,hr.kept,hr.new,hr.old,⟨[],rfl,List.nodup_nil,by simp⟩⟩
 refine roundIn_of_wpIn (F:=fw ro) trivial ?_
 rw [hasg,hbod]
 refine wpIn_mono (h (some b) (n - 1) w0 X _ w ρ (fun h=>by cases h) hrel0) ?_
 rintro e a1 w1 ⟨e0,s1,ρ1,Ds,rfl,h1,h2,h3,h4,h5⟩
 cases e0 with
 | exit id=>exact h1.elim
 | ret=>exact h1.elim
 | normal=>
  obtain ⟨ts1,ps1,asg1,bod1,pend1,hlp1,hbody⟩:=h1
  have hl1:=h3.later hv
  -- where the record lies has not turned
  have hρL:∀ {ρ':Nat -> Loc} {w':World} {s':St} {a':Act},Rel w0 X s' a' w' ρ' -> Later w w' (Ow X ρ) (Ow X ρ') ρ ρ' -> ∀ {t p q d t' p'},getO s'.objs L = .lp t p q d t' p' -> ρ' L = .loop b:=by
   intro ρ' w' s' a' hr' hl' t p q d t' p' hlp'
   rcases hl'.loc L with e | e | e
   ·rw [e,hρ]
   ·rw [hρ] at e;cases e
   ·have:=hr'.obj L
    rw [hlp',e] at this
    obtain ⟨_,_,_,h,_⟩:=this
    cases h
  have hρ1:=hρL h2 hl1 hlp1
  have hob1:=h2.obj L
  rw [hlp1] at hob1
  obtain ⟨b1,r1,vs1,e1,hgb1,_,_,_,_,_,hsta1,hpend1⟩:=hob1
  rw [hρ1] at e1
  simp only [Loc.loop.injEq] at e1
  subst e1
  refine ⟨_,run_beginRound hgb1 hsta1,?_⟩
  obtain ⟨hr2,hl2⟩:=h2.setLoop hlp1 hρ1 hgb1 .busy pend1
  have hrr:({ r1 with state:=.busy,pending:=pend1 }:Loop) = { r1 with state:=.busy }:=by rw [<- hpend1]
  rw [hrr] at hr2 hl2
  refine wpIn_mono (hbody (some b) (n - 1) w0 X _ _ ρ1 (fun h=>by cases h) hr2) ?_
  rintro e a2 w2 ⟨e2,s2,ρ2,Ds2,rfl,k1,k2,k3,k4,k5⟩
  obtain ⟨ts2,ps2,asg2,bod2,sta2,pend2,hlp2,hwo⟩:=k1
  have hl12:Later w w2 (Ow X ρ) (Ow X ρ2) ρ ρ2:=((h3.trans hl2.ltB).trans k3).later hv
  have hρ2:=hρL k2 hl12 hlp2
  have hob2:=k2.obj L
  rw [hlp2] at hob2
  obtain ⟨b2,r2,vs2,e3,hgb2,_,_,_,_,_,hsta2,hpend2⟩:=hob2
  rw [hρ2] at e3
  simp only [Loc.loop.injEq] at e3
  subst e3
  obtain ⟨hr3,hl3⟩:=k2.setLoop hlp2 hρ2 hgb2 e2.sta e2.jump
  have hfin:Rel w0 X ⟨putT st.tmps o.dst (.kb e2.goes),setX s2.objs L (.lp ts2 ps2 asg2 bod2 e2.sta e2.jump)⟩ (a.put o.dst (.bool e2.goes)) (w2.putObj b (.loop { r2 with state:=e2.sta,pending:=e2.jump })) ρ2:=
   (hr.after (hl12.trans hl3) hr3.hp).put' o.dst (by simp only [R])
  have hend:=hwo ro n w0 X _ _ ρ2 Q hro hfin fun st' a' w' ρ'' hk hr' hl' hd'=>hq st' a' w' ρ'' hk hr' ((hl12.trans hl3).trans hl') (hd'.trans (put_defers _ _ _))
  cases e2 with
  | normal=>exact ⟨_,_,run_endRound none hgb2,hend⟩
  | exit id=>exact ⟨_,_,run_endRound (some (.exit id)) hgb2,hend⟩
  | ret=>exact ⟨_,_,run_endRound (some .ret) hgb2,hend⟩
def rangeEnd (Q:Ex -> St -> Prop) (st:St):Option Code -> Prop
 | none=>Q .normal st
 | some .ret=>Q .ret st
 | some (.exit id)=>Q (.exit id) st
 | _=>False
theorem W.range {Q:Ex -> St -> Prop} {g:Operand} {ps:Array Tmp} {asg bod:Code} {gf:FuncId} {caps:List A} {fn:Func} {c:Code} {L B':Nat} (hg:evA st.tmps g = .fn gf caps) (hent:entB E.P gf = true) (hf:E.P.funcs[gf]? = some fn) (hb:fn.body = some c)
  (hL:getO st.objs L = .virgin) (hB:(setX st.objs L (.lp st.tmps ps.toList asg bod .ready none)).length <= B')
  (h:W E B' false c (st0 fn.ntmps (.yld L :: caps) (setX st.objs L (.lp st.tmps ps.toList asg bod .ready none))) fun e s=>e.out /\ ∃ r,resV E.P s fn.results.toList = some r /\
   ∃ ts ps' asg' bod' sta pend,getO s.objs L = .lp ts ps' asg' bod' sta pend /\ (match sta with | .busy=>False | _=>True) /\ rangeEnd Q ⟨st.tmps,setX s.objs L .dead⟩ pend):
  W E B false (.rangeFunc g ps asg bod) st Q:=by
 intro ro n w0 X a w ρ hro hr
 have hro:=hro rfl
 subst hro
 refine wpIn_rangeFunc fun fnn _=>?_
 have hev:=evA_R hr.tmp
 have hfx:=hev g
 rw [hg] at hfx
 simp only [R] at hfx
 obtain ⟨cvs,hfe,hcaps⟩:=hfx
 obtain ⟨rec,hrec⟩:∃ rec:Loop,rec = { state:=.ready,pending:=none,fn:=fnn,tmps:=a.tmps,params:=ps,assign:=asg,body:=bod,defers:=w.heap.size }:=⟨_,rfl⟩
 -- the two blocks
 have hlA:Later w (w.alloc (.deferred (some []))) (Ow X ρ) (Ow X ρ) ρ ρ:=⟨by simp,fun b hb _=>Below.heap_alloc _ _ _ hb,fun _ _ h=>h,fun _=>.inl rfl⟩
 have hrA:Rel w0 X st a (w.alloc (.deferred (some []))) ρ:=
  hr.next hlA (hr.kept.alloc hr.size _) (fun id=>(hr.obj id).later hlA fun b hb=>Below.heap_alloc _ _ _ (hr.new b ⟨id,hb⟩).2) hr.dis (fun b hb=>by have:=hr.new b hb;simp;omega)
 have hvL:=hrA.virgin hL
 have hloc:∀ b,(Loc.loop (w.heap.size + 1)).has b -> b = (w.alloc (.deferred (some []))).heap.size:=fun b hb=>by simpa [Loc.has,eq_comm] using hb
 have hlB:=laterMake (X:=X) (w:=w.alloc (.deferred (some []))) (.loop rec) hvL hloc
 have hal:∀ (w:World) (o:Obj),(w.alloc o).heap[w.heap.size]? = some o:=World.alloc_heap_new
 have hobL:ObR ((w.alloc (.deferred (some []))).alloc (.loop rec)) (Ow X (upd ρ L (.loop (w.heap.size + 1)))) (upd ρ L (.loop (w.heap.size + 1))) (.lp st.tmps ps.toList asg bod .ready none) (.loop (w.heap.size + 1)):=by
  refine ⟨w.heap.size + 1,rec,a.tmps.toList,rfl,?_,by rw [hrec],?_,by rw [hrec],by rw [hrec],by rw [hrec],by rw [hrec],by rw [hrec]⟩
  ·have:=hal (w.alloc (.deferred (some []))) (.loop rec);rwa [World.size_alloc] at this
  ·refine RL.later _ ρ _ _ hlB (RL_of_get (by rw [Array.length_toList,hr.len]) fun i v hv=>?_)
   have:=hrA.tmp i
   have e:a.tmps.getD i undef = v:=by
    rw [Array.getD_eq_getD_getElem?]
    have:a.tmps[i]? = some v:=by simpa using hv
    rw [this];rfl
   rwa [e] at this
 have hrB:=hrA.make hL hloc hobL
 have hyv:R ((w.alloc (.deferred (some []))).alloc (.loop rec)) (Ow X (upd ρ L (.loop (w.heap.size + 1)))) (.yld L) (upd ρ L (.loop (w.heap.size + 1))) (.func (.yield (w.heap.size + 1)) #[] #[]):=by
  simp only [R,upd_same]
 have hcv:=RL.later _ _ _ _ (hlA.trans hlB) hcaps
 have hargs:RL ((w.alloc (.deferred (some []))).alloc (.loop rec)) (Ow X (upd ρ L (.loop (w.heap.size + 1)))) (.yld L :: caps) (upd ρ L (.loop (w.heap.size + 1))) (.func (.yield (w.heap.size + 1)) #[] #[] :: cvs):=by
  simp only [RL];exact ⟨_,_,rfl,hyv,hcv⟩
 refine ⟨w.heap.size + 1,[markOf w.heap.size],(w.alloc (.deferred (some []))).alloc (.loop rec),{ target:=.fn (.func gf) (List.toArray cvs),args:=#[.func (.yield (w.heap.size + 1)) #[] #[]] },(w.alloc (.deferred (some []))).alloc (.loop rec),gf,
  (Value.func (.yield (w.heap.size + 1)) #[] #[] :: cvs).toArray,(w.alloc (.deferred (some []))).alloc (.loop rec),?_,?_,fun _ _=>trivial,?_,(fun h=>(by cases h)),?_⟩
 ·rw [hrec];exact run_enterLoop_outer _ _ _ _ _
 ·simp only [resolve,hfe,Deferred.ofValue,Sem.run_bind,Sem.run_pure,Result.andThen_ok]
  simp
  rfl
 ·simp only [invoke]
  rw [run_callFunc hent]
  congr 2
  simp
 ·rw [callsIn_fw]
  refine (call_inl (Q:=fun _ objs'=>∃ ts ps' asg' bod' sta pend,getO objs' L = .lp ts ps' asg' bod' sta pend /\ (match sta with | .busy=>False | _=>True) /\ rangeEnd Q ⟨st.tmps,setX objs' L .dead⟩ pend) hrB.hp hargs hf hb (virgin_from hrB hB) ?_).mono ?_
  ·exact h.mono fun e s ⟨h1,r,h2,h3⟩=>⟨h1,r,h2,h3⟩
  ·rintro e w3 ⟨v,r,objs',ρ',rfl,⟨ts,ps',asg',bod',sta,pend,hlp,hsta,hend⟩,hrv,hp,hl⟩
   have hl3:=(hlA.trans hlB).trans hl
   have hrC:Rel w0 X ⟨st.tmps,objs'⟩ a w3 ρ':=hrB.after hl hp
   have hρL:ρ' L = .loop (w.heap.size + 1):=by
    rcases hl.loc L with e | e | e
    ·rw [e,upd_same]
    ·rw [upd_same] at e;cases e
    ·have:=hp.obj L
     rw [hlp,e] at this
     obtain ⟨_,_,_,h,_⟩:=this
     cases h
   have hob:=hp.obj L
   rw [hlp] at hob
   obtain ⟨b1,r1,vs1,e1,hgb1,_,_,_,_,_,hsta1,hpend1⟩:=hob
   rw [hρL] at e1
   simp only [Loc.loop.injEq] at e1
   subst e1
   refine ⟨_,_,run_endLoop hgb1 (by rw [hsta1];cases sta <;> first | exact hsta.elim | simp),?_⟩
   obtain ⟨hrD,hlD⟩:=hrC.setLoop hlp hρL hgb1 .exhausted pend
   have hrr:({ r1 with state:=.exhausted,pending:=pend }:Loop) = { r1 with state:=.exhausted }:=by rw [<- hpend1]
   rw [hrr] at hrD hlD
   obtain ⟨hrE,hlE⟩:=hrD.kill L
   have hset:setX (setX objs' L (.lp ts ps' asg' bod' .exhausted pend)) L .dead = setX objs' L .dead:=setX_setX _ _ _ _
   simp only [hset] at hrE
   have hl5:=(hl3.trans hlD).trans hlE
   -- the block for the deferred calls
   have hD0:((w.alloc (.deferred (some []))).alloc (.loop rec)).heap[w.heap.size]? = some (.deferred (some [])):=(Below.heap_alloc _ _ _ (by simp)).trans (hal w _)
   have hnO:¬ Ow X (upd ρ L (.loop (w.heap.size + 1))) w.heap.size:=hrB.dfr_free hD0 hr.size
   have hD1:(w3.putObj (w.heap.size + 1) (.loop { r1 with state:=.exhausted })).heap[w.heap.size]? = some (.deferred (some [])):=by
    rw [World.putObj_heap_other (by omega)]
    exact (hl.same _ (by simp;omega) hnO).trans hD0
   have hrF:Rel w0 X ⟨st.tmps,setX objs' L .dead⟩ { a with defers:=[markOf w.heap.size] ++ a.defers } (w3.putObj (w.heap.size + 1) (.loop { r1 with state:=.exhausted })) (upd ρ' L .dead):=by
    refine ⟨hrE.len,hrE.tmp,hrE.obj,hrE.dis,hrE.kept,hrE.new,hrE.old,?_⟩
    obtain ⟨Ds,d1,d2,d3⟩:=hrE.dfr
    obtain ⟨Ds0,f1,f2,f3⟩:=hr.dfr
    have hDD:Ds = Ds0:=by
     have:List.map markOf Ds = List.map markOf Ds0:=by rw [<- d1,<- f1]
     refine (List.map_inj_right ?_).1 this
     intro x y hxy
     simpa [markOf] using hxy
    subst hDD
    refine ⟨w.heap.size :: Ds,by rw [d1];rfl,List.nodup_cons.2 ⟨fun hm=>?_,d2⟩,fun D hm=>?_⟩
    ·have:=(Array.getElem?_eq_some_iff.1 (f3 _ hm).1).1;omega
    ·rcases List.mem_cons.1 hm with rfl | hm
     ·exact ⟨hD1,hr.size⟩
     ·exact d3 D hm
   have hpost:∀ e0,Q e0 ⟨st.tmps,setX objs' L .dead⟩ -> Post w0 X B a w ρ Q e0.of { a with defers:=[markOf w.heap.size] ++ a.defers } (w3.putObj (w.heap.size + 1) (.loop { r1 with state:=.exhausted })):=fun e0 hq=>
    ⟨e0,_,_,[w.heap.size],rfl,hq,hrF,hl5.ltB,rfl,by simp⟩
   simp only [hpend1] at hpost ⊢
   unfold rangeEnd at hend
   split at hend
   ·exact hpost .normal hend
   ·exact wpIn_ret (hpost .ret hend)
   ·exact wpIn_exit (hpost (.exit _) hend)
   ·exact hend.elim
end
end Go.Sy
namespace Go.Sy
open Go.RowKit
def nrm:Nat -> A -> A
 | 0,a=>a
 | d + 1,a=>match a with
  | .kb b=>.bool b
  | .agg l=>.agg (renL (nrm d) l)
  | .tup l=>.tup (renL (nrm d) l)
  | a=>a
theorem nrm_sound {w:World} {O:Nat -> Prop} {ρ:Nat -> Loc}:∀ (d:Nat),(∀ (x:A) (v:Value),R w O x ρ v -> R w O (nrm d x) ρ v) /\ (∀ (xs:List A) (vs:List Value),RL w O xs ρ vs -> RL w O (renL (nrm d) xs) ρ vs)
 | 0=>⟨fun x v h=>h,fun xs=>by
   induction xs with
   | nil=>intro vs h;simpa only [renL,RL] using h
   | cons x xs ih=>
    intro vs h
    simp only [RL] at h
    obtain ⟨v,vs',rfl,h1,h2⟩:=h
    simp only [renL,RL]
    exact ⟨v,vs',rfl,h1,ih vs' h2⟩⟩
 | d + 1=>by
  obtain ⟨_,ih2⟩:=nrm_sound (w:=w) (O:=O) (ρ:=ρ) d
  have H:∀ (x:A) (v:Value),R w O x ρ v -> R w O (nrm (d + 1) x) ρ v:=by
   intro x v h
   cases x with
   | kb b=>simpa only [nrm,R] using h
   | agg l=>
    simp only [nrm,R] at h ⊢
    obtain ⟨vs,rfl,h⟩:=h
    exact ⟨vs,rfl,ih2 l vs h⟩
   | tup l=>
    simp only [nrm,R] at h ⊢
    obtain ⟨vs,rfl,h⟩:=h
    exact ⟨vs,rfl,ih2 l vs h⟩
   | _=>exact h
  refine ⟨H,fun xs=>?_⟩
  induction xs with
  | nil=>intro vs h;simpa only [renL,RL] using h
  | cons x xs ih=>
   intro vs h
   simp only [RL] at h
   obtain ⟨v,vs',rfl,h1,h2⟩:=h
   simp only [renL,RL]
   exact ⟨v,vs',rfl,H x v h1,ih vs' h2⟩
def flatRow:Ob -> Prop
 | .row _ c n el=>∀ i,i < n -> ∀ j,j < c -> flat 3 (el i j) = true
 | _=>False
theorem ren_sound2 {w':World} {O O':Nat -> Prop} {ρ:Nat -> Loc} {id:Nat} (hO:∀ b,O' b -> O b):∀ (n:Nat),
  (∀ (x:A) (v:Value),R w' O x ρ v -> R w' O' (ren id 0 n x) (upd virg 0 (ρ id)) v) /\ (∀ (xs:List A) (vs:List Value),RL w' O xs ρ vs -> RL w' O' (renL (ren id 0 n) xs) (upd virg 0 (ρ id)) vs)
 | 0=>⟨fun x v _=>by simp [ren,R],fun xs=>by
   induction xs with
   | nil=>intro vs h;simpa only [renL,RL] using h
   | cons x xs ih=>
    intro vs h
    simp only [RL] at h
    obtain ⟨v,vs',rfl,_,h2⟩:=h
    simp only [renL,RL]
    exact ⟨v,vs',rfl,by simp [ren,R],ih vs' h2⟩⟩
 | n + 1=>by
  obtain ⟨_,ih2⟩:=ren_sound2 (w':=w') (ρ:=ρ) (id:=id) hO n
  have hL:Later w' w' O O' virg virg:=⟨Nat.le_refl _,fun _ _ _=>rfl,fun b _ h=>hO b h,fun _=>.inl rfl⟩
  have H:∀ (x:A) (v:Value),R w' O x ρ v -> R w' O' (ren id 0 (n + 1) x) (upd virg 0 (ρ id)) v:=by
   intro x v h
   cases x with
   | own j=>
    simp only [ren]
    split
    ·rename_i hj
     subst hj
     simp only [R,upd_same] at h ⊢
     exact h
    ·simp only [R]
   | ptr i off=>simp only [ren,R]
   | rp i c q off=>simp only [ren,R]
   | yld j=>
    simp only [ren]
    split
    ·rename_i hj
     subst hj
     simp only [R,upd_same] at h ⊢
     exact h
    ·simp only [R]
   | ov i c lo n=>simp only [ren,R]
   | ap i j=>simp only [ren,R]
   | bm f i j=>simp only [ren,R]
   | fn f xs=>
    simp only [ren,R] at h ⊢
    obtain ⟨vs,rfl,h⟩:=h
    exact ⟨vs,rfl,ih2 xs vs h⟩
   | agg xs=>
    simp only [ren,R] at h ⊢
    obtain ⟨vs,rfl,h⟩:=h
    exact ⟨vs,rfl,ih2 xs vs h⟩
   | bv f xs=>
    simp only [ren,R] at h ⊢
    obtain ⟨vs,rfl,h⟩:=h
    exact ⟨vs,rfl,ih2 xs vs h⟩
   | tup xs=>
    simp only [ren,R] at h ⊢
    obtain ⟨vs,rfl,h⟩:=h
    exact ⟨vs,rfl,ih2 xs vs h⟩
   | junk=>simp only [ren,R]
   | sl c m el=>
    have h1:R w' O (.sl c m el) virg v:=by simpa only [R] using h
    have:=R.later _ virg virg v hL h1
    simpa only [ren,R] using this
   | ip c el=>
    have h1:R w' O (.ip c el) virg v:=by simpa only [R] using h
    have:=R.later _ virg virg v hL h1
    simpa only [ren,R] using this
   | _=>first | (simp only [ren,R];done) | simpa only [ren,R] using h
  refine ⟨H,fun xs=>?_⟩
  induction xs with
  | nil=>intro vs h;simpa only [renL,RL] using h
  | cons x xs ih=>
   intro vs h
   simp only [RL] at h
   obtain ⟨v,vs',rfl,h1,h2⟩:=h
   simp only [renL,RL]
   exact ⟨v,vs',rfl,H x v h1,ih vs' h2⟩
def LeA (a b:A):Prop:=∀ (w:World) (O:Nat -> Prop) (ρ:Nat -> Loc) (v:Value),R w O a ρ v -> R w O b ρ v
def LeL (a b:List A):Prop:=∀ (w:World) (O:Nat -> Prop) (ρ:Nat -> Loc) (v:List Value),RL w O a ρ v -> RL w O b ρ v
theorem LeA.refl (a:A):LeA a a:=fun _ _ _ _ h=>h
theorem LeA.of {a b:A} (h:a = b):LeA a b:=by rw [h];exact LeA.refl b
theorem LeA.trans {a b c:A} (h:LeA a b) (h':LeA b c):LeA a c:=fun w O ρ v hr=>h' w O ρ v (h w O ρ v hr)
theorem LeA.junk (a:A):LeA a .junk:=fun _ _ _ _ _=>by simp only [R]
theorem LeA.nil (c:Nat) (el:Nat -> Nat -> A):LeA .nils (.sl c 0 el):=fun w O ρ v h=>by
 simp only [R] at h ⊢
 exact ⟨none,0,h,Nat.le_refl _,Nat.zero_le _,fun h=>by simp at h⟩
theorem LeA.nil' {c n:Nat} {el:Nat -> Nat -> A} (hn:n = 0):LeA .nils (.sl c n el):=by subst hn;exact LeA.nil c el
theorem LeA.sl {c n n':Nat} {el el':Nat -> Nat -> A} (hn:n = n') (h:∀ i,i < n -> ∀ j,j < c -> el i j = el' i j):LeA (.sl c n el) (.sl c n' el'):=fun w O ρ v hr=>by
 subst hn
 simp only [R] at hr ⊢
 obtain ⟨a,cap,rfl,h1,h2,h3⟩:=hr
 refine ⟨a,cap,rfl,h1,h2,fun hp=>?_⟩
 obtain ⟨ad,rfl,hi,hc⟩:=h3 hp
 refine ⟨ad,rfl,hi,fun i hin j hj=>?_⟩
 rw [<- h i hin j hj]
 exact hc i hin j hj
theorem LeL.nil:LeL [] []:=fun _ _ _ _ h=>h
theorem LeL.cons {a b:A} {l m:List A} (h:LeA a b) (h':LeL l m):LeL (a :: l) (b :: m):=fun w O ρ v hr=>by
 simp only [RL] at hr ⊢
 obtain ⟨v,vs,rfl,h1,h2⟩:=hr
 exact ⟨v,vs,rfl,h _ _ _ _ h1,h' _ _ _ _ h2⟩
theorem LeL.refl (l:List A):LeL l l:=fun _ _ _ _ h=>h
theorem LeA.agg {l m:List A} (h:LeL l m):LeA (.agg l) (.agg m):=fun w O ρ v hr=>by
 simp only [R] at hr ⊢
 obtain ⟨vs,rfl,h1⟩:=hr
 exact ⟨vs,rfl,h _ _ _ _ h1⟩
theorem LeA.tup {l m:List A} (h:LeL l m):LeA (.tup l) (.tup m):=fun w O ρ v hr=>by
 simp only [R] at hr ⊢
 obtain ⟨vs,rfl,h1⟩:=hr
 exact ⟨vs,rfl,h _ _ _ _ h1⟩
def LeO (a b:Ob):Prop:=match a,b with
 | .row e c n el,.row e' c' n' el'=>e = e' /\ c = c' /\ n = n' /\ ∀ i,i < n -> ∀ j,j < c -> el i j = el' i j
 | _,_=>False
def RetQ (r:A × Option Ob) (x:A) (objs:List Ob):Prop:=
 match r.2 with
 | none=>∃ a,expo objs 6 x = some a /\ LeA (nrm 6 a) r.1
 | some ob=>(∃ id,LeO (getO objs id) ob /\ LeA (nrm 6 (ren id 0 6 x)) r.1 /\ flatRow ob) \/ (x = .nils /\ r.1 = .own 0 /\ ∃ e c el,ob = .row e c 0 el) \/
   ∃ id t ag n u h v,getO objs id = .mp t ag n true u h v /\ ob = .mp t ag n true u h v /\ LeA (nrm 6 (ren id 0 6 x)) r.1 /\ ∀ q a,lookM h v u q = some a -> flat 5 a = true
theorem fn_okW {E:Env} {f:FuncId} {fn:Func} {c:Code} {args:List A} {r:A × Option Ob} (hent:entB E.P f = true) (hf:E.P.funcs[f]? = some fn) (hb:fn.body = some c)
  (h:W E 0 false c (st0 fn.ntmps args []) fun e s=>e.out /\ ∃ l,resV E.P s fn.results.toList = some l /\ RetQ r (packV l) s.objs):FnOK E.P f args r:=by
 refine ⟨hent,fun w X vs hX hargs=>?_⟩
 have hno:∀ b,¬ owned virg b:=by rintro b ⟨id,hid⟩;cases hid
 have hp:Hp w X [] w virg:=⟨fun id=>rfl,(fun i j b hi=>by cases hi),Bel.refl _ _,fun b hb=>(hno b hb).elim,hX⟩
 have hargs':RL w (Ow X virg) args virg vs:=RL.later _ virg virg _ ⟨Nat.le_refl _,fun _ _ _=>rfl,fun b _ ho=>by
  rcases ho with ho | ho
  ·exact ho
  ·exact (hno b ho).elim,fun _=>.inl rfl⟩ hargs
 refine (call_inl (Q:=RetQ r) hp hargs' hf hb (fun _ _=>rfl) h).mono ?_
 rintro e w' ⟨v,x,objs',ρ',rfl,hout,hrv,hp',hl⟩
 unfold RetQ at hout
 cases hr2:r.2 with
 | none=>
  rw [hr2] at hout
  simp only at hout
  obtain ⟨xa,hout,hnrm⟩:=hout
  refine ⟨v,.virgin,rfl,hp'.kept,?_,rfl,fun b hb=>by cases hb⟩
  refine hnrm _ _ _ _ ?_
  refine (nrm_sound 6).1 _ _ ?_
  have h0:upd virg 0 Loc.virgin = virg:=by funext i;simp [upd,virg]
  rw [h0]
  refine (expo_sound (O':=fun b=>X b \/ (Loc.virgin).has b) (fun id=>.inr (hp'.obj id)) (fun b _ ho=>?_) (fun id b _ hb=>?_) 6).1 _ _ _ hrv hout
  ·rcases ho with ho | ho
   ·exact .inl ho
   ·cases ho
  ·have:=hp'.new b ⟨id,hb⟩
   refine ⟨this.2,?_⟩
   rintro (ho | ho)
   ·have:=hX b ho;omega
   ·cases ho
 | some ob=>
  rw [hr2] at hout
  simp only at hout
  rcases hout with ⟨id,hle,hr1,hfl⟩ | ⟨rfl,hr1,e,c,el,rfl⟩ | ⟨id,t,ag,n,u,hh,vv,hmp,rfl,hr1,hflm⟩
  case inr.inr=>
   refine ⟨v,ρ' id,rfl,hp'.kept,?_,?_,fun b hb=>hp'.new b ⟨id,hb⟩⟩
   ·refine hr1 _ _ _ _ ?_
    refine (nrm_sound 6).1 _ _ ?_
    refine (ren_sound2 (fun b ho=>?_) 6).1 _ _ hrv
    rcases ho with ho | ho
    ·exact .inl ho
    ·exact .inr ⟨id,ho⟩
   ·have hob:=hp'.obj id
    rw [hmp] at hob
    obtain ⟨b,es,clock,h1,h2,hm,hcl⟩:=hob
    refine ⟨b,es,clock,h1,h2,⟨hm.1,hm.2.1,fun q hq=>?_⟩,hcl⟩
    have hmq:=hm.2.2 q hq
    split at hmq
    ·rename_i a ha
     obtain ⟨e,h3,h4,h5⟩:=hmq
     exact ⟨e,h3,h4,(R.closed virg 5).1 _ _ (hcl rfl q a hq ha) ((flat_sound 5).1 _ _ (hflm q a ha) h5)⟩
    ·exact hmq
  case inr.inl=>
   simp only [R] at hrv
   subst hrv
   refine ⟨_,.row (.slice none 0 0),rfl,hp'.kept,?_,⟨_,[],rfl,⟨by simp,.inl ⟨rfl,_,rfl⟩⟩,by simp,fun i hi=>by omega⟩,fun b hb=>by cases hb⟩
   rw [hr1]
   simp only [R,upd_same]
   exact ⟨trivial,_,_,_,rfl⟩
  refine ⟨v,ρ' id,rfl,hp'.kept,?_,?_,fun b hb=>hp'.new b ⟨id,hb⟩⟩
  ·refine hr1 _ _ _ _ ?_
   refine (nrm_sound 6).1 _ _ ?_
   refine (ren_sound2 (fun b ho=>?_) 6).1 _ _ hrv
   rcases ho with ho | ho
   ·exact .inl ho
   ·exact .inr ⟨id,ho⟩
  ·have hob:=hp'.obj id
   revert hle hob
   cases getO objs' id with
   | row e c n el=>
    cases ob with
    | row e' c' n' el'=>
     rintro ⟨rfl,rfl,rfl,hel'⟩ hob
     obtain ⟨rv,xs,hρ,hown,hxs,hel⟩:=hob
     refine ⟨rv,xs,hρ,hown,hxs,fun i hi j hj=>?_⟩
     obtain ⟨u,hu,hru⟩:=hel i hi j hj
     rw [hel' i hi j hj] at hru
     exact ⟨u,hu,(flat_sound 3).1 _ _ (hfl i hi j hj) hru⟩
    | _=>intro hle;exact hle.elim
   | _=>intro hle;exact hle.elim
end Go.Sy
namespace Go.Sy
open Go.RowKit
theorem Weak.refl (B:Nat) (st:St):Weak B st st:=fun _ _ _ _ ρ h=>⟨ρ,h,LtB.refl _ _ _ _⟩
theorem Weak.trans {B:Nat} {a b c:St} (h:Weak B a b) (h':Weak B b c):Weak B a c:=fun w0 X x w ρ hr=>by
 obtain ⟨ρ1,h1,l1⟩:=h w0 X x w ρ hr
 obtain ⟨ρ2,h2,l2⟩:=h' w0 X x w ρ1 h1
 exact ⟨ρ2,h2,l1.trans l2⟩
def lookT:List (Nat × A) -> Nat -> A
 | [],_=>.junk
 | (j,a) :: l,i=>if i = j then a else lookT l i
def spreadT (ts:List (Nat × A)) (i:Nat):Nat -> List A
 | 0=>[]
 | n + 1=>lookT ts i :: spreadT ts (i + 1) n
def takeO:Nat -> List Ob -> List Ob
 | 0,_=>[]
 | _ + 1,[]=>[]
 | n + 1,a :: l=>a :: takeO n l
def putOs:List Ob -> List (Nat × Ob) -> List Ob
 | l,[]=>l
 | l,(i,o) :: os=>setX (putOs l os) i o
def hd (B:Nat) (objs0:List Ob) (n:Nat) (ts:List (Nat × A)) (os:List (Nat × Ob)):St:=⟨spreadT ts 0 n,putOs (takeO B objs0) os⟩
def look1:List (Nat × Nat) -> Nat -> Nat
 | [],i=>i
 | (j,k) :: l,i=>if i = j then k else look1 l i
def RenA (σ:Nat -> Nat):A -> A -> Prop
 | .own j,b=>b = .own (σ j)
 | .ptr j o,b=>b = .ptr (σ j) o
 | .rp j c i o,b=>b = .rp (σ j) c i o
 | .ov j c lo n,b=>b = .ov (σ j) c lo n
 | .ap j i,b=>b = .ap (σ j) i
 | .bm f j i,b=>b = .bm f (σ j) i
 | .rv j n,b=>b = .rv (σ j) n
 | .yld j,b=>b = .yld (σ j)
 | .junk,_=>True
 | .bool x,b=>b = .bool x \/ b = .kb x
 | a,b=>b = a
def RenL (σ:Nat -> Nat):List A -> List A -> Prop
 | [],b=>b = []
 | a :: l,b=>∃ x m,b = x :: m /\ RenA σ a x /\ RenL σ l m
def RenO (σ:Nat -> Nat):Ob -> Ob -> Prop
 | .box cs,b=>∃ cs',b = .box cs' /\ RenL σ cs cs'
 | .row e c n el,b=>∃ el',b = .row e c n el' /\ ∀ i,i < n -> ∀ j,j < c -> el' i j = el i j
 | .lp ts ps asg bod sta pend,b=>b = .lp ts ps asg bod sta pend
 | .mp t ag n cl u h v,b=>∃ u' h' v',b = .mp t ag n true u' h' v' /\ cl = true /\ ∀ q,q.length = n -> lookM h' v' u' q = lookM h v u q
 | .rr te e c n len el h,b=>∃ len' el' h',b = .rr te e c n len' el' h' /\ (∀ i,i < n -> len' i = len i /\ ∀ q,q < len i -> ∀ j,j < c -> el' i q j = el i q j) /\ (match h,h' with | none,none=>True | some (i,a),some (i',a')=>i' = i /\ isCell a = true /\ RenA σ a a' | _,_=>False)
 | .dead,b=>b = .dead
 | _,_=>False
def refs (top good:Nat -> Bool):Nat -> A -> Bool
 | 0,_=>false
 | d + 1,a=>match a with
  | .own j=>top j
  | .ptr j _=>top j
  | .rp j _ _ _=>top j
  | .yld j=>top j
  | .ov j _ _ _=>top j
  | .ap j _=>top j
  | .bm _ j _=>top j
  | .rv j _=>top j
  | .fn _ l=>allL (refs good good d) l
  | .agg l=>allL (refs good good d) l
  | .bv _ l=>allL (refs good good d) l
  | .tup l=>allL (refs good good d) l
  | _=>true
def refsOb (top good:Nat -> Bool):Ob -> Bool
 | .box cs=>allL (refs top good 5) cs
 | .lp ts _ _ _ _ _=>allL (refs good good 5) ts
 | .mp _ _ _ cl _ _ _=>cl
 | .rr _ _ _ _ _ _ (some (_,a))=>refs top good 5 a
 | _=>true
def AllT (σ:Nat -> Nat) (ts0:List A):List (Nat × A) -> Prop
 | []=>True
 | (i,a) :: l=>RenA σ a (getA ts0 i) /\ AllT σ ts0 l
def AllO (σ:Nat -> Nat) (objs:List Ob):List (Nat × Ob) -> Prop
 | []=>True
 | (i,a) :: l=>RenO σ a (getO objs (σ i)) /\ AllO σ objs l
def Pre (keys:List Nat) (objs:List Ob):Nat -> Nat -> List Ob -> Prop
 | 0,_,_=>True
 | B + 1,i,[]=>(keys.contains i = true \/ getO objs i = .virgin) /\ Pre keys objs B (i + 1) []
 | B + 1,i,o :: l=>(keys.contains i = true \/ getO objs i = o) /\ Pre keys objs B (i + 1) l
def keysOf:List (Nat × Ob) -> List Nat
 | []=>[]
 | (i,_) :: l=>i :: keysOf l
def nodupB:List Nat -> Bool
 | []=>true
 | a :: l=>!l.contains a && nodupB l
def allTB (f:A -> Bool):List (Nat × A) -> Bool
 | []=>true
 | (_,a) :: l=>f a && allTB f l
def allOB (f:Ob -> Bool):List (Nat × Ob) -> Bool
 | []=>true
 | (_,a) :: l=>f a && allOB f l
def mapN (σ:Nat -> Nat):List Nat -> List Nat
 | []=>[]
 | a :: l=>σ a :: mapN σ l
def allNB (f:Nat -> Bool):List Nat -> Bool
 | []=>true
 | a :: l=>f a && allNB f l
def preB (keys:List Nat) (good:Nat -> Bool):Nat -> Nat -> List Ob -> Bool
 | 0,_,_=>true
 | _ + 1,_,[]=>true
 | B + 1,i,o :: l=>(keys.contains i || refsOb good good o) && preB keys good B (i + 1) l
def goodK (B:Nat) (keys:List Nat) (σ:Nat -> Nat) (j:Nat):Bool:=(keys.contains j && σ j == j) || (!keys.contains j && decide (j < B))
def topK (B:Nat) (keys:List Nat) (σ:Nat -> Nat) (j:Nat):Bool:=keys.contains j || (decide (j < B) && σ j == j)
def chkH (B:Nat) (objs0:List Ob) (σ:Nat -> Nat) (ts:List (Nat × A)) (os:List (Nat × Ob)):Bool:=
 allTB (refs (topK B (keysOf os) σ) (goodK B (keysOf os) σ) 5) ts && allOB (refsOb (topK B (keysOf os) σ) (goodK B (keysOf os) σ)) os && nodupB (keysOf os) && nodupB (mapN σ (keysOf os)) &&
  allNB (fun j=>(!decide (j < B) || σ j == j) && (!decide (σ j < B) || (keysOf os).contains (σ j))) (keysOf os) && preB (keysOf os) (goodK B (keysOf os) σ) B 0 objs0
theorem getA_spread (ts:List (Nat × A)):∀ (n i j:Nat),getA (spreadT ts i n) j = if j < n then lookT ts (i + j) else .junk
 | 0,i,j=>by simp [spreadT,getA]
 | n + 1,i,0=>by simp [spreadT,getA]
 | n + 1,i,j + 1=>by simp [spreadT,getA,getA_spread ts n (i + 1) j,Nat.add_assoc,Nat.add_comm 1 j]
theorem length_spread (ts:List (Nat × A)):∀ (n i:Nat),(spreadT ts i n).length = n
 | 0,i=>rfl
 | n + 1,i=>by simp [spreadT,length_spread ts n]
theorem getO_take:∀ (B:Nat) (l:List Ob) (i:Nat),getO (takeO B l) i = if i < B then getO l i else .virgin
 | 0,l,i=>by simp [takeO,getO]
 | B + 1,[],i=>by simp [takeO,getO]
 | B + 1,a :: l,0=>by simp [takeO,getO]
 | B + 1,a :: l,i + 1=>by simp [takeO,getO,getO_take B l i]
theorem getO_putOs (l:List Ob):∀ (os:List (Nat × Ob)) (i:Nat),(i ∉ keysOf os /\ getO (putOs l os) i = getO l i) \/ (i ∈ keysOf os /\ (i,getO (putOs l os) i) ∈ os)
 | [],i=>.inl ⟨by simp [keysOf],rfl⟩
 | (j,o) :: os,i=>by
  simp only [putOs,keysOf,getO_setX]
  by_cases hij:i = j
  ·subst hij
   rw [if_pos rfl]
   exact .inr ⟨List.mem_cons_self,List.mem_cons_self⟩
  ·rw [if_neg hij]
   rcases getO_putOs l os i with ⟨h1,h2⟩ | ⟨h1,h2⟩
   ·exact .inl ⟨by simp [hij,h1],h2⟩
   ·exact .inr ⟨List.mem_cons_of_mem _ h1,List.mem_cons_of_mem _ h2⟩
theorem lookT_mem {ts:List (Nat × A)} {i:Nat}:lookT ts i = .junk \/ (i,lookT ts i) ∈ ts:=by
 induction ts with
 | nil=>exact .inl rfl
 | cons p l ih=>
  obtain ⟨j,a⟩:=p
  simp only [lookT]
  split
  ·rename_i h;subst h;exact .inr List.mem_cons_self
  ·rcases ih with h | h
   ·exact .inl h
   ·exact .inr (List.mem_cons_of_mem _ h)
theorem AllT_mem {σ:Nat -> Nat} {ts0:List A}:∀ {l:List (Nat × A)} {i:Nat} {a:A},AllT σ ts0 l -> (i,a) ∈ l -> RenA σ a (getA ts0 i)
 | (j,b) :: l,i,a,h,hm=>by
  rcases List.mem_cons.1 hm with e | hm
  ·cases e;exact h.1
  ·exact AllT_mem h.2 hm
theorem AllO_mem {σ:Nat -> Nat} {objs:List Ob}:∀ {l:List (Nat × Ob)} {i:Nat} {a:Ob},AllO σ objs l -> (i,a) ∈ l -> RenO σ a (getO objs (σ i))
 | (j,b) :: l,i,a,h,hm=>by
  rcases List.mem_cons.1 hm with e | hm
  ·cases e;exact h.1
  ·exact AllO_mem h.2 hm
theorem allTB_mem {f:A -> Bool}:∀ {l:List (Nat × A)} {i:Nat} {a:A},allTB f l = true -> (i,a) ∈ l -> f a = true
 | (j,b) :: l,i,a,h,hm=>by
  simp only [allTB,Bool.and_eq_true] at h
  rcases List.mem_cons.1 hm with e | hm
  ·cases e;exact h.1
  ·exact allTB_mem h.2 hm
theorem allOB_mem {f:Ob -> Bool}:∀ {l:List (Nat × Ob)} {i:Nat} {a:Ob},allOB f l = true -> (i,a) ∈ l -> f a = true
 | (j,b) :: l,i,a,h,hm=>by
  simp only [allOB,Bool.and_eq_true] at h
  rcases List.mem_cons.1 hm with e | hm
  ·cases e;exact h.1
  ·exact allOB_mem h.2 hm
theorem allNB_mem {f:Nat -> Bool}:∀ {l:List Nat} {i:Nat},allNB f l = true -> i ∈ l -> f i = true
 | j :: l,i,h,hm=>by
  simp only [allNB,Bool.and_eq_true] at h
  rcases List.mem_cons.1 hm with e | hm
  ·cases e;exact h.1
  ·exact allNB_mem h.2 hm
theorem mapN_inj {σ:Nat -> Nat}:∀ {l:List Nat} {i j:Nat},nodupB (mapN σ l) = true -> i ∈ l -> j ∈ l -> σ i = σ j -> i = j
 | a :: l,i,j,h,hi,hj,he=>by
  simp only [mapN,nodupB,Bool.and_eq_true,Bool.not_eq_true'] at h
  have hm:∀ {m:List Nat} {x:Nat},x ∈ m -> σ x ∈ mapN σ m:=by
   intro m
   induction m with
   | nil=>intro x hx;cases hx
   | cons y m ih=>
    intro x hx
    rcases List.mem_cons.1 hx with rfl | hx
    ·exact List.mem_cons_self
    ·exact List.mem_cons_of_mem _ (ih hx)
  have hn:σ a ∉ mapN σ l:=by simpa using h.1
  rcases List.mem_cons.1 hi with e1 | h1 <;> rcases List.mem_cons.1 hj with e2 | h2
  ·rw [e1,e2]
  ·have:=hm h2
   rw [<- he,e1] at this
   exact (hn this).elim
  ·have:=hm h1
   rw [he,e2] at this
   exact (hn this).elim
  ·exact mapN_inj h.2 h1 h2 he
theorem Pre_get {keys:List Nat} {objs:List Ob}:∀ (B i:Nat) (l:List Ob),Pre keys objs B i l -> ∀ k,k < B -> keys.contains (i + k) = true \/ getO objs (i + k) = getO l k
 | 0,_,_,_,k,hk=>by omega
 | B + 1,i,[],h,k,hk=>by
  cases k with
  | zero=>exact h.1
  | succ k=>
   have:=Pre_get B (i + 1) [] h.2 k (by omega)
   simpa [getO,Nat.add_assoc,Nat.add_comm 1 k] using this
 | B + 1,i,o :: l,h,k,hk=>by
  cases k with
  | zero=>exact h.1
  | succ k=>
   have:=Pre_get B (i + 1) l h.2 k (by omega)
   simpa [getO,Nat.add_assoc,Nat.add_comm 1 k] using this
theorem preB_get {keys:List Nat} {good:Nat -> Bool}:∀ (B i:Nat) (l:List Ob),preB keys good B i l = true -> ∀ k,k < B -> keys.contains (i + k) = true \/ refsOb good good (getO l k) = true
 | 0,_,_,_,k,hk=>by omega
 | B + 1,i,[],h,k,hk=>.inr rfl
 | B + 1,i,o :: l,h,k,hk=>by
  simp only [preB,Bool.and_eq_true,Bool.or_eq_true] at h
  cases k with
  | zero=>exact h.1
  | succ k=>
   have:=preB_get B (i + 1) l h.2 k (by omega)
   simpa [getO,Nat.add_assoc,Nat.add_comm 1 k] using this
section
variable {w:World} {O O':Nat -> Prop} {ρ ρ':Nat -> Loc} {top good:Nat -> Bool} {σ:Nat -> Nat}
theorem refs_in (hL:Later w w O O' virg virg) (hρ:∀ j,good j = true -> ρ' j = ρ j):∀ (d:Nat),
  (∀ (a:A) (v:Value),refs good good d a = true -> R w O a ρ v -> R w O' a ρ' v) /\ (∀ (l:List A) (vs:List Value),allL (refs good good d) l = true -> RL w O l ρ vs -> RL w O' l ρ' vs)
 | 0=>⟨fun a v h=>by simp [refs] at h,fun l vs h hr=>by
   cases l with
   | nil=>simpa only [RL] using hr
   | cons a l=>simp [allL,refs] at h⟩
 | d + 1=>by
  obtain ⟨_,ih2⟩:=refs_in hL hρ d
  have H:∀ (a:A) (v:Value),refs good good (d + 1) a = true -> R w O a ρ v -> R w O' a ρ' v:=by
   intro a v hc hr
   cases a with
   | own j=>simp only [refs] at hc;simp only [R,hρ j hc] at hr ⊢;exact hr
   | ptr j o=>simp only [refs] at hc;simp only [R,hρ j hc] at hr ⊢;exact hr
   | rp j c i o=>simp only [refs] at hc;simp only [R,hρ j hc] at hr ⊢;exact hr
   | yld j=>simp only [refs] at hc;simp only [R,hρ j hc] at hr ⊢;exact hr
   | ov j c lo n=>simp only [refs] at hc;simp only [R,hρ j hc] at hr ⊢;exact hr
   | ap j i=>simp only [refs] at hc;simp only [R,hρ j hc] at hr ⊢;exact hr
   | bm f j i=>simp only [refs] at hc;simp only [R,hρ j hc] at hr ⊢;exact hr
   | rv j n=>simp only [refs] at hc;simp only [R,hρ j hc] at hr ⊢;exact hr
   | fn f l=>
    simp only [R] at hr ⊢
    obtain ⟨vs,rfl,h⟩:=hr
    exact ⟨vs,rfl,ih2 l vs hc h⟩
   | agg l=>
    simp only [R] at hr ⊢
    obtain ⟨vs,rfl,h⟩:=hr
    exact ⟨vs,rfl,ih2 l vs hc h⟩
   | bv f l=>
    simp only [R] at hr ⊢
    obtain ⟨vs,rfl,h⟩:=hr
    exact ⟨vs,rfl,ih2 l vs hc h⟩
   | tup l=>
    simp only [R] at hr ⊢
    obtain ⟨vs,rfl,h⟩:=hr
    exact ⟨vs,rfl,ih2 l vs hc h⟩
   | junk=>simp only [R]
   | sl c m el=>
    have h1:R w O (.sl c m el) virg v:=by simpa only [R] using hr
    have:=R.later _ virg virg v hL h1
    simpa only [R] using this
   | ip c el=>
    have h1:R w O (.ip c el) virg v:=by simpa only [R] using hr
    have:=R.later _ virg virg v hL h1
    simpa only [R] using this
   | _=>simpa only [R] using hr
  refine ⟨H,fun l=>?_⟩
  induction l with
  | nil=>intro vs _ h;simpa only [RL] using h
  | cons a l ih=>
   intro vs hc h
   simp only [allL,Bool.and_eq_true] at hc
   simp only [RL] at h ⊢
   obtain ⟨v,vs',rfl,h1,h2⟩:=h
   exact ⟨v,vs',rfl,H a v hc.1 h1,ih vs' hc.2 h2⟩
theorem RenA_sound (hL:Later w w O O' virg virg) (hρ:∀ j,top j = true -> ρ' j = ρ (σ j)) (hg:∀ j,good j = true -> ρ' j = ρ j) {a b:A} {v:Value} (hk:refs top good 5 a = true) (hab:RenA σ a b) (hr:R w O b ρ v):R w O' a ρ' v:=by
 cases a with
 | own j=>simp only [RenA] at hab;subst hab;simp only [refs] at hk;simp only [R,hρ j hk] at hr ⊢;exact hr
 | ptr j o=>simp only [RenA] at hab;subst hab;simp only [refs] at hk;simp only [R,hρ j hk] at hr ⊢;exact hr
 | rp j c i o=>simp only [RenA] at hab;subst hab;simp only [refs] at hk;simp only [R,hρ j hk] at hr ⊢;exact hr
 | yld j=>simp only [RenA] at hab;subst hab;simp only [refs] at hk;simp only [R,hρ j hk] at hr ⊢;exact hr
 | ov j c lo n=>simp only [RenA] at hab;subst hab;simp only [refs] at hk;simp only [R,hρ j hk] at hr ⊢;exact hr
 | ap j i=>simp only [RenA] at hab;subst hab;simp only [refs] at hk;simp only [R,hρ j hk] at hr ⊢;exact hr
 | bm f j i=>simp only [RenA] at hab;subst hab;simp only [refs] at hk;simp only [R,hρ j hk] at hr ⊢;exact hr
 | rv j n=>simp only [RenA] at hab;subst hab;simp only [refs] at hk;simp only [R,hρ j hk] at hr ⊢;exact hr
 | junk=>simp only [R]
 | bool x=>
  simp only [RenA] at hab
  rcases hab with rfl | rfl <;> simpa only [R] using hr
 | fn f l=>simp only [RenA] at hab;subst hab;exact (refs_in hL hg 5).1 _ _ (by simpa only [refs] using hk) hr
 | agg l=>simp only [RenA] at hab;subst hab;exact (refs_in hL hg 5).1 _ _ (by simpa only [refs] using hk) hr
 | bv f l=>simp only [RenA] at hab;subst hab;exact (refs_in hL hg 5).1 _ _ (by simpa only [refs] using hk) hr
 | tup l=>simp only [RenA] at hab;subst hab;exact (refs_in hL hg 5).1 _ _ (by simpa only [refs] using hk) hr
 | sl c m el=>simp only [RenA] at hab;subst hab;exact (refs_in hL hg 5).1 _ _ (by rfl) hr
 | ip c el=>simp only [RenA] at hab;subst hab;exact (refs_in hL hg 5).1 _ _ (by rfl) hr
 | _=>simp only [RenA] at hab;subst hab;simpa only [R] using hr
theorem RenL_sound (hL:Later w w O O' virg virg) (hρ:∀ j,top j = true -> ρ' j = ρ (σ j)) (hg:∀ j,good j = true -> ρ' j = ρ j):∀ {l m:List A} {vs:List Value},allL (refs top good 5) l = true -> RenL σ l m -> RL w O m ρ vs -> RL w O' l ρ' vs
 | [],m,vs,_,h,hr=>by simp only [RenL] at h;subst h;simpa only [RL] using hr
 | a :: l,m,vs,hk,h,hr=>by
  simp only [RenL] at h
  obtain ⟨x,m',rfl,h1,h2⟩:=h
  simp only [allL,Bool.and_eq_true] at hk
  simp only [RL] at hr ⊢
  obtain ⟨v,vs',rfl,h3,h4⟩:=hr
  exact ⟨v,vs',rfl,RenA_sound hL hρ hg hk.1 h1 h3,RenL_sound hL hρ hg hk.2 h2 h4⟩
theorem MapR.monoC {w w':World} {O O':Nat -> Prop} {ρ ρ':Nat -> Loc} {ag:Bool} {n:Nat} {f g:List Int -> Option A} {es:List MapEntry} (hcl:∀ q a,q.length = n -> f q = some a -> closed 5 a = true) (hfg:∀ q,q.length = n -> f q = g q) (h:∀ a v,closed 5 a = true -> R w O a ρ v -> R w' O' a ρ' v) (hm:MapR w O ρ ag n f es):MapR w' O' ρ' ag n g es:=by
 refine ⟨hm.1,hm.2.1,fun q hq=>?_⟩
 have:=hm.2.2 q hq
 rw [<- hfg q hq]
 split at this
 ·rename_i a ha
  obtain ⟨e,h1,h2,h3⟩:=this
  exact ⟨e,h1,h2,h _ _ (hcl q a hq ha) h3⟩
 ·exact this
theorem R_closed_later (hL:Later w w O O' virg virg) {a:A} {v:Value} (hc:closed 5 a = true) (h:R w O a ρ v):R w O' a ρ' v:=
 (R.closed ρ' 5).1 a v hc (R.later a virg virg v hL ((R.closed virg 5).1 a v hc h))
theorem RrR.same {te e:TypeId} {c n:Nat} {len:Nat -> Nat} {el:Nat -> Nat -> Nat -> A} {hi:Option Nat} {v:Value} {us vs:List Value} (hL:Later w w O O' virg virg) (h:RrR w O te e c n len el hi v us vs):RrR w O' te e c n len el hi v us vs:=by
 obtain ⟨h1,h3,h4,h5⟩:=h
 refine ⟨h1,h3,fun i u hu hne=>?_,h5⟩
 obtain ⟨xs,h6,h7,h8⟩:=h4 i u hu hne
 refine ⟨xs,h6,h7,fun q hq j hj=>?_⟩
 obtain ⟨x,hx,hr⟩:=h8 q hq j hj
 exact ⟨x,hx,R.later _ virg virg x hL hr⟩
theorem RrR.alike {te e:TypeId} {c n:Nat} {len len':Nat -> Nat} {el el':Nat -> Nat -> Nat -> A} {hi:Option Nat} {v:Value} {us vs:List Value} (hle:∀ i,i < n -> len' i = len i /\ ∀ q,q < len i -> ∀ j,j < c -> el' i q j = el i q j) (h:RrR w O te e c n len' el' hi v us vs):RrR w O te e c n len el hi v us vs:=by
 obtain ⟨h1,h3,h4,h5⟩:=h
 refine ⟨h1,h3,fun i u hu hne=>?_,h5⟩
 have hi':i < n:=by
  have:=(List.getElem?_eq_some_iff.1 hu).1
  have h6:=h1.1.1
  omega
 obtain ⟨e1,e2⟩:=hle i hi'
 obtain ⟨xs,h6,h7,h8⟩:=h4 i u hu hne
 rw [e1] at h6
 refine ⟨xs,h6,h7,fun q hq j hj=>?_⟩
 obtain ⟨x,hx,hr⟩:=h8 q (by omega) j hj
 exact ⟨x,hx,by rw [<- e2 q hq j hj];exact hr⟩
theorem ObR_same (hL:Later w w O O' virg virg) (hg:∀ j,good j = true -> ρ' j = ρ j) {o:Ob} {l:Loc} (hk:refsOb good good o = true) (h:ObR w O ρ o l):ObR w O' ρ' o l:=by
 cases o with
 | virgin=>exact h
 | dead=>exact h
 | box cs=>
  obtain ⟨b,vs,t,h1,h2,h3⟩:=h
  exact ⟨b,vs,t,h1,h2,(refs_in hL hg 5).2 _ _ hk h3⟩
 | row e c m el=>
  obtain ⟨v,xs,h1,h2,h3,h4⟩:=h
  refine ⟨v,xs,h1,h2,h3,fun i hi j hj=>?_⟩
  obtain ⟨u,hu,hr⟩:=h4 i hi j hj
  exact ⟨u,hu,R.later _ virg virg u hL hr⟩
 | lp ts ps asg bod sta pend=>
  obtain ⟨b,r,vs,h1,h2,h3,h4,h5⟩:=h
  exact ⟨b,r,vs,h1,h2,h3,(refs_in hL hg 5).2 _ _ hk h4,h5⟩
 | mp t ag n cl u hh v=>
  obtain ⟨b,es,clock,h1,h2,hm,hcl⟩:=h
  simp only [refsOb] at hk
  exact ⟨b,es,clock,h1,h2,hm.monoC (hcl hk) (fun _ _=>rfl) fun a v hc h=>R_closed_later hL hc h,hcl⟩
 | rr te e c n len el hole=>
  obtain ⟨v,us,vs,h1,hR,hh⟩:=h
  refine ⟨v,us,vs,h1,hR.same hL,fun i a q=>?_⟩
  subst q
  obtain ⟨h2,u,h3,h4⟩:=hh i a rfl
  exact ⟨h2,u,h3,(refs_in hL hg 5).1 _ _ hk h4⟩
end
theorem weak_hd {B n:Nat} {st:St} {objs0:List Ob} (sg:List (Nat × Nat)) {ts:List (Nat × A)} {os:List (Nat × Ob)} (hlen:st.tmps.length = n) (ht:AllT (look1 sg) st.tmps ts) (ho:AllO (look1 sg) st.objs os) (hp:Pre (keysOf os) st.objs B 0 objs0) (hc:chkH B objs0 (look1 sg) ts os = true):
  Weak B st (hd B objs0 n ts os):=by
 generalize look1 sg = σ at ht ho hc
 intro w0 X a w ρ h
 simp only [chkH,Bool.and_eq_true] at hc
 obtain ⟨⟨⟨⟨⟨hct,hco⟩,hnd⟩,hinj⟩,hkk⟩,hpb⟩:=hc
 have hK1:∀ j ∈ keysOf os,(j < B -> σ j = j) /\ (σ j < B -> σ j ∈ keysOf os):=by
  intro j hj
  have:=allNB_mem hkk hj
  simp only [Bool.and_eq_true,Bool.or_eq_true,Bool.not_eq_true',decide_eq_false_iff_not,beq_iff_eq,List.contains_eq_mem,decide_eq_true_eq] at this
  refine ⟨fun hb=>?_,fun hb=>?_⟩
  ·rcases this.1 with h | h
   ·exact (h hb).elim
   ·exact h
  ·rcases this.2 with h | h
   ·exact (h hb).elim
   ·exact h
 let ρ':Nat -> Loc:=fun id=>if id ∈ keysOf os then ρ (σ id) else if id < B then ρ id else .virgin
 have hρk:∀ j ∈ keysOf os,ρ' j = ρ (σ j):=fun j hj=>by simp only [ρ'];rw [if_pos hj]
 have hρb:∀ j,j ∉ keysOf os -> j < B -> ρ' j = ρ j:=fun j hj hb=>by simp only [ρ'];rw [if_neg hj,if_pos hb]
 have hgood:∀ j,goodK B (keysOf os) σ j = true -> ρ' j = ρ j:=by
  intro j hj
  simp only [goodK,Bool.or_eq_true,Bool.and_eq_true,List.contains_eq_mem,decide_eq_true_eq,beq_iff_eq,Bool.not_eq_true',decide_eq_false_iff_not] at hj
  rcases hj with ⟨h1,h2⟩ | ⟨h1,h2⟩
  ·rw [hρk j h1,h2]
  ·exact hρb j h1 h2
 have htop:∀ j,topK B (keysOf os) σ j = true -> ρ' j = ρ (σ j):=by
  intro j hj
  simp only [topK,Bool.or_eq_true,Bool.and_eq_true,List.contains_eq_mem,decide_eq_true_eq,beq_iff_eq] at hj
  by_cases hk:j ∈ keysOf os
  ·exact hρk j hk
  ·rcases hj with h1 | ⟨h1,h2⟩
   ·exact (hk h1).elim
   ·rw [hρb j hk h1,h2]
 have hblk:∀ id b,(ρ' id).has b -> (id ∈ keysOf os /\ (ρ (σ id)).has b) \/ (id ∉ keysOf os /\ id < B /\ (ρ id).has b):=by
  intro id b hb
  simp only [ρ'] at hb
  split at hb
  ·rename_i hk;exact .inl ⟨hk,hb⟩
  ·rename_i hk
   split at hb
   ·rename_i hlt;exact .inr ⟨hk,hlt,hb⟩
   ·cases hb
 have how:∀ b,owned ρ' b -> owned ρ b:=by
  rintro b ⟨id,hid⟩
  rcases hblk id b hid with ⟨_,h⟩ | ⟨_,_,h⟩
  ·exact ⟨_,h⟩
  ·exact ⟨_,h⟩
 have hO:∀ b,b < w.heap.size -> Ow X ρ' b -> Ow X ρ b:=fun b _ hb=>by
  rcases hb with hb | hb
  ·exact .inl hb
  ·exact .inr (how b hb)
 have hL:Later w w (Ow X ρ) (Ow X ρ') virg virg:=⟨Nat.le_refl _,fun _ _ _=>rfl,hO,fun _=>.inl rfl⟩
 refine ⟨ρ',⟨by rw [h.len,hlen];simp [hd,length_spread],fun i=>?_,fun id=>?_,fun i j b hi hj=>?_,h.kept,fun b hb=>h.new b (how b hb),h.old,h.dfr⟩,⟨Nat.le_refl _,fun _ _ _=>rfl,hO,fun id hid=>?_⟩⟩
 ·simp only [hd,getA_spread]
  split
  ·rw [Nat.zero_add]
   rcases lookT_mem (ts:=ts) (i:=i) with e | hm
   ·rw [e];simp only [R]
   ·exact RenA_sound hL htop hgood (allTB_mem hct hm) (AllT_mem ht hm) (h.tmp i)
  ·simp only [R]
 ·simp only [hd]
  rcases getO_putOs (takeO B objs0) os id with ⟨hn,e⟩ | ⟨hk,hm⟩
  ·rw [e,getO_take]
   split
   ·rename_i hlt
    rw [hρb id hn hlt]
    have h1:=Pre_get B 0 objs0 hp id hlt
    have h2:=preB_get B 0 objs0 hpb id hlt
    simp only [Nat.zero_add,List.contains_eq_mem,decide_eq_true_eq] at h1 h2
    rcases h1 with h1 | h1
    ·exact (hn h1).elim
    ·rcases h2 with h2 | h2
     ·exact (hn h2).elim
     ·rw [<- h1] at h2 ⊢
      exact ObR_same hL hgood h2 (h.obj id)
   ·rename_i hlt
    show ρ' id = .virgin
    simp only [ρ'];rw [if_neg hn,if_neg hlt]
  ·have hren:=AllO_mem ho hm
   have hob:=h.obj (σ id)
   rw [hρk id hk]
   generalize hlo:getO (putOs (takeO B objs0) os) id = ob at hren hm
   have hrf:=allOB_mem hco hm
   cases ob with
   | virgin=>simp [RenO] at hren
   | dead=>
    have hren:getO st.objs (σ id) = .dead:=hren
    rw [hren] at hob
    exact hob
   | box cs=>
    obtain ⟨cs',hb,hcs⟩:=hren
    rw [hb] at hob
    obtain ⟨b,vs,t,h1,h2,h3⟩:=hob
    exact ⟨b,vs,t,h1,h2,RenL_sound hL htop hgood hrf hcs h3⟩
   | row e c m el=>
    obtain ⟨el',hb,hel⟩:=hren
    rw [hb] at hob
    obtain ⟨v,xs,h1,h2,h3,h4⟩:=hob
    refine ⟨v,xs,h1,h2,h3,fun i hi j hj=>?_⟩
    obtain ⟨u,hu,hr⟩:=h4 i hi j hj
    rw [hel i hi j hj] at hr
    exact ⟨u,hu,R.later _ virg virg u hL hr⟩
   | lp ts' ps asg bod sta pend=>
    simp only [RenO] at hren
    rw [hren] at hob
    obtain ⟨b,r,vs,h1,h2,h3,h4,h5⟩:=hob
    exact ⟨b,r,vs,h1,h2,h3,(refs_in hL hgood 5).2 _ _ hrf h4,h5⟩
   | mp t ag n cl u hh v=>
    obtain ⟨u',h',v',hb,rfl,hfg⟩:=hren
    rw [hb] at hob
    obtain ⟨b,es,clock,h1,h2,hm,hcl⟩:=hob
    exact ⟨b,es,clock,h1,h2,hm.monoC (hcl rfl) hfg fun a v hc h=>R_closed_later hL hc h,fun _ q a hq ha=>hcl rfl q a hq (by rw [hfg q hq];exact ha)⟩
   | rr te e c n len el hole=>
    obtain ⟨len',el',h',hb,hle,hho⟩:=hren
    rw [hb] at hob
    obtain ⟨v,us,vs,h1,hR,hh⟩:=hob
    have hhi:holeI h' = holeI hole:=by
     cases hole with
     | none=>cases h' with
      | none=>rfl
      | some p=>exact hho.elim
     | some p=>cases h' with
      | none=>exact hho.elim
      | some p'=>obtain ⟨i,a⟩:=p;obtain ⟨i',a'⟩:=p';obtain ⟨rfl,_⟩:=hho;rfl
    rw [hhi] at h1 hR
    refine ⟨v,us,vs,h1,(hR.same hL).alike hle,fun i a q=>?_⟩
    subst q
    cases h' with
    | none=>exact hho.elim
    | some p'=>
     obtain ⟨i',a'⟩:=p'
     obtain ⟨rfl,hca,hra⟩:=hho
     obtain ⟨_,u,h3,h4⟩:=hh i' a' rfl
     exact ⟨hca,u,h3,RenA_sound hL htop hgood hrf hra h4⟩
 ·rcases hblk i b hi with ⟨hki,hi⟩ | ⟨hki,hli,hi⟩ <;> rcases hblk j b hj with ⟨hkj,hj⟩ | ⟨hkj,hlj,hj⟩
  ·exact mapN_inj hinj hki hkj (h.dis _ _ b hi hj)
  ·have:=h.dis _ _ b hi hj
   have h2:=(hK1 i hki).2 (by omega)
   rw [this] at h2
   exact (hkj h2).elim
  ·have:=h.dis _ _ b hi hj
   have h2:=(hK1 j hkj).2 (by omega)
   rw [<- this] at h2
   exact (hki h2).elim
  ·exact h.dis _ _ b hi hj
 ·by_cases hk:id ∈ keysOf os
  ·rw [hρk id hk,(hK1 id hk).1 hid];exact .inl rfl
  ·exact .inl (hρb id hk hid)
theorem weak_promote {B:Nat} {st:St} (t d:Nat) (e c:Nat) (el:Nat -> Nat -> A) (ht:getA st.tmps t = .nils) (hd:getO st.objs d = .virgin):Weak B st ⟨setL st.tmps t (.own d),setX st.objs d (.row e c 0 el)⟩:=by
 intro w0 X a w ρ h
 have hv:=h.virgin hd
 have hsl:=h.tmp t
 rw [ht] at hsl
 simp only [R] at hsl
 let ρ':=upd ρ d (.row (.slice none 0 0))
 have hblk:∀ id b,(ρ' id).has b -> (ρ id).has b:=by
  intro id b hb
  by_cases hid:id = d
  ·subst hid;simp only [ρ',upd_same] at hb;cases hb
  ·simp only [ρ',upd_ne _ _ _ hid] at hb;exact hb
 have how:∀ b,owned ρ' b -> owned ρ b:=by rintro b ⟨id,hid⟩;exact ⟨id,hblk id b hid⟩
 have hL:Later w w (Ow X ρ) (Ow X ρ') ρ ρ':=⟨Nat.le_refl _,fun _ _ _=>rfl,fun b _ hb=>by
  rcases hb with hb | hb
  ·exact .inl hb
  ·exact .inr (how b hb),fun id=>by
  by_cases hid:id = d
  ·subst hid;exact .inr (.inl hv)
  ·exact .inl (upd_ne _ _ _ hid)⟩
 refine ⟨ρ',⟨by simp [length_setL,h.len],fun i=>?_,fun id=>?_,fun i j b hi hj=>h.dis i j b (hblk i b hi) (hblk j b hj),h.kept,fun b hb=>h.new b (how b hb),h.old,h.dfr⟩,hL.ltB⟩
 ·simp only [getA_setL]
  split
  ·rename_i hi
   obtain ⟨rfl,_⟩:=hi
   simp only [R,ρ',upd_same]
   exact ⟨hsl,_,_,_,hsl⟩
  ·exact R.later _ ρ ρ' _ hL (h.tmp i)
 ·simp only [getO_setX]
  by_cases hid:id = d
  ·subst hid
   rw [if_pos rfl]
   refine ⟨.slice none 0 0,[],by simp only [ρ',upd_same],⟨by simp,.inl ⟨rfl,_,rfl⟩⟩,by simp,fun i hi=>by omega⟩
  ·rw [if_neg hid]
   simp only [ρ']
   rw [upd_ne _ _ _ hid]
   exact (h.obj id).later hL fun _ _=>rfl
theorem RL_setL {w:World} {O:Nat -> Prop} {ρ:Nat -> Loc} {x:A}:∀ {l:List A} {vs:List Value} (i:Nat),RL w O l ρ vs -> (∀ v,vs[i]? = some v -> R w O x ρ v) -> RL w O (setL l i x) ρ vs
 | [],vs,i,h,_=>by simpa only [setL] using h
 | a :: l,vs,0,h,hx=>by
  simp only [RL] at h
  obtain ⟨v,vs',rfl,h1,h2⟩:=h
  simp only [setL,RL]
  exact ⟨v,vs',rfl,hx v rfl,h2⟩
 | a :: l,vs,i + 1,h,hx=>by
  simp only [RL] at h
  obtain ⟨v,vs',rfl,h1,h2⟩:=h
  simp only [setL,RL]
  exact ⟨v,vs',rfl,h1,RL_setL i h2 fun u hu=>hx u (by simpa using hu)⟩
theorem weak_promoteB {B:Nat} {st:St} (b i d:Nat) (e c:Nat) (el:Nat -> Nat -> A) {cells:List A} (hb:getO st.objs b = .box cells) (hi:getA cells i = .nils) (hd:getO st.objs d = .virgin):Weak B st ⟨st.tmps,setX (setX st.objs b (.box (setL cells i (.own d)))) d (.row e c 0 el)⟩:=by
 intro w0 X a w ρ h
 have hv:=h.virgin hd
 have hbd:b ≠ d:=by rintro rfl;rw [hb] at hd;cases hd
 let ρ':=upd ρ d (.row (.slice none 0 0))
 have hblk:∀ id b,(ρ' id).has b -> (ρ id).has b:=by
  intro id b hb
  by_cases hid:id = d
  ·subst hid;simp only [ρ',upd_same] at hb;cases hb
  ·simp only [ρ',upd_ne _ _ _ hid] at hb;exact hb
 have how:∀ b,owned ρ' b -> owned ρ b:=by rintro b ⟨id,hid⟩;exact ⟨id,hblk id b hid⟩
 have hL:Later w w (Ow X ρ) (Ow X ρ') ρ ρ':=⟨Nat.le_refl _,fun _ _ _=>rfl,fun b _ hb=>by
  rcases hb with hb | hb
  ·exact .inl hb
  ·exact .inr (how b hb),fun id=>by
  by_cases hid:id = d
  ·subst hid;exact .inr (.inl hv)
  ·exact .inl (upd_ne _ _ _ hid)⟩
 refine ⟨ρ',⟨h.len,fun i=>R.later _ ρ ρ' _ hL (h.tmp i),fun id=>?_,fun i j b hi hj=>h.dis i j b (hblk i b hi) (hblk j b hj),h.kept,fun b hb=>h.new b (how b hb),h.old,h.dfr⟩,hL.ltB⟩
 simp only [getO_setX]
 by_cases hid:id = d
 ·subst hid
  rw [if_pos rfl]
  refine ⟨.slice none 0 0,[],by simp only [ρ',upd_same],⟨by simp,.inl ⟨rfl,_,rfl⟩⟩,by simp,fun i hi=>by omega⟩
 ·rw [if_neg hid]
  simp only [ρ']
  rw [upd_ne _ _ _ hid]
  by_cases hib:id = b
  ·subst hib
   rw [if_pos rfl]
   have hob:=h.obj id
   rw [hb] at hob
   obtain ⟨bb,vs,t,h1,h2,h3⟩:=hob
   refine ⟨bb,vs,t,h1,h2,RL_setL i (RL.later _ _ _ _ hL h3) fun v hv'=>?_⟩
   have:=h3.get i v hv'
   rw [hi] at this
   simp only [R] at this
   subst this
   simp only [R,upd_same]
   exact ⟨trivial,_,_,_,rfl⟩
  ·rw [if_neg hib]
   exact (h.obj id).later hL fun _ _=>rfl
end Go.Sy
