import Derived.Test.YtjhmdfofhnijeaaGreatDoorN2
import Derived.Shelf.Spec.SlicesInsertGrow
set_option linter.unusedSimpArgs false
set_option linter.unusedSectionVars false
set_option linter.unusedVariables false
namespace Go.Sy
open Go.RowKit Go.Proofs
def wr:Array Value -> Nat -> List Value -> Array Value
 | c,_,[]=>c
 | c,o,v :: r=>wr (c.setIfInBounds o v) (o + 1) r
theorem wr_size:∀ (vs:List Value) (c:Array Value) (o:Nat),(wr c o vs).size = c.size
 | [],_,_=>rfl
 | v :: r,c,o=>by rw [wr,wr_size r];simp
theorem wr_get:∀ (vs:List Value) (c:Array Value) (o:Nat),o + vs.length <= c.size -> ∀ j,(wr c o vs)[j]? = if o <= j /\ j < o + vs.length then vs[j - o]? else c[j]?
 | [],c,o,_,j=>by simp only [wr,List.length_nil];rw [if_neg (by omega)]
 | v :: r,c,o,h,j=>by
  simp only [List.length_cons] at h ⊢
  rw [wr,wr_get r _ (o + 1) (by simp;omega) j]
  by_cases h1:o + 1 <= j /\ j < o + 1 + r.length
  ·rw [if_pos h1,if_pos (by omega),show j - o = (j - (o + 1)) + 1 by omega];rfl
  ·rw [if_neg h1,Array.getElem?_setIfInBounds]
   by_cases h2:o = j
   ·subst h2;rw [if_pos rfl,if_pos (by omega),if_pos (by omega)];simp
   ·rw [if_neg h2,if_neg (by omega)]
theorem setCells_heap (g:Nat):∀ (vs:List Value) (o:Nat) (w:World) (c:Array Value) (e:TypeId) (fz:Nat × Nat),w.heap[g]? = some (.cells c e fz) -> (w.setCells g o vs).heap[g]? = some (.cells (wr c o vs) e fz)
 | [],_,_,_,_,_,h=>h
 | v :: r,o,w,c,e,fz,h=>by
  rw [World.setCells,wr]
  refine setCells_heap g r (o + 1) _ _ e fz ?_
  simp [World.setCell,Array.getElem?_modify,h]
theorem setCells_else (g:Nat):∀ (vs:List Value) (o:Nat) (w:World),(w.setCells g o vs).os = w.os /\ (w.setCells g o vs).tape = w.tape /\ (w.setCells g o vs).output = w.output /\ (w.setCells g o vs).heap.size = w.heap.size /\ ∀ k,k ≠ g -> (w.setCells g o vs).heap[k]? = w.heap[k]?
 | [],_,_=>⟨rfl,rfl,rfl,rfl,fun _ _=>rfl⟩
 | v :: r,o,w=>by
  obtain ⟨h1,h2,h3,h4,h5⟩:=setCells_else g r (o + 1) (w.setCell ⟨g,o,none⟩ v)
  rw [World.setCells]
  refine ⟨h1,h2,h3,?_,fun k hk=>?_⟩
  ·rw [h4];simp [World.setCell]
  ·rw [h5 k hk];simp [World.setCell,Array.getElem?_modify,Ne.symm hk]
def insL (xs ys:List Value) (p:Nat):List Value:=xs.take p ++ ys ++ xs.drop p
theorem insL_get (xs ys:List Value) (p:Nat) (hp:p <= xs.length) (j:Nat):(insL xs ys p)[j]? = if j < p then xs[j]? else if j < p + ys.length then ys[j - p]? else xs[j - ys.length]?:=by
 have hl:(xs.take p).length = p:=by simp;omega
 unfold insL
 rw [List.append_assoc]
 by_cases h1:j < p
 ·rw [if_pos h1,List.getElem?_append_left (by omega),List.getElem?_take_of_lt h1]
 ·rw [if_neg h1,List.getElem?_append_right (by omega),hl]
  by_cases h2:j < p + ys.length
  ·rw [if_pos h2,List.getElem?_append_left (by omega)]
  ·rw [if_neg h2,List.getElem?_append_right (by omega),List.getElem?_drop]
   congr 1;omega
theorem insL_len (xs ys:List Value) (p:Nat):(insL xs ys p).length = xs.length + ys.length:=by
 simp only [insL,List.length_append,List.length_take,List.length_drop];omega
def insE (el ev:Nat -> Nat -> A) (i:Nat):Nat -> Nat -> A:=fun q j=>bif Nat.blt q i then el q j else bif Nat.beq q i then ev 0 j else el (q - 1) j
theorem insE_get {w:World} {O:Nat -> Prop} {c n i:Nat} {el ev:Nat -> Nat -> A} {xs ys:List Value} (hi:i <= n) (hx:xs.length = n * c) (hy:ys.length = c)
  (h1:∀ q,q < n -> ∀ j,j < c -> ∃ u,xs[q * c + j]? = some u /\ R w O (el q j) virg u) (h2:∀ j,j < c -> ∃ u,ys[j]? = some u /\ R w O (ev 0 j) virg u):
  ∀ q,q < n + 1 -> ∀ j,j < c -> ∃ u,(insL xs ys (i * c))[q * c + j]? = some u /\ R w O (insE el ev i q j) virg u:=by
 intro q hq j hj
 have hp:i * c <= xs.length:=by rw [hx];exact Nat.mul_le_mul_right c hi
 rw [insL_get _ _ _ hp,hy]
 unfold insE
 rcases Nat.lt_trichotomy q i with h | h | h
 ·have e1:Nat.blt q i = true:=by simpa [Nat.blt_eq] using h
  have:=Nat.mul_le_mul_right c (show q + 1 <= i from h)
  rw [Nat.succ_mul] at this
  rw [if_pos (by omega),e1]
  exact h1 q (by omega) j hj
 ·subst h
  have e1:Nat.blt q q = false:=by rw [Bool.eq_false_iff];intro e;have:=Nat.le_of_ble_eq_true e;omega
  rw [if_neg (by omega),if_pos (by omega),e1,Nat.beq_refl,show q * c + j - q * c = j by omega]
  exact h2 j hj
 ·have e1:Nat.blt q i = false:=by rw [Bool.eq_false_iff];intro e;have:=Nat.le_of_ble_eq_true e;omega
  have e2:Nat.beq q i = false:=by rw [Bool.eq_false_iff];intro e;have:=Nat.eq_of_beq_eq_true e;omega
  have h3:=Nat.mul_le_mul_right c (show i + 1 <= q from h)
  rw [Nat.succ_mul] at h3
  obtain ⟨q',rfl⟩:∃ q',q = q' + 1:=⟨q - 1,by omega⟩
  rw [if_neg (by omega),if_neg (by omega),e1,e2]
  have e3:(q' + 1) * c + j - c = q' * c + j:=by rw [Nat.succ_mul];omega
  rw [e3]
  exact h1 q' (by omega) j hj
end Go.Sy
namespace Go.Proofs.YtjhmdfofhnijeaaGreatDoor
open Go Go.RowKit Go.Lib Go.Proofs
set_option maxRecDepth 100000
set_option maxHeartbeats 4000000
theorem run_copy_k {P:Program} (w:World) (dT sT ty elem:TypeId) (k b o dLen dCap:Nat) (a:Addr) (sLen sCap:Nat) (cs:List Value)
  (hu:P.underlying dT = some (.slice elem)) (hs:(P.info? elem).map (·.size) = some k) (hn:cs.length = Nat.min sLen dLen * k)
  (hsrc:∀ j v,cs[j]? = some v -> w.cell? (a.add j) = some v) (hc:∀ j,j < cs.length -> (w.cell? ⟨b,o + j,none⟩).isSome = true) (hf:∀ j,j < cs.length -> w.frozen? ⟨b,o + j,none⟩ = false) (h1:∀ v ∈ cs,v.oneCell' = true):
  (Builtin.copy_ #[dT,sT] ty #[.slice (some ⟨b,o,none⟩) dLen dCap,.slice (some a) sLen sCap]).run P w = .ok (goInt (Nat.min sLen dLen)) (w.setCells b o cs):=by
 have hl:=run_loadCells_list (P:=P) w a cs hsrc
 have hst:=run_storeCells_cells (P:=P) b o cs 0 w (by simpa using hc) (by simpa using hf) h1
 cases hq:P.info? elem with
 | none=>simp [hq] at hs
 | some i=>
  have hi:i.size = k:=by simpa [hq] using hs
  simp [Builtin.copy_,run_underlying hu,Builtin.lenOf,Builtin.firstCells,sizeOf,typeInfo,hq,hi,<- hn,hl,hst]
theorem ins_shift (b off n c i vb voff vc:Nat) (cs vs:List Value) (w:World) (hi:i < n) (hroom:n + 1 <= c) (hc63:c <= 9223372036854775807) (hvb:vb ≠ b)
  (hcl:cs.length = n * 3) (hvl:vs.length = 3)
  (hcs:∀ j v,cs[j]? = some v -> w.cell? ⟨b,off + j,none⟩ = some v) (hsp:∀ j,j < (n + 1) * 3 -> (w.cell? ⟨b,off + j,none⟩).isSome = true) (hfz:∀ j,j < (n + 1) * 3 -> w.frozen? ⟨b,off + j,none⟩ = false)
  (hvs:∀ j v,vs[j]? = some v -> w.cell? ⟨vb,voff + j,none⟩ = some v) (h1c:∀ v ∈ cs,v.oneCell' = true) (h1v:∀ v ∈ vs,v.oneCell' = true)
  (tA tB:TypeId) (kA kB:Nat) (hsa:w.shape? vb = some (tA,kA)) (hsb:w.shape? b = some (tB,kB)) (hkB:kB ≠ 0) (hfa:w.frozen? ⟨vb,voff,none⟩ = false) (hfe:w.frozen? ⟨vb,kA,none⟩ = false):
  Calls Tryz.prog 219 #[.slice (some ⟨b,off,none⟩) n c,.int .i64 i,.slice (some ⟨vb,voff,none⟩) 1 vc] w fun e w'=>
   e = .returned (.slice (some ⟨b,off,none⟩) (n + 1) c) /\ w' = (w.drew.setCells b (off + (i + 1) * 3) (cs.drop (i * 3))).setCells b (off + i * 3) vs:=by
 have hz2:¬ ((i:Int) = (n:Int)):=by omega
 have mixed:Tryz.prog.follows Departure.mixedOrders = true:=by kernel_rfl
 have t67:Tryz.prog.underlying 67 = some (.slice 143):=by kernel_rfl
 have z143:∀ w,(Go.sizeOf 143).run Tryz.prog w = .ok 3 w:=fun w=>by kernel_rfl
 have hsz:(Tryz.prog.info? 143).map (·.size) = some 3:=by kernel_rfl
 have hov:∀ lb cb,(callFunc 281 #[.slice (some ⟨vb,voff,none⟩) 1 vc,.slice (some ⟨b,off + (i + 1) * 3,none⟩) lb cb]).run Tryz.prog w = .ok (.value (.bool false)) w:=fun lb cb=>by
  rw [run_callFunc_extern Tryz.func281 (by kernel_rfl) (by kernel_rfl) (by kernel_rfl) (e:=Extern.SlicesOverlaps.overlaps #[67,67] #[4]) (by kernel_rfl),
   Lib.run_overlaps_apart w 67 4 143 t67 3 z143 ⟨vb,voff,none⟩ ⟨b,off + (i + 1) * 3,none⟩ 1 vc lb cb hvb tA tB kA kB hsa hsb hkB hfa hfe]
  rfl
 have hdl:(cs.drop (i * 3)).length = (n - i) * 3:=by rw [List.length_drop,hcl];omega
 have hw1:IntKind.i64.wrap ((i:Int) + 1) = (i:Int) + 1:=by rw [IntKind.wrap_i64];omega
 have hw2:IntKind.i64.wrap ((n:Int) + 1) = (n:Int) + 1:=by rw [IntKind.wrap_i64];omega
 have hb1:(0:Int) <= (i:Int) + 1:=by omega
 have hb1':(0:Int) <= (n:Int) + 1:=by omega
 have hin:i <= n:=by omega
 have htn:((i:Int) + 1).toNat = i + 1:=by omega
 have htn':((n:Int) + 1).toNat = n + 1:=by omega
 have hb2:¬ (c = i + 1):=by omega
 have hb3:(i:Int) <= (n:Int) + 1:=by omega
 have hb4:¬ (c = i):=by omega
 have hcp1:∀ ty dc sc,(Builtin.copy_ #[67,67] ty #[.slice (some ⟨b,off + (i + 1) * 3,none⟩) (n - i) dc,.slice (some ⟨b,off + i * 3,none⟩) (n + 1 - i) sc]).run Tryz.prog w.drew = .ok (goInt (Nat.min (n + 1 - i) (n - i))) (w.drew.setCells b (off + (i + 1) * 3) (cs.drop (i * 3))):=fun ty dc sc=>
  run_copy_k w.drew _ _ ty 143 3 b (off + (i + 1) * 3) (n - i) dc ⟨b,off + i * 3,none⟩ (n + 1 - i) sc (cs.drop (i * 3)) t67 hsz (by rw [hdl];simp only [Nat.min_def];split <;> omega)
   (fun j v hj=>by rw [Addr.add_lit,Nat.add_assoc];exact hcs (i * 3 + j) v (by rwa [List.getElem?_drop] at hj))
   (fun j hj=>by rw [Nat.add_assoc];exact hsp _ (by omega)) (fun j hj=>by rw [Nat.add_assoc];exact hfz _ (by omega)) (fun v hv=>h1c v (List.mem_of_mem_drop hv))
 obtain ⟨W1,hW1⟩:∃ W1,W1 = w.drew.setCells b (off + (i + 1) * 3) (cs.drop (i * 3)):=⟨_,rfl⟩
 have hsp1:∀ k,k < (n + 1) * 3 -> (W1.cell? ⟨b,off + k,none⟩).isSome = true:=fun k hk=>by
  rw [hW1]
  exact isSome_setCells b _ _ _ (fun j hj=>by rw [Nat.add_assoc];exact hsp _ (by omega)) _ (hsp k hk)
 have hcp2:∀ (W:World),(∀ x,W.cell? x = W1.cell? x) -> (∀ x,W.frozen? x = W1.frozen? x) -> ∀ ty dc,(Builtin.copy_ #[67,67] ty #[.slice (some ⟨b,off + i * 3,none⟩) (n + 1 - i) dc,.slice (some ⟨vb,voff,none⟩) 1 vc]).run Tryz.prog W = .ok (goInt (Nat.min 1 (n + 1 - i))) (W.setCells b (off + i * 3) vs):=fun W hWc hWf ty dc=>
  run_copy_k W _ _ ty 143 3 b (off + i * 3) (n + 1 - i) dc ⟨vb,voff,none⟩ 1 vc vs t67 hsz (by rw [hvl];simp only [Nat.min_def];split <;> omega)
   (fun j v hj=>by
    rw [Addr.add_lit,hWc,hW1,World.cell?_setCells_out b _ _ _ _ (fun h _=>absurd h hvb)]
    exact hvs j v hj)
   (fun j hj=>by rw [hWc,Nat.add_assoc];exact hsp1 _ (by omega)) (fun j hj=>by rw [hWf,hW1,World.frozen?_setCells,Nat.add_assoc];exact hfz _ (by omega)) h1v
 rw [<- hW1] at hcp1
 go_enter Tryz.func219,Tryz.ntmps219
 go_wp2_with (simp only [hov])
 go_region_law_o (refine step_copy_runI rfl _ _ 67 67 rfl _ _ (by simp [Act.eval,Act.put]) (by simp [Act.eval,Act.put]) (hcp1 _ _ _) ?_)
 go_wp2_with (at_builtin;refine wpList_copy_runI _ rfl _ _ 67 67 rfl _ _ rfl rfl (hcp2 _ (fun _=>rfl) (fun _=>rfl) _ _) ?_)
 go_ret
 first | exact ⟨rfl,rfl⟩ | exact ⟨rfl,by rw [hW1]⟩
theorem ins_grow (b off n c i vb voff vc:Nat) (cs vs:List Value) (w:World) (hi:i < n) (hnc:n <= c) (hroom:c < n + 1) (hbig:(n + 1) * 24 <= 140737488355328)
  (hcl:cs.length = n * 3) (hvl:vs.length = 3)
  (hcs:∀ j v,cs[j]? = some v -> w.cell? ⟨b,off + j,none⟩ = some v)
  (hvs:∀ j v,vs[j]? = some v -> w.cell? ⟨vb,voff + j,none⟩ = some v) (h1c:∀ v ∈ cs,v.oneCell' = true) (h1v:∀ v ∈ vs,v.oneCell' = true):
  Calls Tryz.prog 219 #[.slice (some ⟨b,off,none⟩) n c,.int .i64 i,.slice (some ⟨vb,voff,none⟩) 1 vc] w fun e w'=>
   ∃ (G:Nat) (ROW:Array Value),n + 1 <= G /\ G <= maxLen /\ ROW.size = G * 3 /\ (∀ j,j < i * 3 -> ROW[j]? = cs[j]?) /\
    e = .returned (.slice (some ⟨w.heap.size,0,none⟩) (n + 1) G) /\
    w' = (((w.alloc (.cells ROW 143)).drew.setCells w.heap.size (i * 3) vs).drew).setCells w.heap.size ((i + 1) * 3) (cs.drop (i * 3)):=by
 have mixed:Tryz.prog.follows Departure.mixedOrders = true:=by kernel_rfl
 have t67:Tryz.prog.underlying 67 = some (.slice 143):=by kernel_rfl
 have t3:Tryz.prog.underlying 3 = some (.int .i64):=by kernel_rfl
 obtain ⟨i0,hi0,hz0,hzs,hzb⟩:∃ i0,Tryz.prog.info? 143 = some i0 /\ i0.zero = some (.agg #[.int .i64 0,.int .i64 0,.int .i64 0]) /\ i0.size = 3 /\ i0.bytes = 24:=by
  have h1:(Tryz.prog.info? 143).map (fun i=>(i.zero,i.size,i.bytes)) = some (some (.agg #[.int .i64 0,.int .i64 0,.int .i64 0]),3,24):=by kernel_rfl
  cases hq:Tryz.prog.info? 143 with
  | none=>rw [hq] at h1;cases h1
  | some i=>rw [hq] at h1;simp only [Option.map_some,Option.some.injEq,Prod.mk.injEq] at h1;exact ⟨i,rfl,h1.1,h1.2.1,h1.2.2⟩
 have hz2:¬ ((i:Int) = (n:Int)):=by omega
 have hz3:(c:Int) < (n:Int) + 1:=by omega
 have hsz:(Tryz.prog.info? 143).map (·.size) = some 3:=by rw [hi0];simp [hzs]
 have hbw:b < w.heap.size:=block_lt_of_cell (hcs 0 _ (List.getElem?_eq_getElem (by omega)))
 have hvw:vb < w.heap.size:=block_lt_of_cell (hvs 0 _ (List.getElem?_eq_getElem (by omega)))
 have hkk:(n:Int) + 1 - (i:Int) = ((n + 1 - i:Nat):Int):=by omega
 have hik:i + (n + 1 - i) = n + 1:=by omega
 have hold:(Builtin.firstCells i0.size i (.slice (some ⟨b,off,none⟩) i c)).run Tryz.prog w.drew = .ok (cs.take (i * 3)).toArray w.drew:=by
  rw [hzs]
  exact run_firstCells_some w.drew 3 i ⟨b,off,none⟩ i c (cs.take (i * 3)) (by rw [List.length_take];omega) (fun j v hj=>by
   rw [Addr.add_lit]
   rw [List.getElem?_take] at hj
   split at hj
   ·exact hcs j v hj
   ·cases hj)
 have hrz:∀ ty,(Builtin.append_ #[67,3] ty #[.slice (some ⟨b,off,none⟩) i c,.int .i64 ((n:Int) + 1 - (i:Int))]).run Tryz.prog w =
   .ok (.slice (some ⟨w.heap.size,0,none⟩) (n + 1) (grownCap w (n + 1) c 143)) (w.drew.alloc (.cells ((cs.take (i * 3)).toArray ++ Builtin.zeroCells (Value.agg #[.int .i64 0,.int .i64 0,.int .i64 0]).cells (n + 1 - i) ++ Builtin.zeroCells (Value.agg #[.int .i64 0,.int .i64 0,.int .i64 0]).cells (grownCap w (n + 1) c 143 - (n + 1))) 143)):=fun ty=>by
  have h:=Lib.run_append_grow_zeros w 67 3 ty 143 i0 _ .i64 .i64 t67 t3 hi0 hz0 (some ⟨b,off,none⟩) i c ((cs.take (i * 3))) hold (n + 1 - i) (by omega) (by omega) (by omega) (by omega) (by rw [hzb];omega) (by rw [hzb,hik];exact growslice_fits hroom hbig)
  rw [hik] at h
  rw [hkk]
  exact h
 obtain ⟨G,hG⟩:∃ G,G = grownCap w (n + 1) c 143:=⟨_,rfl⟩
 have hGn:n + 1 <= G:=by rw [hG];exact grownCap_ge w _ _ _
 have hGm:G <= maxLen:=by rw [hG];exact grownCap_le_maxLen w (n + 1) c 143 (by unfold maxLen;omega)
 obtain ⟨ROW,hROW⟩:∃ ROW:Array Value,ROW = (cs.take (i * 3)).toArray ++ Builtin.zeroCells (Value.agg #[.int .i64 0,.int .i64 0,.int .i64 0]).cells (n + 1 - i) ++ Builtin.zeroCells (Value.agg #[.int .i64 0,.int .i64 0,.int .i64 0]).cells (G - (n + 1)):=⟨_,rfl⟩
 rw [<- hG] at hrz
 rw [<- hROW] at hrz
 have hzl:∀ k,(Builtin.zeroCells (Value.agg #[.int .i64 0,.int .i64 0,.int .i64 0]).cells k).size = k * 3:=fun k=>by
  simp [Builtin.zeroCells,Value.cells];try omega
 have hRl:ROW.size = G * 3:=by
  rw [hROW,Array.size_append,Array.size_append,hzl,hzl,List.size_toArray,List.length_take]
  omega
 have hRh:∀ j,j < i * 3 -> ROW[j]? = cs[j]?:=fun j hj=>by
  have hl:(cs.take (i * 3)).length = i * 3:=by rw [List.length_take];omega
  rw [hROW,Array.append_assoc,Array.getElem?_append_left (by rw [List.size_toArray];omega),List.getElem?_toArray,List.getElem?_take_of_lt hj]
 obtain ⟨W1,hW1⟩:∃ W1,W1 = w.drew.alloc (.cells ROW 143):=⟨_,rfl⟩
 rw [<- hW1] at hrz
 have hN:∀ j,j < (n + 1) * 3 -> (W1.cell? ⟨w.heap.size,j,none⟩).isSome = true:=fun j hj=>by
  rw [hW1,World.cell?_alloc_at (w:=w.drew) ROW _ w.heap.size j rfl,Array.getElem?_eq_getElem (by omega)];rfl
 have hNf:∀ j,W1.frozen? ⟨w.heap.size,j,none⟩ = false:=fun j=>by rw [hW1];exact World.frozen?_alloc_at (w:=w.drew) ROW _ w.heap.size j rfl
 have hOb:∀ j v,w.cell? ⟨b,j,none⟩ = some v -> W1.cell? ⟨b,j,none⟩ = some v:=fun j v h=>by rw [hW1,World.cell?_alloc_past (w:=w.drew) _ b j hbw];exact h
 have hOv:∀ j v,w.cell? ⟨vb,j,none⟩ = some v -> W1.cell? ⟨vb,j,none⟩ = some v:=fun j v h=>by rw [hW1,World.cell?_alloc_past (w:=w.drew) _ vb j hvw];exact h
 have hcpA:∀ (W:World),(∀ x,W.cell? x = W1.cell? x) -> (∀ x,W.frozen? x = W1.frozen? x) -> ∀ ty dc,(Builtin.copy_ #[67,67] ty #[.slice (some ⟨w.heap.size,i * 3,none⟩) (n + 1 - i) dc,.slice (some ⟨vb,voff,none⟩) 1 vc]).run Tryz.prog W = .ok (goInt (Nat.min 1 (n + 1 - i))) (W.setCells w.heap.size (i * 3) vs):=fun W hWc hWf ty dc=>
  run_copy_k W _ _ ty 143 3 w.heap.size (i * 3) (n + 1 - i) dc ⟨vb,voff,none⟩ 1 vc vs t67 hsz (by rw [hvl];simp only [Nat.min_def];split <;> omega)
   (fun j v hj=>by rw [Addr.add_lit,hWc];exact hOv _ v (hvs j v hj))
   (fun j hj=>by rw [hWc];exact hN _ (by omega)) (fun j hj=>by rw [hWf];exact hNf _) h1v
 have hG63:G <= 9223372036854775807:=by unfold maxLen at hGm;omega
 have hGi:¬ (G = i):=by omega
 have hGim:¬ (G = i + 1):=by omega
 have hci:¬ (c = i):=by omega
 have hbN:b ≠ w.heap.size:=by omega
 have hdl:(cs.drop (i * 3)).length = (n - i) * 3:=by rw [List.length_drop,hcl];omega
 have hcpB:∀ (W:World),(∀ x,W.cell? x = (W1.setCells w.heap.size (i * 3) vs).cell? x) -> (∀ x,W.frozen? x = (W1.setCells w.heap.size (i * 3) vs).frozen? x) -> ∀ ty dc sc,(Builtin.copy_ #[67,67] ty #[.slice (some ⟨w.heap.size,(i + 1) * 3,none⟩) (n - i) dc,.slice (some ⟨b,off + i * 3,none⟩) (n - i) sc]).run Tryz.prog W = .ok (goInt (Nat.min (n - i) (n - i))) (W.setCells w.heap.size ((i + 1) * 3) (cs.drop (i * 3))):=fun W hWc hWf ty dc sc=>
  run_copy_k W _ _ ty 143 3 w.heap.size ((i + 1) * 3) (n - i) dc ⟨b,off + i * 3,none⟩ (n - i) sc (cs.drop (i * 3)) t67 hsz (by rw [hdl];simp only [Nat.min_def];split <;> omega)
   (fun j v hj=>by
    rw [Addr.add_lit,hWc,World.cell?_setCells_out _ _ _ _ _ (fun h _=>absurd h hbN),Nat.add_assoc]
    exact hOb _ v (hcs (i * 3 + j) v (by rwa [List.getElem?_drop] at hj)))
   (fun j hj=>by rw [hWc];exact isSome_setCells _ _ _ _ (fun t ht=>hN _ (by omega)) _ (hN _ (by omega)))
   (fun j hj=>by rw [hWf,World.frozen?_setCells];exact hNf _) (fun v hv=>h1c v (List.mem_of_mem_drop hv))
 subst hW1
 have hE1:∀ x,((w.alloc (.cells ROW 143)).drew).cell? x = (w.drew.alloc (.cells ROW 143)).cell? x:=fun x=>rfl
 have hE2:∀ x,((w.alloc (.cells ROW 143)).drew).frozen? x = (w.drew.alloc (.cells ROW 143)).frozen? x:=fun x=>rfl
 have hF1:∀ x,(((w.alloc (.cells ROW 143)).drew.setCells w.heap.size (i * 3) vs).drew).cell? x = ((w.drew.alloc (.cells ROW 143)).setCells w.heap.size (i * 3) vs).cell? x:=fun x=>rfl
 have hF2:∀ x,(((w.alloc (.cells ROW 143)).drew.setCells w.heap.size (i * 3) vs).drew).frozen? x = ((w.drew.alloc (.cells ROW 143)).setCells w.heap.size (i * 3) vs).frozen? x:=fun x=>rfl
 have hw1:IntKind.i64.wrap ((i:Int) + 1) = (i:Int) + 1:=by rw [IntKind.wrap_i64];omega
 have hb1:(0:Int) <= (i:Int) + 1:=by omega
 have hin:i <= n:=by omega
 have htn:((i:Int) + 1).toNat = i + 1:=by omega
 have hb3:(i:Int) <= (n:Int):=by omega
 have hw2:IntKind.i64.wrap ((n:Int) + 1) = (n:Int) + 1:=by rw [IntKind.wrap_i64];unfold maxLen at hGm;omega
 have hw3:IntKind.i64.wrap ((n:Int) + 1 - (i:Int)) = (n:Int) + 1 - (i:Int):=by rw [IntKind.wrap_i64];unfold maxLen at hGm;omega
 have hb5:(i:Int) <= (n:Int) + 1:=by omega
 have hb6:¬ (G = 0):=by omega
 clear hkk hik hold hG hzl
 refine Calls.mono (R:=fun e w'=>e = .returned (.slice (some ⟨w.heap.size,0,none⟩) (n + 1) G) /\ w' = (((w.alloc (.cells ROW 143)).drew.setCells w.heap.size (i * 3) vs).drew).setCells w.heap.size ((i + 1) * 3) (cs.drop (i * 3))) ?_ fun e w' h=>⟨G,ROW,hGn,hGm,hRl,hRh,h⟩
 clear hROW hRl hRh
 go_enter Tryz.func219,Tryz.ntmps219
 go_wp2_with (first
  | (at_builtin;refine Lib.wpList_append_run _ rfl _ _ _ _ rfl _ _ rfl rfl _ _ (hrz _) ?_)
  | (at_builtin;refine wpList_copy_runI _ rfl _ _ 67 67 rfl _ _ rfl rfl (hcpA _ hE1 hE2 _ _) ?_)
  | (at_builtin;refine wpList_copy_runI _ rfl _ _ 67 67 rfl _ _ rfl rfl (hcpB _ (fun _=>rfl) (fun _=>rfl) _ _ _) ?_))
 go_region_law_o (refine step_copy_runI rfl _ _ 67 67 rfl (.slice (some ⟨w.heap.size,(i + 1) * 3,none⟩) (n - i) (G - (i + 1))) (.slice (some ⟨b,off + i * 3,none⟩) (n - i) (c - i)) (by simp [Act.eval,Act.put]) (by simp [Act.eval,Act.put]) (hcpB _ hF1 hF2 3 (G - (i + 1)) (c - i)) ?_)
 go_wp2
 go_ret
 exact ⟨rfl,rfl⟩
end Go.Proofs.YtjhmdfofhnijeaaGreatDoor
namespace Go.Proofs.YtjhmdfofhnijeaaGreatDoor
open Go.Sy
set_option maxRecDepth 100000
set_option maxHeartbeats 4000000
def I (n:Int):A:=.int .i64 n
def S (l:List Nat):A:=.str ⟨(l.map UInt8.ofNat).toArray⟩
def eqTab:List (TypeId × List Go.Sy.CK):=[(303,[.i .i64,.i .i64,.i .i64,.i .i64,.i .i64,.i .i64,.i .i64,.i .i64,.i .i64,.b,.s]),(151,[.i .i64,.i .i64,.i .i64,.i .i64,.i .i64]),(100,[.i .i64,.i .i64]),(335,[.i .i64,.i .i64,.i .i64,.i .i64])]
theorem structT {P:Program} {t:TypeId} (h:(match P.underlying t with | some (.struct _)=>true | _=>false) = true):(match P.underlying t with | some (.struct _)=>True | _=>False):=by
 revert h
 cases P.underlying t with
 | none=>intro h;cases h
 | some d=>cases d <;> intro h <;> first | trivial | cases h
theorem eqTab_ok:EqTab Tryz.prog eqTab:=by
 intro p hp
 simp only [eqTab,List.mem_cons,List.not_mem_nil,or_false] at hp
 rcases hp with rfl | rfl | rfl | rfl
 ·exact ⟨by kernel_rfl,by kernel_rfl,structT (P:=Tryz.prog) (t:=303) (by kernel_rfl)⟩
 ·exact ⟨by kernel_rfl,by kernel_rfl,structT (P:=Tryz.prog) (t:=151) (by kernel_rfl)⟩
 ·exact ⟨by kernel_rfl,by kernel_rfl,structT (P:=Tryz.prog) (t:=100) (by kernel_rfl)⟩
 ·exact ⟨by kernel_rfl,by kernel_rfl,structT (P:=Tryz.prog) (t:=335) (by kernel_rfl)⟩
def mapTab:List (TypeId × Bool × Nat):=[(216,false,1),(529,false,1),(779,false,1)]
theorem mapTab_ok:MapTab Tryz.prog mapTab:=by
 intro p hp
 simp only [mapTab,List.mem_cons,List.not_mem_nil,or_false] at hp
 rcases hp with rfl | rfl | rfl
 ·exact ⟨3,3,by kernel_rfl,mapLaw_int (by kernel_rfl)⟩
 ·exact ⟨3,1,by kernel_rfl,mapLaw_int (by kernel_rfl)⟩
 ·exact ⟨3,777,by kernel_rfl,mapLaw_int (by kernel_rfl)⟩
def inlA:List FuncId:=[11,24,29,44,46,52,54,58,62,64,68,71,75,77,78,79,80,81,82,85,89,90,108,109,110,111,112,113,114,115,116,117,119,122,125,128,129,130,131,132,135,139,142,143,147,152,153,157,160,171,173,175,178,180,181,183,187,189,190,195,196,200,205,215,219,222,224,225,228,231,232,236,240,241,242,243,244,250,254,255,256,259,260,264,280,290,294,296,301,304,307,314,319,331,332,336,338,339,343,344,345,346,347,348,349,354,359,361,364,368,370,371,373,375,382,383,384,386,388,391,396,401,403,404,406,407,410,411,412,415,417,419,426,428,429,430,431,433,435,436,439,453,455,456,457,459,463,464,465,467,468,469,470,472,474,475,476,480,481,482,483,484,485,490,491,493,494,495,500,502,503,504,506,507,512,516,517,518,519,520,523,531,532,535,536,539,541,542,550,551,556,557,561,564,565,566,567,568,575,576,580,587,588,611,614,615,617,618,620,622,623,624,625,628,629,633,635,636,637,638,639,640,655,656,657,658,659,663,681,682,683,684,685,688]
noncomputable def EA (z:List Nat):Env:={ P:=Tryz.prog,eqT:=lookE eqTab,frz:=z,mps:=lookMp mapTab }
theorem EA_ok (z:List Nat):EqOK (EA z):=eqOK_mp eqTab_ok mapTab_ok
noncomputable def CA (z:List Nat):Cx:={ E:=EA z,inl:=inlA,ok:=EA_ok z }
abbrev KK:={c:Ct // CtOK Tryz.prog c}
def K1:List KK -> List Ct
 | []=>[]
 | k :: l=>k.1 :: K1 l
theorem K1_ok:∀ l,allCt Tryz.prog (K1 l)
 | []=>trivial
 | k :: l=>⟨k.2,K1_ok l⟩
def qz (z:List Nat) (c:Ct) (l:List KK) (h:autoC (CA z) (K1 l) 100000 c = true:=by kernel_rfl):KK:=⟨c,autoC_ok (CA z) 100000 (K1 l) (K1_ok l) rfl h⟩
def q (f:FuncId) (a:List A) (r:A) (l:List KK) (h:autoC (CA []) (K1 l) 100000 ⟨f,a,r,none,true⟩ = true:=by kernel_rfl):KK:=qz [] ⟨f,a,r,none,true⟩ l h
def qo (f:FuncId) (a:List A) (r:A) (o:Option Ob) (l:List KK) (h:autoC (CA []) (K1 l) 100000 ⟨f,a,r,o,false⟩ = true:=by kernel_rfl):KK:=qz [] ⟨f,a,r,o,false⟩ l h
instance (n:Nat):OfNat A n:=⟨.int .i64 (Int.ofNat n)⟩
def tt:A:=.bool true
def ff:A:=.bool false
def G (l:List A):A:=.agg l
def U (l:List A):A:=.tup l
def L (c n:Nat) (l:List A):A:=.sl c n (tbl c l)
def J:A:=.junk
def V:Ob:=.virgin
end Go.Proofs.YtjhmdfofhnijeaaGreatDoor
namespace Go.Sy
open Go.RowKit Go.Proofs
theorem take_cells {cur:Array Value} {o m:Nat} {xs:List Value} (ht:(cur.toList.drop o).take m = xs) (hl:xs.length = m) {j:Nat} (hj:j < m):cur[o + j]? = xs[j]?:=by
 rw [<- ht,List.getElem?_take_of_lt hj,List.getElem?_drop,Array.getElem?_toList]
theorem Hp.relE {w0:World} {X:Nat -> Prop} {objs:List Ob} {w:World} {ρ:Nat -> Loc} (h:Hp w0 X objs w ρ):Rel w0 X ⟨[],objs⟩ { tmps:=#[],defers:=[] } w ρ:=
 ⟨rfl,fun i=>by simp only [getA,R],h.obj,h.dis,h.kept,h.new,h.old,⟨[],rfl,List.nodup_nil,fun _ h=>by cases h⟩⟩
theorem ObR_virgin {w:World} {O:Nat -> Prop} {ρ:Nat -> Loc} {ob:Ob} (h:ObR w O ρ ob .virgin):ob = .virgin:=by
 cases ob with
 | virgin=>rfl
 | dead=>cases h
 | box _=>obtain ⟨_,_,_,e,_⟩:=h;cases e
 | row _ _ _ _=>obtain ⟨_,_,e,_⟩:=h;cases e
 | lp _ _ _ _ _ _=>obtain ⟨_,_,_,e,_⟩:=h;cases e
 | mp _ _ _ _ _ _ _=>obtain ⟨_,_,_,e,_⟩:=h;cases e
 | rr _ _ _ _ _ _ _=>obtain ⟨_,_,_,e,_⟩:=h;cases e
theorem later_mono {w:World} {O O':Nat -> Prop} (h:∀ b,O' b -> O b) (ρ:Nat -> Loc):Later w w O O' ρ ρ:=⟨Nat.le_refl _,fun _ _ _=>rfl,fun b _ hb=>h b hb,fun _=>.inl rfl⟩
theorem CtOK.fn {P:Program} {c:Ct} (h:CtOK P c):FnOK P c.f c.args (c.res,c.ob):=by
 unfold CtOK at h
 cases hf:c.fr with
 | false=>rw [hf] at h;exact h
 | true=>
  rw [hf] at h
  obtain ⟨h1,h2⟩:=h
  simp only at h1 h2
  refine ⟨h1.ent,fun w X vs hX hr=>(h1.run w X vs hX ?_).mono ?_⟩
  ·exact RL.later _ _ _ _ (later_mono (fun _ h=>h.elim) virg) hr
  ·rintro e w' ⟨v,rfl,hb,hv⟩
   have hu:upd virg 0 Loc.virgin = virg:=by
    funext i
    unfold upd
    split <;> rfl
   refine ⟨v,.virgin,rfl,hb,?_,by simp only [h2],fun b hb=>by cases hb⟩
   rw [hu]
   refine R.later _ _ _ _ (later_mono (fun b hb=>?_) virg) hv
   rcases hb with hb | hb
   ·exact hb
   ·cases hb
theorem list_of_gets {a b:List Value} {m:Nat} (ha:a.length = m) (hb:b.length = m) (h:∀ j,j < m -> a[j]? = b[j]?):a = b:=by
 apply List.ext_getElem?
 intro j
 rcases Nat.lt_or_ge j m with hj | hj
 ·exact h j hj
 ·rw [List.getElem?_eq_none (by omega),List.getElem?_eq_none (by omega)]
end Go.Sy
namespace Go.Proofs.YtjhmdfofhnijeaaGreatDoor
open Go Go.RowKit Go.Sy Go.Lib Go.Proofs
set_option maxRecDepth 100000
set_option maxHeartbeats 1000000
theorem ins_in (objs:List Ob) (id id2 B K n i:Nat) (e2:TypeId) (el ev:Nat -> Nat -> A) (h1:getO objs id = .row 143 3 n el) (h2:getO objs id2 = .row e2 3 1 ev) (hne:id ≠ id2) (hi:i < n) (hn:n <= 1000000) (hBK:B <= K):
  FnIn Tryz.prog 219 [.own id,.int .i64 i,.own id2] objs B (.own K) (setX (setX objs id .dead) K (.row 143 3 (n + 1) (insE el ev i))):=by
 refine ⟨by kernel_rfl,fun w0 X w ρ vs hp hr hv=>?_⟩
 have hA:=hp.obj id
 rw [h1] at hA
 have hC:=hp.obj id2
 rw [h2] at hC
 obtain ⟨v,xs,hl,⟨hxl,hh⟩,hone,hel⟩:=hA
 obtain ⟨v2,ys,hl2,⟨hyl,hh2⟩,hone2,hel2⟩:=hC
 simp only [RL,R,hl,hl2] at hr
 obtain ⟨_,_,rfl,⟨rfl,_⟩,_,_,rfl,rfl,_,_,rfl,⟨rfl,_⟩,rfl⟩:=hr
 rcases hh with ⟨hn0,_⟩ | ⟨g,o,cap,cur,rfl,⟨fz,hg,hfz⟩,hcap,hmax,hsz,htk⟩
 ·omega
 rcases hh2 with ⟨hn0,_⟩ | ⟨g2,o2,cap2,cur2,rfl,⟨fz2,hg2,hfz2⟩,hcap2,hmax2,hsz2,htk2⟩
 ·cases hn0
 have hz:fz.2 = 0:=by rcases hfz with ⟨_,h⟩ | h <;> first | cases h | exact h
 have hz2:fz2.2 = 0:=by rcases hfz2 with ⟨_,h⟩ | h <;> first | cases h | exact h
 have hK:getO objs K = .virgin:=by
  have h:=hp.obj K
  rw [hv K hBK] at h
  exact ObR_virgin h
 have hgg:g2 ≠ g:=fun e=>hne (hp.dis id id2 g (by rw [hl];rfl) (by rw [hl2,<- e];rfl))
 have hyl':ys.length = 3:=by rw [hyl]
 have c1:∀ j v,xs[j]? = some v -> w.cell? ⟨g,o + j,none⟩ = some v:=fun j v hj=>by
  have hlt:j < n * 3:=by
   rcases Nat.lt_or_ge j xs.length with h | h
   ·omega
   ·rw [List.getElem?_eq_none h] at hj;cases hj
  simp only [World.cell?,hg,Option.isSome_none,Bool.false_eq_true,if_false]
  rw [take_cells htk hxl hlt];exact hj
 have c2:∀ j v,ys[j]? = some v -> w.cell? ⟨g2,o2 + j,none⟩ = some v:=fun j v hj=>by
  have hlt:j < 1 * 3:=by
   rcases Nat.lt_or_ge j ys.length with h | h
   ·omega
   ·rw [List.getElem?_eq_none h] at hj;cases hj
  simp only [World.cell?,hg2,Option.isSome_none,Bool.false_eq_true,if_false]
  rw [take_cells htk2 hyl hlt];exact hj
 have fin:∀ g' o' cp cur' blk w' fz',w'.heap[g']? = some (.cells cur' 143 fz') -> fz'.2 = 0 -> n + 1 <= cp + 1 -> cp + 1 <= maxLen -> cur'.size = o' + (cp + 1) * 3 -> (∀ j,j < (n + 1) * 3 -> cur'[o' + j]? = (insL xs ys (i * 3))[j]?) -> GB w w' blk -> (∀ b,blk = some b -> b = g) -> (blk = some g' \/ g' = w.heap.size) ->
   ∃ v ρ',Ending.returned (.slice (some ⟨g',o',none⟩) (n + 1) (cp + 1)) = .returned v /\ R w' (Ow X ρ') (.own K) ρ' v /\ Hp w0 X (setX (setX objs id .dead) K (.row 143 3 (n + 1) (insE el ev i))) w' ρ' /\ Later w w' (Ow X ρ) (Ow X ρ') ρ ρ':=by
  intro g' o' cp cur' blk w' fz' hg' hfz' hcp hmx hsz' hget hgb hblk hb
  have happ:=(hp.relE).append (kill:=some id) (d:=K) (v':=.slice (some ⟨g',o',none⟩) (n + 1) (cp + 1)) (ob:=.row 143 3 (n + 1) (insE el ev i)) (blk:=blk)
   (fun b hb=>⟨id,rfl,by rw [hl,hblk b hb];rfl⟩)
   (fun id' e=>by cases e;constructor <;> (intro h;rw [h1] at h;cases h))
   hgb
   (fun b hb'=>by
    simp only [rowB,Option.some.injEq] at hb'
    subst hb'
    exact hb)
   (by
    show getO (setX objs id .dead) K = .virgin
    rw [getO_setX]
    split
    ·rename_i e;rw [e,h1] at hK;cases hK
    ·exact hK)
   (fun b hb'=>by
    simp only [rowB,Option.some.injEq] at hb'
    subst hb'
    rcases Nat.lt_or_ge g' w'.heap.size with h | h
    ·exact h
    ·rw [Array.getElem?_eq_none h] at hg';cases hg')
   (fun hL=>by
    have hlen:(insL xs ys (i * 3)).length = (n + 1) * 3:=by rw [insL_len,hxl,hyl'];omega
    refine ⟨_,insL xs ys (i * 3),rfl,⟨hlen,.inr ⟨g',o',cp,cur',rfl,⟨_,hg',.inr hfz'⟩,hcp,hmx,hsz',?_⟩⟩,?_,?_⟩
    ·refine list_of_gets (m:=(n + 1) * 3) (by simp;omega) hlen fun j hj=>?_
     rw [List.getElem?_take_of_lt hj,List.getElem?_drop,Array.getElem?_toList]
     exact hget j hj
    ·intro u hu
     simp only [insL,List.mem_append] at hu
     rcases hu with (hu | hu) | hu
     ·exact hone u (List.mem_of_mem_take hu)
     ·exact hone2 u hu
     ·exact hone u (List.mem_of_mem_drop hu)
    ·refine insE_get (by omega) hxl hyl' (fun q hq j hj=>?_) (fun j hj=>?_)
     ·obtain ⟨u,hu,hr⟩:=hel q hq j hj
      exact ⟨u,hu,R.later _ virg virg u hL.virg hr⟩
     ·obtain ⟨u,hu,hr⟩:=hel2 0 (by omega) j hj
      rw [Nat.zero_mul,Nat.zero_add] at hu
      exact ⟨u,hu,R.later _ virg virg u hL.virg hr⟩)
  refine ⟨_,_,rfl,?_,happ.1.hp,happ.2⟩
  simp only [R,upd_same]
  exact ⟨trivial,_,_,_,rfl⟩
 by_cases hroom:n + 1 <= cap + 1
 ·refine (ins_shift g o n (cap + 1) i g2 o2 (cap2 + 1) xs ys w hi hroom (by unfold maxLen at hmax;omega) hgg hxl hyl' c1 (fun j hj=>?_) (fun j hj=>?_) c2 hone hone2 e2 143 cur2.size cur.size ?_ ?_ (by omega) ?_ ?_).mono ?_
  ·simp only [World.cell?,hg,Option.isSome_none,Bool.false_eq_true,if_false]
   rw [Array.getElem?_eq_getElem (by omega)];rfl
  ·simp only [World.frozen?,hg,hz]
   simp
  ·simp only [World.shape?,hg2]
  ·simp only [World.shape?,hg]
  ·simp only [World.frozen?,hg2,hz2]
   simp
  ·simp only [World.frozen?,hg2,hz2]
   simp
  ·rintro e' w' ⟨rfl,rfl⟩
   have k1:(w.drew).heap[g]? = some (.cells cur 143 fz):=hg
   have k2:=setCells_heap g (xs.drop (i * 3)) (o + (i + 1) * 3) w.drew cur _ _ k1
   have k3:=setCells_heap g ys (o + i * 3) _ _ _ _ k2
   obtain ⟨a1,a2,a3,a4,a5⟩:=setCells_else g (xs.drop (i * 3)) (o + (i + 1) * 3) w.drew
   obtain ⟨b1,b2,b3,b4,b5⟩:=setCells_else g ys (o + i * 3) (w.drew.setCells g (o + (i + 1) * 3) (xs.drop (i * 3)))
   refine fin g o cap _ (some g) _ _ k3 hz hroom hmax (by rw [wr_size,wr_size];exact hsz) (fun j hj=>?_) ⟨b1.trans a1,b2.trans a2,b3.trans a3,by rw [b4,a4];exact Nat.le_refl _,fun k hk hne'=>?_,trivial⟩ (fun b hb=>by cases hb;rfl) (.inl rfl)
   ·have hdl:(xs.drop (i * 3)).length = n * 3 - i * 3:=by rw [List.length_drop,hxl]
    rw [wr_get _ _ _ (by rw [wr_size,hyl'];omega),wr_get _ _ _ (by rw [hdl];omega),insL_get _ _ _ (by rw [hxl];omega),hyl',hdl]
    by_cases q1:j < i * 3
    ·rw [if_neg (by omega),if_neg (by omega),if_pos q1,take_cells htk hxl (by omega)]
    ·rw [if_neg q1]
     by_cases q2:j < i * 3 + 3
     ·rw [if_pos (by omega),if_pos q2];congr 1;omega
     ·rw [if_neg (by omega),if_pos (by omega),if_neg q2,List.getElem?_drop];congr 1;omega
   ·have hkg:k ≠ g:=fun e=>hne' (by rw [e])
    rw [b5 k hkg,a5 k hkg];rfl
 ·refine (ins_grow g o n (cap + 1) i g2 o2 (cap2 + 1) xs ys w hi hcap (by omega) (by omega) hxl hyl' c1 c2 hone hone2).mono ?_
  rintro e' w' ⟨G,ROW,hG1,hG2,hR1,hR2,rfl,rfl⟩
  obtain ⟨G,rfl⟩:∃ G',G = G' + 1:=⟨G - 1,by omega⟩
  have k1:((w.alloc (.cells ROW 143)).drew).heap[w.heap.size]? = some (.cells ROW 143 (0,0)):=heap_alloc_new w _
  have k2:=setCells_heap w.heap.size ys (i * 3) _ _ _ _ k1
  have k3:=setCells_heap w.heap.size (xs.drop (i * 3)) ((i + 1) * 3) (((w.alloc (.cells ROW 143)).drew.setCells w.heap.size (i * 3) ys).drew) _ _ _ k2
  obtain ⟨a1,a2,a3,a4,a5⟩:=setCells_else w.heap.size ys (i * 3) ((w.alloc (.cells ROW 143)).drew)
  obtain ⟨b1,b2,b3,b4,b5⟩:=setCells_else w.heap.size (xs.drop (i * 3)) ((i + 1) * 3) (((w.alloc (.cells ROW 143)).drew.setCells w.heap.size (i * 3) ys).drew)
  refine fin w.heap.size 0 G _ none _ _ k3 rfl hG1 hG2 (by rw [wr_size,wr_size,hR1];omega) (fun j hj=>?_) ⟨b1.trans a1,b2.trans a2,b3.trans a3,?_,fun k hk _=>?_,trivial⟩ (fun b hb=>by cases hb) (.inr rfl)
  ·have hdl:(xs.drop (i * 3)).length = n * 3 - i * 3:=by rw [List.length_drop,hxl]
   rw [wr_get _ _ _ (by rw [wr_size,hR1,hdl];omega),wr_get _ _ _ (by rw [hR1,hyl'];omega),insL_get _ _ _ (by rw [hxl];omega),hyl',hdl]
   by_cases q1:j < i * 3
   ·rw [if_neg (by omega),if_neg (by omega),if_pos q1,Nat.zero_add,hR2 j q1]
   ·rw [if_neg q1]
    by_cases q2:j < i * 3 + 3
    ·rw [if_neg (by omega),if_pos (by omega),if_pos q2];congr 1;omega
    ·rw [if_pos (by omega),if_neg q2,List.getElem?_drop];congr 1;omega
  ·rw [b4]
   show _ <= (World.drew _).heap.size
   show _ <= (World.setCells _ _ _ _).heap.size
   rw [a4]
   simp [World.drew]
  ·have hkg:k ≠ w.heap.size:=by omega
   rw [b5 k hkg]
   show (World.setCells _ _ _ _).heap[k]? = _
   rw [a5 k hkg]
   exact Below.heap_alloc _ _ _ hk
noncomputable def EAd:Env:={ P:=Tryz.prog,eqT:=lookE eqTab,mu:=[219] }
noncomputable def CAd:Cx:={ E:=EAd,inl:=[],ok:=eqOK_of eqTab_ok }
theorem add_ok (n i:Nat) (el:Nat -> Nat -> A) (t k m:Int) (hi:i < n) (hn:n < 1000) (f1:FnOK Tryz.prog 216 [.sl 3 n el] (.int .i64 0,none)) (f2:FnOK Tryz.prog 217 [.agg [.int .i64 t,.int .i64 k,.int .i64 m]] (.bool true,none))
  (f3:FnOK Tryz.prog 218 [.sl 3 n el,.agg [.int .i64 t,.int .i64 k,.int .i64 m]] (.tup [.int .i64 i,.bool false],none)) (f4:FnOK Tryz.prog 220 [.sl 3 n el] (.own 0,some (.row 143 3 n el))):
  FnOK Tryz.prog 169 [.sl 3 n el,.agg [.int .i64 t,.int .i64 k,.int .i64 m]] (.tup [.sl 3 (n + 1) (insE el (fun _ j=>getA [.int .i64 t,.int .i64 k,.int .i64 m] j) i),.int .i64 0],none):=by
 refine fn_ok CAd rfl (by kernel_rfl) Tryz.func169 rfl ?_
 refine zG zE (NS.call (f1) rfl ?_)
 refine zG zE (NS.no (rfl) ?_)
 refine zG zE (NS.call (f2) rfl ?_)
 refine zG zE (NS.no (rfl) ?_)
 refine zG zE (NS.call (f3) rfl ?_)
 refine zG zE (NS.no (rfl) ?_)
 refine zG zE (NS.no (beq_eq_false_iff_ne.2 (by omega)) ?_)
 refine zG zE (NS.chk (by kernel_rfl) ?_)
 refine zG zE (NS.call (f4) rfl ?_)
 refine zG zE (NS.inn (P:=Tryz.prog) (vals:=[.own 26,.int .i64 i,.own 29]) (WeakL.refl _) rfl (LeL.refl _) (by kernel_rfl) (ins_in _ 26 29 31 31 n i _ el _ rfl rfl (by decide) hi (by omega) (Nat.le_refl _)) rfl ?_)
 refine zG zE (NS.ret rfl rfl (LeA.tup (LeL.cons (LeA.slLe rfl fun q hq j hj=>?_) (LeL.refl _))))
 have e:insE el (fun i j=>getA [.int .i64 t,.int .i64 k,.int .i64 m] (i * 3 + j)) i q j = insE el (fun _ j=>getA [.int .i64 t,.int .i64 k,.int .i64 m] j) i q j:=by
  simp only [insE,Nat.zero_mul,Nat.zero_add]
 exact LeA.of e
def evL (t k m:Int):List A:=[.int .i64 t,.int .i64 k,.int .i64 m]
def addR (n i:Nat) (el:Nat -> Nat -> A) (t k m:Int):A:=.tup [.sl 3 (n + 1) (insE el (fun _ j=>getA (evL t k m) j) i),.int .i64 0]
def addB (c ca cb cp cl:Ct) (n i:Nat) (el:Nat -> Nat -> A) (t k m:Int):Bool:=
 Nat.blt i n && (Nat.blt n 1000 && (Nat.beq ca.f 216 && (Nat.beq cb.f 217 && (Nat.beq cp.f 218 && (Nat.beq cl.f 220 &&
 (eqLs (eqx 8) [.sl 3 n el] ca.args && (eqLs (eqx 8) [.agg (evL t k m)] cb.args && (eqLs (eqx 8) [.sl 3 n el,.agg (evL t k m)] cp.args && (eqLs (eqx 8) [.sl 3 n el] cl.args &&
 (eqx 8 ca.res (.int .i64 0) && (eqx 8 cb.res (.bool true) && (eqx 8 cp.res (.tup [.int .i64 i,.bool false]) && (ca.ob.isNone && (cb.ob.isNone && (cp.ob.isNone &&
 (Nat.beq c.f 169 && (eqLs (eqx 8) c.args [.sl 3 n el,.agg (evL t k m)] && (eqx 8 (addR n i el t k m) c.res && (c.ob.isNone && !c.fr)))))))))))))))))))
theorem kAdd (c:Ct) {ca cb cp cl:Ct} {n:Nat} {el:Nat -> Nat -> A} (i:Nat) (t k m:Int) (ha:CtOK Tryz.prog ca) (hb:CtOK Tryz.prog cb) (hp:CtOK Tryz.prog cp) (hl:CtOK Tryz.prog cl) (hr:(cl.res,cl.ob) = (.own 0,some (.row 143 3 n el))) (h:addB c ca cb cp cl n i el t k m = true):CtOK Tryz.prog c:=by
 simp only [addB,Bool.and_eq_true,Option.isNone_iff_eq_none] at h
 obtain ⟨h1,h2,h3,h4,h5,h6,h7,h8,h9,h10,h11,h12,h13,h14,h15,h16,h17,h18,h19,h20,h21⟩:=h
 have fa:=ha.fn
 have fb:=hb.fn
 have fp:=hp.fn
 have fl:=hl.fn
 rw [Nat.eq_of_beq_eq_true h3,h14] at fa
 rw [Nat.eq_of_beq_eq_true h4,h15] at fb
 rw [Nat.eq_of_beq_eq_true h5,h16] at fp
 rw [Nat.eq_of_beq_eq_true h6,hr] at fl
 have h0:=add_ok n i el t k m (by simpa using h1) (by simpa using h2) ((fa.le (eqLs_le (eqx_le 8) h7)).res (eqx_le 8 _ _ h11)) ((fb.le (eqLs_le (eqx_le 8) h8)).res (eqx_le 8 _ _ h12)) ((fp.le (eqLs_le (eqx_le 8) h9)).res (eqx_le 8 _ _ h13)) (fl.le (eqLs_le (eqx_le 8) h10))
 rw [<- Nat.eq_of_beq_eq_true h17] at h0
 have h22:FnOK Tryz.prog c.f c.args (c.res,c.ob):=by rw [h20];exact (h0.le (eqLs_le (eqx_le 8) h18)).res (eqx_le 8 _ _ h19)
 unfold CtOK
 rw [show c.fr = false by simpa using h21]
 exact h22
end Go.Proofs.YtjhmdfofhnijeaaGreatDoor
namespace Go.Proofs.YtjhmdfofhnijeaaGreatDoor
open Go.Sy Go.Mb
set_option maxRecDepth 100000
set_option maxHeartbeats 4000000
def iOf:A -> Int
 | .int _ n=>n
 | _=>0
def sOf:A -> ByteArray
 | .str s=>s
 | _=>.empty
def bOf:A -> Bool
 | .bool b=>b
 | .kb b=>b
 | _=>false
def recOf (f:Nat -> A):Jrec:=⟨iOf (f 0),⟨iOf (f 1),⟨iOf (f 2),iOf (f 3),iOf (f 4),iOf (f 5),iOf (f 6)⟩,iOf (f 7),iOf (f 8),iOf (f 9),bOf (f 10),sOf (f 11)⟩,⟨iOf (f 12),iOf (f 13),iOf (f 14),iOf (f 15),iOf (f 16)⟩,iOf (f 17),iOf (f 18)⟩
def recL (a:A):List Jrec:=match a with | .sl _ n el=>(upN 0 n).map fun i=>recOf (el i) | _=>[]
def ckS (c:Ct) (args:List A) (r:A):Bool:=eqLs (eqx 8) c.args args && (eqx 8 r c.res && (c.ob.isNone && flat 6 c.res))
theorem kApp (c:Ct) (hf:c.f = 288) (h:(Nat.ble (sOf (getA c.args 0)).size 100000 && (Nat.ble (recL (getA c.args 1)).length 100000 && ckS c [.str (sOf (getA c.args 0)),slR (recL (getA c.args 1))] (encA (appM (ls (sOf (getA c.args 0))) (recL (getA c.args 1)))))) = true):CtOK Tryz.prog c:=by
 simp only [Bool.and_eq_true] at h
 obtain ⟨h1,h2,h3⟩:=h
 have h4:=append_ok (sOf (getA c.args 0)) (recL (getA c.args 1)) (Nat.le_of_ble_eq_true h1) (Nat.le_of_ble_eq_true h2)
 rw [<- hf] at h4
 exact ctOK_of h4 h3
theorem kTab (c:Ct) (hf:c.f = 584) (h:ckS c [] (.agg (tabC 256)) = true):CtOK Tryz.prog c:=by
 have h4:=table_ok
 rw [<- hf] at h4
 exact ctOK_of h4 h
def hndR:A × Option Ob:=(.yld 0,some (.mp 779 false 1 true [([3],some (.fn 629 [])),([2],some (.fn 628 []))] (fun _=>false) (fun _=>.junk)))
noncomputable def CA0:Cx:=CA []
theorem handlers_ok:FnOK Tryz.prog 598 [] hndR:=by
 refine fn_ok CA0 rfl (by kernel_rfl) Tryz.func598 rfl ?_
 refine zG zE (NS.retM 1 rfl rfl (LeA.refl _) (fun q a h=>?_))
 simp only [lookM] at h
 repeat' split at h
 all_goals (cases h <;> rfl)
end Go.Proofs.YtjhmdfofhnijeaaGreatDoor
namespace Go.Proofs.YtjhmdfofhnijeaaGreatDoor
open Go.Sy
set_option maxRecDepth 100000
set_option maxHeartbeats 4000000
def v0:A:=L 7 2 [0,1,10,60,4,5,0,1,2,50,100,4,5,0]
def v1:A:=G [L 1 3 [100,100,100],v0]
def k0:=q 55 [] v1 []
def v2:A:=L 12 1 [0,0,0,0,0,1,2,200,0,0,.nils,S [104,105]]
def v3:A:=G [L 1 3 [100,100,100],v0,v2,.nils,.nils,tt]
def k1:=qo 19 [] v3 none [k0]
def k2:=q 192 [0,0,15] tt []
def k3:=q 192 [1,0,15] tt []
def k4:=q 192 [4,1,1000] tt []
def k5:=q 192 [5,1,1048576] tt []
def k6:=q 192 [0,0,16] tt []
def v4:A:=G [0,1,10,60,4,5,0]
def k7:=q 133 [v4] 0 [k2,k3,k4,k5,k6]
def v5:A:=.ip 7 (getA [0,1,10,60,4,5,0])
def k8:=q 193 [L 7 0 [],.fn 135 [v5]] (I (-1)) []
def k9:=q 134 [L 7 0 [],.fn 135 [v5]] ff [k8]
def k10:=q 192 [2,0,15] tt []
def v6:A:=G [1,2,50,100,4,5,0]
def k11:=q 133 [v6] 0 [k3,k10,k4,k5,k6]
def k12:=q 136 [v6,v4] ff [k11,k7]
def v7:A:=L 7 1 [0,1,10,60,4,5,0]
def v8:A:=.ip 7 (getA [1,2,50,100,4,5,0])
def k13:=q 193 [v7,.fn 135 [v8]] (I (-1)) [k12]
def k14:=q 134 [v7,.fn 135 [v8]] ff [k13]
def k15:=q 83 [v1] 0 [k7,k9,k11,k14]
def k16:=q 275 [0,0,15] tt []
def k17:=q 275 [0,0,1099511627776] tt []
def k18:=q 273 [G [0,0,0,0,0]] 0 [k16,k17]
def k19:=q 274 [G [1,2]] 0 []
def k20:=q 275 [0,0,2] tt []
def k21:=q 275 [0,0,127] tt []
def v9:A:=G [0,0,0,0,0,1,2,200,0,0,.nils,S [104,105]]
def k22:=q 276 [v9] 0 [k21]
def k23:=q 277 [.nils] 0 []
def k24:=q 278 [v9] 0 []
def k25:=q 212 [v9] 0 [k18,k19,k20,k22,k23,k24]
def k26:=q 213 [v9] ff [k25]
def v10:A:=.ip 12 (getA [0,0,0,0,0,1,2,200,0,0,.nils,S [104,105]])
def k27:=q 279 [L 12 0 [],.fn 215 [v10]] (I (-1)) []
def k28:=q 214 [L 12 0 [],.fn 215 [v10]] ff [k27]
def k29:=q 167 [v3,0] 0 [k25,k26,k28]
def k30:=q 105 [v3] 0 [k15,k29]
def v11:A:=G [L 1 3 [100,100,100],v0,.nils,.nils]
def k31:=qo 106 [v1] (U [v11,0]) none [k15]
def k32:=q 168 [0,0,15] tt []
def k33:=q 168 [100,0,1073741824] tt []
def v12:A:=G [0,100,tt,S [],0,.nils,.nils,.nils]
def k34:=q 107 [0,100] (U [v12,0]) [k32,k33]
def k35:=q 168 [1,0,15] tt []
def v13:A:=G [1,100,tt,S [],0,.nils,.nils,.nils]
def k36:=q 107 [1,100] (U [v13,0]) [k35,k33]
def k37:=q 168 [2,0,15] tt []
def v14:A:=G [2,100,tt,S [],0,.nils,.nils,.nils]
def k38:=q 107 [2,100] (U [v14,0]) [k37,k33]
def k39:=q 216 [.nils] 0 []
def k40:=q 217 [G [0,7,0]] tt []
def k41:=q 218 [.nils,G [0,7,0]] (U [0,ff]) []
def k42:=qo 220 [.nils] (.own 0) (some (.row 143 3 0 (tbl 3 []))) []
def v15:A:=U [L 3 1 [0,7,0],0]
def k43:=qo 169 [.nils,G [0,7,0]] v15 none [k39,k40,k41,k42]
def v16:A:=L 8 3 [0,100,tt,S [],0,.nils,.nils,.nils,1,100,tt,S [],0,.nils,.nils,.nils,2,100,tt,S [],0,.nils,.nils,.nils]
def v17:A:=G [L 1 3 [100,100,100],v0,v2,.nils,.nils,tt,0,0,L 1 3 [100,100,100],v0,.nils,.nils,v16,L 1 3 [0,0,0],.nils,L 3 1 [0,7,0],.nils]
def v18:A:=U [G [0,7,0],tt]
def k44:=q 53 [v17] v18 []
def k45:=qo 220 [L 3 0 []] (.own 0) (some (.row 143 3 0 (tbl 3 []))) []
def k46:=q 444 [3] tt []
def k47:=q 446 [3] 6 []
def k48:=qo 445 [6] (.fn 504 [.ip 1 (getA [6])]) none []
def k49:=q 376 [3] (U [S [6],0]) [k46,k47,k48]
def k50:=q 374 [S [77,66,49]] (U [S [6,77,66,49],0]) [k49]
def k51:=q 444 [0] tt []
def k52:=q 446 [0] 0 []
def k53:=qo 445 [0] (.fn 504 [.ip 1 (getA [0])]) none []
def k54:=q 376 [0] (U [S [0],0]) [k51,k52,k53]
def k55:=q 444 [1] tt []
def k56:=q 446 [1] 2 []
def k57:=qo 445 [2] (.fn 504 [.ip 1 (getA [2])]) none []
def k58:=q 376 [1] (U [S [2],0]) [k55,k56,k57]
def k59:=q 444 [2] tt []
def k60:=q 446 [2] 4 []
def k61:=qo 445 [4] (.fn 504 [.ip 1 (getA [4])]) none []
def k62:=q 376 [2] (U [S [4],0]) [k59,k60,k61]
def k63:=q 444 [200] tt []
def k64:=q 446 [200] 400 []
def k65:=qo 445 [400] (.fn 504 [.ip 1 (getA [400])]) none []
def k66:=q 376 [200] (U [S [131,16],0]) [k63,k64,k65]
def k67:=q 377 [.nils] (U [S [0],0]) [k54]
def k68:=q 374 [S [104,105]] (U [S [4,104,105],0]) [k62]
def k69:=q 444 [19] tt []
def k70:=q 446 [19] 38 []
def k71:=qo 445 [38] (.fn 504 [.ip 1 (getA [38])]) none []
def k72:=q 376 [19] (U [S [38],0]) [k69,k70,k71]
def v19:A:=S [6,77,66,49,0,0,0,0,0,2,4,131,16,0,0,0,4,104,105]
def v20:A:=S [38,6,77,66,49,0,0,0,0,0,2,4,131,16,0,0,0,4,104,105]
def k73:=q 374 [v19] (U [v20,0]) [k72]
def v21:A:=G [.int .u32 0,.int .u32 4067132163,.int .u32 3778769143,.int .u32 324072436,.int .u32 3348797215,.int .u32 904991772,.int .u32 648144872,.int .u32 3570033899,.int .u32 2329499855,.int .u32 2024987596,.int .u32 1809983544,.int .u32 2575936315,.int .u32 1296289744,.int .u32 3207089363,.int .u32 2893594407,.int .u32 1578318884,.int .u32 274646895,.int .u32 3795141740,.int .u32 4049975192,.int .u32 51262619,.int .u32 3619967088,.int .u32 632279923,.int .u32 922689671,.int .u32 3298075524,.int .u32 2592579488,.int .u32 1760304291,.int .u32 2075979607,.int .u32 2312596564,.int .u32 1562183871,.int .u32 2943781820,.int .u32 3156637768,.int .u32 1313733451,.int .u32 549293790,.int .u32 3537243613,.int .u32 3246849577,.int .u32 871202090,.int .u32 3878099393,.int .u32 357341890,.int .u32 102525238,.int .u32 4101499445,.int .u32 2858735121,.int .u32 1477399826,.int .u32 1264559846,.int .u32 3107202533,.int .u32 1845379342,.int .u32 2677391885,.int .u32 2361733625,.int .u32 2125378298,.int .u32 820201905,.int .u32 3263744690,.int .u32 3520608582,.int .u32 598981189,.int .u32 4151959214,.int .u32 85089709,.int .u32 373468761,.int .u32 3827903834,.int .u32 3124367742,.int .u32 1213305469,.int .u32 1526817161,.int .u32 2842354314,.int .u32 2107672161,.int .u32 2412447074,.int .u32 2627466902,.int .u32 1861252501,.int .u32 1098587580,.int .u32 3004210879,.int .u32 2688576843,.int .u32 1378610760,.int .u32 2262928035,.int .u32 1955203488,.int .u32 1742404180,.int .u32 2511436119,.int .u32 3416409459,.int .u32 969524848,.int .u32 714683780,.int .u32 3639785095,.int .u32 205050476,.int .u32 4266873199,.int .u32 3976438427,.int .u32 526918040,.int .u32 1361435347,.int .u32 2739821008,.int .u32 2954799652,.int .u32 1114974503,.int .u32 2529119692,.int .u32 1691668175,.int .u32 2005155131,.int .u32 2247081528,.int .u32 3690758684,.int .u32 697762079,.int .u32 986182379,.int .u32 3366744552,.int .u32 476452099,.int .u32 3993867776,.int .u32 4250756596,.int .u32 255256311,.int .u32 1640403810,.int .u32 2477592673,.int .u32 2164122517,.int .u32 1922457750,.int .u32 2791048317,.int .u32 1412925310,.int .u32 1197962378,.int .u32 3037525897,.int .u32 3944729517,.int .u32 427051182,.int .u32 170179418,.int .u32 4165941337,.int .u32 746937522,.int .u32 3740196785,.int .u32 3451792453,.int .u32 1070968646,.int .u32 1905808397,.int .u32 2213795598,.int .u32 2426610938,.int .u32 1657317369,.int .u32 3053634322,.int .u32 1147748369,.int .u32 1463399397,.int .u32 2773627110,.int .u32 4215344322,.int .u32 153784257,.int .u32 444234805,.int .u32 3893493558,.int .u32 1021025245,.int .u32 3467647198,.int .u32 3722505002,.int .u32 797665321,.int .u32 2197175160,.int .u32 1889384571,.int .u32 1674398607,.int .u32 2443626636,.int .u32 1164749927,.int .u32 3070701412,.int .u32 2757221520,.int .u32 1446797203,.int .u32 137323447,.int .u32 4198817972,.int .u32 3910406976,.int .u32 461344835,.int .u32 3484808360,.int .u32 1037989803,.int .u32 781091935,.int .u32 3705997148,.int .u32 2460548119,.int .u32 1623424788,.int .u32 1939049696,.int .u32 2180517859,.int .u32 1429367560,.int .u32 2807687179,.int .u32 3020495871,.int .u32 1180866812,.int .u32 410100952,.int .u32 3927582683,.int .u32 4182430767,.int .u32 186734380,.int .u32 3756733383,.int .u32 763408580,.int .u32 1053836080,.int .u32 3434856499,.int .u32 2722870694,.int .u32 1344288421,.int .u32 1131464017,.int .u32 2971354706,.int .u32 1708204729,.int .u32 2545590714,.int .u32 2229949006,.int .u32 1988219213,.int .u32 680717673,.int .u32 3673779818,.int .u32 3383336350,.int .u32 1002577565,.int .u32 4010310262,.int .u32 493091189,.int .u32 238226049,.int .u32 4233660802,.int .u32 2987750089,.int .u32 1082061258,.int .u32 1395524158,.int .u32 2705686845,.int .u32 1972364758,.int .u32 2279892693,.int .u32 2494862625,.int .u32 1725896226,.int .u32 952904198,.int .u32 3399985413,.int .u32 3656866545,.int .u32 731699698,.int .u32 4283874585,.int .u32 222117402,.int .u32 510512622,.int .u32 3959836397,.int .u32 3280807620,.int .u32 837199303,.int .u32 582374963,.int .u32 3504198960,.int .u32 68661723,.int .u32 4135334616,.int .u32 3844915500,.int .u32 390545967,.int .u32 1230274059,.int .u32 3141532936,.int .u32 2825850620,.int .u32 1510247935,.int .u32 2395924756,.int .u32 2091215383,.int .u32 1878366691,.int .u32 2644384480,.int .u32 3553878443,.int .u32 565732008,.int .u32 854102364,.int .u32 3229815391,.int .u32 340358836,.int .u32 3861050807,.int .u32 4117890627,.int .u32 119113024,.int .u32 1493875044,.int .u32 2875275879,.int .u32 3090270611,.int .u32 1247431312,.int .u32 2660249211,.int .u32 1828433272,.int .u32 2141937292,.int .u32 2378227087,.int .u32 3811616794,.int .u32 291187481,.int .u32 34330861,.int .u32 4032846830,.int .u32 615137029,.int .u32 3603020806,.int .u32 3314634738,.int .u32 939183345,.int .u32 1776939221,.int .u32 2609017814,.int .u32 2295496738,.int .u32 2058945313,.int .u32 2926798794,.int .u32 1545135305,.int .u32 1330124605,.int .u32 3173225534,.int .u32 4084100981,.int .u32 17165430,.int .u32 307568514,.int .u32 3762199681,.int .u32 888469610,.int .u32 3332340585,.int .u32 3587147933,.int .u32 665062302,.int .u32 2042050490,.int .u32 2346497209,.int .u32 2559330125,.int .u32 1793573966,.int .u32 3190661285,.int .u32 1279665062,.int .u32 1595330642,.int .u32 2910671697]
def k74:KK:=⟨⟨584,[],v21,none,true⟩,kTab _ rfl (by kernel_rfl)⟩
def k75:=qo 585 [v20] (.fn 611 [.ip 1 (getA [v20])]) none []
def k76:=q 540 [.int .u32 4294967295,v20] (.int .u32 1821520939) [k74,k75]
def k77:=q 505 [v20] 2473446356 [k76]
def k78:=q 448 [v20] (S [212,203,109,147]) [k77]
def v22:A:=S [38,6,77,66,49,0,0,0,0,0,2,4,131,16,0,0,0,4,104,105,212,203,109,147]
def k79:=q 378 [v19] (U [v22,0]) [k73,k78]
def k80:=q 313 [v9] (U [v22,0]) [k25,k50,k54,k58,k62,k66,k67,k68,k79]
def k81:=q 311 [v9] (U [24,0]) [k80]
def k82:=q 312 [v9] 200 [k25]
def v23:A:=G [0,2,24,0,199,0,ff]
def k83:=q 245 [v9] v23 [k81,k82]
def k84:=q 477 [.nils,.fn 419 []] (I (-1)) []
def k85:=q 418 [.nils,.fn 419 []] ff [k84]
def k86:=q 84 [v1,.nils] 0 [k15]
def k87:=q 423 [.nils] .nils []
def k88:=q 527 [.nils,0,.fn 483 []] (U []) []
def k89:=q 528 [.nils,0,.fn 485 []] (U []) []
def k90:=q 151 [.int .u64 0] 0 []
def k91:=q 95 [.int .u64 0] 0 [k90]
def k92:=q 194 [.nils,0,0,0] (U []) []
def k93:=q 100 [.nils,0] .nils [k91,k92]
def k94:=q 99 [.nils] 0 []
def k95:=q 100 [.nils,1] .nils [k91,k92]
def k96:=q 100 [.nils,2] .nils [k91,k92]
def k97:=q 48 [v1,.nils] 0 [k15,k93,k94,k95,k96]
def k98:=q 38 [v11] 0 [k15,k86,k97]
def k99:=q 352 [v11] 0 [k15,k85,k86,k87,k88,k89,k98]
def k100:=q 362 [v1,v23] 0 [k15]
def k101:=q 363 [v11] ff []
def k102:=q 257 [v1,.nils,0] 0 [k86]
def k103:=q 63 [.nils,0] .nils []
def k104:=q 258 [v1,.nils,0,10] (L 2 1 [10,60]) [k103]
def v24:A:=U [L 2 1 [10,60],0]
def k105:=qo 191 [v1,.nils,0] v24 none [k102,k104]
def k106:=q 192 [24,1,65536] tt []
def k107:=q 529 [v4,24] 0 [k7,k106]
def k108:=qo 605 [24] (.fn 633 [.ip 1 (getA [24])]) none []
def k109:=q 574 [v4,16] 6 []
def k110:=q 574 [v4,8] 4 []
def k111:=q 573 [v4,24] 10 [k108,k109,k110]
def k112:=q 530 [v4,24] 10 [k111,k109]
def k113:=q 486 [v4,24] (U [10,0]) [k107,k112]
def k114:=q 257 [v1,.nils,1] 0 [k86]
def k115:=q 63 [.nils,1] .nils []
def k116:=q 258 [v1,.nils,1,50] (L 2 1 [50,100]) [k115]
def v25:A:=U [L 2 1 [50,100],0]
def k117:=qo 191 [v1,.nils,1] v25 none [k114,k116]
def k118:=q 529 [v6,24] 0 [k11,k106]
def k119:=q 574 [v6,16] 6 []
def k120:=q 574 [v6,8] 4 []
def k121:=q 573 [v6,24] 10 [k108,k119,k120]
def k122:=q 530 [v6,24] 10 [k121,k119]
def k123:=q 486 [v6,24] (U [10,0]) [k118,k122]
def v26:A:=U [L 2 1 [0,1099511627776],0]
def k124:=q 487 [v1,.nils,0,24] v26 [k97,k93]
def k125:=q 487 [v1,.nils,1,24] v26 [k97,k95]
def k126:=q 487 [v1,.nils,2,24] v26 [k97,k96]
def v27:A:=L 1 2 [L 2 1 [10,60],L 2 1 [50,100]]
def v28:A:=L 1 3 [L 2 1 [0,1099511627776],L 2 1 [0,1099511627776],L 2 1 [0,1099511627776]]
def v29:A:=.ip 14 (getA [L 1 3 [100,100,100],v0,.nils,.nils,0,2,24,0,199,0,ff,v27,v28,L 1 2 [10,10]])
def k127:=qo 427 [v11,v23] (U [v29,tt]) none [k98,k100,k105,k113,k117,k123,k124,k125,k126]
def v30:A:=L 4 1 [0,0,1099511627776,0]
def k128:=q 488 [v30,.fn 489 []] (G [0,0,1099511627776,0]) []
def k129:=q 432 [G [0,0,1099511627776,0],G [0,0,1099511627776,0]] tt []
def v31:A:=.ip 4 (getA [0,0,1099511627776,0])
def k130:=q 533 [v30,.fn 491 [v31]] 0 [k129]
def k131:=qo 496 [v29,1] (L 2 1 [0,1099511627776]) none []
def v32:A:=U [G [0,10,20,25],tt]
def k132:=q 497 [v29,0,0] v32 []
def k133:=q 498 [v29,G [0,10,20,25]] 20 []
def k134:=q 432 [G [1,0,1099511627776,25],G [0,0,1099511627776,0]] ff []
def v33:A:=.ip 8 (getA [1,0,1099511627776,25,0,10,20,25])
def k135:=q 533 [v30,.fn 493 [v33]] (I (-1)) [k134]
def k136:=q 492 [v30,.fn 493 [v33]] ff [k135]
def v34:A:=L 4 1 [1,0,1099511627776,25]
def k137:=q 488 [v34,.fn 489 []] (G [1,0,1099511627776,25]) []
def k138:=q 432 [G [1,0,1099511627776,25],G [1,0,1099511627776,25]] tt []
def v35:A:=.ip 4 (getA [1,0,1099511627776,25])
def k139:=q 533 [v34,.fn 491 [v35]] 0 [k138]
def k140:=q 496 [v29,2] (L 2 1 [0,1099511627776]) []
def v36:A:=U [G [1,50,60,65],tt]
def k141:=q 497 [v29,1,25] v36 []
def k142:=q 498 [v29,G [1,50,60,65]] 60 []
def k143:=q 151 [.int .u64 2] 2 []
def k144:=q 95 [.int .u64 2] 2 [k143]
def k145:=q 141 [25] ff []
def k146:=q 141 [0] ff []
def k147:=q 92 [25,0] 1 [k145,k146]
def k148:=q 141 [1] ff []
def k149:=q 92 [1,0] 1 [k148,k146]
def k150:=q 92 [0,0] 0 [k146]
def k151:=q 91 [L 1 3 [1,1,0]] 1 []
def k152:=q 489 [G [1,0,1099511627776,25],G [0,0,1099511627776,0]] 1 [k147,k149,k150,k151]
def v37:A:=L 4 2 [0,0,1099511627776,0,1,0,1099511627776,25]
def k153:=q 534 [v37,0,2,2,.fn 489 []] (U []) [k152]
def k154:=q 432 [G [1,0,1099511627776,25],G [2,0,1099511627776,65]] ff []
def k155:=q 432 [G [2,0,1099511627776,65],G [2,0,1099511627776,65]] tt []
def v38:A:=L 4 2 [0,10,20,25,1,50,60,65]
def k156:=q 365 [v11,v23] (U [v38,0]) [k127,k128,k130,k131,k132,k133,k136,k137,k139,k140,k141,k142,k144,k153,k154,k155,k138]
def k157:=qo 303 [v11] v11 none []
def v39:A:=.ip 11 (getA [1,0,2,24,0,199,0,ff,v38,1,0])
def k158:=q 350 [.nils,.fn 359 [v39]] (I (-1)) []
def k159:=q 141 [50] ff []
def k160:=q 141 [10] ff []
def k161:=q 92 [50,10] 1 [k159,k160]
def k162:=q 91 [L 1 2 [1,1]] 1 []
def v40:A:=L 4 2 [0,10,20,1,1,50,60,1]
def k163:=q 527 [v40,2,.fn 481 []] (U []) [k149,k161,k162]
def k164:=q 424 [v38,1] v40 [k163]
def k165:=q 358 [v1,v23,G [0,10,20,25]] 20 []
def k166:=q 358 [v1,v23,G [1,50,60,65]] 60 []
def v41:A:=L 5 2 [0,0,20,24,1,1,10,60,24,1]
def k167:=q 425 [v1,v23,v38,1,0] v41 [k165,k166]
def k168:=q 527 [v40,2,.fn 483 []] (U []) [k149,k161,k162]
def k169:=q 92 [10,0] 1 [k160,k146]
def k170:=q 141 [60] ff []
def k171:=q 141 [20] ff []
def k172:=q 92 [60,20] 1 [k170,k171]
def k173:=q 92 [1,1] 0 [k148]
def k174:=q 141 [24] ff []
def k175:=q 92 [24,24] 0 [k174]
def v42:A:=L 1 5 [1,1,1,0,0]
def k176:=q 91 [v42] 1 []
def k177:=q 528 [v41,2,.fn 485 []] (U []) [k149,k169,k172,k173,k175,k176]
def v43:A:=G [L 1 3 [100,100,100],v0,v40,v41]
def k178:=q 369 [v43] ff []
def v44:A:=L 11 1 [1,0,2,24,0,199,0,ff,v38,1,0]
def v45:A:=G [L 1 3 [100,100,100],v0,.nils,v44]
def v46:A:=U [v45,G [tt,1,.nils,.nils,.nils],0]
def k179:=qo 306 [v11,v23,0] v46 none [k99,k100,k101,k87,k88,k89,k156,k157,k158,k164,k167,k168,k177,k178]
def v47:A:=G [1,0,2,24,0,199,0,ff,v38,1,0]
def k180:=qo 182 [v45,1] (U [v47,tt]) none []
def k181:=q 216 [L 3 0 []] 0 []
def k182:=q 217 [G [10,8,1000]] tt []
def k183:=q 218 [L 3 0 [],G [10,8,1000]] (U [0,ff]) []
def v48:A:=U [L 3 1 [10,8,1000],0]
def k184:=qo 169 [L 3 0 [],G [10,8,1000]] v48 none [k181,k182,k183,k45]
end Go.Proofs.YtjhmdfofhnijeaaGreatDoor
