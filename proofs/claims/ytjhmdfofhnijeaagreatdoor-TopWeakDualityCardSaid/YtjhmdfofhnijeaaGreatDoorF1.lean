import Derived.Test.YtjhmdfofhnijeaaGreatDoorP2
set_option linter.unusedSimpArgs false
set_option linter.unusedSectionVars false
set_option linter.unusedVariables false
namespace Go.Proofs.YtjhmdfofhnijeaaGreatDoor
open Go.Sy Go.Mb
set_option maxRecDepth 100000
set_option maxHeartbeats 4000000
theorem inside_ok (k n:Int):FnOK Tryz.prog 123 [.int .i64 k,.int .i64 n] (.bool (decide (k >= 0) && decide (k < n)),none):=by
 refine fn_ok CM rfl (by kernel_rfl) Tryz.func123 rfl ?_
 repeat' (first | (refine zG zE (NS.ite (fun h=>?_) (fun h=>?_))) | (refine zG zE (NS.chk (by kernel_rfl) ?_)) | (exact zG zE (NS.ret rfl rfl (LeA.of (congrArg A.bool (by simp only [*,Bool.true_and,Bool.false_and]))))))
theorem ins_t {k n:Int} (h:0 <= k /\ k < n):(decide (k >= 0) && decide (k < n)) = true:=by simp;omega
theorem fchk1_ok (n:Nat) (a:Arc) (h:OkA n a):FnOK Tryz.prog 122 [.agg a.cells,.ip 1 (getA [.int .i64 (n:Nat)])] (.bool false,none):=by
 have c1:=inside_ok a.fr n
 rw [ins_t h.fr] at c1
 have c2:=inside_ok a.to n
 rw [ins_t h.to] at c2
 have h1:=h.ne
 have h2:=h.cap
 refine fn_ok CM rfl (by kernel_rfl) Tryz.func122 rfl ?_
 refine zG zE (NS.call (c1) rfl ?_)
 refine zG zE (NS.no (rfl) ?_)
 refine zG zE (NS.call (c2) rfl ?_)
 refine zG zE (NS.no (rfl) ?_)
 refine zG zE (NS.no (beq_false_of_ne h1) ?_)
 refine zG zE (NS.no (by show decide (a.cap < 0) = false;exact decide_eq_false (by omega)) ?_)
 exact zG zE (NS.ret rfl rfl (LeA.of (congrArg A.bool (by show decide (a.cap > 1099511627776) = false;exact decide_eq_false (by omega)))))
theorem idxA_ok (l:List Arc) (hl:l.length <= 1000000) (f c:Nat) (el:Nat -> A) (p:Arc -> Bool) (hc:∀ x,x ∈ l -> FnOK Tryz.prog f [.agg (Arc.cells x),.ip c el] (.bool (p x),none)):FnOK Tryz.prog 186 [slArc l,.fn f [.ip c el]] (.int .i64 (idx p l),none):=by
 refine fn_ok CM rfl (by kernel_rfl) Tryz.func186 rfl ?_
 refine zG zE ?_
 refine NS.loop (σ:={ k:Nat // k <= l.length /\ ∀ i,i < k -> p (l.getD i default) = false }) (fun k=>[(0,slArc l),(1,.fn f [.ip c el]),(7,.int .i64 l.length),(8,.int .i64 k.1)]) (fun _=>[]) (fun k=>l.length - k.1) ⟨0,Nat.zero_le _,fun i hi=>by omega⟩ ?_ ?_
 ·exact weak_hd [] rfl ⟨rfl,rfl,rfl,rfl,trivial⟩ trivial trivial (by kernel_rfl)
 rintro ⟨k,hk,hn⟩
 have hk:k <= l.length:=hk
 refine zG zE (NS.ite (fun a=>?_) (fun a=>?_))
 ·have a:k < l.length:=by have a:decide ((k:Int) < (l.length:Int)) = true:=a;have:=of_decide_eq_true a;omega
  refine zG zE (NS.need (by show decide (0 <= (k:Int) /\ (k:Int) < (l.length:Int)) = true;exact decide_eq_true (by omega)) ?_)
  refine zG zE (NS.call (hc (l.getD k default) (by rw [getD_lt a];exact List.getElem_mem _)) rfl ?_)
  refine zG zE (NS.ite (fun b=>?_) (fun b=>?_))
  ·exact zG zE (NS.leaveOut rfl zE (NS.ret rfl rfl (LeA.of (congrArg (A.int .i64) ((idx_found a b hn).symm)))))
  ·refine zG zE (NS.next ⟨k + 1,a,fun i hi=>by rcases Nat.lt_or_ge i k with h | h;exact hn i h;rw [show i = k by omega];exact b⟩ (by show l.length - (k + 1) < l.length - k;omega) ?_)
   exact weak_hd [] rfl ⟨rfl,rfl,rfl,ren_int rfl (i64_k (n:=l.length) a (by omega)),trivial⟩ trivial trivial (by kernel_rfl)
 ·have a:k = l.length:=by have a:decide ((k:Int) < (l.length:Int)) = false:=a;have:=of_decide_eq_false a;omega
  subst a
  refine zG zE (NS.leave rfl zE ?_)
  exact zG zE (NS.ret rfl rfl (LeA.of (congrArg (A.int .i64) ((idx_none fun i hi=>hn i hi).symm))))
theorem contA_ok (l:List Arc) (hl:l.length <= 1000000) (f c:Nat) (el:Nat -> A) (p:Arc -> Bool) (hc:∀ x,x ∈ l -> FnOK Tryz.prog f [.agg (Arc.cells x),.ip c el] (.bool (p x),none)):FnOK Tryz.prog 121 [slArc l,.fn f [.ip c el]] (.bool (l.any p),none):=by
 refine fn_ok CM rfl (by kernel_rfl) Tryz.func121 rfl ?_
 refine zG zE (NS.call (idxA_ok l hl f c el p hc) rfl ?_)
 exact zG zE (NS.ret rfl rfl (LeA.of (congrArg A.bool (idx_any p l))))
theorem fCheck_ok (n:Nat) (l:List Arc) (hn:n <= 2000) (hl:l.length <= 20000) (h:∀ a ∈ l,OkA n a):FnOK Tryz.prog 65 [.int .i64 (n:Nat),slArc l] (.int .i64 0,none):=by
 have cc:=contA_ok l (by omega) 122 1 (getA [.int .i64 (n:Nat)]) (fun _=>false) fun x hx=>fchk1_ok n x (h x hx)
 rw [show l.any (fun _=>false) = false by rw [List.any_eq_false];intro x _;simp] at cc
 refine fn_ok CM rfl (by kernel_rfl) Tryz.func65 rfl ?_
 refine zG zE (NS.no (by show decide ((n:Int) < 0) = false;exact decide_eq_false (by omega)) ?_)
 refine zG zE (NS.no (by show decide ((n:Int) > 2000) = false;exact decide_eq_false (by omega)) ?_)
 refine zG zE (NS.no (by show decide ((l.length:Int) > 20000) = false;exact decide_eq_false (by omega)) ?_)
 refine zG zE (NS.call (cc) rfl ?_)
 refine zG zE (NS.no (rfl) ?_)
 exact zG zE (NS.ret rfl rfl (LeA.refl _))
theorem ends_ok (n s t:Nat) (hs:s < n) (ht:t < n) (hst:s ≠ t):FnOK Tryz.prog 66 [.int .i64 (n:Nat),.int .i64 (s:Nat),.int .i64 (t:Nat)] (.int .i64 0,none):=by
 have c1:=inside_ok s n
 rw [ins_t (by omega)] at c1
 have c2:=inside_ok t n
 rw [ins_t (by omega)] at c2
 refine fn_ok CM rfl (by kernel_rfl) Tryz.func66 rfl ?_
 refine zG zE (NS.call (c1) rfl ?_)
 refine zG zE (NS.no (rfl) ?_)
 refine zG zE (NS.call (c2) rfl ?_)
 refine zG zE (NS.no (rfl) ?_)
 refine zG zE (NS.no (beq_false_of_ne (by omega)) ?_)
 exact zG zE (NS.ret rfl rfl (LeA.refl _))
def flowF (f:List Int) (k:Nat):Int:=f.getD k 0
theorem sum_bound {g:Nat -> Int} {b:Int}:∀ {m:Nat},(∀ k,k < m -> -b <= g k /\ g k <= b) -> -(b * m) <= sumN g m /\ sumN g m <= b * m
 | 0,_=>by simp [sumN]
 | m + 1,h=>by
  have h1:=sum_bound (m:=m) fun k hk=>h k (by omega)
  have h2:=h m (by omega)
  simp only [sumN]
  have e:b * ((m + 1:Nat):Int) = b * m + b:=by push_cast;rw [Int.mul_add,Int.mul_one]
  rw [e];omega
theorem value_ok (n:Nat) (l:List Arc) (f:List Int) (s:Nat) (hl:l.length <= 20000) (h:∀ a ∈ l,OkA n a) (hf:f.length = l.length) (hb:∀ k,k < l.length -> 0 <= f.getD k 0 /\ f.getD k 0 <= 1099511627776):FnOK Tryz.prog 118 [slArc l,slN f,.int .i64 (s:Nat)] (.int .i64 (net (netA l) (flowF f) s),none):=by
 refine fn_ok CM rfl (by kernel_rfl) Tryz.func118 rfl ?_
 refine zG zE ?_
 refine NS.loop (σ:={ k:Nat // k <= l.length }) (fun k=>[(1,slN f),(2,.int .i64 (s:Nat)),(7,.int .i64 (sumN (gk (netA l) (flowF f) s) k.1)),(10,slArc l),(11,.int .i64 l.length),(12,.int .i64 (k.1:Nat))]) (fun _=>[]) (fun k=>l.length - k.1) ⟨0,Nat.zero_le _⟩ ?_ ?_
 ·exact weak_hd [] rfl ⟨rfl,rfl,rfl,rfl,rfl,rfl,trivial⟩ trivial trivial (by kernel_rfl)
 rintro ⟨k,hk⟩
 have hk:k <= l.length:=hk
 refine zG zE (NS.ite (fun a=>?_) (fun a=>?_))
 ·have a:k < l.length:=by have a:decide ((k:Int) < (l.length:Int)) = true:=a;have:=of_decide_eq_true a;omega
  have ok:=h (l.getD k default) (by rw [getD_lt a];exact List.getElem_mem _)
  have hfr:=ok.fr
  have hto:=ok.to
  have hne:=ok.ne
  have hbk:=hb k a
  have hfd:f.getD k default = f.getD k 0:=rfl
  have hbd:=sum_bound (g:=gk (netA l) (flowF f) s) (b:=1099511627776) (m:=k) fun i hi=>by
   have:=hb i (by omega)
   have hfi:flowF f i = f.getD i 0:=rfl
   unfold gk
   rw [hfi]
   split <;> split <;> omega
  have hkl:1099511627776 * (k:Int) <= 1099511627776 * 20000:=by omega
  have hs:sumN (gk (netA l) (flowF f) s) (k + 1) = sumN (gk (netA l) (flowF f) s) k + ((if (l.getD k default).fr.toNat = s then f.getD k 0 else 0) - (if (l.getD k default).to.toNat = s then f.getD k 0 else 0)):=rfl
  refine zG zE (NS.need (in_row a) ?_)
  refine zG zE (NS.ite (fun b1=>?_) (fun b1=>?_))
  ·have b1:(l.getD k default).fr = (s:Int):=by have b1:((l.getD k default).fr == (s:Int)) = true:=b1;exact eq_of_beq b1
   rw [if_pos (by omega),if_neg (by omega)] at hs
   have e1:IntKind.i64.wrap (sumN (gk (netA l) (flowF f) s) k + f.getD k default) = sumN (gk (netA l) (flowF f) s) (k + 1):=by rw [hs,hfd,wrap_i64 (by omega) (by omega)];omega
   refine zG zE (NS.need (by show decide (0 <= (k:Int) /\ (k:Int) < (f.length:Int)) = true;exact decide_eq_true (by omega)) ?_)
   refine zG zE (NS.no (by show ((l.getD k default).to == (s:Int)) = false;exact beq_false_of_ne (by omega)) ?_)
   refine zG zE (NS.next ⟨k + 1,a⟩ (by show l.length - (k + 1) < l.length - k;omega) ?_)
   exact weak_hd [] rfl ⟨rfl,rfl,ren_int rfl e1,rfl,rfl,ren_int rfl (i64_k (n:=l.length) a (by omega)),trivial⟩ trivial trivial (by kernel_rfl)
  ·have b1:(l.getD k default).fr ≠ (s:Int):=by have b1:((l.getD k default).fr == (s:Int)) = false:=b1;exact ne_of_beq_false b1
   rw [if_neg (by omega)] at hs
   refine zG zE (NS.ite (fun b2=>?_) (fun b2=>?_))
   ·have b2:(l.getD k default).to = (s:Int):=by have b2:((l.getD k default).to == (s:Int)) = true:=b2;exact eq_of_beq b2
    rw [if_pos (by omega)] at hs
    have e1:IntKind.i64.wrap (sumN (gk (netA l) (flowF f) s) k - f.getD k default) = sumN (gk (netA l) (flowF f) s) (k + 1):=by rw [hs,hfd,wrap_i64 (by omega) (by omega)];omega
    refine zG zE (NS.need (by show decide (0 <= (k:Int) /\ (k:Int) < (f.length:Int)) = true;exact decide_eq_true (by omega)) ?_)
    refine zG zE (NS.next ⟨k + 1,a⟩ (by show l.length - (k + 1) < l.length - k;omega) ?_)
    exact weak_hd [] rfl ⟨rfl,rfl,ren_int rfl e1,rfl,rfl,ren_int rfl (i64_k (n:=l.length) a (by omega)),trivial⟩ trivial trivial (by kernel_rfl)
   ·have b2:(l.getD k default).to ≠ (s:Int):=by have b2:((l.getD k default).to == (s:Int)) = false:=b2;exact ne_of_beq_false b2
    rw [if_neg (by omega)] at hs
    refine zG zE (NS.next ⟨k + 1,a⟩ (by show l.length - (k + 1) < l.length - k;omega) ?_)
    exact weak_hd [] rfl ⟨rfl,rfl,ren_int rfl (by show sumN (gk (netA l) (flowF f) s) k = sumN (gk (netA l) (flowF f) s) (k + 1);rw [hs];omega),rfl,rfl,ren_int rfl (i64_k (n:=l.length) a (by omega)),trivial⟩ trivial trivial (by kernel_rfl)
 have a:k = l.length:=by have a:decide ((k:Int) < (l.length:Int)) = false:=a;have:=of_decide_eq_false a;omega
 subst a
 refine zG zE (NS.leave rfl zE ?_)
 exact zG zE (NS.ret rfl rfl (LeA.refl _))
noncomputable def EMx:Env:={ P:=Tryz.prog,eqT:=lookE [],mu:=[78] }
theorem EMx_ok:EqOK EMx:=eqOK_of (tab:=[]) (fun p hp=>by cases hp)
noncomputable def CMx:Cx:={ E:=EMx,inl:=[124,76],ok:=EMx_ok }
def outK (G:Net) (v k:Nat):List Nat:=(List.range k).filter fun j=>lf G j == v
def inK (G:Net) (v k:Nat):List Nat:=(List.range k).filter fun j=>lt G j == v
def lkC (G:Net) (j:Nat):List A:=[.int .i64 (j:Nat),.int .i64 (lf G j:Nat),.int .i64 (lt G j:Nat)]
def rrK (G:Net) (f:Nat -> List Nat) (n:Nat):Ob:=.rr 174 180 3 n (fun v=>(f v).length) (fun v=>rowL (lkC G) (f v)) none
def lookV:List (Nat × Ob) -> Nat -> Ob
 | [],_=>.virgin
 | (k,o) :: os,i=>match Nat.beq k i with | true=>o | false=>lookV os i
def mkVO (os:List (Nat × Ob)):Nat -> Nat -> List Ob
 | 0,_=>[]
 | n + 1,i=>lookV os i :: mkVO os n (i + 1)
theorem outK_succ (G:Net) (v k:Nat):outK G v (k + 1) = outK G v k ++ if lf G k = v then [k] else []:=by
 unfold outK
 rw [List.range_succ,List.filter_append]
 congr 1
 by_cases h:lf G k = v
 ·simp [h]
 ·simp [h]
theorem inK_succ (G:Net) (v k:Nat):inK G v (k + 1) = inK G v k ++ if lt G k = v then [k] else []:=by
 unfold inK
 rw [List.range_succ,List.filter_append]
 congr 1
 by_cases h:lt G k = v
 ·simp [h]
 ·simp [h]
theorem rowsApp {α:Type} [Inhabited α] {cells:α -> List A} {l m:List α} {n:Nat} {ey:Nat -> Nat -> A} {c:Nat} (hn:l.length = n) (he:∀ i,i < m.length -> ∀ j,j < c -> ey i j = rowL cells m i j) (i:Nat) (hi:i < n + m.length) (j:Nat) (hj:j < c):(if i < n then rowL cells l i j else ey (i - n) j) = rowL cells (l ++ m) i j:=by
 subst hn
 rw [<- rowL_append]
 split
 ·rfl
 ·exact he _ (by omega) j hj
theorem out_len (G:Net) (k i:Nat):updN (fun v=>(outK G v k).length) (lf G k) ((outK G (lf G k) k).length + 1) i = (outK G i (k + 1)).length:=by
 rw [outK_succ,List.length_append]
 simp only [updN]
 split
 ·rename_i e
  subst e
  rw [if_pos rfl];rfl
 ·rename_i e
  rw [if_neg (fun q=>e q.symm)];rfl
theorem out_el (G:Net) (k:Nat) {ex:Nat -> Nat -> A} (hx:∀ q,q < 1 -> ∀ j,j < 3 -> ex q j = rowL (lkC G) [k] q j) (i q j:Nat) (hq:q < (outK G i (k + 1)).length) (hj:j < 3):
  updE (fun v=>rowL (lkC G) (outK G v k)) (lf G k) (fun q j=>if q < (outK G (lf G k) k).length then rowL (lkC G) (outK G (lf G k) k) q j else ex (q - (outK G (lf G k) k).length) j) i q j = rowL (lkC G) (outK G i (k + 1)) q j:=by
 rw [outK_succ] at hq ⊢
 simp only [updE]
 split
 ·rename_i e
  subst e
  rw [if_pos rfl] at hq ⊢
  rw [List.length_append] at hq
  exact rowsApp (c:=3) (m:=[k]) rfl hx q hq j hj
 ·rename_i e
  rw [if_neg (fun q=>e q.symm),List.append_nil]
theorem in_len (G:Net) (k i:Nat):updN (fun v=>(inK G v k).length) (lt G k) ((inK G (lt G k) k).length + 1) i = (inK G i (k + 1)).length:=by
 rw [inK_succ,List.length_append]
 simp only [updN]
 split
 ·rename_i e
  subst e
  rw [if_pos rfl];rfl
 ·rename_i e
  rw [if_neg (fun q=>e q.symm)];rfl
theorem in_el (G:Net) (k:Nat) {ex:Nat -> Nat -> A} (hx:∀ q,q < 1 -> ∀ j,j < 3 -> ex q j = rowL (lkC G) [k] q j) (i q j:Nat) (hq:q < (inK G i (k + 1)).length) (hj:j < 3):
  updE (fun v=>rowL (lkC G) (inK G v k)) (lt G k) (fun q j=>if q < (inK G (lt G k) k).length then rowL (lkC G) (inK G (lt G k) k) q j else ex (q - (inK G (lt G k) k).length) j) i q j = rowL (lkC G) (inK G i (k + 1)) q j:=by
 rw [inK_succ] at hq ⊢
 simp only [updE]
 split
 ·rename_i e
  subst e
  rw [if_pos rfl] at hq ⊢
  rw [List.length_append] at hq
  exact rowsApp (c:=3) (m:=[k]) rfl hx q hq j hj
 ·rename_i e
  rw [if_neg (fun q=>e q.symm),List.append_nil]
def gO (n:Nat) (l:List Arc) (k:Nat) (B P Q:Nat) (os:List (Nat × Ob)):List Ob:=mkVO ([(19,.row 3 1 l.length fun _ j=>getA [.int .i64 0] j),(68,.box [slArc l]),(69,.box [.own 19]),(109,.dead),(P,rrK (netA l) (fun v=>outK (netA l) v k) n),(111,.dead),(Q,rrK (netA l) (fun v=>inK (netA l) v k) n),(114,.box [.rv P n,.rv Q n,.fn 187 [.ptr 68 0,.ptr 69 0]])] ++ os) B 0
theorem addA_in (n:Nat) (l:List Arc) (a:Arc) (k:Nat) (hn:n <= 2000) (hk:k <= 40000) (h1:lf (netA l) k < n) (h2:lt (netA l) k < n):
  FnIn Tryz.prog 78 [.ptr 114 0,.int .i64 (k:Nat),.int .i64 (lf (netA l) k:Nat),.int .i64 (lt (netA l) k:Nat)] (gO n l k 115 110 112 [(73,.box a.cells)]) 115 (.tup []) (putOs (takeO 115 (gO n l k 115 110 112 [(73,.box a.cells)])) [(110,.dead),(112,.dead),(116,rrK (netA l) (fun v=>outK (netA l) v (k + 1)) n),(117,rrK (netA l) (fun v=>inK (netA l) v (k + 1)) n),(114,.box [.rv 116 n,.rv 117 n,.fn 187 [.ptr 68 0,.ptr 69 0]])]):=by
 have hmr:∀ f:Nat -> Bool,decide ((((List.range k).filter f).length + 1) * (23 + 1 + 1) <= maxRow) = true:=fun f=>decide_eq_true (by
  have:=List.length_filter_le f (List.range k)
  simp only [List.length_range] at this
  simp only [maxRow];omega)
 refine fn_in CMx rfl (by kernel_rfl) Tryz.func78 rfl ?_
 refine Sat.wk (((rr_open 110 170 171 (lf (netA l) k) rfl h1 rfl rfl (by decide)).cell 114 0 rfl rfl rfl).trans ((rr_open 112 172 173 (lt (netA l) k) rfl h2 rfl rfl (by decide)).cell 114 1 rfl rfl rfl)).weak ?_
 refine zG zE (NS.chk (by kernel_rfl) ?_)
 refine zG zE (NS.need (decide_eq_true ⟨by omega,by omega⟩) ?_)
 refine zG zE (NS.need (decide_eq_true rfl) ?_)
 refine zG zE (NS.need (hmr _) ?_)
 refine zG zE (NS.need (decide_eq_true ⟨by omega,by omega⟩) ?_)
 refine zG zE (NS.need (decide_eq_true rfl) ?_)
 refine zG zE (NS.need (hmr _) ?_)
 refine zG zE (NS.need (decide_eq_true ⟨by omega,by omega⟩) ?_)
 refine zG zE (NS.need (decide_eq_true rfl) ?_)
 refine zG zE (NS.need (decide_eq_true ⟨by omega,by omega⟩) ?_)
 refine zG zE (NS.need (decide_eq_true rfl) ?_)
 refine zG zE (NS.fin rfl ((((rr_close 170 190 147 (lf (netA l) k) rfl rfl rfl).cell 114 0 rfl rfl rfl).trans ((rr_close 172 191 157 (lt (netA l) k) rfl rfl rfl).cell 114 1 rfl rfl rfl)).weak.trans (weak_hd (ts:=[]) [(116,190),(117,191)] rfl trivial ⟨rfl,rfl,⟨_,_,_,rfl,fun i hi=>⟨?_,fun q hq j hj=>?_⟩,trivial⟩,⟨_,_,_,rfl,fun i hi=>⟨?_,fun q hq j hj=>?_⟩,trivial⟩,⟨_,rfl,?_⟩,trivial⟩ (Pre_cut (by kernel_rfl)) (by kernel_rfl))) rfl (LeA.refl _))
 ·exact out_len _ _ _
 ·exact out_el _ _ (fun q hq j hj=>row_one (cells:=lkC (netA l)) (x:=k) (c:=3) rfl q hq j hj) _ _ _ hq hj
 ·exact in_len _ _ _
 ·exact in_el _ _ (fun q hq j hj=>row_one (cells:=lkC (netA l)) (x:=k) (c:=3) rfl q hq j hj) _ _ _ hq hj
 ·exact ⟨_,_,rfl,rfl,_,_,rfl,rfl,_,_,rfl,rfl,rfl⟩
theorem addB_in (n:Nat) (l:List Arc) (a:Arc) (k:Nat) (hn:n <= 2000) (hk:k <= 40000) (h1:lf (netA l) k < n) (h2:lt (netA l) k < n):
  FnIn Tryz.prog 78 [.ptr 114 0,.int .i64 (k:Nat),.int .i64 (lf (netA l) k:Nat),.int .i64 (lt (netA l) k:Nat)] (gO n l k 118 116 117 [(110,.dead),(112,.dead),(73,.box a.cells)]) 118 (.tup []) (putOs (takeO 118 (gO n l k 118 116 117 [(110,.dead),(112,.dead),(73,.box a.cells)])) [(116,.dead),(117,.dead),(119,rrK (netA l) (fun v=>outK (netA l) v (k + 1)) n),(120,rrK (netA l) (fun v=>inK (netA l) v (k + 1)) n),(114,.box [.rv 119 n,.rv 120 n,.fn 187 [.ptr 68 0,.ptr 69 0]])]):=by
 have hmr:∀ f:Nat -> Bool,decide ((((List.range k).filter f).length + 1) * (23 + 1 + 1) <= maxRow) = true:=fun f=>decide_eq_true (by
  have:=List.length_filter_le f (List.range k)
  simp only [List.length_range] at this
  simp only [maxRow];omega)
 refine fn_in CMx rfl (by kernel_rfl) Tryz.func78 rfl ?_
 refine Sat.wk (((rr_open 116 170 171 (lf (netA l) k) rfl h1 rfl rfl (by decide)).cell 114 0 rfl rfl rfl).trans ((rr_open 117 172 173 (lt (netA l) k) rfl h2 rfl rfl (by decide)).cell 114 1 rfl rfl rfl)).weak ?_
 refine zG zE (NS.chk (by kernel_rfl) ?_)
 refine zG zE (NS.need (decide_eq_true ⟨by omega,by omega⟩) ?_)
 refine zG zE (NS.need (decide_eq_true rfl) ?_)
 refine zG zE (NS.need (hmr _) ?_)
 refine zG zE (NS.need (decide_eq_true ⟨by omega,by omega⟩) ?_)
 refine zG zE (NS.need (decide_eq_true rfl) ?_)
 refine zG zE (NS.need (hmr _) ?_)
 refine zG zE (NS.need (decide_eq_true ⟨by omega,by omega⟩) ?_)
 refine zG zE (NS.need (decide_eq_true rfl) ?_)
 refine zG zE (NS.need (decide_eq_true ⟨by omega,by omega⟩) ?_)
 refine zG zE (NS.need (decide_eq_true rfl) ?_)
 refine zG zE (NS.fin rfl ((((rr_close 170 190 150 (lf (netA l) k) rfl rfl rfl).cell 114 0 rfl rfl rfl).trans ((rr_close 172 191 160 (lt (netA l) k) rfl rfl rfl).cell 114 1 rfl rfl rfl)).weak.trans (weak_hd (ts:=[]) [(119,190),(120,191)] rfl trivial ⟨rfl,rfl,⟨_,_,_,rfl,fun i hi=>⟨?_,fun q hq j hj=>?_⟩,trivial⟩,⟨_,_,_,rfl,fun i hi=>⟨?_,fun q hq j hj=>?_⟩,trivial⟩,⟨_,rfl,?_⟩,trivial⟩ (Pre_cut (by kernel_rfl)) (by kernel_rfl))) rfl (LeA.refl _))
 ·exact out_len _ _ _
 ·exact out_el _ _ (fun q hq j hj=>row_one (cells:=lkC (netA l)) (x:=k) (c:=3) rfl q hq j hj) _ _ _ hq hj
 ·exact in_len _ _ _
 ·exact in_el _ _ (fun q hq j hj=>row_one (cells:=lkC (netA l)) (x:=k) (c:=3) rfl q hq j hj) _ _ _ hq hj
 ·exact ⟨_,_,rfl,rfl,_,_,rfl,rfl,_,_,rfl,rfl,rfl⟩
theorem LeA.intE {k:IntKind} {x y:Int} (h:x = y):LeA (.int k x) (.int k y):=by subst h;exact LeA.refl _
theorem lf_even (l:List Arc) (k:Nat):lf (netA l) (2 * k) = (l.getD k default).fr.toNat /\ lt (netA l) (2 * k) = (l.getD k default).to.toNat:=by
 unfold lf lt
 rw [if_pos (by omega),if_pos (by omega),show 2 * k / 2 = k by omega]
 exact ⟨rfl,rfl⟩
theorem lf_odd (l:List Arc) (k:Nat):lf (netA l) (2 * k + 1) = (l.getD k default).to.toNat /\ lt (netA l) (2 * k + 1) = (l.getD k default).fr.toNat:=by
 unfold lf lt
 rw [if_neg (by omega),if_neg (by omega),show (2 * k + 1) / 2 = k by omega]
 exact ⟨rfl,rfl⟩
def fnF (F:List Int) (k:Nat):Int:=F.getD k 0
structure OkF (l:List Arc) (F:List Int):Prop where
 len:F.length = l.length
 arc:∀ a ∈ l,0 <= a.cap /\ a.cap <= 1099511627776
 rng:∀ k,k < l.length -> 0 <= fnF F k /\ fnF F k <= (l.getD k default).cap
def slLk (G:Net) (f:Nat -> List Nat) (n:Nat):A:=.sl 1 n fun i _=>.sl 3 (f i).length (rowL (lkC G) (f i))
def graC (l:List Arc) (n:Nat) (F:List Int):List A:=[slLk (netA l) (fun v=>outK (netA l) v (2 * l.length)) n,slLk (netA l) (fun v=>inK (netA l) v (2 * l.length)) n,.fn 187 [.ip 1 (getA [slArc l]),.ip 1 (getA [slN F])]]
theorem room_ok (l:List Arc) (F:List Int) (h:OkF l F) (k:Nat) (hk:k / 2 < l.length) (hk2:k <= 40000):FnOK Tryz.prog 187 [.int .i64 (k:Nat),.ip 1 (getA [slArc l]),.ip 1 (getA [slN F])] (.int .i64 (rm (netA l) (fnF F) k),none):=by
 refine fn_ok CM rfl (by kernel_rfl) Tryz.func187 rfl ?_
 have e1:((k:Nat):Int).tmod 2 = ((k % 2:Nat):Int):=rfl
 have e2:IntKind.i64.wrap (((k:Nat):Int).tdiv 2) = ((k / 2:Nat):Int):=by rw [show ((k:Nat):Int).tdiv 2 = ((k / 2:Nat):Int) from rfl];exact wrap_i64 (by omega) (by omega)
 have hr:=h.rng _ hk
 have hc:=(h.arc (l.getD (k / 2) default) (by rw [getD_lt hk];exact List.getElem_mem _)).2
 refine zG zE (NS.need (rfl) ?_)
 refine zG zE (NS.ite (fun a=>?_) (fun a=>?_))
 ·have a:k % 2 = 0:=by have a:((((k:Nat):Int).tmod 2) == 0) = true:=a;rw [e1] at a;have:=eq_of_beq a;omega
  refine zG zE (NS.chk (by kernel_rfl) ?_)
  refine zG zE (NS.need (rfl) ?_)
  refine zG zE (NS.need (by show decide (0 <= IntKind.i64.wrap (((k:Nat):Int).tdiv 2) /\ IntKind.i64.wrap (((k:Nat):Int).tdiv 2) < (l.length:Int)) = true;rw [e2];exact decide_eq_true (by omega)) ?_)
  refine zG zE (NS.need (rfl) ?_)
  refine zG zE (NS.need (by show decide (0 <= IntKind.i64.wrap (((k:Nat):Int).tdiv 2) /\ IntKind.i64.wrap (((k:Nat):Int).tdiv 2) < (F.length:Int)) = true;rw [e2,h.len];exact decide_eq_true (by omega)) ?_)
  refine zG zE (NS.ret rfl rfl (LeA.intE ?_))
  show IntKind.i64.wrap ((l.getD (IntKind.i64.wrap (((k:Nat):Int).tdiv 2)).toNat default).cap - F.getD (IntKind.i64.wrap (((k:Nat):Int).tdiv 2)).toNat default) = _
  rw [e2]
  unfold rm
  rw [if_pos a]
  exact wrap_i64 (by show -9223372036854775808 <= (l.getD (k / 2) default).cap - fnF F (k / 2);omega) (by show (l.getD (k / 2) default).cap - fnF F (k / 2) <= 9223372036854775807;omega)
 ·have a:¬ k % 2 = 0:=by
   have a:((((k:Nat):Int).tmod 2) == 0) = false:=a
   rw [e1] at a
   intro q
   rw [q] at a
   cases a
  refine zG zE (NS.need (rfl) ?_)
  refine zG zE (NS.need (by show decide (0 <= IntKind.i64.wrap (((k:Nat):Int).tdiv 2) /\ IntKind.i64.wrap (((k:Nat):Int).tdiv 2) < (F.length:Int)) = true;rw [e2,h.len];exact decide_eq_true (by omega)) ?_)
  refine zG zE (NS.ret rfl rfl (LeA.intE ?_))
  show F.getD (IntKind.i64.wrap (((k:Nat):Int).tdiv 2)).toNat default = _
  rw [e2]
  unfold rm
  rw [if_neg a]
  rfl
noncomputable def CDs:Cx:={ E:=EM,inl:=[68,125,189],ok:=EM_ok }
def fnD (D:Nat -> Int) (i _:Nat):A:=.int .i64 (D i)
def rowD (D:Nat -> Int) (n:Nat):Ob:=.row 3 1 n (fnD D)
theorem in_rowN {i n:Nat} (h:i < n):decide ((i:Int).toNat < n) = true:=decide_eq_true (by omega)
theorem set_el {D D':Nat -> Int} {i:Nat} {x:Int} {a:Nat -> A} (ha:a 0 = .int .i64 x) (q j:Nat) (hj:j < 1) (h:D' q = if q = i then x else D q):(if q = (i:Int).toNat /\ 0 <= j /\ j < 0 + (0 + 1) then a (j - 0) else fnD D q j) = fnD D' q j:=by
 obtain rfl:j = 0:=by omega
 simp only [fnD,h,Int.toNat_natCast]
 by_cases e:q = i
 ·rw [if_pos ⟨e,Nat.le_refl _,by omega⟩,if_pos e]
  exact ha
 ·rw [if_neg (fun c=>e c.1),if_neg e]
def nN (v:Nat):List A:=[.int .i64 (v:Nat)]
def rowQ (Q:List Nat):Ob:=.row 3 1 Q.length (rowL nN Q)
structure DsI (G:Net) (R:Nat -> Int) (n t:Nat) (f:Nat) (D:Nat -> Int) (Q:List Nat):Prop where
 bf:Bfs G R n t D Q
 c:cntN D n + Q.length <= f
 r:bfs G R f (D,Q) = dist G R n t
 up:∀ v,D v + f <= n
theorem DsI.start {G:Net} {R:Nat -> Int} {n t:Nat} (ht:t < n):DsI G R n t n (dist0 t) [t] where
 bf:=by
  refine ⟨by simp [dist0],fun v=>?_,fun v hv=>?_,fun v hv=>?_,fun v hv=>?_,fun v hv hne=>?_⟩
  ·unfold dist0;split <;> omega
  ·unfold dist0 at hv;split at hv
   ·assumption
   ·omega
  ·unfold dist0 at hv;split at hv
   ·rename_i e;rw [e];exact ht
   ·omega
  ·simp only [List.mem_singleton] at hv;subst hv;simp [dist0]
  ·unfold dist0 at hv;rw [if_neg hne] at hv;omega
 c:=by
  have:=cntN_dist0 ht
  simp only [List.length_cons,List.length_nil]
  omega
 r:=rfl
 up v:=by
  unfold dist0
  split <;> omega
theorem relaxL_up (G:Net) (R:Nat -> Int) (v:Nat) (M:Int):∀ (l:List Nat) {D:Nat -> Int} {Q:List Nat},(∀ u,D u <= M) -> 0 <= D v -> D v + 1 <= M -> ∀ u,(relaxL G R v (D,Q) l).1 u <= M
 | [],D,Q,h,hv,hM,u=>h u
 | j :: l,D,Q,h,hv,hM,u=>by
  show (relaxL G R v (relax G R v (D,Q) j) l).1 u <= M
  by_cases hc:0 < R j /\ D (lf G j) < 0
  ·have e:relax G R v (D,Q) j = (setI D (lf G j) (D v + 1),Q ++ [lf G j]):=if_pos hc
   have hne:v ≠ lf G j:=fun e=>by rw [e] at hv;omega
   have ev:setI D (lf G j) (D v + 1) v = D v:=if_neg hne
   rw [e]
   refine relaxL_up G R v M l (fun w=>?_) (by rw [ev];exact hv) (by rw [ev];exact hM) u
   show (if w = lf G j then D v + 1 else D w) <= M
   split
   ·exact hM
   ·exact h w
  ·have e:relax G R v (D,Q) j = (D,Q):=if_neg hc
   rw [e]
   exact relaxL_up G R v M l h hv hM u
theorem relaxL_snoc (G:Net) (R:Nat -> Int) (v j:Nat):∀ (l:List Nat) (st:(Nat -> Int) × List Nat),relaxL G R v st (l ++ [j]) = relax G R v (relaxL G R v st l) j
 | [],st=>rfl
 | i :: l,st=>relaxL_snoc G R v j l (relax G R v st i)
theorem bfs_up {G:Net} {R:Nat -> Int} {n t:Nat} (hlf:∀ j,j / 2 < G.m -> lf G j < n):∀ (f:Nat) {D:Nat -> Int} {Q:List Nat},Bfs G R n t D Q -> (∀ u,D u + f <= n) -> ∀ u,bfs G R f (D,Q) u <= n
 | 0,D,Q,h,hu,u=>by have:=hu u;show D u <= n;omega
 | f + 1,D,[],h,hu,u=>by have:=hu u;show D u <= n;omega
 | f + 1,D,v :: Q,h,hu,u=>by
  have hv:=h.q v List.mem_cons_self
  obtain ⟨g1,_⟩:=relaxL_bfs (v:=v) hlf (inJ G v) (D:=D) (Q:=Q) ⟨h.d0,h.ge,h.zero,h.dn,fun u hu=>h.q u (List.mem_cons_of_mem _ hu),h.next⟩ hv (fun j hj=>mem_inJ.1 hj)
  refine bfs_up hlf f g1 (fun w=>?_) u
  have h1:=hu v
  have:=relaxL_up G R v (n - f) (inJ G v) (D:=D) (Q:=Q) (fun u=>by have:=hu u;omega) hv (by omega) w
  omega
theorem dist_le {G:Net} {R:Nat -> Int} {n t:Nat} (hlf:∀ j,j / 2 < G.m -> lf G j < n) (ht:t < n) (u:Nat):dist G R n t u <= n:=bfs_up hlf n (DsI.start (G:=G) (R:=R) ht).bf (DsI.start (G:=G) (R:=R) ht).up u
theorem dist_ok (l:List Arc) (n t:Nat) (F:List Int) (h:OkF l F) (hl:l.length <= 20000) (hn:n <= 2000) (ht:t < n) (hlf:∀ j,j / 2 < (netA l).m -> lf (netA l) j < n):FnOK Tryz.prog 129 [.ip 3 (getA (graC l n F)),.int .i64 (t:Nat)] (.own 0,some (rowD (dist (netA l) (rm (netA l) (fnF F)) n t) n)):=by
 obtain ⟨R,hR⟩:∃ R,R = rm (netA l) (fnF F):=⟨_,rfl⟩
 rw [<- hR]
 refine fn_ok CDs rfl (by kernel_rfl) Tryz.func129 rfl ?_
 refine zG zE (NS.need (decide_eq_true (by simp only [maxRow];omega)) ?_)
 refine zG zE ?_
 refine NS.loop (σ:={ k:Nat // k <= n }) (fun k=>[(0,.ip 3 (getA (graC l n F))),(1,.int .i64 (t:Nat)),(5,.ptr 5 0),(18,.int .i64 (n:Nat)),(19,.int .i64 (k.1:Nat))]) (fun k=>[(5,.box [.own 16]),(16,rowD (fun i=>if i < k.1 then -1 else 0) n)]) (fun k=>n - k.1) ⟨0,Nat.zero_le _⟩ ?_ ?_
 ·refine weak_hd [] rfl ⟨rfl,rfl,rfl,rfl,rfl,trivial⟩ ⟨⟨_,rfl,_,_,rfl,rfl,rfl⟩,ren_row rfl rfl (fun q hq j hj=>?_),trivial⟩ trivial (by kernel_rfl)
  rw [Nat.lt_one_iff.1 hj]
  show A.int .i64 0 = A.int .i64 (if q < 0 then -1 else 0)
  rw [if_neg (Nat.not_lt_zero q)]
 rintro ⟨k,hk⟩
 have hk:k <= n:=hk
 by_cases a:k < n
 ·refine zG zE (NS.yes (by show decide ((k:Int) < (n:Int)) = true;exact decide_eq_true (by omega)) ?_)
  refine zG zE (NS.need (in_row a) ?_)
  refine zG zE (NS.need (in_rowN a) ?_)
  refine zG zE (NS.next ⟨k + 1,a⟩ (by show n - (k + 1) < n - k;omega) ?_)
  refine weak_hd [] rfl ⟨rfl,rfl,rfl,rfl,ren_int rfl (i64_k a (by omega)),trivial⟩ ⟨⟨_,rfl,_,_,rfl,rfl,rfl⟩,ren_row rfl rfl (fun q hq j hj=>set_el (a:=getA [.int .i64 (-1)]) rfl q j hj ?_),trivial⟩ trivial (by kernel_rfl)
  show (if q < k + 1 then (-1:Int) else 0) = if q = k then -1 else if q < k then -1 else 0
  by_cases e:q = k
  ·rw [if_pos e,if_pos (by omega)]
  ·rw [if_neg e]
   by_cases e':q < k
   ·rw [if_pos e',if_pos (by omega)]
   ·rw [if_neg e',if_neg (by omega)]
 have a:n = k:=by omega
 subst a
 refine zG zE (NS.no (by show decide ((n:Int) < (n:Int)) = false;exact decide_eq_false (Int.lt_irrefl _)) ?_)
 refine zG zE (NS.leave rfl zE ?_)
 refine zG zE (NS.need (in_row ht) ?_)
 refine zG zE (NS.need (in_rowN ht) ?_)
 refine zG zE ?_
 refine NS.loop (σ:={ p:Nat × (Nat -> Int) × List Nat // DsI (netA l) R n t p.1 p.2.1 p.2.2 }) (fun p=>[(0,.ip 3 (getA (graC l n F))),(5,.ptr 5 0),(7,.ptr 7 0),(8,.fn 189 [.ptr 7 0])]) (fun p=>[(5,.box [.own 16]),(7,.box [.own 30]),(16,rowD p.1.2.1 n),(30,rowQ p.1.2.2)]) (fun p=>p.1.1) ⟨(n,dist0 t,[t]),DsI.start ht⟩ ?_ ?_
 ·refine weak_hd [] rfl ⟨rfl,rfl,rfl,rfl,trivial⟩ ⟨⟨_,rfl,_,_,rfl,rfl,rfl⟩,⟨_,rfl,_,_,rfl,rfl,rfl⟩,ren_row rfl rfl (fun q hq j hj=>set_el (a:=getA [.int .i64 0]) rfl q j hj ?_),ren_row rfl rfl (fun q hq j hj=>row_one (cells:=nN) (x:=t) (c:=1) rfl q hq j hj),trivial⟩ trivial (by kernel_rfl)
  show (if q = t then (0:Int) else -1) = if q = t then 0 else if q < n then -1 else 0
  rw [if_pos hq]
 rintro ⟨⟨f,D,Q⟩,hp⟩
 have hp:DsI (netA l) R n t f D Q:=hp
 rcases Q with _ | ⟨v,Q⟩
 ·refine zG zE (NS.no (rfl) ?_)
  refine zG zE (NS.leave rfl zE ?_)
  have e:D = dist (netA l) R n t:=by rw [<- hp.r];cases f <;> rfl
  subst e
  refine zG zE (NS.retRow 16 rfl rfl (LeA.refl _) ⟨rfl,rfl,rfl,fun _ _ _ _=>rfl⟩ fun _ _ _ _=>rfl)
 ·refine zG zE (NS.yes (by show decide ((((v :: Q).length:Nat):Int) > 0) = true;exact decide_eq_true (by simp only [List.length_cons];omega)) ?_)
  have hlen:0 < (v :: Q).length:=by simp
  refine zG zE (NS.need (by show decide (0 <= (0:Int) /\ (0:Int) < (((v :: Q).length:Nat):Int)) = true;exact decide_eq_true (by omega)) ?_)
  refine zG zE (NS.need (by show decide ((0:Int).toNat < (v :: Q).length) = true;exact decide_eq_true hlen) ?_)
  refine zG zE (NS.need (decide_eq_true ⟨by omega,by show (1:Int) <= (((v :: Q).length:Nat):Int);omega,Int.le_refl _⟩) ?_)
  have hv:=hp.bf.q v List.mem_cons_self
  have hvn:=hp.bf.dn v hv
  refine zG zE (NS.chk (by kernel_rfl) ?_)
  refine zG zE (NS.need (by show decide (0 <= (v:Int) /\ (v:Int) < (n:Int)) = true;exact in_row hvn) ?_)
  refine zG zE ?_
  refine NS.loop (σ:={ p:Nat × (Nat -> Int) × List Nat // p.1 <= (inK (netA l) v (2 * l.length)).length /\ relaxL (netA l) R v (D,Q) ((inK (netA l) v (2 * l.length)).take p.1) = p.2 }) (fun p=>[(0,.yld 72),(1,.ptr 71 0),(2,.ptr 70 0),(6,.sl 3 (inK (netA l) v (2 * l.length)).length (rowL (lkC (netA l)) (inK (netA l) v (2 * l.length)))),(7,.int .i64 (inK (netA l) v (2 * l.length)).length),(8,.int .i64 (p.1.1:Nat))]) (fun p=>[(7,.box [.own 101]),(16,rowD p.1.2.1 n),(30,.dead),(101,rowQ p.1.2.2)]) (fun p=>(inK (netA l) v (2 * l.length)).length - p.1.1) ⟨(0,D,Q),Nat.zero_le _,rfl⟩ ?_ ?_
  ·refine ((ov_own 30 101 rfl rfl).cell 7 0 rfl rfl (by exact Nat.zero_lt_one) rfl).weak.trans ?_
   refine weak_hd [] rfl ⟨rfl,rfl,rfl,rfl,rfl,rfl,trivial⟩ ⟨⟨_,rfl,_,_,rfl,rfl,rfl⟩,ren_row rfl rfl (fun q hq j hj=>rfl),rfl,ren_row rfl (by show ((((v :: Q).length:Nat):Int) - 1).toNat = Q.length;simp only [List.length_cons];omega) (fun q hq j hj=>?_),trivial⟩ (Pre_cut (by kernel_rfl)) (by kernel_rfl)
   show rowL nN (v :: Q) (1 + q) j = rowL nN Q q j
   rw [Nat.add_comm];rfl
  rintro ⟨⟨k,D1,Q1⟩,hk,hr⟩
  have hk:k <= (inK (netA l) v (2 * l.length)).length:=hk
  have hr:relaxL (netA l) R v (D,Q) ((inK (netA l) v (2 * l.length)).take k) = (D1,Q1):=hr
  obtain ⟨g1,g2,g3,g4,g5,g6⟩:=relaxL_bfs (v:=v) hlf ((inK (netA l) v (2 * l.length)).take k) (D:=D) (Q:=Q) ⟨hp.bf.d0,hp.bf.ge,hp.bf.zero,hp.bf.dn,fun u hu=>hp.bf.q u (List.mem_cons_of_mem _ hu),hp.bf.next⟩ hv (fun j hj=>mem_inJ.1 (List.mem_of_mem_take hj))
  rw [hr] at g1 g2 g3 g4 g5 g6
  have g3v:D1 v = D v:=g3 v hv
  have g2:cntN D1 n + Q1.length = cntN D n + Q.length:=g2
  have hL:(inK (netA l) v (2 * l.length)).length <= 9000000000000000000:=by
   have:=List.length_filter_le (fun j=>lt (netA l) j == v) (List.range (2 * l.length))
   simp only [List.length_range] at this
   unfold inK;omega
  have hc:=hp.c
  have hupt:=hp.up t
  have hupv:=hp.up v
  rw [hp.bf.d0] at hupt
  simp only [List.length_cons] at hc
  by_cases a:k < (inK (netA l) v (2 * l.length)).length
  ·obtain ⟨J,hJ⟩:∃ J,J = (inK (netA l) v (2 * l.length)).getD k default:=⟨_,rfl⟩
   have hj:J ∈ inK (netA l) v (2 * l.length):=by rw [hJ,getD_lt a];exact List.getElem_mem _
   have hj2:=mem_inJ.1 hj
   have hj3:=hlf _ hj2.1
   have hs:relaxL (netA l) R v (D,Q) ((inK (netA l) v (2 * l.length)).take (k + 1)) = relax (netA l) R v (D1,Q1) J:=by rw [take_snoc a,<- hJ,relaxL_snoc,hr]
   refine zG zE (NS.yes (by show decide ((k:Int) < ((inK (netA l) v (2 * l.length)).length:Int)) = true;exact decide_eq_true (by omega)) ?_)
   refine zG zE (NS.need (in_row a) ?_)
   refine zG zE (NS.chk (by kernel_rfl) ?_)
   have rk:=room_ok l F h J hj2.1 (by have:=hj2.1;have hm:(netA l).m = l.length:=rfl;omega)
   rw [<- hR,hJ] at rk
   rw [hJ] at hj3 hs
   refine zG zE (NS.call (rk) rfl ?_)
   refine zG zE (NS.ite (fun c=>?_) (fun c=>?_))
   ·have c:decide (R ((inK (netA l) v (2 * l.length)).getD k default) > 0) = true:=c
    refine zG zE (NS.need (in_row hj3) ?_)
    refine zG zE (NS.need (in_rowN hj3) ?_)
    refine zG zE (NS.ite (fun d=>?_) (fun d=>?_))
    ·have d:decide (D1 (lf (netA l) ((inK (netA l) v (2 * l.length)).getD k default)) < 0) = true:=d
     have hs:relaxL (netA l) R v (D,Q) ((inK (netA l) v (2 * l.length)).take (k + 1)) = (setI D1 (lf (netA l) ((inK (netA l) v (2 * l.length)).getD k default)) (D1 v + 1),Q1 ++ [lf (netA l) ((inK (netA l) v (2 * l.length)).getD k default)]):=hs.trans (if_pos ⟨of_decide_eq_true c,of_decide_eq_true d⟩)
     refine zG zE (NS.chk (by kernel_rfl) ?_)
     refine zG zE (NS.need (by show decide (0 <= (v:Int) /\ (v:Int) < (n:Int)) = true;exact in_row hvn) ?_)
     refine zG zE (NS.need (by show decide ((v:Int).toNat < n) = true;exact in_rowN hvn) ?_)
     refine zG zE (NS.need (in_row hj3) ?_)
     refine zG zE (NS.need (in_rowN hj3) ?_)
     refine zG zE (NS.need (decide_eq_true (by show (Q1.length + 1) * (7 + 1 + 1) <= maxRow;simp only [maxRow];omega)) ?_)
     refine zG zE (NS.next ⟨(k + 1,setI D1 (lf (netA l) ((inK (netA l) v (2 * l.length)).getD k default)) (D1 v + 1),Q1 ++ [lf (netA l) ((inK (netA l) v (2 * l.length)).getD k default)]),a,hs⟩ (by show (inK (netA l) v (2 * l.length)).length - (k + 1) < (inK (netA l) v (2 * l.length)).length - k;omega) ?_)
     refine weak_hd [(101,168)] rfl ⟨rfl,rfl,rfl,rfl,rfl,ren_int rfl (i64_k a hL),trivial⟩ ⟨⟨_,rfl,_,_,rfl,rfl,rfl⟩,ren_row rfl rfl (fun q hq j hj=>set_el ?_ q j hj rfl),rfl,ren_row rfl (by show Q1.length + 1 = (Q1 ++ [_]).length;simp) (fun q hq j hj=>row_snoc (cells:=nN) (x:=lf (netA l) ((inK (netA l) v (2 * l.length)).getD k default)) rfl q (by simpa [rowQ] using hq) j hj),trivial⟩ (Pre_cut (by kernel_rfl)) (by kernel_rfl)
     show A.int .i64 (IntKind.i64.wrap (D1 v + 1)) = A.int .i64 (D1 v + 1)
     rw [wrap_i64 (by omega) (by omega)]
    ·have d:decide (D1 (lf (netA l) ((inK (netA l) v (2 * l.length)).getD k default)) < 0) = false:=d
     have hs:relaxL (netA l) R v (D,Q) ((inK (netA l) v (2 * l.length)).take (k + 1)) = (D1,Q1):=hs.trans (if_neg (fun q=>of_decide_eq_false d q.2))
     refine zG zE (NS.next ⟨(k + 1,D1,Q1),a,hs⟩ (by show (inK (netA l) v (2 * l.length)).length - (k + 1) < (inK (netA l) v (2 * l.length)).length - k;omega) ?_)
     exact weak_hd [] rfl ⟨rfl,rfl,rfl,rfl,rfl,ren_int rfl (i64_k a hL),trivial⟩ ⟨⟨_,rfl,_,_,rfl,rfl,rfl⟩,ren_row rfl rfl (fun q hq j hj=>rfl),rfl,ren_row rfl rfl (fun q hq j hj=>rfl),trivial⟩ (Pre_cut (by kernel_rfl)) (by kernel_rfl)
   ·have c:decide (R ((inK (netA l) v (2 * l.length)).getD k default) > 0) = false:=c
    have hs:relaxL (netA l) R v (D,Q) ((inK (netA l) v (2 * l.length)).take (k + 1)) = (D1,Q1):=hs.trans (if_neg (fun q=>of_decide_eq_false c q.1))
    refine zG zE (NS.next ⟨(k + 1,D1,Q1),a,hs⟩ (by show (inK (netA l) v (2 * l.length)).length - (k + 1) < (inK (netA l) v (2 * l.length)).length - k;omega) ?_)
    exact weak_hd [] rfl ⟨rfl,rfl,rfl,rfl,rfl,ren_int rfl (i64_k a hL),trivial⟩ ⟨⟨_,rfl,_,_,rfl,rfl,rfl⟩,ren_row rfl rfl (fun q hq j hj=>rfl),rfl,ren_row rfl rfl (fun q hq j hj=>rfl),trivial⟩ (Pre_cut (by kernel_rfl)) (by kernel_rfl)
  have a:(inK (netA l) v (2 * l.length)).length = k:=by omega
  subst a
  rw [List.take_length] at hr
  refine zG zE (NS.no (by show decide (((inK (netA l) v (2 * l.length)).length:Int) < ((inK (netA l) v (2 * l.length)).length:Int)) = false;exact decide_eq_false (Int.lt_irrefl _)) ?_)
  refine zG zE (NS.leave rfl zE ?_)
  obtain ⟨f,rfl⟩:∃ f',f = f' + 1:=⟨f - 1,by omega⟩
  refine zG zE (NS.next ⟨(f,D1,Q1),⟨g1,by show cntN D1 n + Q1.length <= f;omega,by rw [<- hp.r];exact congrArg (bfs (netA l) R f) hr.symm,fun u=>?_⟩⟩ (Nat.lt_succ_self f) ?_)
  ·have:=relaxL_up (netA l) R v (n - f) (inK (netA l) v (2 * l.length)) (D:=D) (Q:=Q) (fun u=>by have:=hp.up u;omega) hv (by omega) u
   rw [hr] at this
   have this:D1 u <= (n:Int) - f:=this
   show D1 u + f <= n
   omega
  exact weak_hd [(30,101)] rfl ⟨rfl,rfl,rfl,rfl,trivial⟩ ⟨⟨_,rfl,_,_,rfl,rfl,rfl⟩,⟨_,rfl,_,_,rfl,rfl,rfl⟩,ren_row rfl rfl (fun q hq j hj=>rfl),ren_row rfl rfl (fun q hq j hj=>rfl),trivial⟩ trivial (by kernel_rfl)
noncomputable def CPt:Cx:={ E:=EM,inl:=[68,125],ok:=EM_ok }
theorem path_no (l:List Arc) (n s t:Nat) (F:List Int) (h:OkF l F) (hl:l.length <= 20000) (hn:n <= 2000) (hs:s < n) (ht:t < n) (hlf:∀ j,j / 2 < (netA l).m -> lf (netA l) j < n) (hd:dist (netA l) (rm (netA l) (fnF F)) n t s < 0):
  FnOK Tryz.prog 79 [.ip 3 (getA (graC l n F)),.int .i64 (s:Nat),.int .i64 (t:Nat)] (.tup [.nils,.bool false],none):=by
 obtain ⟨D,hD⟩:∃ D,D = dist (netA l) (rm (netA l) (fnF F)) n t:=⟨_,rfl⟩
 have dk:=dist_ok l n t F h hl hn ht hlf
 rw [<- hD] at dk hd
 refine fn_ok CPt rfl (by kernel_rfl) Tryz.func79 rfl ?_
 refine zG zE (NS.call (dk) rfl ?_)
 refine zG zE (NS.need (in_row hs) ?_)
 refine zG zE (NS.need (in_rowN hs) ?_)
 refine zG zE (NS.yes (by show decide (D s < 0) = true;exact decide_eq_true hd) ?_)
 exact zG zE (NS.ret rfl rfl (LeA.refl _))
theorem find_at {p:Nat -> Bool}:∀ {l:List Nat} {k:Nat},k < l.length -> p (l.getD k default) = true -> (∀ i,i < k -> p (l.getD i default) = false) -> l.find? p = some (l.getD k default)
 | [],k,hk,_,_=>absurd hk (Nat.not_lt_zero k)
 | a :: l,0,_,hp,_=>by rw [List.find?_cons_of_pos];rfl;exact hp
 | a :: l,k + 1,hk,hp,hn=>by
  have h0:p a = false:=hn 0 (Nat.succ_pos k)
  rw [List.find?_cons_of_neg (by rw [h0];decide)]
  exact find_at (Nat.lt_of_succ_lt_succ hk) hp fun i hi=>hn (i + 1) (Nat.succ_lt_succ hi)
theorem find_non {p:Nat -> Bool}:∀ {l:List Nat},(∀ i,i < l.length -> p (l.getD i default) = false) -> l.find? p = none
 | [],_=>rfl
 | a :: l,hn=>by
  have h0:p a = false:=hn 0 (Nat.succ_pos _)
  rw [List.find?_cons_of_neg (by rw [h0];decide)]
  exact find_non fun i hi=>hn (i + 1) (Nat.succ_lt_succ hi)
structure PtI (G:Net) (R D:Nat -> Int) (n s t:Nat) (f v:Nat) (acc:List Nat):Prop where
 d:D v = (f:Int)
 p:acc ++ pathM G R D t f v = pathM G R D t (D s).toNat s
 l:(acc.length:Int) + f <= n
theorem path_ok (l:List Arc) (n s t:Nat) (F:List Int) (h:OkF l F) (hl:l.length <= 20000) (hn:n <= 2000) (hs:s < n) (ht:t < n) (hlf:∀ j,j / 2 < (netA l).m -> lf (netA l) j < n) (hlt:∀ j,j / 2 < (netA l).m -> lt (netA l) j < n) (hd:0 <= dist (netA l) (rm (netA l) (fnF F)) n t s):
  FnOK Tryz.prog 79 [.ip 3 (getA (graC l n F)),.int .i64 (s:Nat),.int .i64 (t:Nat)] (.tup [.own 0,.bool true],some (rowQ (onceP (netA l) n s t (fnF F)))):=by
 have dk:=dist_ok l n t F h hl hn ht hlf
 obtain ⟨hb,_⟩:=dist_spec (R:=rm (netA l) (fnF F)) hlf ht
 have hle:=dist_le (R:=rm (netA l) (fnF F)) hlf ht
 unfold onceP
 obtain ⟨R,hR⟩:∃ R,R = rm (netA l) (fnF F):=⟨_,rfl⟩
 rw [<- hR] at dk hd hb hle ⊢
 obtain ⟨D,hD⟩:∃ D,D = dist (netA l) R n t:=⟨_,rfl⟩
 rw [<- hD] at dk hd hb hle ⊢
 refine fn_ok CPt rfl (by kernel_rfl) Tryz.func79 rfl ?_
 refine zG zE (NS.call (dk) rfl ?_)
 refine zG zE (NS.need (in_row hs) ?_)
 refine zG zE (NS.need (in_rowN hs) ?_)
 refine zG zE (NS.no (by show decide (D s < 0) = false;exact decide_eq_false (by omega)) ?_)
 refine zG zE ?_
 refine NS.loop (σ:={ p:Nat × Nat × List Nat // PtI (netA l) R D n s t p.1 p.2.1 p.2.2 }) (fun p=>[(0,.ip 3 (getA (graC l n F))),(2,.int .i64 (t:Nat)),(8,.ptr 8 0),(9,.ptr 9 0),(10,.ptr 56 0)]) (fun p=>[(8,.box [.own 14]),(14,rowD D n),(9,.box [.own 55]),(55,rowQ p.1.2.2),(56,.box [.int .i64 (p.1.2.1:Nat)])]) (fun p=>p.1.1) ⟨((D s).toNat,s,[]),⟨by show D s = _;omega,rfl,by have:=hle s;show ((0:Nat):Int) + _ <= _;omega⟩⟩ ?_ ?_
 ·refine (weak_promoteB 9 0 55 3 1 (rowL nN []) rfl rfl rfl).trans ?_
  exact weak_hd [(56,10)] rfl ⟨rfl,rfl,rfl,rfl,rfl,trivial⟩ ⟨⟨_,rfl,_,_,rfl,rfl,rfl⟩,ren_row rfl rfl (fun q hq j hj=>rfl),⟨_,rfl,_,_,rfl,rfl,rfl⟩,ren_row rfl rfl (fun q hq=>absurd hq (Nat.not_lt_zero q)),⟨_,rfl,_,_,rfl,rfl,rfl⟩,trivial⟩ trivial (by kernel_rfl)
 rintro ⟨⟨f,v,acc⟩,hp⟩
 have hp:PtI (netA l) R D n s t f v acc:=hp
 have hpd:=hp.d
 have hpp:=hp.p
 have hpl:=hp.l
 by_cases e:v = t
 ·subst e
  rw [hb.d0] at hpd
  obtain rfl:f = 0:=by omega
  refine zG zE (NS.no (by show ((v:Int) != (v:Int)) = false;exact bne_self_eq_false _) ?_)
  refine zG zE (NS.leave rfl zE ?_)
  rw [pathM,List.append_nil] at hpp
  refine zG zE (NS.retRow 55 rfl rfl (LeA.refl _) ⟨rfl,rfl,congrArg List.length hpp,fun _ _ _ _=>by rw [<- hpp]⟩ fun i _ j hj=>by obtain rfl:j = 0:=Nat.lt_one_iff.1 hj;rfl)
 ·have hvn:=hb.dn v (by omega)
  obtain ⟨J,hJ⟩:=hb.nextJ (v:=v) (by omega) e
  have hpos:=hb.pos (v:=v) (by omega) e
  obtain ⟨j1,j2,j3,j4⟩:=nextJ_some hJ
  obtain ⟨f,rfl⟩:∃ f',f = f' + 1:=⟨f - 1,by omega⟩
  rw [pathM,if_neg e,hJ] at hpp
  refine zG zE (NS.yes (by show ((v:Int) != (t:Int)) = true;exact bne_iff_ne.2 (fun q=>e (by omega))) ?_)
  refine zG zE (NS.chk (by kernel_rfl) ?_)
  refine zG zE (NS.need (in_row hvn) ?_)
  refine zG zE ?_
  refine NS.loop (σ:={ k:Nat // k <= (outK (netA l) v (2 * l.length)).length /\ ∀ i,i < k -> decide (0 < R ((outK (netA l) v (2 * l.length)).getD i default) /\ D (lt (netA l) ((outK (netA l) v (2 * l.length)).getD i default)) = D v - 1) = false }) (fun k=>[(0,.yld 61),(1,.ptr 60 0),(2,.ptr 59 0),(6,.sl 3 (outK (netA l) v (2 * l.length)).length (rowL (lkC (netA l)) (outK (netA l) v (2 * l.length)))),(7,.int .i64 (outK (netA l) v (2 * l.length)).length),(8,.int .i64 (k.1:Nat))]) (fun k=>[]) (fun k=>(outK (netA l) v (2 * l.length)).length - k.1) ⟨0,Nat.zero_le _,fun i hi=>absurd hi (Nat.not_lt_zero i)⟩ ?_ ?_
  ·exact weak_hd [] rfl ⟨rfl,rfl,rfl,rfl,rfl,rfl,trivial⟩ trivial (Pre_cut (by kernel_rfl)) (by kernel_rfl)
  rintro ⟨k,hk,hno⟩
  have hk:k <= (outK (netA l) v (2 * l.length)).length:=hk
  have hL:(outK (netA l) v (2 * l.length)).length <= 9000000000000000000:=by
   have:=List.length_filter_le (fun j=>lf (netA l) j == v) (List.range (2 * l.length))
   simp only [List.length_range] at this
   unfold outK;omega
  by_cases a:k < (outK (netA l) v (2 * l.length)).length
  ·have hj:(outK (netA l) v (2 * l.length)).getD k default ∈ outK (netA l) v (2 * l.length):=by rw [getD_lt a];exact List.getElem_mem _
   have hj2:=mem_outJ.1 hj
   have hj3:=hlt _ hj2.1
   have rk:=room_ok l F h ((outK (netA l) v (2 * l.length)).getD k default) hj2.1 (by have:=hj2.1;have hm:(netA l).m = l.length:=rfl;omega)
   rw [<- hR] at rk
   have hm:∀ i,i < k + 1 -> ¬ (i < k) -> i = k:=fun i h1 h2=>by omega
   have hwr:IntKind.i64.wrap (D v - 1) = D v - 1:=wrap_i64 (by omega) (by have:=hle v;omega)
   refine zG zE (NS.yes (by show decide ((k:Int) < ((outK (netA l) v (2 * l.length)).length:Int)) = true;exact decide_eq_true (by omega)) ?_)
   refine zG zE (NS.need (in_row a) ?_)
   refine zG zE (NS.chk (by kernel_rfl) ?_)
   refine zG zE (NS.call (rk) rfl ?_)
   refine zG zE (NS.ite (fun c=>?_) (fun c=>?_))
   ·have c:decide (R ((outK (netA l) v (2 * l.length)).getD k default) > 0) = true:=c
    refine zG zE (NS.chk (by kernel_rfl) ?_)
    refine zG zE (NS.need (in_row hj3) ?_)
    refine zG zE (NS.need (in_rowN hj3) ?_)
    refine zG zE (NS.need (in_row hvn) ?_)
    refine zG zE (NS.need (in_rowN hvn) ?_)
    refine zG zE (NS.ite (fun d=>?_) (fun d=>?_))
    ·have d:(D (lt (netA l) ((outK (netA l) v (2 * l.length)).getD k default)) == IntKind.i64.wrap (D v - 1)) = true:=d
     have d:=eq_of_beq d
     rw [hwr] at d
     have hJ2:=find_at (p:=fun j=>decide (0 < R j /\ D (lt (netA l) j) = D v - 1)) a (decide_eq_true ⟨of_decide_eq_true c,d⟩) hno
     obtain rfl:J = (outK (netA l) v (2 * l.length)).getD k default:=Option.some.inj (hJ.symm.trans hJ2)
     refine zG zE (NS.chk (by kernel_rfl) ?_)
     refine zG zE (NS.need (decide_eq_true (by simp only [maxRow];omega)) ?_)
     refine zG zE (NS.leave rfl zE ?_)
     refine zG zE (NS.next ⟨(f,lt (netA l) ((outK (netA l) v (2 * l.length)).getD k default),acc ++ [(outK (netA l) v (2 * l.length)).getD k default]),⟨by show D (lt (netA l) ((outK (netA l) v (2 * l.length)).getD k default)) = (f:Int);rw [d,hpd];omega,by show (acc ++ [_]) ++ pathM (netA l) R D t f _ = _;rw [<- hpp,List.append_assoc];rfl,by show ((acc ++ [_]).length:Int) + f <= n;simp only [List.length_append,List.length_cons,List.length_nil];omega⟩⟩ (Nat.lt_succ_self f) ?_)
     exact weak_hd [(55,138),(56,10)] rfl ⟨rfl,rfl,rfl,rfl,rfl,trivial⟩ ⟨⟨_,rfl,_,_,rfl,rfl,rfl⟩,ren_row rfl rfl (fun q hq j hj=>rfl),⟨_,rfl,_,_,rfl,rfl,rfl⟩,ren_row rfl (by show acc.length + 1 = (acc ++ [_]).length;simp) (fun q hq j hj=>row_snoc (cells:=nN) (x:=(outK (netA l) v (2 * l.length)).getD k default) rfl q (by simpa [rowQ] using hq) j hj),⟨_,rfl,_,_,rfl,rfl,rfl⟩,trivial⟩ trivial (by kernel_rfl)
    ·have d:(D (lt (netA l) ((outK (netA l) v (2 * l.length)).getD k default)) == IntKind.i64.wrap (D v - 1)) = false:=d
     refine zG zE (NS.next ⟨k + 1,a,fun i hi=>?_⟩ (by show (outK (netA l) v (2 * l.length)).length - (k + 1) < (outK (netA l) v (2 * l.length)).length - k;omega) ?_)
     ·by_cases h1:i < k
      ·exact hno i h1
      ·rw [hm i hi h1]
       refine decide_eq_false fun q=>?_
       rw [hwr,q.2] at d
       exact absurd d (by simp)
     exact weak_hd [] rfl ⟨rfl,rfl,rfl,rfl,rfl,ren_int rfl (i64_k a hL),trivial⟩ trivial (Pre_cut (by kernel_rfl)) (by kernel_rfl)
   ·have c:decide (R ((outK (netA l) v (2 * l.length)).getD k default) > 0) = false:=c
    refine zG zE (NS.next ⟨k + 1,a,fun i hi=>?_⟩ (by show (outK (netA l) v (2 * l.length)).length - (k + 1) < (outK (netA l) v (2 * l.length)).length - k;omega) ?_)
    ·by_cases h1:i < k
     ·exact hno i h1
     ·rw [hm i hi h1]
      exact decide_eq_false fun q=>of_decide_eq_false c q.1
    exact weak_hd [] rfl ⟨rfl,rfl,rfl,rfl,rfl,ren_int rfl (i64_k a hL),trivial⟩ trivial (Pre_cut (by kernel_rfl)) (by kernel_rfl)
  ·have hJ3:=find_non (p:=fun j=>decide (0 < R j /\ D (lt (netA l) j) = D v - 1)) (l:=outK (netA l) v (2 * l.length)) (fun i hi=>hno i (by have hi:i < (outK (netA l) v (2 * l.length)).length:=hi;omega))
   exact absurd (hJ.symm.trans hJ3) (by simp)
theorem least_ok (l:List Arc) (n:Nat) (F:List Int) (h:OkF l F) (P:List Nat) (hP:∀ j ∈ P,j / 2 < l.length /\ j <= 40000) (hp:P.length <= 1000000):FnOK Tryz.prog 80 [.ip 3 (getA (graC l n F)),.sl 1 P.length (rowL nN P)] (.int .i64 (leastM (rm (netA l) (fnF F)) P 1099511627776),none):=by
 obtain ⟨R,hR⟩:∃ R,R = leastM (rm (netA l) (fnF F)) P 1099511627776:=⟨_,rfl⟩
 rw [<- hR]
 refine fn_ok CM rfl (by kernel_rfl) Tryz.func80 rfl ?_
 refine zG zE ?_
 refine NS.loop (σ:={ p:Nat × Int // p.1 <= P.length /\ leastM (rm (netA l) (fnF F)) (P.drop p.1) p.2 = R }) (fun p=>[(0,.ip 3 (getA (graC l n F))),(5,.int .i64 p.1.2),(8,.sl 1 P.length (rowL nN P)),(9,.int .i64 P.length),(10,.int .i64 (p.1.1:Nat))]) (fun p=>[]) (fun p=>P.length - p.1.1) ⟨(0,1099511627776),Nat.zero_le _,hR.symm⟩ ?_ ?_
 ·exact weak_hd [] rfl ⟨rfl,rfl,rfl,rfl,rfl,trivial⟩ trivial trivial (by kernel_rfl)
 rintro ⟨⟨k,x⟩,hk,hx⟩
 have hk:k <= P.length:=hk
 have hx:leastM (rm (netA l) (fnF F)) (P.drop k) x = R:=hx
 by_cases a:k < P.length
 ·have hj:=hP (P.getD k default) (by rw [getD_lt a];exact List.getElem_mem _)
  rw [drop_cons a,leastM] at hx
  refine zG zE (NS.yes (by show decide ((k:Int) < (P.length:Int)) = true;exact decide_eq_true (by omega)) ?_)
  refine zG zE (NS.need (in_row a) ?_)
  refine zG zE (NS.call (room_ok l F h (P.getD k default) hj.1 hj.2) rfl ?_)
  refine zG zE (NS.next ⟨(k + 1,_),a,hx⟩ (by show P.length - (k + 1) < P.length - k;omega) ?_)
  refine weak_hd [] rfl ⟨rfl,ren_int rfl ?_,rfl,rfl,ren_int rfl (i64_k a (by omega)),trivial⟩ trivial trivial (by kernel_rfl)
  rfl
 ·have a:P.length = k:=by omega
  subst a
  refine zG zE (NS.no (by show decide ((P.length:Int) < (P.length:Int)) = false;exact decide_eq_false (Int.lt_irrefl _)) ?_)
  refine zG zE (NS.leave rfl zE ?_)
  rw [List.drop_length,leastM] at hx
  refine zG zE (NS.ret rfl rfl (LeA.intE hx))
def maxL (l:List Arc) (n s t:Nat):List Int:=(List.range l.length).map (maxFl (netA l) n s t)
structure MxI (l:List Arc) (n s t f:Nat) (F:List Int):Prop where
 ok:OkF l F
 fl:IsFlow (netA l) n s t (fnF F)
 b:topV (netA l) s - net (netA l) (fnF F) s < (f:Int)
 r:maxM (netA l) n s t f (fnF F) = maxFl (netA l) n s t
theorem getD_rep {n k:Nat} {d:Int} (h:k < n):(List.replicate n (0:Int)).getD k d = 0:=by
 rw [List.getD_eq_getElem?_getD,List.getElem?_replicate,if_pos h];rfl
theorem MxI.start {l:List Arc} {n s t:Nat} (h:∀ a ∈ l,OkA n a) (hG:NetOK (netA l) n s t):MxI l n s t ((topV (netA l) s).toNat + 1) (List.replicate l.length 0):=by
 have e:fnF (List.replicate l.length 0) = zeroF:=by
  funext k
  unfold fnF zeroF
  by_cases a:k < l.length
  ·rw [getD_rep a]
  ·rw [List.getD_eq_getElem?_getD,List.getElem?_eq_none (by rw [List.length_replicate];omega)];rfl
 have hc:∀ k,k < l.length -> 0 <= (l.getD k default).cap:=fun k hk=>(h _ (by rw [getD_lt hk];exact List.getElem_mem _)).cap.1
 refine ⟨⟨by rw [List.length_replicate],fun a ha=>(h a ha).cap,fun k hk=>?_⟩,?_,?_,?_⟩
 ·rw [e];exact ⟨Int.le_refl _,hc k hk⟩
 ·rw [e];exact zero_flow hc
 ·rw [e,net_zero];omega
 ·rw [e];rfl
theorem MxI.done {l:List Arc} {n s t f:Nat} {F:List Int} (h:MxI l n s t f F) (hG:NetOK (netA l) n s t) (hd:dist (netA l) (rm (netA l) (fnF F)) n t s < 0):F = maxL l n s t:=by
 have e:fnF F = maxFl (netA l) n s t:=by
  rw [<- h.r]
  cases f with
  | zero=>rfl
  | succ f=>exact (if_pos hd).symm
 refine List.ext_getElem (by rw [h.ok.len];simp [maxL]) fun k h1 h2=>?_
 have e1:F[k] = fnF F k:=by unfold fnF;rw [List.getD_eq_getElem?_getD,List.getElem?_eq_getElem h1];rfl
 rw [e1,e]
 simp [maxL]
theorem pathM_len (G:Net) (R D:Nat -> Int) (t:Nat):∀ f v,(pathM G R D t f v).length <= f
 | 0,v=>Nat.le_refl _
 | f + 1,v=>by
  unfold pathM
  split
  ·exact Nat.zero_le _
  ·split
   ·exact Nat.succ_le_succ (pathM_len G R D t f _)
   ·exact Nat.zero_le _
theorem MxI.next {l:List Arc} {n s t f:Nat} {F:List Int} (h:MxI l n s t f F) (hG:NetOK (netA l) n s t) (hd:0 <= dist (netA l) (rm (netA l) (fnF F)) n t s):
  0 < leastM (rm (netA l) (fnF F)) (onceP (netA l) n s t (fnF F)) 1099511627776 /\ leastM (rm (netA l) (fnF F)) (onceP (netA l) n s t (fnF F)) 1099511627776 <= 1099511627776 /\ ∃ f',f = f' + 1 /\ ∀ F',F'.length = F.length -> fnF F' = pushP (leastM (rm (netA l) (fnF F)) (onceP (netA l) n s t (fnF F)) 1099511627776) (fnF F) (onceP (netA l) n s t (fnF F)) -> MxI l n s t f' F':=by
 obtain ⟨h1,h2⟩:=once_flow hG h.fl hd
 have h3:=flow_top hG h.fl
 have h4:=h.b
 have hlf:∀ j,j / 2 < (netA l).m -> lf (netA l) j < n:=fun j hj=>by
  unfold lf
  split
  ·exact hG.fr _ hj
  ·exact hG.to _ hj
 obtain ⟨hb,_⟩:=dist_spec (R:=rm (netA l) (fnF F)) hlf hG.lt
 obtain ⟨p1,p2,p3⟩:=pathM_spec hb (dist (netA l) (rm (netA l) (fnF F)) n t s).toNat s hd (by omega)
 refine ⟨leastM_pos (by omega) fun j hj=>(p3 j hj).2.1,(leastM_le _ _ _).1,f - 1,by omega,fun F' hl hF=>?_⟩
 have e:fnF F' = once (netA l) n s t (fnF F):=hF
 refine ⟨⟨by rw [hl];exact h.ok.len,h.ok.arc,fun k hk=>?_⟩,?_,?_,?_⟩
 ·rw [e];exact ⟨h1.lo k hk,h1.hi k hk⟩
 ·rw [e];exact h1
 ·rw [e];omega
 ·obtain ⟨f,rfl⟩:∃ f',f = f' + 1:=⟨f - 1,by omega⟩
  rw [e,<- h.r]
  exact (if_neg (by omega)).symm
theorem half_new:∀ {P:List Nat} {k:Nat},(halves P).Nodup -> k < P.length -> (P.getD k default) / 2 ∉ halves (P.take k)
 | [],k,_,h=>absurd h (Nat.not_lt_zero k)
 | j :: P,0,_,_=>fun h=>by cases h
 | j :: P,k + 1,hn,hk=>by
  have hn:(j / 2 :: halves P).Nodup:=hn
  rw [List.nodup_cons] at hn
  have hk':=Nat.lt_of_succ_lt_succ hk
  have e:(j :: P).getD (k + 1) default = P.getD k default:=rfl
  rw [e]
  show _ ∉ j / 2 :: halves (P.take k)
  rw [List.mem_cons]
  rintro (h | h)
  ·exact hn.1 (by rw [<- h];exact halves_mem (by rw [getD_lt hk'];exact List.getElem_mem _))
  ·exact half_new hn.2 hk' h
theorem pushP_snoc (r:Int) (j:Nat):∀ (P:List Nat) (F:Nat -> Int),pushP r F (P ++ [j]) = push r (pushP r F P) j
 | [],F=>rfl
 | i :: P,F=>pushP_snoc r j P (push r F i)
theorem fnF_set {E:List Int} {i:Nat} {x:Int} (h:i < E.length):fnF (E.set i x) = fun k=>if k = i then x else fnF E k:=by
 funext k
 unfold fnF
 rw [List.getD_eq_getElem?_getD,List.getD_eq_getElem?_getD,List.getElem?_set]
 by_cases e:i = k
 ·rw [if_pos e,if_pos (e ▸ h),if_pos e.symm];rfl
 ·rw [if_neg e,if_neg (fun q=>e q.symm)]
theorem set_rowC {E:List Int} {i q j:Nat} {x w:Int} {a:Nat -> A} (hw:w = (i:Int)) (hi:i < E.length) (ha:a 0 = .int .i64 x) (hj:j < 1):(if q = w.toNat /\ 0 <= j /\ j < 0 + (0 + 1) then a (j - 0) else rowL nC E q j) = rowL nC (E.set i x) q j:=by
 obtain rfl:j = 0:=by omega
 subst hw
 have h:=congrFun (fnF_set (x:=x) hi) q
 have e:rowL nC (E.set i x) q 0 = .int .i64 (fnF (E.set i x) q):=rfl
 rw [e,h,Int.toNat_natCast]
 by_cases c:q = i
 ·rw [if_pos ⟨c,Nat.le_refl _,by omega⟩,if_pos c];exact ha
 ·rw [if_neg (fun q=>c q.1),if_neg c];rfl
def graC0 (l:List Arc) (n:Nat):List A:=[slLk (netA l) (fun v=>outK (netA l) v (2 * l.length)) n,slLk (netA l) (fun v=>inK (netA l) v (2 * l.length)) n,.fn 187 [.ptr 68 0,.ptr 69 0]]
theorem maximum_ok (n:Nat) (l:List Arc) (s t:Nat) (hn:n <= 2000) (hl:l.length <= 20000) (h:∀ a ∈ l,OkA n a) (hs:s < n) (ht:t < n) (hst:s ≠ t):FnOK Tryz.prog 67 [.int .i64 (n:Nat),slArc l,.int .i64 (s:Nat),.int .i64 (t:Nat)] (.tup [slN (maxL l n s t),.ip 3 (getA (graC l n (maxL l n s t)))],none):=by
 have hG:=netA_ok h hs ht hst
 refine fn_ok CMx rfl (by kernel_rfl) Tryz.func67 rfl ?_
 refine zG zE (NS.need (by show decide (0 <= (l.length:Int) /\ (l.length:Int) <= (l.length:Int) /\ (l.length:Int).toNat * (7 + 1 + 1) <= maxRow) = true;exact decide_eq_true (by simp only [maxRow];omega)) ?_)
 refine zG zE (NS.chk (by kernel_rfl) ?_)
 refine zG zE (NS.need (by show decide (0 <= (n:Int) /\ (n:Int) <= (n:Int) /\ (n:Int).toNat * (23 + 1 + 1) <= maxRow) = true;exact decide_eq_true (by simp only [maxRow];omega)) ?_)
 refine zG zE (NS.need (by show decide (0 <= (n:Int) /\ (n:Int) <= (n:Int) /\ (n:Int).toNat * (23 + 1 + 1) <= maxRow) = true;exact decide_eq_true (by simp only [maxRow];omega)) ?_)
 refine zG zE ?_
 refine NS.loop (σ:={ k:Nat // k <= l.length }) (fun k=>[(7,.ptr 114 0),(13,slArc l),(14,.int .i64 l.length),(15,.int .i64 (k.1:Nat))]) (fun k=>[(68,.box [slArc l]),(69,.box [.own 19]),(109,.dead),(111,.dead),(114,.box [.rv 110 n,.rv 112 n,.fn 187 [.ptr 68 0,.ptr 69 0]]),(110,rrK (netA l) (fun v=>outK (netA l) v (2 * k.1)) n),(112,rrK (netA l) (fun v=>inK (netA l) v (2 * k.1)) n)]) (fun k=>l.length - k.1) ⟨0,Nat.zero_le _⟩ ?_ ?_
 ·refine ((rr_new 109 110 180 3 (by rfl) (fun k hk=>rfl) rfl).cell 114 0 rfl rfl rfl).weak.trans ?_
  refine ((rr_new 111 112 180 3 (by rfl) (fun k hk=>rfl) rfl).cell 114 1 rfl rfl rfl).weak.trans ?_
  exact weak_hd [] rfl ⟨rfl,rfl,rfl,rfl,trivial⟩ ⟨⟨_,rfl,_,_,rfl,rfl,rfl⟩,⟨_,rfl,_,_,rfl,rfl,rfl⟩,rfl,rfl,⟨_,rfl,_,_,rfl,rfl,_,_,rfl,rfl,_,_,rfl,rfl,rfl⟩,⟨_,_,_,rfl,fun i hi=>⟨rfl,fun q hq=>absurd hq (Nat.not_lt_zero q)⟩,(by exact trivial)⟩,⟨_,_,_,rfl,fun i hi=>⟨rfl,fun q hq=>absurd hq (Nat.not_lt_zero q)⟩,(by exact trivial)⟩,trivial⟩ (Pre_cut (by kernel_rfl)) (by kernel_rfl)
 rintro ⟨k,hk⟩
 have hk:k <= l.length:=hk
 by_cases a:k < l.length
 ·have ok:=h (l.getD k default) (by rw [getD_lt a];exact List.getElem_mem _)
  refine zG zE (NS.yes (by show decide ((k:Int) < (l.length:Int)) = true;exact decide_eq_true (by omega)) ?_)
  refine zG zE (NS.need (in_row a) ?_)
  have hfr:=ok.fr
  have hto:=ok.to
  have e:=lf_even l k
  have e':=lf_odd l k
  have hw:∀ x:Nat,x <= 40001 -> IntKind.i64.wrap (x:Int) = (x:Int):=fun x hx=>wrap_i64 (by omega) (by omega)
  refine zG zE (NS.inn (P:=Tryz.prog) (vals:=_) (objs1:=gO n l (2 * k) 115 110 112 [(73,.box (l.getD k default).cells)]) (WeakL.refl _) (by kernel_rfl) (LeL.cons (LeA.refl _) (LeL.cons (LeA.intE (hw (2 * k) (by omega))) (LeL.cons (LeA.intE (by rw [e.1];show (l.getD k default).fr = _;omega)) (LeL.cons (LeA.intE (by rw [e.2];show (l.getD k default).to = _;omega)) LeL.nil)))) (by kernel_rfl) (addA_in n l (l.getD k default) (2 * k) hn (by omega) (by omega) (by omega)) rfl ?_)
  refine zG zE (NS.inn (P:=Tryz.prog) (vals:=_) (objs1:=gO n l (2 * k + 1) 118 116 117 [(110,.dead),(112,.dead),(73,.box (l.getD k default).cells)]) (WeakL.refl _) (by kernel_rfl) (LeL.cons (LeA.refl _) (LeL.cons (LeA.intE (by show IntKind.i64.wrap (IntKind.i64.wrap ((2 * k:Nat):Int) + 1) = _;rw [hw (2 * k) (by omega)];exact hw (2 * k + 1) (by omega))) (LeL.cons (LeA.intE (by rw [e'.1];show (l.getD k default).to = _;omega)) (LeL.cons (LeA.intE (by rw [e'.2];show (l.getD k default).fr = _;omega)) LeL.nil)))) (by kernel_rfl) (addB_in n l (l.getD k default) (2 * k + 1) hn (by omega) (by omega) (by omega)) rfl ?_)
  refine zG zE (NS.next ⟨k + 1,a⟩ (by show l.length - (k + 1) < l.length - k;omega) ?_)
  exact weak_hd [(110,119),(112,120)] rfl ⟨rfl,rfl,rfl,ren_int rfl (i64_k a (by omega)),trivial⟩ ⟨⟨_,rfl,_,_,rfl,rfl,rfl⟩,⟨_,rfl,_,_,rfl,rfl,rfl⟩,rfl,rfl,⟨_,rfl,_,_,rfl,rfl,_,_,rfl,rfl,_,_,rfl,rfl,rfl⟩,⟨_,_,_,rfl,fun i hi=>⟨rfl,fun q hq j hj=>rfl⟩,(by exact trivial)⟩,⟨_,_,_,rfl,fun i hi=>⟨rfl,fun q hq j hj=>rfl⟩,(by exact trivial)⟩,trivial⟩ (Pre_cut (by kernel_rfl)) (by kernel_rfl)
 ·obtain rfl:k = l.length:=by omega
  refine zG zE (NS.no (by show decide ((l.length:Int) < (l.length:Int)) = false;exact decide_eq_false (Int.lt_irrefl _)) ?_)
  refine zG zE (NS.leave rfl zE ?_)
  refine Sat.wk (((rr_freeze 110 rfl).cell 114 0 rfl rfl rfl).trans ((rr_freeze 112 rfl).cell 114 1 rfl rfl rfl)).weak ?_
  refine zG zE ?_
  refine NS.loop (σ:={ p:Nat × List Int // MxI l n s t p.1 p.2 }) (fun p=>[(0,.int .i64 (n:Nat)),(1,slArc l),(2,.int .i64 (s:Nat)),(3,.int .i64 (t:Nat)),(10,.own 19),(11,.ptr 114 0)]) (fun p=>[(19,.row 3 1 p.1.2.length (rowL nC p.1.2)),(68,.box [slArc l]),(69,.box [.own 19]),(114,.box (graC0 l n))]) (fun p=>p.1.1) ⟨(_,List.replicate l.length 0),MxI.start h hG⟩ ?_ ?_
  ·refine weak_hd [] rfl ⟨rfl,rfl,rfl,rfl,rfl,rfl,trivial⟩ ⟨ren_row rfl (by show l.length = (List.replicate l.length (0:Int)).length;simp) (fun q hq j hj=>?_),⟨_,rfl,_,_,rfl,rfl,rfl⟩,⟨_,rfl,_,_,rfl,rfl,rfl⟩,⟨_,rfl,_,_,rfl,rfl,_,_,rfl,rfl,_,_,rfl,rfl,rfl⟩,trivial⟩ trivial (by kernel_rfl)
   rw [Nat.lt_one_iff.1 hj]
   show A.int .i64 0 = A.int .i64 ((List.replicate l.length (0:Int)).getD q default)
   rw [getD_rep (by have hq:q < (List.replicate l.length (0:Int)).length:=hq;rwa [List.length_replicate] at hq)]
  rintro ⟨⟨f,F⟩,hp⟩
  have hp:MxI l n s t f F:=hp
  have hlf:∀ j,j / 2 < (netA l).m -> lf (netA l) j < n:=fun j hj=>by
   unfold lf
   split
   ·exact hG.fr _ hj
   ·exact hG.to _ hj
  have hlt:∀ j,j / 2 < (netA l).m -> lt (netA l) j < n:=fun j hj=>by
   unfold lt
   split
   ·exact hG.to _ hj
   ·exact hG.fr _ hj
  by_cases hd:dist (netA l) (rm (netA l) (fnF F)) n t s < 0
  ·refine zG zE (NS.call (path_no l n s t F hp.ok hl hn hs ht hlf hd) rfl ?_)
   refine zG zE (NS.yes (rfl) ?_)
   have e:F = maxL l n s t:=hp.done hG hd
   subst e
   exact zG zE (NS.ret rfl rfl (LeA.refl _))
  ·have hd:0 <= dist (netA l) (rm (netA l) (fnF F)) n t s:=by omega
   refine zG zE (NS.call (path_ok l n s t F hp.ok hl hn hs ht hlf hlt hd) rfl ?_)
   refine zG zE (NS.no (rfl) ?_)
   have hle:=dist_le (R:=rm (netA l) (fnF F)) hlf ht s
   obtain ⟨hb,_⟩:=dist_spec (R:=rm (netA l) (fnF F)) hlf ht
   obtain ⟨p1,p2,p3⟩:=pathM_spec hb (dist (netA l) (rm (netA l) (fnF F)) n t s).toNat s hd (by omega)
   have p4:(onceP (netA l) n s t (fnF F)).length <= (dist (netA l) (rm (netA l) (fnF F)) n t s).toNat:=pathM_len _ _ _ _ _ _
   have p3:∀ j ∈ onceP (netA l) n s t (fnF F),j / 2 < l.length:=fun j hj=>(p3 j hj).1
   have p2:(halves (onceP (netA l) n s t (fnF F))).Nodup:=p2
   have lk:=least_ok l n F hp.ok (onceP (netA l) n s t (fnF F)) (fun j hj=>⟨p3 j hj,by have:=p3 j hj;omega⟩) (by omega)
   have hnx:=hp.next hG hd
   obtain ⟨r,hr⟩:∃ r,r = leastM (rm (netA l) (fnF F)) (onceP (netA l) n s t (fnF F)) 1099511627776:=⟨_,rfl⟩
   rw [<- hr] at lk hnx
   generalize onceP (netA l) n s t (fnF F) = P at *
   refine zG zE (NS.call (lk) rfl ?_)
   refine zG zE ?_
   have hlF:=hp.ok.len
   refine NS.loop (σ:={ p:Nat × List Int // p.1 <= P.length /\ p.2.length = F.length /\ fnF p.2 = pushP r (fnF F) (P.take p.1) }) (fun p=>[(0,.int .i64 (n:Nat)),(1,slArc l),(2,.int .i64 (s:Nat)),(3,.int .i64 (t:Nat)),(10,.own 19),(11,.ptr 114 0),(14,.int .i64 r),(38,.own 28),(39,.int .i64 P.length),(40,.int .i64 (p.1.1:Nat))]) (fun p=>[(19,.row 3 1 p.1.2.length (rowL nC p.1.2)),(28,rowQ P),(68,.box [slArc l]),(69,.box [.own 19]),(114,.box (graC0 l n))]) (fun p=>P.length - p.1.1) ⟨(0,F),Nat.zero_le _,rfl,rfl⟩ ?_ ?_
   ·exact weak_hd [] rfl ⟨rfl,rfl,rfl,rfl,rfl,rfl,rfl,rfl,rfl,rfl,trivial⟩ ⟨ren_row rfl rfl (fun q hq j hj=>rfl),ren_row rfl rfl (fun q hq j hj=>rfl),⟨_,rfl,_,_,rfl,rfl,rfl⟩,⟨_,rfl,_,_,rfl,rfl,rfl⟩,⟨_,rfl,_,_,rfl,rfl,_,_,rfl,rfl,_,_,rfl,rfl,rfl⟩,trivial⟩ trivial (by kernel_rfl)
   rintro ⟨⟨k,E⟩,hk,hE,hF⟩
   have hk:k <= P.length:=hk
   have hE:E.length = F.length:=hE
   have hF:fnF E = pushP r (fnF F) (P.take k):=hF
   by_cases a:k < P.length
   ·obtain ⟨J,hJ⟩:∃ J,J = P.getD k default:=⟨_,rfl⟩
    have hj2:=p3 J (by rw [hJ,getD_lt a];exact List.getElem_mem _)
    have e1:((J:Nat):Int).tmod 2 = ((J % 2:Nat):Int):=rfl
    have e2:IntKind.i64.wrap (((J:Nat):Int).tdiv 2) = ((J / 2:Nat):Int):=by rw [show ((J:Nat):Int).tdiv 2 = ((J / 2:Nat):Int) from rfl];exact wrap_i64 (by omega) (by omega)
    have hEJ:fnF E (J / 2) = fnF F (J / 2):=by rw [hF];exact pushP_other (by rw [hJ];exact half_new p2 a)
    obtain ⟨hr0,hr1,_⟩:=hnx
    have hrg:=hp.ok.rng (J / 2) hj2
    have hca:=(hp.ok.arc (l.getD (J / 2) default) (by rw [getD_lt hj2];exact List.getElem_mem _)).2
    have hiE:J / 2 < E.length:=by omega
    have e3:IntKind.i64.wrap (((P.getD k default:Nat):Int).tdiv 2) = ((J / 2:Nat):Int):=by rw [<- hJ];exact e2
    have hix:decide (0 <= IntKind.i64.wrap (((J:Nat):Int).tdiv 2) /\ IntKind.i64.wrap (((J:Nat):Int).tdiv 2) < (E.length:Int)) = true:=by rw [e2];exact decide_eq_true (by omega)
    have hixN:decide ((IntKind.i64.wrap (((J:Nat):Int).tdiv 2)).toNat < E.length) = true:=by rw [e2];exact decide_eq_true (by omega)
    rw [hJ] at hix hixN
    refine zG zE (NS.yes (by show decide ((k:Int) < (P.length:Int)) = true;exact decide_eq_true (by omega)) ?_)
    refine zG zE (NS.need (in_row a) ?_)
    refine zG zE (NS.need (in_rowN a) ?_)
    refine zG zE (NS.need (rfl) ?_)
    refine zG zE (NS.ite (fun b=>?_) (fun b=>?_))
    ·have hev:J % 2 = 0:=by have b:((((P.getD k default:Nat):Int).tmod 2) == 0) = true:=b;rw [<- hJ,e1] at b;have:=eq_of_beq b;omega
     refine zG zE (NS.need (rfl) ?_)
     repeat' (first | (refine zG zE (NS.chk (by kernel_rfl) ?_)) | (refine zG zE (NS.need (rfl) ?_)) | (refine zG zE (NS.need (hix) ?_)) | (refine zG zE (NS.need (hixN) ?_)) | (fail))
     refine zG zE (NS.next ⟨(k + 1,E.set (J / 2) (E.getD (J / 2) 0 + r)),a,by show (E.set _ _).length = F.length;rw [List.length_set,hE],?_⟩ (by show P.length - (k + 1) < P.length - k;omega) ?_)
     ·show fnF (E.set (J / 2) _) = pushP r (fnF F) (P.take (k + 1))
      rw [take_snoc a,pushP_snoc,<- hF,<- hJ,fnF_set hiE]
      unfold push
      funext q
      by_cases e:q = J / 2
      ·rw [if_pos e,if_pos e,if_pos hev,e];rfl
      ·rw [if_neg e,if_neg e]
     refine weak_hd [] rfl ⟨rfl,rfl,rfl,rfl,rfl,rfl,rfl,rfl,rfl,ren_int rfl (i64_k a (by omega)),trivial⟩ ⟨ren_row rfl (by show E.length = (E.set _ _).length;rw [List.length_set]) (fun q hq j hj=>set_rowC (i:=J / 2) e3 hiE ?_ hj),ren_row rfl rfl (fun q hq j hj=>rfl),⟨_,rfl,_,_,rfl,rfl,rfl⟩,⟨_,rfl,_,_,rfl,rfl,rfl⟩,⟨_,rfl,_,_,rfl,rfl,_,_,rfl,rfl,_,_,rfl,rfl,rfl⟩,trivial⟩ trivial (by kernel_rfl)
     show A.int .i64 (IntKind.i64.wrap (E.getD (IntKind.i64.wrap (((P.getD k default:Nat):Int).tdiv 2)).toNat default + r)) = A.int .i64 (E.getD (J / 2) 0 + r)
     rw [<- hJ,e2]
     have hEJ:E.getD (J / 2) 0 = fnF F (J / 2):=hEJ
     show A.int .i64 (IntKind.i64.wrap (E.getD (J / 2) 0 + r)) = _
     rw [wrap_i64 (by omega) (by omega)]
    ·have hev:¬ J % 2 = 0:=by
      have b:((((P.getD k default:Nat):Int).tmod 2) == 0) = false:=b
      rw [<- hJ,e1] at b
      intro q
      rw [q] at b
      cases b
     refine zG zE (NS.need (rfl) ?_)
     repeat' (first | (refine zG zE (NS.chk (by kernel_rfl) ?_)) | (refine zG zE (NS.need (rfl) ?_)) | (refine zG zE (NS.need (hix) ?_)) | (refine zG zE (NS.need (hixN) ?_)) | (fail))
     refine zG zE (NS.next ⟨(k + 1,E.set (J / 2) (E.getD (J / 2) 0 - r)),a,by show (E.set _ _).length = F.length;rw [List.length_set,hE],?_⟩ (by show P.length - (k + 1) < P.length - k;omega) ?_)
     ·show fnF (E.set (J / 2) _) = pushP r (fnF F) (P.take (k + 1))
      rw [take_snoc a,pushP_snoc,<- hF,<- hJ,fnF_set hiE]
      unfold push
      funext q
      by_cases e:q = J / 2
      ·rw [if_pos e,if_pos e,if_neg hev,e];rfl
      ·rw [if_neg e,if_neg e]
     refine weak_hd [] rfl ⟨rfl,rfl,rfl,rfl,rfl,rfl,rfl,rfl,rfl,ren_int rfl (i64_k a (by omega)),trivial⟩ ⟨ren_row rfl (by show E.length = (E.set _ _).length;rw [List.length_set]) (fun q hq j hj=>set_rowC (i:=J / 2) e3 hiE ?_ hj),ren_row rfl rfl (fun q hq j hj=>rfl),⟨_,rfl,_,_,rfl,rfl,rfl⟩,⟨_,rfl,_,_,rfl,rfl,rfl⟩,⟨_,rfl,_,_,rfl,rfl,_,_,rfl,rfl,_,_,rfl,rfl,rfl⟩,trivial⟩ trivial (by kernel_rfl)
     show A.int .i64 (IntKind.i64.wrap (E.getD (IntKind.i64.wrap (((P.getD k default:Nat):Int).tdiv 2)).toNat default - r)) = A.int .i64 (E.getD (J / 2) 0 - r)
     rw [<- hJ,e2]
     have hEJ:E.getD (J / 2) 0 = fnF F (J / 2):=hEJ
     show A.int .i64 (IntKind.i64.wrap (E.getD (J / 2) 0 - r)) = _
     rw [wrap_i64 (by omega) (by omega)]
   ·have a:P.length = k:=by omega
    subst a
    rw [List.take_length] at hF
    refine zG zE (NS.no (by show decide ((P.length:Int) < (P.length:Int)) = false;exact decide_eq_false (Int.lt_irrefl _)) ?_)
    refine zG zE (NS.leave rfl zE ?_)
    obtain ⟨hr0,hr1,f',rfl,hq⟩:=hnx
    refine zG zE (NS.next ⟨(f',E),hq E hE hF⟩ (Nat.lt_succ_self f') ?_)
    exact weak_hd [] rfl ⟨rfl,rfl,rfl,rfl,rfl,rfl,trivial⟩ ⟨ren_row rfl rfl (fun q hq j hj=>rfl),⟨_,rfl,_,_,rfl,rfl,rfl⟩,⟨_,rfl,_,_,rfl,rfl,rfl⟩,⟨_,rfl,_,_,rfl,rfl,_,_,rfl,rfl,_,_,rfl,rfl,rfl⟩,trivial⟩ trivial (by kernel_rfl)
theorem maxL_at {l:List Arc} {k:Nat} (n s t:Nat) (hk:k < l.length):(maxL l n s t).getD k 0 = maxFl (netA l) n s t k:=by
 unfold maxL
 rw [List.getD_eq_getElem?_getD,List.getElem?_map,List.getElem?_range hk];rfl
theorem max_ok (n:Nat) (l:List Arc) (s t:Nat) (hn:n <= 2000) (hl:l.length <= 20000) (h:∀ a ∈ l,OkA n a) (hs:s < n) (ht:t < n) (hst:s ≠ t):FnOK Tryz.prog 57 [.int .i64 (n:Nat),slArc l,.int .i64 (s:Nat),.int .i64 (t:Nat)] (.tup [slN (maxL l n s t),.int .i64 (maxVal (netA l) n s t),.int .i64 0],none):=by
 refine fn_ok CM rfl (by kernel_rfl) Tryz.func57 rfl ?_
 refine zG zE (NS.call (fCheck_ok n l hn hl h) rfl ?_)
 refine zG zE (NS.no (rfl) ?_)
 refine zG zE (NS.call (ends_ok n s t hs ht hst) rfl ?_)
 refine zG zE (NS.no (rfl) ?_)
 refine zG zE (NS.call (maximum_ok n l s t hn hl h hs ht hst) rfl ?_)
 have hG:=netA_ok h hs ht hst
 have hc:∀ k,k < l.length -> 0 <= (l.getD k default).cap /\ (l.getD k default).cap <= 1099511627776:=fun k hk=>(h _ (by rw [getD_lt hk];exact List.getElem_mem _)).cap
 have hmx:=(maxFl_spec hG (fun k hk=>(hc k hk).1)).1
 have hv:=value_ok n l (maxL l n s t) s hl h (by simp [maxL]) (fun k hk=>by
  rw [maxL_at n s t hk]
  have h1:=hmx.lo k hk
  have h2:=hmx.hi k hk
  have h3:=(hc k hk).2
  have h2:maxFl (netA l) n s t k <= (l.getD k default).cap:=h2
  omega)
 rw [show net (netA l) (flowF (maxL l n s t)) s = maxVal (netA l) n s t from sumN_congr fun k hk=>by unfold gk;rw [show flowF (maxL l n s t) k = maxFl (netA l) n s t k from maxL_at n s t hk]] at hv
 refine zG zE (NS.call (hv) rfl ?_)
 exact zG zE (NS.ret rfl rfl (LeA.refl _))
end Go.Proofs.YtjhmdfofhnijeaaGreatDoor
