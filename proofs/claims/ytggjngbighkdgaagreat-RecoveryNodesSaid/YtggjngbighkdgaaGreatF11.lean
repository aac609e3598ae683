import Derived.Test.YtggjngbighkdgaaGreatF10
set_option linter.unusedSimpArgs false
set_option linter.unusedSectionVars false
set_option linter.unusedVariables false
namespace Go.Proofs.YtggjngbighkdgaaGreat
open Go.Sy Go.Mb
set_option maxRecDepth 100000
set_option maxHeartbeats 4000000
def rowI (n:Nat) (L:List Int):Ob:=.row 3 1 n (rowL nC L)
def oL (n:Nat) (L:List Int):List Ob:=mkO [(8,rowI n L)] 20 0
theorem addN {a b:Nat} (h:a + b < 4611686018427387904):IntKind.i64.wrap ((a:Int) + (b:Int)) = ((a + b:Nat):Int):=by rw [wrap_i64 (by omega) (by omega)];omega
theorem add1N {a:Nat} (h:a < 4611686018427387904):IntKind.i64.wrap ((a:Int) + 1) = ((a + 1:Nat):Int):=by rw [wrap_i64 (by omega) (by omega)];omega
theorem subN {a b:Nat} (h:b <= a) (h2:a < 4611686018427387904):IntKind.i64.wrap ((a:Int) - (b:Int)) = ((a - b:Nat):Int):=by rw [wrap_i64 (by omega) (by omega)];omega
theorem sub1N {a:Nat} (h:1 <= a) (h2:a < 4611686018427387904):IntKind.i64.wrap ((a:Int) - 1) = ((a - 1:Nat):Int):=by rw [wrap_i64 (by omega) (by omega)];omega
def hf (a b:Nat):Int:=IntKind.i64.wrap ((IntKind.u64.wrap (IntKind.i64.wrap ((a:Int) + (b:Int)))).fdiv (2 ^ min (Int.toNat 1) IntKind.u64.bits))
theorem halfN {a b:Nat} (h:a + b < 4611686018427387904):hf a b = (((a + b) / 2:Nat):Int):=by
 unfold hf
 rw [addN h,wrap_u64 (by omega) (by omega),show min (Int.toNat 1) IntKind.u64.bits = 1 from rfl,Int.fdiv_eq_ediv_of_nonneg _ (Int.pow_nonneg (by decide)),show ((2:Int) ^ 1) = 2 from rfl,wrap_i64 (by omega) (by omega)]
 omega
theorem in_row {i n:Nat} (h:i < n):decide (0 <= (i:Int) /\ (i:Int) < (n:Int)) = true:=decide_eq_true ⟨by omega,by omega⟩
theorem in_row' {i n:Nat} (h:i < n):decide ((i:Int).toNat < n) = true:=decide_eq_true (by omega)
theorem swr_ok (P u C v Q:List Int) (f c n:Nat) (el:Nat -> A) (h:u.length = v.length) (hn:n = P.length + u.length + C.length + v.length + Q.length) (hs:n <= 1000000) {a b k:Nat} (ha:a = P.length) (hb:b = P.length + u.length + C.length) (hk:k = u.length):
  FnIn Tryz.prog 253 [.own 8,.int .i64 a,.int .i64 b,.int .i64 k,.fn f [.ip c el]] (oL n (P ++ (u ++ (C ++ (v ++ Q))))) 20 (.tup []) (oL n (P ++ (v ++ (C ++ (u ++ Q))))):=by
 rw [<- swS_zero,<- swS_end P u C v Q rfl h.symm]
 generalize hM:swS P u C v Q = M
 have hMl:∀ i,(M i).length = n:=fun i=>by rw [<- hM,swS_len,hn]
 show FnIn _ _ _ _ _ _ (putOs (takeO 20 (oL n (M 0))) [(8,rowI n (M u.length))])
 refine fn_in CZ rfl (by kernel_rfl) Tryz.func253 rfl ?_
 refine zG zE ?_
 refine NS.loop (σ:={ i:Nat // i <= u.length }) (fun i=>[(0,.own 8),(1,.int .i64 a),(2,.int .i64 b),(3,.int .i64 k),(10,.int .i64 (i.1:Nat))]) (fun i=>[(8,rowI n (M i.1))]) (fun i=>u.length - i.1) ⟨0,Nat.zero_le _⟩ ?_ ?_
 ·exact weak_hd [] rfl ⟨rfl,rfl,rfl,rfl,rfl,trivial⟩ ⟨ren_row rfl rfl fun _ _ _ _=>rfl,trivial⟩ (Pre_cut (by kernel_rfl)) (by kernel_rfl)
 rintro ⟨i,hi⟩
 have hi:i <= u.length:=hi
 refine zG zE (NS.ite (fun q=>?_) (fun q=>?_))
 ·have q:i < u.length:=by have q:decide ((i:Int) < (k:Int)) = true:=q;have q:=of_decide_eq_true q;omega
  have e1:=addN (a:=a) (b:=i) (by omega)
  have e2:=addN (a:=b) (b:=i) (by omega)
  have i1:=in_row (i:=a + i) (n:=n) (by omega)
  have i2:=in_row (i:=b + i) (n:=n) (by omega)
  have i3:=in_row' (i:=a + i) (n:=n) (by omega)
  have i4:=in_row' (i:=b + i) (n:=n) (by omega)
  repeat' (first | (refine zG zE (NS.chk (by kernel_rfl) ?_)) | (refine zG zE (NS.need (by rw [e1];exact i1) ?_)) | (refine zG zE (NS.need (by rw [e2];exact i2) ?_)) | (refine zG zE (NS.need (by rw [e1];exact i3) ?_)) | (refine zG zE (NS.need (by rw [e2];exact i4) ?_)))
  refine zG zE (NS.next ⟨i + 1,q⟩ (by show u.length - (i + 1) < u.length - i;omega) ?_)
  refine weak_hd [] rfl ⟨rfl,rfl,rfl,rfl,ren_int rfl (add1N (a:=i) (by omega)),trivial⟩ ⟨ren_row rfl rfl (fun q1 hq jj hjj=>?_),trivial⟩ (Pre_cut (by kernel_rfl)) (by kernel_rfl)
  have hst:=swS_step P u C v Q (i:=i) (a:=a + i) (b:=b + i) q h (by omega) (by omega)
  rw [hM] at hst
  have r1:=rowN_set (M i) (a + i) ((M i).getD (b + i) default) (by rw [hMl];omega) q1 jj hjj
  have r2:=rowN_set ((M i).set (a + i) ((M i).getD (b + i) default)) (b + i) ((M i).getD (a + i) default) (by rw [List.length_set,hMl];omega) q1 jj hjj
  show _ = rowL nC (M (i + 1)) q1 jj
  rw [<- hst]
  unfold sw
  rw [<- r2,<- r1]
  simp only [e1,e2]
  rfl
 ·have q:i = u.length:=by have q:decide ((i:Int) < (k:Int)) = false:=q;have q:=of_decide_eq_false q;omega
  subst q
  refine zG zE (NS.leave rfl zE ?_)
  exact zG zE (NS.fin (ts:=[]) rfl (weak_hd [] rfl trivial ⟨ren_row rfl rfl (fun _ _ _ _=>rfl),trivial⟩ (Pre_cut (by kernel_rfl)) (by kernel_rfl)) rfl (LeA.refl _))
noncomputable def ERT:Env:={ P:=Tryz.prog,eqT:=lookE eqTab,mu:=[253] }
theorem ERT_ok:EqOK ERT:=eqOK_of eqTab_ok
noncomputable def CRT:Cx:={ E:=ERT,inl:=[],ok:=ERT_ok }
theorem cut_at {l:List Int} {k:Nat} (h:k <= l.length):∃ a b,l = a ++ b /\ a.length = k:=⟨l.take k,l.drop k,(List.take_append_drop k l).symm,by simp;omega⟩
theorem rot_ok (P u v Q:List Int) (f c n:Nat) (el:Nat -> A) (hu:0 < u.length) (hv:0 < v.length) (hn:n = P.length + u.length + v.length + Q.length) (hs:n <= 1000000) {a m b:Nat} (ha:a = P.length) (hm:m = P.length + u.length) (hb:b = P.length + u.length + v.length):
  FnIn Tryz.prog 249 [.own 8,.int .i64 a,.int .i64 m,.int .i64 b,.fn f [.ip c el]] (oL n (P ++ (u ++ (v ++ Q)))) 20 (.tup []) (oL n (P ++ (v ++ (u ++ Q)))):=by
 generalize hF:P ++ (v ++ (u ++ Q)) = F
 show FnIn _ _ _ _ _ _ (putOs (takeO 20 (oL n (P ++ (u ++ (v ++ Q))))) [(8,rowI n F)])
 have e1:=subN (a:=m) (b:=a) (by omega) (by omega)
 have e2:=subN (a:=b) (b:=m) (by omega) (by omega)
 refine fn_in CRT rfl (by kernel_rfl) Tryz.func249 rfl ?_
 refine zG zE ?_
 refine NS.loop (σ:={ q:(List Int × List Int) × List Int × List Int // q.1.1.length + q.1.2.length = m /\ 0 < q.1.2.length /\ 0 < q.2.1.length /\ n = m + q.2.1.length + q.2.2.length /\ q.1.1 ++ (q.2.1 ++ (q.1.2 ++ q.2.2)) = F }) (fun q=>[(0,.own 8),(2,.int .i64 m),(4,.fn f [.ip c el]),(10,.int .i64 (q.1.1.2.length:Nat)),(11,.int .i64 (q.1.2.1.length:Nat))]) (fun q=>[(8,rowI n (q.1.1.1 ++ (q.1.1.2 ++ (q.1.2.1 ++ q.1.2.2))))]) (fun q=>q.1.1.2.length + q.1.2.1.length) ⟨((P,u),v,Q),by simp only;omega,hu,hv,by simp only;omega,hF⟩ ?_ ?_
 ·exact weak_hd [] rfl ⟨rfl,rfl,rfl,ren_int rfl (by rw [e1];show ((m - a:Nat):Int) = (u.length:Int);omega),ren_int rfl (by rw [e2];show ((b - m:Nat):Int) = (v.length:Int);omega),trivial⟩ ⟨ren_row rfl rfl fun _ _ _ _=>rfl,trivial⟩ (Pre_cut (by kernel_rfl)) (by kernel_rfl)
 rintro ⟨⟨⟨P,u⟩,v,Q⟩,k1,k2,k3,k4,k5⟩
 simp only at k1 k2 k3 k4 k5
 clear hn ha hm hb hF hu hv
 have hmu:=subN (a:=m) (b:=u.length) (by omega) (by omega)
 refine zG zE (NS.ite (fun q1=>?_) (fun q1=>?_))
 ·have q1:u.length ≠ v.length:=by
   have q1:(((u.length:Nat):Int) != ((v.length:Nat):Int)) = true:=q1
   have q1:=bne_iff_ne.1 q1
   omega
  refine zG zE (NS.ite (fun q2=>?_) (fun q2=>?_))
  ·have q2:v.length < u.length:=by have q2:decide (((u.length:Nat):Int) > ((v.length:Nat):Int)) = true:=q2;have q2:=of_decide_eq_true q2;omega
   obtain ⟨u1,u2,rfl,h1⟩:=cut_at (l:=u) (k:=v.length) (by omega)
   rw [List.length_append] at k1 q1 q2 hmu
   simp only [List.append_assoc]
   refine zG zE (NS.inn (P:=Tryz.prog) (vals:=[.own 8,.int .i64 (P.length:Nat),.int .i64 (m:Nat),.int .i64 (v.length:Nat),.fn f [.ip c el]]) (objs1:=oL n (P ++ (u1 ++ (u2 ++ (v ++ Q))))) (WeakL.keep 20 [8] (by kernel_rfl)) (by kernel_rfl) (LeL.cons (LeA.refl _) (LeL.cons (LeA.of (congrArg (A.int .i64) ?_)) (LeL.refl _))) (by kernel_rfl) (swr_ok P u1 u2 v Q f c n el h1 (by omega) hs rfl (by omega) h1.symm) rfl ?_)
   ·show IntKind.i64.wrap ((m:Int) - (((u1 ++ u2).length:Nat):Int)) = ((P.length:Nat):Int)
    rw [List.length_append,hmu]
    omega
   refine zG zE (NS.next ⟨((P ++ v,u2),u1,Q),by simp only [List.length_append];omega,by simp only;omega,by simp only;omega,by simp only;omega,by simp only [List.append_assoc];rw [<- k5];simp⟩ (by simp only [List.length_append];omega) ?_)
   refine weak_hd [] rfl ⟨rfl,rfl,rfl,ren_int rfl ?_,ren_int rfl ?_,trivial⟩ ⟨ren_row rfl rfl fun i hi j hj=>?_,trivial⟩ (Pre_cut (by kernel_rfl)) (by kernel_rfl)
   ·show IntKind.i64.wrap ((((u1 ++ u2).length:Nat):Int) - ((v.length:Nat):Int)) = ((u2.length:Nat):Int)
    rw [subN (by simp;omega) (by simp;omega),List.length_append]
    omega
   ·show ((v.length:Nat):Int) = ((u1.length:Nat):Int)
    omega
   ·show rowL nC (P ++ (v ++ (u2 ++ (u1 ++ Q)))) i j = rowL nC ((P ++ v) ++ (u2 ++ (u1 ++ Q))) i j
    rw [List.append_assoc]
  ·have q2:u.length < v.length:=by have q2:decide (((u.length:Nat):Int) > ((v.length:Nat):Int)) = false:=q2;have q2:=of_decide_eq_false q2;omega
   obtain ⟨v1,v2,rfl,h1⟩:=cut_at (l:=v) (k:=v.length - u.length) (by omega)
   have h2:(v1 ++ v2).length = v1.length + v2.length:=List.length_append
   simp only [List.append_assoc]
   refine zG zE (NS.inn (P:=Tryz.prog) (vals:=[.own 8,.int .i64 (P.length:Nat),.int .i64 ((P.length + u.length + v1.length:Nat)),.int .i64 (u.length:Nat),.fn f [.ip c el]]) (objs1:=oL n (P ++ (u ++ (v1 ++ (v2 ++ Q))))) (WeakL.keep 20 [8] (by kernel_rfl)) (by kernel_rfl) (LeL.cons (LeA.refl _) (LeL.cons (LeA.of (congrArg (A.int .i64) ?_)) (LeL.cons (LeA.of (congrArg (A.int .i64) ?_)) (LeL.refl _)))) (by kernel_rfl) (swr_ok P u v1 v2 Q f c n el (by omega) (by omega) hs rfl (by omega) rfl) rfl ?_)
   ·show IntKind.i64.wrap ((m:Int) - ((u.length:Nat):Int)) = ((P.length:Nat):Int)
    rw [hmu]
    omega
   ·show IntKind.i64.wrap (IntKind.i64.wrap ((m:Int) + (((v1 ++ v2).length:Nat):Int)) - ((u.length:Nat):Int)) = ((P.length + u.length + v1.length:Nat):Int)
    rw [addN (by omega),subN (by omega) (by omega)]
    omega
   refine zG zE (NS.next ⟨((P,v2),v1,u ++ Q),by simp only;omega,by simp only;omega,by simp only;omega,by simp only [List.length_append];omega,by simp only;rw [<- k5];simp⟩ (by simp only;omega) ?_)
   refine weak_hd [] rfl ⟨rfl,rfl,rfl,ren_int rfl ?_,ren_int rfl ?_,trivial⟩ ⟨ren_row rfl rfl fun i hi j hj=>rfl,trivial⟩ (Pre_cut (by kernel_rfl)) (by kernel_rfl)
   ·show ((u.length:Nat):Int) = ((v2.length:Nat):Int)
    omega
   ·show IntKind.i64.wrap ((((v1 ++ v2).length:Nat):Int) - ((u.length:Nat):Int)) = ((v1.length:Nat):Int)
    rw [subN (by omega) (by omega)]
    omega
 ·have q1:u.length = v.length:=by
   have q1:(((u.length:Nat):Int) != ((v.length:Nat):Int)) = false:=q1
   have q1:=bne_eq_false_iff_eq.1 q1
   omega
  refine zG zE (NS.leave rfl zE ?_)
  refine zG zE (NS.inn (P:=Tryz.prog) (vals:=[.own 8,.int .i64 (P.length:Nat),.int .i64 (m:Nat),.int .i64 (u.length:Nat),.fn f [.ip c el]]) (objs1:=oL n (P ++ (u ++ (v ++ Q)))) (WeakL.keep 20 [8] (by kernel_rfl)) (by kernel_rfl) (LeL.cons (LeA.refl _) (LeL.cons (LeA.of (congrArg (A.int .i64) ?_)) (LeL.refl _))) (by kernel_rfl) (swr_ok P u [] v Q f c n el q1 (by simp only [List.length_nil];omega) hs rfl (by simp only [List.length_nil];omega) rfl) rfl ?_)
  ·show IntKind.i64.wrap ((m:Int) - ((u.length:Nat):Int)) = ((P.length:Nat):Int)
   rw [hmu]
   omega
  subst k5
  exact zG zE (NS.fin (ts:=[]) rfl (weak_hd [] rfl trivial ⟨ren_row rfl rfl (fun _ _ _ _=>rfl),trivial⟩ (Pre_cut (by kernel_rfl)) (by kernel_rfl)) rfl (LeA.refl _))
noncomputable def ESM:Env:={ P:=Tryz.prog,eqT:=lookE eqTab,mu:=[249,243,242] }
theorem ESM_ok:EqOK ESM:=eqOK_of eqTab_ok
noncomputable def CSM:Cx:={ E:=ESM,inl:=[],ok:=ESM_ok }
theorem swp_comm (L:List Int) (k:Nat):swp L k = (L.set k (L.getD (k + 1) default)).set (k + 1) (L.getD k default):=by
 unfold swp
 exact List.set_comm _ _ (by omega)
section
variable {lt:Int -> Int -> Bool} {p:Int -> Prop} {cm:Int -> Int -> Int} {c n:Nat} {el:Nat -> A}
theorem getP {P u R:List Int} {i j:Nat} (hi:i < u.length) (e:j = P.length + i):(P ++ (u ++ R)).getD j default = u.getD i default:=by rw [getD_app (i:=i) (by omega),getD_app' hi]
theorem getP2 {P u v R:List Int} {i j:Nat} (hi:i < v.length) (e:j = P.length + u.length + i):(P ++ (u ++ (v ++ R))).getD j default = v.getD i default:=by rw [getD_app (i:=u.length + i) (by omega),getD_app (i:=i) rfl,getD_app' hi]
theorem sym_one (O:OrdOn lt p) (hc:∀ x y,p x -> p y -> FnOK Tryz.prog 196 [.int .i64 x,.int .i64 y,.ip c el] (.int .i64 (cm x y),none)) (hlt:∀ x y,lt x y = decide (cm x y < 0)) (hs:n <= 1000000)
  (P v Q W:List Int) (x:Int) (hv:0 < v.length) (hp:∀ y ∈ P ++ ([x] ++ (v ++ Q)),p y) (hn:n = P.length + 1 + v.length + Q.length) (hav:Asc lt v) (hw:W.Perm ([x] ++ v)) (haw:Asc lt W) {a m b:Nat} (ha:a = P.length) (hm:m = P.length + 1) (hb:b = P.length + 1 + v.length):
  FnIn Tryz.prog 243 [.own 8,.int .i64 a,.int .i64 m,.int .i64 b,.fn 196 [.ip c el]] (oL n (P ++ ([x] ++ (v ++ Q)))) 20 (.tup []) (oL n (P ++ (W ++ Q))):=by
 have hpx:p x:=hp x (by simp)
 have hpv:∀ i,i < v.length -> p (v.getD i default):=fun i hi=>hp _ (by rw [getD_lt hi];simp)
 generalize hF:P ++ (W ++ Q) = F
 generalize hL:P ++ ([x] ++ (v ++ Q)) = L
 have gx:L.getD a default = x:=by rw [<- hL,getP (i:=0) (by simp) (by omega)];rfl
 have gv:∀ i j,i < v.length -> j = m + i -> L.getD j default = v.getD i default:=fun i j hi e=>by rw [<- hL,getP2 (u:=[x]) hi (by simp;omega)]
 show FnIn _ _ _ _ _ _ (putOs (takeO 20 (oL n L)) [(8,rowI n F)])
 refine fn_in CSM rfl (by kernel_rfl) Tryz.func243 rfl ?_
 refine zG zE (NS.yes (by rw [subN (by omega) (by omega)];rw [show m - a = 1 by omega];rfl) ?_)
 refine zG zE ?_
 refine NS.loop (σ:={ q:Nat × Nat // q.1 <= q.2 /\ q.2 <= v.length /\ (0 < q.1 -> lt (v.getD (q.1 - 1) default) x = true) /\ (q.2 < v.length -> lt (v.getD q.2 default) x = false) }) (fun q=>[(0,.own 8),(1,.int .i64 a),(4,.fn 196 [.ip c el]),(10,.int .i64 ((m + q.1.1:Nat))),(11,.int .i64 ((m + q.1.2:Nat)))]) (fun q=>[(8,rowI n L)]) (fun q=>q.1.2 - q.1.1) ⟨(0,v.length),Nat.zero_le _,Nat.le_refl _,fun h=>absurd h (Nat.lt_irrefl _),fun h=>absurd h (Nat.lt_irrefl _)⟩ ?_ ?_
 ·exact weak_hd [] rfl ⟨rfl,rfl,rfl,ren_int rfl rfl,ren_int rfl (by show (b:Int) = ((m + v.length:Nat):Int);omega),trivial⟩ ⟨ren_row rfl rfl fun _ _ _ _=>rfl,trivial⟩ (Pre_cut (by kernel_rfl)) (by kernel_rfl)
 rintro ⟨⟨i,j⟩,k1,k2,k3,k4⟩
 simp only at k1 k2 k3 k4
 have e2:=add1N (a:=m + (i + j) / 2) (by omega)
 have e1:hf (m + i) (m + j) = ((m + (i + j) / 2:Nat):Int):=by rw [halfN (by omega)];omega
 refine zG zE (NS.ite (fun q=>?_) (fun q=>?_))
 ·have q:i < j:=by have q:decide (((m + i:Nat):Int) < ((m + j:Nat):Int)) = true:=q;have q:=of_decide_eq_true q;omega
  have i1:=in_row (i:=m + (i + j) / 2) (n:=n) (by omega)
  have i2:=in_row' (i:=m + (i + j) / 2) (n:=n) (by omega)
  have i3:=in_row (i:=a) (n:=n) (by omega)
  have i4:=in_row' (i:=a) (n:=n) (by omega)
  repeat' (first | (refine zG zE (NS.need (rfl) ?_)) | (refine zG zE (NS.chk (by kernel_rfl) ?_)) | (refine zG zE (NS.need (by show decide (0 <= hf (m + i) (m + j) /\ hf (m + i) (m + j) < (n:Int)) = true;rw [e1];exact i1) ?_)) | (refine zG zE (NS.need (by show decide ((hf (m + i) (m + j)).toNat < n) = true;rw [e1];exact i2) ?_)) | (refine zG zE (NS.need (i3) ?_)) | (refine zG zE (NS.need (i4) ?_)))
  have eh:(hf (m + i) (m + j)).toNat = m + (i + j) / 2:=by rw [e1];omega
  have gh:=gv ((i + j) / 2) (m + (i + j) / 2) (by omega) rfl
  refine zG zE (NS.call (hc (L.getD (hf (m + i) (m + j)).toNat default) (L.getD (a:Int).toNat default) (by rw [eh,gh];exact hpv _ (by omega)) (by rw [Int.toNat_natCast,gx];exact hpx)) rfl ?_)
  have ht:decide (cm (L.getD (hf (m + i) (m + j)).toNat default) (L.getD (a:Int).toNat default) < 0) = lt (v.getD ((i + j) / 2) default) x:=by rw [hlt,eh,gh,Int.toNat_natCast,gx]
  refine zG zE (NS.ite (fun q2=>?_) (fun q2=>?_))
  ·have q2:lt (v.getD ((i + j) / 2) default) x = true:=by rw [<- ht];exact q2
   refine zG zE (NS.next ⟨((i + j) / 2 + 1,j),by simp only;omega,k2,fun _=>by simp only [Nat.add_sub_cancel];exact q2,k4⟩ (by simp only;omega) ?_)
   refine weak_hd [] rfl ⟨rfl,rfl,rfl,ren_int rfl ?_,rfl,trivial⟩ ⟨ren_row rfl rfl fun _ _ _ _=>rfl,trivial⟩ (Pre_cut (by kernel_rfl)) (by kernel_rfl)
   show IntKind.i64.wrap (hf (m + i) (m + j) + 1) = ((m + ((i + j) / 2 + 1):Nat):Int)
   rw [e1,e2]
   omega
  ·have q2:lt (v.getD ((i + j) / 2) default) x = false:=by rw [<- ht];exact q2
   refine zG zE (NS.next ⟨(i,(i + j) / 2),by simp only;omega,by simp only;omega,k3,fun _=>q2⟩ (by simp only;omega) ?_)
   exact weak_hd [] rfl ⟨rfl,rfl,rfl,rfl,ren_int rfl e1,trivial⟩ ⟨ren_row rfl rfl fun _ _ _ _=>rfl,trivial⟩ (Pre_cut (by kernel_rfl)) (by kernel_rfl)
 ·have q:j = i:=by have q:decide (((m + i:Nat):Int) < ((m + j:Nat):Int)) = false:=q;have q:=of_decide_eq_false q;omega
  subst q
  have hF2:mvL P v Q x j = F:=by
   have e:=O.uniq (l:=v.take j ++ x :: v.drop j) (m:=W) (fun y hy=>hp y (by
    have:=(one_perm v x j).subset hy
    rcases List.mem_cons.1 this with h | h
    ·subst h;simp
    ·simp [h])) ((one_perm v x j).trans hw.symm) (asc_one O k2 hav (fun h=>O.asymm _ _ (k3 h)) k4) haw
   rw [<- hF,<- e]
   unfold mvL
   simp only [List.append_assoc,List.cons_append]
  have hmn:∀ t,(mvL P v Q x t).length = n:=fun t=>by rw [mvL_len];omega
  have hL0:mvL P v Q x 0 = L:=by rw [mvL_zero];exact hL
  rw [<- hL0]
  refine zG zE (NS.leave rfl zE ?_)
  refine zG zE ?_
  refine NS.loop (σ:={ t:Nat // t <= j }) (fun t=>[(0,.own 8),(10,.int .i64 ((m + j:Nat))),(13,.int .i64 ((a + t.1:Nat)))]) (fun t=>[(8,rowI n (mvL P v Q x t.1))]) (fun t=>j - t.1) ⟨0,Nat.zero_le _⟩ ?_ ?_
  ·exact weak_hd [] rfl ⟨rfl,rfl,ren_int rfl rfl,trivial⟩ ⟨ren_row rfl rfl fun _ _ _ _=>rfl,trivial⟩ (Pre_cut (by kernel_rfl)) (by kernel_rfl)
  rintro ⟨t,ht⟩
  have ht:t <= j:=ht
  have e3:=sub1N (a:=m + j) (by omega) (by omega)
  have e4:=add1N (a:=a + t) (by omega)
  have i1:=in_row (i:=a + t) (n:=n) (by omega)
  have i2:=in_row' (i:=a + t) (n:=n) (by omega)
  have i3:=in_row (i:=a + t + 1) (n:=n)
  have i4:=in_row' (i:=a + t + 1) (n:=n)
  refine zG zE (NS.ite (fun q=>?_) (fun q=>?_))
  ·have q:t < j:=by
    have q:decide (((a + t:Nat):Int) < IntKind.i64.wrap (((m + j:Nat):Int) - 1)) = true:=q
    rw [e3] at q
    have q:=of_decide_eq_true q
    omega
   repeat' (first | (refine zG zE (NS.chk (by kernel_rfl) ?_)) | (refine zG zE (NS.need (i1) ?_)) | (refine zG zE (NS.need (i2) ?_)) | (refine zG zE (NS.need (by show decide (0 <= IntKind.i64.wrap (((a + t:Nat):Int) + 1) /\ IntKind.i64.wrap (((a + t:Nat):Int) + 1) < (n:Int)) = true;rw [e4];exact i3 (by omega)) ?_)) | (refine zG zE (NS.need (by show decide ((IntKind.i64.wrap (((a + t:Nat):Int) + 1)).toNat < n) = true;rw [e4];exact i4 (by omega)) ?_)))
   refine zG zE (NS.next ⟨t + 1,q⟩ (by show j - (t + 1) < j - t;omega) ?_)
   refine weak_hd [] rfl ⟨rfl,rfl,ren_int rfl e4,trivial⟩ ⟨ren_row rfl rfl (fun q1 hq jj hjj=>?_),trivial⟩ (Pre_cut (by kernel_rfl)) (by kernel_rfl)
   have hst:=mvL_up P v Q x (t:=t) (k:=a + t) (by omega) (by omega)
   rw [swp_comm] at hst
   generalize hM:mvL P v Q x t = M at *
   have hMn:M.length = n:=by rw [<- hM];exact hmn t
   have r1:=rowN_set M (a + t) (M.getD (a + t + 1) default) (by omega) q1 jj hjj
   have r2:=rowN_set (M.set (a + t) (M.getD (a + t + 1) default)) (a + t + 1) (M.getD (a + t) default) (by rw [List.length_set];omega) q1 jj hjj
   show _ = rowL nC (mvL P v Q x (t + 1)) q1 jj
   rw [<- hst,<- r2,<- r1,<- hM]
   simp only [e4]
   rfl
  ·have q:t = j:=by
    have q:decide (((a + t:Nat):Int) < IntKind.i64.wrap (((m + j:Nat):Int) - 1)) = false:=q
    rw [e3] at q
    have q:=of_decide_eq_false q
    omega
   subst q
   rw [hF2]
   refine zG zE (NS.leave rfl zE ?_)
   exact zG zE (NS.fin (ts:=[]) rfl (weak_hd [] rfl trivial ⟨ren_row rfl rfl (fun _ _ _ _=>rfl),trivial⟩ (Pre_cut (by kernel_rfl)) (by kernel_rfl)) rfl (LeA.refl _))
theorem sym_two (O:OrdOn lt p) (hc:∀ x y,p x -> p y -> FnOK Tryz.prog 196 [.int .i64 x,.int .i64 y,.ip c el] (.int .i64 (cm x y),none)) (hlt:∀ x y,lt x y = decide (cm x y < 0)) (hs:n <= 1000000)
  (P u Q W:List Int) (y:Int) (hu:2 <= u.length) (hp:∀ z ∈ P ++ (u ++ ([y] ++ Q)),p z) (hn:n = P.length + u.length + 1 + Q.length) (hau:Asc lt u) (hw:W.Perm (u ++ [y])) (haw:Asc lt W) {a m b:Nat} (ha:a = P.length) (hm:m = P.length + u.length) (hb:b = P.length + u.length + 1):
  FnIn Tryz.prog 243 [.own 8,.int .i64 a,.int .i64 m,.int .i64 b,.fn 196 [.ip c el]] (oL n (P ++ (u ++ ([y] ++ Q)))) 20 (.tup []) (oL n (P ++ (W ++ Q))):=by
 have hpy:p y:=hp y (by simp)
 have hpu:∀ i,i < u.length -> p (u.getD i default):=fun i hi=>hp _ (by rw [getD_lt hi];simp)
 generalize hF:P ++ (W ++ Q) = F
 generalize hL:P ++ (u ++ ([y] ++ Q)) = L
 have gy:L.getD m default = y:=by rw [<- hL,getP2 (i:=0) (by simp) (by omega)];rfl
 have gu:∀ i j,i < u.length -> j = a + i -> L.getD j default = u.getD i default:=fun i j hi e=>by rw [<- hL,getP hi (by omega)]
 show FnIn _ _ _ _ _ _ (putOs (takeO 20 (oL n L)) [(8,rowI n F)])
 refine fn_in CSM rfl (by kernel_rfl) Tryz.func243 rfl ?_
 refine zG zE (NS.no (by rw [subN (by omega) (by omega)];exact beq_false_of_ne (by omega)) ?_)
 refine zG zE (NS.yes (by rw [subN (by omega) (by omega)];rw [show b - m = 1 by omega];rfl) ?_)
 refine zG zE ?_
 refine NS.loop (σ:={ q:Nat × Nat // q.1 <= q.2 /\ q.2 <= u.length /\ (0 < q.1 -> lt y (u.getD (q.1 - 1) default) = false) /\ (q.2 < u.length -> lt y (u.getD q.2 default) = true) }) (fun q=>[(0,.own 8),(1,.int .i64 a),(2,.int .i64 m),(4,.fn 196 [.ip c el]),(14,.int .i64 ((a + q.1.1:Nat))),(15,.int .i64 ((a + q.1.2:Nat)))]) (fun q=>[(8,rowI n L)]) (fun q=>q.1.2 - q.1.1) ⟨(0,u.length),Nat.zero_le _,Nat.le_refl _,fun h=>absurd h (Nat.lt_irrefl _),fun h=>absurd h (Nat.lt_irrefl _)⟩ ?_ ?_
 ·exact weak_hd [] rfl ⟨rfl,rfl,rfl,rfl,ren_int rfl rfl,ren_int rfl (by show (m:Int) = ((a + u.length:Nat):Int);omega),trivial⟩ ⟨ren_row rfl rfl fun _ _ _ _=>rfl,trivial⟩ (Pre_cut (by kernel_rfl)) (by kernel_rfl)
 rintro ⟨⟨i,j⟩,k1,k2,k3,k4⟩
 simp only at k1 k2 k3 k4
 have e2:=add1N (a:=a + (i + j) / 2) (by omega)
 have e1:hf (a + i) (a + j) = ((a + (i + j) / 2:Nat):Int):=by rw [halfN (by omega)];omega
 refine zG zE (NS.ite (fun q=>?_) (fun q=>?_))
 ·have q:i < j:=by have q:decide (((a + i:Nat):Int) < ((a + j:Nat):Int)) = true:=q;have q:=of_decide_eq_true q;omega
  have i1:=in_row (i:=a + (i + j) / 2) (n:=n) (by omega)
  have i2:=in_row' (i:=a + (i + j) / 2) (n:=n) (by omega)
  have i3:=in_row (i:=m) (n:=n) (by omega)
  have i4:=in_row' (i:=m) (n:=n) (by omega)
  repeat' (first | (refine zG zE (NS.need (rfl) ?_)) | (refine zG zE (NS.chk (by kernel_rfl) ?_)) | (refine zG zE (NS.need (i3) ?_)) | (refine zG zE (NS.need (i4) ?_)) | (refine zG zE (NS.need (by show decide (0 <= hf (a + i) (a + j) /\ hf (a + i) (a + j) < (n:Int)) = true;rw [e1];exact i1) ?_)) | (refine zG zE (NS.need (by show decide ((hf (a + i) (a + j)).toNat < n) = true;rw [e1];exact i2) ?_)))
  have eh:(hf (a + i) (a + j)).toNat = a + (i + j) / 2:=by rw [e1];omega
  have gh:=gu ((i + j) / 2) (a + (i + j) / 2) (by omega) rfl
  refine zG zE (NS.call (hc (L.getD (m:Int).toNat default) (L.getD (hf (a + i) (a + j)).toNat default) (by rw [Int.toNat_natCast,gy];exact hpy) (by rw [eh,gh];exact hpu _ (by omega))) rfl ?_)
  have ht:decide (cm (L.getD (m:Int).toNat default) (L.getD (hf (a + i) (a + j)).toNat default) < 0) = lt y (u.getD ((i + j) / 2) default):=by rw [hlt,eh,gh,Int.toNat_natCast,gy]
  refine zG zE (NS.ite (fun q2=>?_) (fun q2=>?_))
  ·have q2:lt y (u.getD ((i + j) / 2) default) = false:=by rw [<- ht];exact not_t q2
   refine zG zE (NS.next ⟨((i + j) / 2 + 1,j),by simp only;omega,k2,fun _=>by simp only [Nat.add_sub_cancel];exact q2,k4⟩ (by simp only;omega) ?_)
   refine weak_hd [] rfl ⟨rfl,rfl,rfl,rfl,ren_int rfl ?_,rfl,trivial⟩ ⟨ren_row rfl rfl fun _ _ _ _=>rfl,trivial⟩ (Pre_cut (by kernel_rfl)) (by kernel_rfl)
   show IntKind.i64.wrap (hf (a + i) (a + j) + 1) = ((a + ((i + j) / 2 + 1):Nat):Int)
   rw [e1,e2]
   omega
  ·have q2:lt y (u.getD ((i + j) / 2) default) = true:=by rw [<- ht];exact not_f q2
   refine zG zE (NS.next ⟨(i,(i + j) / 2),by simp only;omega,by simp only;omega,k3,fun _=>q2⟩ (by simp only;omega) ?_)
   exact weak_hd [] rfl ⟨rfl,rfl,rfl,rfl,rfl,ren_int rfl e1,trivial⟩ ⟨ren_row rfl rfl fun _ _ _ _=>rfl,trivial⟩ (Pre_cut (by kernel_rfl)) (by kernel_rfl)
 ·have q:j = i:=by have q:decide (((a + i:Nat):Int) < ((a + j:Nat):Int)) = false:=q;have q:=of_decide_eq_false q;omega
  subst q
  have hF2:mvL P u Q y j = F:=by
   have e:=O.uniq (l:=u.take j ++ y :: u.drop j) (m:=W) (fun z hy=>hp z (by
    have:=(one_perm u y j).subset hy
    rcases List.mem_cons.1 this with h | h
    ·subst h;simp
    ·simp [h])) ((one_perm u y j).trans ((List.perm_append_comm (l₁:=[y]) (l₂:=u)).trans hw.symm)) (asc_one O k2 hau k3 (fun h=>O.asymm _ _ (k4 h))) haw
   rw [<- hF,<- e]
   unfold mvL
   simp only [List.append_assoc,List.cons_append]
  have hmn:∀ t,(mvL P u Q y t).length = n:=fun t=>by rw [mvL_len];omega
  have hL0:mvL P u Q y u.length = L:=by rw [mvL_end _ _ _ _ rfl];exact hL
  rw [<- hL0]
  refine zG zE (NS.leave rfl zE ?_)
  refine zG zE ?_
  refine NS.loop (σ:={ t:Nat // j <= t /\ t <= u.length }) (fun t=>[(0,.own 8),(14,.int .i64 ((a + j:Nat))),(17,.int .i64 ((a + t.1:Nat)))]) (fun t=>[(8,rowI n (mvL P u Q y t.1))]) (fun t=>t.1) ⟨u.length,k2,Nat.le_refl _⟩ ?_ ?_
  ·exact weak_hd [] rfl ⟨rfl,rfl,ren_int rfl (by show (m:Int) = ((a + u.length:Nat):Int);omega),trivial⟩ ⟨ren_row rfl rfl fun _ _ _ _=>rfl,trivial⟩ (Pre_cut (by kernel_rfl)) (by kernel_rfl)
  rintro ⟨t,ht1,ht2⟩
  have ht1:j <= t:=ht1
  have ht2:t <= u.length:=ht2
  refine zG zE (NS.ite (fun q=>?_) (fun q=>?_))
  ·have q:j < t:=by
    have q:decide (((a + t:Nat):Int) > ((a + j:Nat):Int)) = true:=q
    have q:=of_decide_eq_true q
    omega
   obtain ⟨t,rfl⟩:∃ t',t = t' + 1:=⟨t - 1,by omega⟩
   have e4:IntKind.i64.wrap (((a + (t + 1):Nat):Int) - 1) = ((a + t:Nat):Int):=by rw [sub1N (by omega) (by omega)];omega
   have i1:=in_row (i:=a + (t + 1)) (n:=n) (by omega)
   have i2:=in_row' (i:=a + (t + 1)) (n:=n) (by omega)
   have i3:=in_row (i:=a + t) (n:=n) (by omega)
   have i4:=in_row' (i:=a + t) (n:=n) (by omega)
   repeat' (first | (refine zG zE (NS.chk (by kernel_rfl) ?_)) | (refine zG zE (NS.need (i1) ?_)) | (refine zG zE (NS.need (i2) ?_)) | (refine zG zE (NS.need (by show decide (0 <= IntKind.i64.wrap (((a + (t + 1):Nat):Int) - 1) /\ IntKind.i64.wrap (((a + (t + 1):Nat):Int) - 1) < (n:Int)) = true;rw [e4];exact i3) ?_)) | (refine zG zE (NS.need (by show decide ((IntKind.i64.wrap (((a + (t + 1):Nat):Int) - 1)).toNat < n) = true;rw [e4];exact i4) ?_)))
   refine zG zE (NS.next ⟨t,by omega,by omega⟩ (by show t < t + 1;omega) ?_)
   refine weak_hd [] rfl ⟨rfl,rfl,ren_int rfl e4,trivial⟩ ⟨ren_row rfl rfl (fun q1 hq jj hjj=>?_),trivial⟩ (Pre_cut (by kernel_rfl)) (by kernel_rfl)
   have hst:=mvL_down P u Q y (t:=t) (k:=a + t) (by omega) (by omega)
   generalize hM:mvL P u Q y (t + 1) = M at *
   have hMn:M.length = n:=by rw [<- hM];exact hmn _
   have r1:=rowN_set M (a + t + 1) (M.getD (a + t) default) (by omega) q1 jj hjj
   have r2:=rowN_set (M.set (a + t + 1) (M.getD (a + t) default)) (a + t) (M.getD (a + t + 1) default) (by rw [List.length_set];omega) q1 jj hjj
   show _ = rowL nC (mvL P u Q y t) q1 jj
   rw [<- hst]
   unfold swp
   rw [<- r2,<- r1,<- hM]
   simp only [e4]
   rfl
  ·have q:t = j:=by
    have q:decide (((a + t:Nat):Int) > ((a + j:Nat):Int)) = false:=q
    have q:=of_decide_eq_false q
    omega
   subst q
   rw [hF2]
   refine zG zE (NS.leave rfl zE ?_)
   exact zG zE (NS.fin (ts:=[]) rfl (weak_hd [] rfl trivial ⟨ren_row rfl rfl (fun _ _ _ _=>rfl),trivial⟩ (Pre_cut (by kernel_rfl)) (by kernel_rfl)) rfl (LeA.refl _))
end
end Go.Proofs.YtggjngbighkdgaaGreat
namespace Go.Proofs.YtggjngbighkdgaaGreat
open Go.Sy Go.Mb
set_option maxRecDepth 100000
set_option maxHeartbeats 4000000
section
variable {lt:Int -> Int -> Bool} {p:Int -> Prop} {cm:Int -> Int -> Int} {c n:Nat} {el:Nat -> A}
theorem cut_td (l:List Int) (k:Nat) (h:k <= l.length):∃ a b,l = a ++ b /\ a.length = k /\ b.length = l.length - k /\ l.take k = a /\ l.drop k = b:=⟨_,_,(List.take_append_drop k l).symm,by simp;omega,by simp,rfl,rfl⟩
theorem sym_parts (O:OrdOn lt p) (hs:n <= 1000000) {P u v Q W:List Int} {a m b mid s:Nat} (hp:∀ x ∈ P ++ (u ++ (v ++ Q)),p x) (hn:n = P.length + u.length + v.length + Q.length) (hau:Asc lt u) (hav:Asc lt v) (hw:W.Perm (u ++ v)) (haw:Asc lt W) (ha:a = P.length) (hm:m = P.length + u.length) (hb:b = P.length + u.length + v.length)
  (hf:(a <= s /\ s <= m /\ s <= mid /\ s - a <= u.length /\ mid - s <= v.length) /\ (0 < s - a -> mid - s < v.length -> lt (v.getD (mid - s) default) (u.getD (s - a - 1) default) = false) /\ (s - a < u.length -> 0 < mid - s -> lt (v.getD (mid - s - 1) default) (u.getD (s - a) default) = true))
  (h1:a < mid) (h2:mid < b)
  (ih:∀ (P u v Q W:List Int),u.length + v.length < b - a -> 0 < u.length -> 0 < v.length -> (∀ x ∈ P ++ (u ++ (v ++ Q)),p x) -> n = P.length + u.length + v.length + Q.length -> Asc lt u -> Asc lt v -> W.Perm (u ++ v) -> Asc lt W -> ∀ (a m b:Nat),a = P.length -> m = P.length + u.length -> b = P.length + u.length + v.length ->
   FnIn Tryz.prog 243 [.own 8,.int .i64 a,.int .i64 m,.int .i64 b,.fn 196 [.ip c el]] (oL n (P ++ (u ++ (v ++ Q)))) 20 (.tup []) (oL n (P ++ (W ++ Q)))):
  ∃ R1 R2:List Int,(s < m -> m < mid + m - s -> FnIn Tryz.prog 249 [.own 8,.int .i64 s,.int .i64 m,.int .i64 (mid + m - s:Nat),.fn 196 [.ip c el]] (oL n (P ++ (u ++ (v ++ Q)))) 20 (.tup []) (oL n R1)) /\
   (¬ (s < m /\ m < mid + m - s) -> P ++ (u ++ (v ++ Q)) = R1) /\
   (a < s -> s < mid -> FnIn Tryz.prog 243 [.own 8,.int .i64 a,.int .i64 s,.int .i64 mid,.fn 196 [.ip c el]] (oL n R1) 20 (.tup []) (oL n R2)) /\
   (¬ (a < s /\ s < mid) -> R1 = R2) /\
   (mid < mid + m - s -> mid + m - s < b -> FnIn Tryz.prog 243 [.own 8,.int .i64 mid,.int .i64 (mid + m - s:Nat),.int .i64 b,.fn 196 [.ip c el]] (oL n R2) 20 (.tup []) (oL n (P ++ (W ++ Q)))) /\
   (¬ (mid < mid + m - s /\ mid + m - s < b) -> R2 = P ++ (W ++ Q)):=by
 obtain ⟨⟨f1,f2,f3,f4,f5⟩,f6,f7⟩:=hf
 obtain ⟨u1,u2,hu,l1,l2,t1,t2⟩:=cut_td u (s - a) f4
 obtain ⟨v1,v2,hv,l3,l4,t3,t4⟩:=cut_td v (mid - s) f5
 obtain ⟨W1,p1,s1⟩:=O.sort (u1 ++ v1)
 obtain ⟨W2,p2,s2⟩:=O.sort (u2 ++ v2)
 have hu1:Asc lt u1:=by rw [<- t1];exact hau.sublist (List.take_sublist _ _)
 have hu2:Asc lt u2:=by rw [<- t2];exact hau.sublist (List.drop_sublist _ _)
 have hv1:Asc lt v1:=by rw [<- t3];exact hav.sublist (List.take_sublist _ _)
 have hv2:Asc lt v2:=by rw [<- t4];exact hav.sublist (List.drop_sublist _ _)
 obtain ⟨a1,a2⟩:=asc_cut O f4 f5 hau hav f6 f7 s1 s2 (by rw [t1,t3];exact p1) (by rw [t2,t4];exact p2)
 have hpW:∀ x ∈ W1 ++ W2,p x:=fun x hx=>hp x (by
  have:=a2.subset hx
  simp only [List.mem_append] at this ⊢
  rcases this with h | h
  ·exact .inr (.inl h)
  ·exact .inr (.inr (.inl h)))
 have hWW:=O.uniq hpW (a2.trans hw.symm) a1 haw
 have w1:W1.length = u1.length + v1.length:=by rw [p1.length_eq,List.length_append]
 have w2:W2.length = u2.length + v2.length:=by rw [p2.length_eq,List.length_append]
 have hb1:u.length = u1.length + u2.length:=by rw [hu,List.length_append]
 have hb2:v.length = v1.length + v2.length:=by rw [hv,List.length_append]
 have hone:∀ (W x y:List Int),W.Perm (x ++ y) -> Asc lt W -> Asc lt x -> Asc lt y -> (∀ z ∈ W,p z) -> ¬ (0 < x.length /\ 0 < y.length) -> W = x ++ y:=by
  intro W x y h1 h2 h3 h4 h5 h6
  refine O.uniq h5 h1 h2 ?_
  by_cases hx:x = []
  ·subst hx;exact h4
  ·have:y = []:=List.eq_nil_of_length_eq_zero (by have:=List.length_pos_iff.2 hx;omega)
   subst this;rw [List.append_nil];exact h3
 subst hu hv
 rw [<- hWW]
 have hmem:∀ x,x ∈ P \/ x ∈ u1 \/ x ∈ u2 \/ x ∈ v1 \/ x ∈ v2 \/ x ∈ Q -> p x:=fun x hx=>hp x (by
  simp only [List.mem_append]
  rcases hx with h | h | h | h | h | h <;> simp [h])
 have hmW1:∀ x,x ∈ W1 -> p x:=fun x hx=>hpW x (List.mem_append_left _ hx)
 have hmW2:∀ x,x ∈ W2 -> p x:=fun x hx=>hpW x (List.mem_append_right _ hx)
 refine ⟨P ++ (u1 ++ (v1 ++ (u2 ++ (v2 ++ Q)))),P ++ (W1 ++ (u2 ++ (v2 ++ Q))),fun k1 k2=>?_,fun k=>?_,fun k1 k2=>?_,fun k=>?_,fun k1 k2=>?_,fun k=>?_⟩
 ·have h:=rot_ok (P ++ u1) u2 v1 (v2 ++ Q) 196 c n el (by omega) (by omega) (by simp only [List.length_append];omega) hs (a:=s) (m:=m) (b:=mid + m - s) (by simp only [List.length_append];omega) (by simp only [List.length_append];omega) (by simp only [List.length_append];omega)
  simp only [List.append_assoc] at h ⊢
  exact h
 ·have:u2 = [] \/ v1 = []:=by
   by_cases h:u2.length = 0
   ·exact .inl (List.eq_nil_of_length_eq_zero h)
   ·exact .inr (List.eq_nil_of_length_eq_zero (by omega))
  rcases this with h | h <;> subst h <;> simp
 ·exact ih P u1 v1 (u2 ++ (v2 ++ Q)) W1 (by omega) (by omega) (by omega) (fun x hx=>hmem x (by simp only [List.mem_append] at hx;rcases hx with h | h | h | h | h | h <;> simp [h])) (by simp only [List.length_append];omega) hu1 hv1 p1 s1 a s mid ha (by omega) (by omega)
 ·rw [hone W1 u1 v1 p1 s1 hu1 hv1 hmW1 (by omega),List.append_assoc]
 ·have h:=ih (P ++ W1) u2 v2 Q W2 (by omega) (by omega) (by omega) (fun x hx=>by
   simp only [List.mem_append] at hx
   rcases hx with (h | h) | h | h | h
   ·exact hmem x (.inl h)
   ·exact hmW1 x h
   ·exact hmem x (by simp [h])
   ·exact hmem x (by simp [h])
   ·exact hmem x (by simp [h])) (by simp only [List.length_append];omega) hu2 hv2 p2 s2 mid (mid + m - s) b (by simp only [List.length_append];omega) (by simp only [List.length_append];omega) (by simp only [List.length_append];omega)
  simp only [List.append_assoc] at h ⊢
  exact h
 ·rw [hone W2 u2 v2 p2 s2 hu2 hv2 hmW2 (by omega)]
  simp only [List.append_assoc]
theorem sym_ok (O:OrdOn lt p) (hc:∀ x y,p x -> p y -> FnOK Tryz.prog 196 [.int .i64 x,.int .i64 y,.ip c el] (.int .i64 (cm x y),none)) (hlt:∀ x y,lt x y = decide (cm x y < 0)) (hs:n <= 1000000):
  ∀ (N:Nat) (P u v Q W:List Int),u.length + v.length <= N -> 0 < u.length -> 0 < v.length -> (∀ x ∈ P ++ (u ++ (v ++ Q)),p x) -> n = P.length + u.length + v.length + Q.length -> Asc lt u -> Asc lt v -> W.Perm (u ++ v) -> Asc lt W -> ∀ (a m b:Nat),a = P.length -> m = P.length + u.length -> b = P.length + u.length + v.length ->
  FnIn Tryz.prog 243 [.own 8,.int .i64 a,.int .i64 m,.int .i64 b,.fn 196 [.ip c el]] (oL n (P ++ (u ++ (v ++ Q)))) 20 (.tup []) (oL n (P ++ (W ++ Q)))
 | 0,P,u,v,Q,W,hN,hu,hv,hp,hn,hau,hav,hw,haw,a,m,b=>by omega
 | N + 1,P,u,v,Q,W,hN,hu,hv,hp,hn,hau,hav,hw,haw,a,m,b=>by
  intro ha hm hb
  by_cases h1:u.length = 1
  ·obtain ⟨x,rfl⟩:=List.length_eq_one_iff.1 h1
   exact sym_one O hc hlt hs P v Q W x hv hp hn hav hw haw ha hm hb
  by_cases h2:v.length = 1
  ·obtain ⟨y,rfl⟩:=List.length_eq_one_iff.1 h2
   exact sym_two O hc hlt hs P u Q W y (by omega) hp hn hau hw haw ha hm hb
  have ih:=@sym_ok O hc hlt hs N
  generalize hF:P ++ (W ++ Q) = F
  generalize hL:P ++ (u ++ (v ++ Q)) = L at *
  have hLn:L.length = n:=by rw [<- hL,hn];simp only [List.length_append];omega
  have hpL:∀ i,i < n -> p (L.getD i default):=fun i hi=>hp _ (by rw [getD_lt (by omega)];exact List.getElem_mem _)
  show FnIn _ _ _ _ _ _ (putOs (takeO 20 (oL n L)) [(8,rowI n F)])
  obtain ⟨mid,hmid⟩:∃ mid,mid = (a + b) / 2:=⟨_,rfl⟩
  have em:hf a b = (mid:Int):=by rw [hmid];exact halfN (by omega)
  have eN:IntKind.i64.wrap (hf a b + (m:Int)) = ((mid + m:Nat):Int):=by rw [em];exact addN (by omega)
  have eP:IntKind.i64.wrap (IntKind.i64.wrap (hf a b + (m:Int)) - 1) = ((mid + m - 1:Nat):Int):=by rw [eN];exact sub1N (by omega) (by omega)
  refine fn_in CSM rfl (by kernel_rfl) Tryz.func243 rfl ?_
  refine zG zE (NS.no (by rw [subN (by omega) (by omega)];exact beq_false_of_ne (by omega)) ?_)
  refine zG zE (NS.no (by rw [subN (by omega) (by omega)];exact beq_false_of_ne (by omega)) ?_)
  refine zG zE (NS.need (rfl) ?_)
  refine zG zE (NS.ite (fun qm=>?_) (fun qm=>?_))
  case' refine_1=>
   have qm:mid < m:=by have qm:decide ((m:Int) > hf a b) = true:=qm;rw [em] at qm;have qm:=of_decide_eq_true qm;omega
   obtain ⟨s0,hs0⟩:∃ s0,s0 = mid + m - b:=⟨_,rfl⟩
   obtain ⟨r0,hr0⟩:∃ r0,r0 = mid:=⟨_,rfl⟩
   have hsr:s0 <= r0:=by omega
   have hcase:(s0 = mid + m - b /\ r0 = mid /\ mid < m) \/ (s0 = a /\ r0 = m /\ m <= mid):=.inl ⟨hs0,hr0,qm⟩
   have hS:IntKind.i64.wrap (IntKind.i64.wrap (hf a b + (m:Int)) - (b:Int)) = (s0:Int):=by rw [eN,subN (by omega) (by omega),hs0]
   have hR:hf a b = (r0:Int):=by rw [em,hr0]
  case' refine_2=>
   have qm:m <= mid:=by have qm:decide ((m:Int) > hf a b) = false:=qm;rw [em] at qm;have qm:=of_decide_eq_false qm;omega
   obtain ⟨s0,hs0⟩:∃ s0,s0 = a:=⟨_,rfl⟩
   obtain ⟨r0,hr0⟩:∃ r0,r0 = m:=⟨_,rfl⟩
   have hsr:s0 <= r0:=by omega
   have hcase:(s0 = mid + m - b /\ r0 = mid /\ mid < m) \/ (s0 = a /\ r0 = m /\ m <= mid):=.inr ⟨hs0,hr0,qm⟩
   have hS:(a:Int) = (s0:Int):=by rw [hs0]
   have hR:(m:Int) = (r0:Int):=by rw [hr0]
  all_goals
   refine zG zE ?_
   refine NS.loop (σ:={ q:Nat × Nat // s0 <= q.1 /\ q.1 <= q.2 /\ q.2 <= r0 /\ (s0 < q.1 -> lt (L.getD (mid + m - 1 - (q.1 - 1)) default) (L.getD (q.1 - 1) default) = false) /\ (q.2 < r0 -> lt (L.getD (mid + m - 1 - q.2) default) (L.getD q.2 default) = true) }) (fun q=>[(0,.own 8),(1,.int .i64 a),(2,.int .i64 m),(3,.int .i64 b),(4,.fn 196 [.ip c el]),(18,.int .i64 (mid:Nat)),(19,.int .i64 (mid + m:Nat)),(20,.int .i64 (q.1.1:Nat)),(21,.int .i64 (q.1.2:Nat)),(22,.int .i64 (mid + m - 1:Nat))]) (fun q=>[(8,rowI n L)]) (fun q=>q.1.2 - q.1.1) ⟨(s0,r0),Nat.le_refl _,hsr,Nat.le_refl _,fun h=>absurd h (Nat.lt_irrefl _),fun h=>absurd h (Nat.lt_irrefl _)⟩ ?_ ?_
   ·exact weak_hd [] rfl ⟨rfl,rfl,rfl,rfl,rfl,ren_int rfl em,ren_int rfl eN,ren_int rfl hS,ren_int rfl hR,ren_int rfl eP,trivial⟩ ⟨ren_row rfl rfl fun _ _ _ _=>rfl,trivial⟩ (Pre_cut (by kernel_rfl)) (by kernel_rfl)
   rintro ⟨⟨i,j⟩,k0,k1,k2,k3,k4⟩
   simp only at k0 k1 k2 k3 k4
   refine zG zE (NS.ite (fun q=>?_) (fun q=>?_))
   ·have q:i < j:=by have q:decide ((i:Int) < (j:Int)) = true:=q;have q:=of_decide_eq_true q;omega
    have e1:hf i j = (((i + j) / 2:Nat):Int):=halfN (by omega)
    generalize hh:(i + j) / 2 = h at e1
    have hh1:i <= h /\ h < j:=by omega
    have e2:=add1N (a:=h) (by omega)
    have e3:IntKind.i64.wrap (((mid + m - 1:Nat):Int) - hf i j) = ((mid + m - 1 - h:Nat):Int):=by rw [e1,subN (by omega) (by omega)]
    have i1:=in_row (i:=h) (n:=n) (by omega)
    have i2:=in_row' (i:=h) (n:=n) (by omega)
    have i3:=in_row (i:=mid + m - 1 - h) (n:=n) (by omega)
    have i4:=in_row' (i:=mid + m - 1 - h) (n:=n) (by omega)
    repeat' (first | (refine zG zE (NS.need (rfl) ?_)) | (refine zG zE (NS.chk (by kernel_rfl) ?_)) | (refine zG zE (NS.need (by show decide (0 <= hf i j /\ hf i j < (n:Int)) = true;rw [e1];exact i1) ?_)) | (refine zG zE (NS.need (by show decide ((hf i j).toNat < n) = true;rw [e1];exact i2) ?_)) | (refine zG zE (NS.need (by show decide (0 <= IntKind.i64.wrap (((mid + m - 1:Nat):Int) - hf i j) /\ IntKind.i64.wrap (((mid + m - 1:Nat):Int) - hf i j) < (n:Int)) = true;rw [e3];exact i3) ?_)) | (refine zG zE (NS.need (by show decide ((IntKind.i64.wrap (((mid + m - 1:Nat):Int) - hf i j)).toNat < n) = true;rw [e3];exact i4) ?_)))
    have f1:(hf i j).toNat = h:=by rw [e1];omega
    have f2:(IntKind.i64.wrap (((mid + m - 1:Nat):Int) - hf i j)).toNat = mid + m - 1 - h:=by rw [e3];omega
    refine zG zE (NS.call (hc (L.getD (IntKind.i64.wrap (((mid + m - 1:Nat):Int) - hf i j)).toNat default) (L.getD (hf i j).toNat default) (by rw [f2];exact hpL _ (by omega)) (by rw [f1];exact hpL _ (by omega))) rfl ?_)
    have ht:decide (cm (L.getD (IntKind.i64.wrap (((mid + m - 1:Nat):Int) - hf i j)).toNat default) (L.getD (hf i j).toNat default) < 0) = lt (L.getD (mid + m - 1 - h) default) (L.getD h default):=by rw [hlt,f1,f2]
    refine zG zE (NS.ite (fun q2=>?_) (fun q2=>?_))
    ·have q2:lt (L.getD (mid + m - 1 - h) default) (L.getD h default) = false:=by rw [<- ht];exact not_t q2
     refine zG zE (NS.next ⟨(h + 1,j),by simp only;omega,by simp only;omega,k2,fun _=>by simp only [Nat.add_sub_cancel];exact q2,k4⟩ (by simp only;omega) ?_)
     refine weak_hd [] rfl ⟨rfl,rfl,rfl,rfl,rfl,rfl,rfl,ren_int rfl ?_,rfl,rfl,trivial⟩ ⟨ren_row rfl rfl fun _ _ _ _=>rfl,trivial⟩ (Pre_cut (by kernel_rfl)) (by kernel_rfl)
     show IntKind.i64.wrap (hf i j + 1) = ((h + 1:Nat):Int)
     rw [e1,e2]
    ·have q2:lt (L.getD (mid + m - 1 - h) default) (L.getD h default) = true:=by rw [<- ht];exact not_f q2
     refine zG zE (NS.next ⟨(i,h),k0,by simp only;omega,by simp only;omega,k3,fun _=>q2⟩ (by simp only;omega) ?_)
     exact weak_hd [] rfl ⟨rfl,rfl,rfl,rfl,rfl,rfl,rfl,rfl,ren_int rfl e1,rfl,trivial⟩ ⟨ren_row rfl rfl fun _ _ _ _=>rfl,trivial⟩ (Pre_cut (by kernel_rfl)) (by kernel_rfl)
   have q:j = i:=by have q:decide ((i:Int) < (j:Int)) = false:=q;have q:=of_decide_eq_false q;omega
   subst q
   have hfx:=sym_facts O (A:=P) (B:=Q) ha hm hb hu hv hmid hcase k0 k2
   rw [hL] at hfx
   have hfx:=hfx k3 k4
   obtain ⟨R1,R2,c1,c2,c3,c4,c5,c6⟩:=sym_parts O hs (hL ▸ hp) hn hau hav hw haw ha hm hb hfx (by omega) (by omega) (fun P u v Q W hN=>ih P u v Q W (by omega))
   rw [hL] at c1 c2
   rw [hF] at c5 c6
   obtain ⟨⟨f1,f2,f3,_,_⟩,_⟩:=hfx
   have eE:=subN (a:=mid + m) (b:=j) (by omega) (by omega)
   refine zG zE (NS.leave rfl zE ?_)
   repeat' (first | (refine zG zE (NS.chk (by kernel_rfl) ?_)))
   refine zG zE (NS.ite (fun b1=>?_) (fun b1=>?_))
   case' refine_2=>
    have b1:¬ (j < m):=by have b1:decide ((j:Int) < (m:Int)) = false:=b1;have b1:=of_decide_eq_false b1;omega
    have e_c2:=c2 (fun h=>b1 h.1)
    subst e_c2
   case' refine_1=>
    have b1:j < m:=by have b1:decide ((j:Int) < (m:Int)) = true:=b1;have b1:=of_decide_eq_true b1;omega
    refine zG zE (NS.ite (fun b2=>?_) (fun b2=>?_))
    case' refine_2=>
     have b2:¬ (m < mid + m - j):=by have b2:decide ((m:Int) < IntKind.i64.wrap (((mid + m:Nat):Int) - (j:Int))) = false:=b2;rw [eE] at b2;have b2:=of_decide_eq_false b2;omega
     have e_c2:=c2 (fun h=>b2 h.2)
     subst e_c2
    case' refine_1=>
     have b2:m < mid + m - j:=by have b2:decide ((m:Int) < IntKind.i64.wrap (((mid + m:Nat):Int) - (j:Int))) = true:=b2;rw [eE] at b2;have b2:=of_decide_eq_true b2;omega
     refine zG zE (NS.inn (P:=Tryz.prog) (vals:=[.own 8,.int .i64 (j:Nat),.int .i64 (m:Nat),.int .i64 (mid + m - j:Nat),.fn 196 [.ip c el]]) (objs1:=oL n _) (WeakL.keep 20 [8] (by kernel_rfl)) (by show _ = _;kernel_rfl) (LeL.cons (LeA.refl _) (LeL.cons (LeA.refl _) (LeL.cons (LeA.refl _) (LeL.cons (LeA.of (congrArg (A.int .i64) eE)) (LeL.refl _))))) (by kernel_rfl) (c1 b1 b2) rfl ?_)
   all_goals
    repeat' (first | (refine zG zE (NS.chk (by kernel_rfl) ?_)))
    refine zG zE (NS.ite (fun b3=>?_) (fun b3=>?_))
    case' refine_2=>
     have b3:¬ (a < j):=by have b3:decide ((a:Int) < (j:Int)) = false:=b3;have b3:=of_decide_eq_false b3;omega
     have e_c4:=c4 (fun h=>b3 h.1)
     subst e_c4
    case' refine_1=>
     have b3:a < j:=by have b3:decide ((a:Int) < (j:Int)) = true:=b3;have b3:=of_decide_eq_true b3;omega
     refine zG zE (NS.ite (fun b4=>?_) (fun b4=>?_))
     case' refine_2=>
      have b4:¬ (j < mid):=by have b4:decide ((j:Int) < (mid:Int)) = false:=b4;have b4:=of_decide_eq_false b4;omega
      have e_c4:=c4 (fun h=>b4 h.2)
      subst e_c4
     case' refine_1=>
      have b4:j < mid:=by have b4:decide ((j:Int) < (mid:Int)) = true:=b4;have b4:=of_decide_eq_true b4;omega
      refine zG zE (NS.inn (P:=Tryz.prog) (vals:=[.own 8,.int .i64 (a:Nat),.int .i64 (j:Nat),.int .i64 (mid:Nat),.fn 196 [.ip c el]]) (objs1:=oL n _) (WeakL.keep 20 [8] (by kernel_rfl)) (by show _ = _;kernel_rfl) (LeL.cons (LeA.refl _) (LeL.cons (LeA.refl _) (LeL.cons (LeA.refl _) (LeL.cons (LeA.refl _) (LeL.refl _))))) (by kernel_rfl) (c3 b3 b4) rfl ?_)
    all_goals
     repeat' (first | (refine zG zE (NS.chk (by kernel_rfl) ?_)))
     refine zG zE (NS.ite (fun b5=>?_) (fun b5=>?_))
     case' refine_2=>
      have b5:¬ (mid < mid + m - j):=by have b5:decide ((mid:Int) < IntKind.i64.wrap (((mid + m:Nat):Int) - (j:Int))) = false:=b5;rw [eE] at b5;have b5:=of_decide_eq_false b5;omega
      have e_c6:=c6 (fun h=>b5 h.1)
      subst e_c6
     case' refine_1=>
      have b5:mid < mid + m - j:=by have b5:decide ((mid:Int) < IntKind.i64.wrap (((mid + m:Nat):Int) - (j:Int))) = true:=b5;rw [eE] at b5;have b5:=of_decide_eq_true b5;omega
      refine zG zE (NS.ite (fun b6=>?_) (fun b6=>?_))
      case' refine_2=>
       have b6:¬ (mid + m - j < b):=by have b6:decide (IntKind.i64.wrap (((mid + m:Nat):Int) - (j:Int)) < (b:Int)) = false:=b6;rw [eE] at b6;have b6:=of_decide_eq_false b6;omega
       have e_c6:=c6 (fun h=>b6 h.2)
       subst e_c6
      case' refine_1=>
       have b6:mid + m - j < b:=by have b6:decide (IntKind.i64.wrap (((mid + m:Nat):Int) - (j:Int)) < (b:Int)) = true:=b6;rw [eE] at b6;have b6:=of_decide_eq_true b6;omega
       refine zG zE (NS.inn (P:=Tryz.prog) (vals:=[.own 8,.int .i64 (mid:Nat),.int .i64 (mid + m - j:Nat),.int .i64 (b:Nat),.fn 196 [.ip c el]]) (objs1:=oL n _) (WeakL.keep 20 [8] (by kernel_rfl)) (by show _ = _;kernel_rfl) (LeL.cons (LeA.refl _) (LeL.cons (LeA.refl _) (LeL.cons (LeA.of (congrArg (A.int .i64) eE)) (LeL.cons (LeA.refl _) (LeL.refl _))))) (by kernel_rfl) (c5 b5 b6) rfl ?_)
     all_goals
      exact zG zE (NS.fin (ts:=[]) rfl (weak_hd [] rfl trivial ⟨ren_row rfl rfl (fun _ _ _ _=>rfl),trivial⟩ (Pre_cut (by kernel_rfl)) (by kernel_rfl)) rfl (LeA.refl _))
end
end Go.Proofs.YtggjngbighkdgaaGreat
namespace Go.Proofs.YtggjngbighkdgaaGreat
open Go.Sy Go.Mb
set_option maxRecDepth 100000
set_option maxHeartbeats 4000000
section
variable {lt:Int -> Int -> Bool} {p:Int -> Prop} {cm:Int -> Int -> Int} {c n:Nat} {el:Nat -> A}
theorem ins_ok (O:OrdOn lt p) (hc:∀ x y,p x -> p y -> FnOK Tryz.prog 196 [.int .i64 x,.int .i64 y,.ip c el] (.int .i64 (cm x y),none)) (hlt:∀ x y,lt x y = decide (cm x y < 0)) (hs:n <= 1000000)
  (P u Q W:List Int) (hp:∀ x ∈ P ++ (u ++ Q),p x) (hn:n = P.length + u.length + Q.length) (hw:W.Perm u) (haw:Asc lt W) (a b:Nat) (ha:a = P.length) (hb:b = P.length + u.length):
  FnIn Tryz.prog 242 [.own 8,.int .i64 a,.int .i64 b,.fn 196 [.ip c el]] (oL n (P ++ (u ++ Q))) 20 (.tup []) (oL n (P ++ (W ++ Q))):=by
 generalize hF:P ++ (W ++ Q) = F
 show FnIn _ _ _ _ _ _ (putOs (takeO 20 (oL n (P ++ (u ++ Q)))) [(8,rowI n F)])
 have hpu:∀ x ∈ u,p x:=fun x hx=>hp x (by simp [hx])
 by_cases hu:u.length = 0
 ·have hu0:u = []:=List.eq_nil_of_length_eq_zero hu
  have hW0:W = []:=by have:=hw.length_eq;rw [hu] at this;exact List.eq_nil_of_length_eq_zero this
  subst hu0 hW0 hF
  refine fn_in CSM rfl (by kernel_rfl) Tryz.func242 rfl ?_
  refine zG zE ?_
  refine NS.loop (σ:=Unit) (fun _=>[(0,.own 8),(1,.int .i64 a),(2,.int .i64 b),(8,.int .i64 (a + 1:Nat))]) (fun _=>[(8,rowI n (P ++ ([] ++ Q)))]) (fun _=>0) () ?_ ?_
  ·exact weak_hd [] rfl ⟨rfl,rfl,rfl,ren_int rfl (add1N (a:=a) (by omega)),trivial⟩ ⟨ren_row rfl rfl fun _ _ _ _=>rfl,trivial⟩ (Pre_cut (by kernel_rfl)) (by kernel_rfl)
  intro _
  refine zG zE (NS.no (decide_eq_false (by simp only [List.length_nil] at hb;omega)) ?_)
  refine zG zE (NS.leave rfl zE ?_)
  exact zG zE (NS.fin (ts:=[]) rfl (weak_hd [] rfl trivial ⟨ren_row rfl rfl (fun _ _ _ _=>rfl),trivial⟩ (Pre_cut (by kernel_rfl)) (by kernel_rfl)) rfl (LeA.refl _))
 refine fn_in CSM rfl (by kernel_rfl) Tryz.func242 rfl ?_
 refine zG zE ?_
 refine NS.loop (σ:={ q:List Int × List Int // 0 < q.1.length /\ q.1.length + q.2.length = u.length /\ Asc lt q.1 /\ (q.1 ++ q.2).Perm u }) (fun q=>[(0,.own 8),(1,.int .i64 a),(2,.int .i64 b),(3,.fn 196 [.ip c el]),(8,.int .i64 (a + q.1.1.length:Nat))]) (fun q=>[(8,rowI n (P ++ (q.1.1 ++ (q.1.2 ++ Q))))]) (fun q=>q.1.2.length) ⟨(u.take 1,u.drop 1),by simp only [List.length_take];omega,by simp only [List.length_take,List.length_drop];omega,?_,by simp only [List.take_append_drop];exact List.Perm.refl _⟩ ?_ ?_
 ·rcases u with _ | ⟨x,u⟩
  ·exact List.Pairwise.nil
  ·exact List.pairwise_singleton _ _
 ·have hl:(u.take 1).length = 1:=by rw [List.length_take];omega
  refine weak_hd [] rfl ⟨rfl,rfl,rfl,rfl,ren_int rfl ?_,trivial⟩ ⟨ren_row rfl rfl (fun i hi j hj=>?_),trivial⟩ (Pre_cut (by kernel_rfl)) (by kernel_rfl)
  ·show IntKind.i64.wrap ((a:Int) + 1) = ((a + (u.take 1).length:Nat):Int)
   rw [hl]
   exact add1N (by omega)
  ·show rowL nC (P ++ (u ++ Q)) i j = rowL nC (P ++ (u.take 1 ++ (u.drop 1 ++ Q))) i j
   rw [<- List.append_assoc (u.take 1),List.take_append_drop]
 rintro ⟨⟨S,r⟩,k1,k2,k3,k4⟩
 simp only at k1 k2 k3 k4
 refine zG zE (NS.ite (fun q=>?_) (fun q=>?_))
 ·have q:0 < r.length:=by have q:decide (((a + S.length:Nat):Int) < (b:Int)) = true:=q;have q:=of_decide_eq_true q;omega
  obtain ⟨x,r,rfl⟩:∃ x r',r = x :: r':=by
   rcases r with _ | ⟨x,r⟩
   ·simp at q
   ·exact ⟨x,r,rfl⟩
  have hr:(x :: r).length = r.length + 1:=rfl
  have hpx:p x:=hpu x (k4.subset (by simp))
  have hpS:∀ i,i < S.length -> p (S.getD i default):=fun i hi=>hpu _ (k4.subset (by rw [getD_lt hi];simp))
  have hmn:∀ t,(mvL P S (r ++ Q) x t).length = n:=fun t=>by rw [mvL_len,List.length_append];omega
  have hst0:P ++ (S ++ (x :: r ++ Q)) = mvL P S (r ++ Q) x S.length:=by rw [mvL_end _ _ _ _ rfl];rfl
  rw [hst0]
  refine zG zE ?_
  refine NS.loop (σ:={ t:Nat // t <= S.length /\ (t < S.length -> lt x (S.getD t default) = true) }) (fun t=>[(0,.own 8),(1,.int .i64 a),(2,.int .i64 b),(3,.fn 196 [.ip c el]),(8,.int .i64 (a + S.length:Nat)),(9,.int .i64 (a + t.1:Nat))]) (fun t=>[(8,rowI n (mvL P S (r ++ Q) x t.1))]) (fun t=>t.1) ⟨S.length,Nat.le_refl _,fun h=>absurd h (Nat.lt_irrefl _)⟩ ?_ ?_
  ·exact weak_hd [] rfl ⟨rfl,rfl,rfl,rfl,rfl,rfl,trivial⟩ ⟨ren_row rfl rfl fun _ _ _ _=>rfl,trivial⟩ (Pre_cut (by kernel_rfl)) (by kernel_rfl)
  rintro ⟨t,ht1,ht2⟩
  have ht1:t <= S.length:=ht1
  have ht2:t < S.length -> lt x (S.getD t default) = true:=ht2
  refine zG zE (NS.chk (by kernel_rfl) ?_)
  refine zG zE (NS.ite (fun q2=>?_) (fun q2=>?_))
  ·obtain ⟨t,rfl⟩:∃ t',t = t' + 1:=by
    have q2:decide (((a + t:Nat):Int) > (a:Int)) = true:=q2
    have q2:=of_decide_eq_true q2
    exact ⟨t - 1,by omega⟩
   have e4:IntKind.i64.wrap (((a + (t + 1):Nat):Int) - 1) = ((a + t:Nat):Int):=by rw [sub1N (by omega) (by omega)];omega
   have i1:=in_row (i:=a + (t + 1)) (n:=n) (by omega)
   have i2:=in_row' (i:=a + (t + 1)) (n:=n) (by omega)
   have i3:=in_row (i:=a + t) (n:=n) (by omega)
   have i4:=in_row' (i:=a + t) (n:=n) (by omega)
   repeat' (first | (refine zG zE (NS.chk (by kernel_rfl) ?_)) | (refine zG zE (NS.need (i1) ?_)) | (refine zG zE (NS.need (i2) ?_)) | (refine zG zE (NS.need (by show decide (0 <= IntKind.i64.wrap (((a + (t + 1):Nat):Int) - 1) /\ IntKind.i64.wrap (((a + (t + 1):Nat):Int) - 1) < (n:Int)) = true;rw [e4];exact i3) ?_)) | (refine zG zE (NS.need (by show decide ((IntKind.i64.wrap (((a + (t + 1):Nat):Int) - 1)).toNat < n) = true;rw [e4];exact i4) ?_)))
   have g1:(mvL P S (r ++ Q) x (t + 1)).getD (((a + (t + 1):Nat):Int)).toNat default = x:=by
    rw [Int.toNat_natCast]
    unfold mvL
    rw [getD_app (i:=t + 1) (by omega),getD_app (i:=0) (by rw [List.length_take];omega)]
    rfl
   have g2:(mvL P S (r ++ Q) x (t + 1)).getD (IntKind.i64.wrap (((a + (t + 1):Nat):Int) - 1)).toNat default = S.getD t default:=by
    rw [e4,Int.toNat_natCast]
    unfold mvL
    rw [getD_app (i:=t) (by omega),getD_app' (by rw [List.length_take];omega)]
    simp only [List.getD,List.getElem?_take]
    rw [if_pos (by omega)]
   refine zG zE (NS.call (hc ((mvL P S (r ++ Q) x (t + 1)).getD (((a + (t + 1):Nat):Int)).toNat default) ((mvL P S (r ++ Q) x (t + 1)).getD (IntKind.i64.wrap (((a + (t + 1):Nat):Int) - 1)).toNat default) (by rw [g1];exact hpx) (by rw [g2];exact hpS _ (by omega))) rfl ?_)
   have ht:decide (cm ((mvL P S (r ++ Q) x (t + 1)).getD (((a + (t + 1):Nat):Int)).toNat default) ((mvL P S (r ++ Q) x (t + 1)).getD (IntKind.i64.wrap (((a + (t + 1):Nat):Int) - 1)).toNat default) < 0) = lt x (S.getD t default):=by rw [hlt,g1,g2]
   refine zG zE (NS.ite (fun q3=>?_) (fun q3=>?_))
   ·have q3:lt x (S.getD t default) = true:=by rw [<- ht];exact q3
    repeat' (first | (refine zG zE (NS.chk (by kernel_rfl) ?_)) | (refine zG zE (NS.need (i1) ?_)) | (refine zG zE (NS.need (i2) ?_)) | (refine zG zE (NS.need (by show decide (0 <= IntKind.i64.wrap (((a + (t + 1):Nat):Int) - 1) /\ IntKind.i64.wrap (((a + (t + 1):Nat):Int) - 1) < (n:Int)) = true;rw [e4];exact i3) ?_)) | (refine zG zE (NS.need (by show decide ((IntKind.i64.wrap (((a + (t + 1):Nat):Int) - 1)).toNat < n) = true;rw [e4];exact i4) ?_)))
    refine zG zE (NS.next ⟨t,by omega,fun _=>q3⟩ (by show t < t + 1;omega) ?_)
    refine weak_hd [] rfl ⟨rfl,rfl,rfl,rfl,rfl,ren_int rfl e4,trivial⟩ ⟨ren_row rfl rfl (fun q1 hq jj hjj=>?_),trivial⟩ (Pre_cut (by kernel_rfl)) (by kernel_rfl)
    have hst:=mvL_down P S (r ++ Q) x (t:=t) (k:=a + t) (by omega) (by omega)
    have hMn:=hmn (t + 1)
    clear g1 g2 ht
    generalize hM:mvL P S (r ++ Q) x (t + 1) = M at *
    have r1:=rowN_set M (a + t + 1) (M.getD (a + t) default) (by omega) q1 jj hjj
    have r2:=rowN_set (M.set (a + t + 1) (M.getD (a + t) default)) (a + t) (M.getD (a + t + 1) default) (by rw [List.length_set];omega) q1 jj hjj
    show _ = rowL nC (mvL P S (r ++ Q) x t) q1 jj
    rw [<- hst]
    unfold swp
    rw [<- r2,<- r1,<- hM]
    simp only [e4]
    rfl
   ·have q3:lt x (S.getD t default) = false:=by rw [<- ht];exact q3
    have hS:Asc lt (S.take (t + 1) ++ x :: S.drop (t + 1)):=asc_one O ht1 k3 (fun _=>by rw [Nat.add_sub_cancel];exact q3) (fun h=>O.asymm _ _ (ht2 h))
    have hSl:(S.take (t + 1) ++ x :: S.drop (t + 1)).length = S.length + 1:=by rw [(one_perm S x (t + 1)).length_eq];rfl
    refine zG zE (NS.leave rfl zE ?_)
    refine zG zE (NS.next ⟨(S.take (t + 1) ++ x :: S.drop (t + 1),r),by simp only;omega,by simp only;omega,hS,((one_perm S x (t + 1)).append_right r).trans ((List.perm_middle (l₁:=S) (a:=x) (l₂:=r)).symm.trans k4)⟩ (by simp only;omega) ?_)
    refine weak_hd [] rfl ⟨rfl,rfl,rfl,rfl,ren_int rfl ?_,trivial⟩ ⟨ren_row rfl rfl (fun i hi j hj=>?_),trivial⟩ (Pre_cut (by kernel_rfl)) (by kernel_rfl)
    ·show IntKind.i64.wrap (((a + S.length:Nat):Int) + 1) = ((a + (S.take (t + 1) ++ x :: S.drop (t + 1)).length:Nat):Int)
     rw [hSl,add1N (by omega)]
     rfl
    ·show rowL nC (mvL P S (r ++ Q) x (t + 1)) i j = rowL nC (P ++ ((S.take (t + 1) ++ x :: S.drop (t + 1)) ++ (r ++ Q))) i j
     unfold mvL
     simp only [List.append_assoc,List.cons_append]
  ·have q2:t = 0:=by
    have q2:decide (((a + t:Nat):Int) > (a:Int)) = false:=q2
    have q2:=of_decide_eq_false q2
    omega
   have hS:Asc lt (S.take t ++ x :: S.drop t):=asc_one O ht1 k3 (fun h=>by omega) (fun h=>O.asymm _ _ (ht2 h))
   have hSl:(S.take t ++ x :: S.drop t).length = S.length + 1:=by rw [(one_perm S x t).length_eq];rfl
   refine zG zE (NS.leave rfl zE ?_)
   refine zG zE (NS.next ⟨(S.take t ++ x :: S.drop t,r),by simp only;omega,by simp only;omega,hS,((one_perm S x t).append_right r).trans ((List.perm_middle (l₁:=S) (a:=x) (l₂:=r)).symm.trans k4)⟩ (by simp only;omega) ?_)
   refine weak_hd [] rfl ⟨rfl,rfl,rfl,rfl,ren_int rfl ?_,trivial⟩ ⟨ren_row rfl rfl (fun i hi j hj=>?_),trivial⟩ (Pre_cut (by kernel_rfl)) (by kernel_rfl)
   ·show IntKind.i64.wrap (((a + S.length:Nat):Int) + 1) = ((a + (S.take t ++ x :: S.drop t).length:Nat):Int)
    rw [hSl,add1N (by omega)]
    rfl
   ·show rowL nC (mvL P S (r ++ Q) x t) i j = rowL nC (P ++ ((S.take t ++ x :: S.drop t) ++ (r ++ Q))) i j
    unfold mvL
    simp only [List.append_assoc,List.cons_append]
 ·have q:r = []:=by
   have q:decide (((a + S.length:Nat):Int) < (b:Int)) = false:=q
   have q:=of_decide_eq_false q
   exact List.eq_nil_of_length_eq_zero (by omega)
  subst q
  have hSW:S = W:=O.uniq (fun x hx=>hpu x (k4.subset (by simp [hx]))) (by rw [List.append_nil] at k4;exact k4.trans hw.symm) k3 haw
  subst hSW hF
  refine zG zE (NS.leave rfl zE ?_)
  exact zG zE (NS.fin (ts:=[]) rfl (weak_hd [] rfl trivial ⟨ren_row rfl rfl (fun _ _ _ _=>rfl),trivial⟩ (Pre_cut (by kernel_rfl)) (by kernel_rfl)) rfl (LeA.refl _))
end
end Go.Proofs.YtggjngbighkdgaaGreat
namespace Go.Proofs.YtggjngbighkdgaaGreat
open Go.Sy Go.Mb
set_option maxRecDepth 100000
set_option maxHeartbeats 4000000
theorem cmpL_eq:∀ (l m:List Int),l.length = m.length -> ¬ cmpL l m < 0 -> ¬ cmpL m l < 0 -> l = m
 | [],[],_,_,_=>rfl
 | a :: l,b :: m,h,h1,h2=>by
  have hab:a = b:=by
   simp only [cmpL] at h1 h2
   by_cases e:a = b
   ·exact e
   ·rw [if_pos (by rw [bne_iff_ne,ne_eq,cmpI_zero];exact e),cmpI_lt] at h1
    rw [if_pos (by rw [bne_iff_ne,ne_eq,cmpI_zero];exact fun e'=>e e'.symm),cmpI_lt] at h2
    omega
  subst hab
  have hz:cmpI a a = 0:=(cmpI_zero a a).2 rfl
  simp only [cmpL,hz,bne_self_eq_false,Bool.false_eq_true,if_false] at h1 h2
  rw [cmpL_eq l m (by simpa using h) h1 h2]
 | [],_ :: _,h,_,_=>by simp at h
 | _ :: _,[],h,_,_=>by simp at h
theorem key_id {a b:Itm} (h1:¬ cmpItm a b < 0) (h2:¬ cmpItm b a < 0):a.id = b.id:=by
 rw [cmpItm_key] at h1 h2
 have h:=cmpL_eq _ _ (keyI_len a b) h1 h2
 unfold keyI idL at h
 simp only [List.cons.injEq,and_true] at h
 obtain ⟨_,_,e1,e2,e3,e4,e5⟩:=h
 cases ha:a.id
 cases hb:b.id
 rw [ha,hb] at e1 e2 e3 e4 e5
 simp only at e1 e2 e3 e4 e5
 subst e1 e2 e3 e4 e5
 rfl
theorem ordOn {d:Dur} (h:Uniq d.items):OrdOn (ltD d) (fun x=>0 <= x /\ x < d.items.length):=by
 refine ⟨fun x y=>ltD_asymm d x y,fun x y z=>ltD_trans d x y z,fun x y hx hy h1 h2=>?_⟩
 unfold ltD at h1 h2
 have e:=key_id (of_decide_eq_false h1) (of_decide_eq_false h2)
 rw [uniq_get] at h
 rw [getD_lt (by omega),getD_lt (by omega)] at e
 rcases Nat.lt_trichotomy x.toNat y.toNat with q | q | q
 ·exact absurd e (h _ _ (by omega) (by omega) q)
 ·omega
 ·exact absurd e.symm (h _ _ (by omega) (by omega) q)
noncomputable def EOA:Env:={ P:=Tryz.prog,eqT:=lookE eqTab,mu:=[242,243] }
theorem EOA_ok:EqOK EOA:=eqOK_of eqTab_ok
noncomputable def COA:Cx:={ E:=EOA,inl:=[195,233],ok:=EOA_ok }
theorem orderA_ok (d:Dur) (hq:Uniq d.items) (h1:d.items.length <= 900000):FnOK Tryz.prog 145 [.agg d.cells] (.own 0,some (.row 3 1 d.items.length (rowL nC (ordR (ltD d) d.items.length)))):=by
 have O:=ordOn hq
 have hc:∀ x y:Int,(0 <= x /\ x < d.items.length) -> (0 <= y /\ y < d.items.length) -> FnOK Tryz.prog 196 [.int .i64 x,.int .i64 y,.ip 2 (getA d.cells)] (.int .i64 (cmpItm (d.items.getD x.toNat default) (d.items.getD y.toNat default)),none):=fun x y hx hy=>order1_okI d x y hx hy
 have hlt:∀ x y,ltD d x y = decide (cmpItm (d.items.getD x.toNat default) (d.items.getD y.toNat default) < 0):=fun _ _=>rfl
 obtain ⟨hs1,hs2⟩:=ordR_sorted (ltD_asymm d) (ltD_trans d) d.items.length
 have hfin:∀ L:List Int,L.Perm (upto 0 d.items.length) -> Asc (ltD d) L -> L = ordR (ltD d) d.items.length:=fun L h2 h3=>O.uniq (fun x hx=>upto_mem (h2.subset hx)) (h2.trans hs2.symm) h3 hs1
 generalize hn:d.items.length = n at *
 generalize ordR (ltD d) n = F at *
 have hpm:∀ L:List Int,L.Perm (upto 0 n) -> ∀ x ∈ L,(0 <= x /\ x < (n:Int)):=fun L h x hx=>upto_mem (h.subset hx)
 have hpl:∀ L:List Int,L.Perm (upto 0 n) -> L.length = n:=fun L h=>by rw [h.length_eq,upto_len];rfl
 refine fn_ok COA rfl (by kernel_rfl) Tryz.func145 rfl ?_
 refine zG zE (NS.need (decide_eq_true (by simp only [maxRow];simp only [hn];omega)) ?_)
 refine zG zE ?_
 refine NS.loop (σ:={ k:Nat // k <= n }) (fun k=>[(1,.ptr 1 0),(2,.nils),(3,.own 8),(10,.int .i64 n),(11,.int .i64 k.1)]) (fun k=>[(1,.box d.cells),(8,.row 3 1 n (rowL nC (fillL k.1 n)))]) (fun k=>n - k.1) ⟨0,Nat.zero_le _⟩ ?_ ?_
 ·refine weak_hd [] rfl ⟨rfl,rfl,rfl,ren_int rfl (by rw [hn];rfl),rfl,trivial⟩ ⟨⟨_,rfl,_,_,rfl,rfl,_,_,rfl,rfl,rfl⟩,ren_row rfl (by rw [hn];rfl) fun i hi j hj=>?_,trivial⟩ trivial (by kernel_rfl)
  obtain rfl:j = 0:=by omega
  have e0:(fillL 0 n).getD i default = 0:=by
   unfold fillL
   rw [upto_end (Nat.le_refl _)]
   simp [List.getD,hi]
  show A.int .i64 0 = A.int .i64 ((fillL 0 n).getD i default)
  rw [e0]
 rintro ⟨k,hk⟩
 have hk:k <= n:=hk
 refine zG zE (NS.ite (fun h=>?_) (fun h=>?_))
 ·have h:k < n:=by have h:decide ((k:Int) < (n:Int)) = true:=h;have h:=of_decide_eq_true h;omega
  refine zG zE (NS.need (in_row h) ?_)
  refine zG zE (NS.need (in_row' h) ?_)
  refine zG zE (NS.next ⟨k + 1,h⟩ (by show n - (k + 1) < n - k;omega) ?_)
  refine weak_hd [] rfl ⟨rfl,rfl,rfl,rfl,ren_int rfl (add1N (a:=k) (by omega)),trivial⟩ ⟨⟨_,rfl,_,_,rfl,rfl,_,_,rfl,rfl,rfl⟩,ren_row rfl rfl fun i hi j hj=>?_,trivial⟩ trivial (by kernel_rfl)
  have hs:=rowN_set (fillL k n) k k (by rw [fillL_len hk];omega) i j hj
  rw [fillL_step h] at hs
  exact hs
 have h:k = n:=by have h:decide ((k:Int) < (n:Int)) = false:=h;have h:=of_decide_eq_false h;omega
 subst h
 refine zG zE (NS.leave rfl zE ?_)
 rw [fillL_all]
 refine Sat.wk (weak_freezeP 1 1 2 rfl rfl rfl rfl) ?_
 refine Sat.wk (WeakL.keep 20 [8] (by kernel_rfl)).weak ?_
 refine zG zE ?_
 refine NS.loop (σ:={ q:List (List Int) × List Int // (∀ u ∈ q.1,u.length = 20 /\ Asc (ltD d) u) /\ (q.1.flatten ++ q.2).Perm (upto 0 k) }) (fun q=>[(0,.own 8),(1,.int .i64 k),(2,.fn 196 [.ip 2 (getA d.cells)]),(6,.int .i64 20),(7,.int .i64 (q.1.1.flatten.length:Nat)),(8,.int .i64 (q.1.1.flatten.length + 20:Nat))]) (fun q=>[(8,rowI k (q.1.1.flatten ++ q.1.2))]) (fun q=>q.1.2.length) ⟨([],upto 0 k),by simp,by simp⟩ ?_ ?_
 ·exact weak_hd [] rfl ⟨rfl,rfl,rfl,rfl,rfl,rfl,trivial⟩ ⟨ren_row rfl rfl fun _ _ _ _=>rfl,trivial⟩ (Pre_cut (by kernel_rfl)) (by kernel_rfl)
 rintro ⟨⟨bl,R⟩,b1,b2⟩
 simp only at b1 b2
 have hl:=hpl _ b2
 rw [List.length_append] at hl
 have hp:=hpm _ b2
 refine zG zE (NS.ite (fun q=>?_) (fun q=>?_))
 ·have q:bl.flatten.length + 20 <= k:=by have q:decide (((bl.flatten.length + 20:Nat):Int) <= (k:Int)) = true:=q;have q:=of_decide_eq_true q;omega
  obtain ⟨u,R,rfl,hu⟩:=cut_at (l:=R) (k:=20) (by omega)
  obtain ⟨W,w1,w2⟩:=O.sort u
  rw [List.length_append] at hl
  have hW:=w1.length_eq
  refine zG zE (NS.inn (P:=Tryz.prog) (vals:=[.own 8,.int .i64 (bl.flatten.length:Nat),.int .i64 (bl.flatten.length + 20:Nat),.fn 196 [.ip 2 (getA d.cells)]]) (objs1:=oL k (bl.flatten ++ (u ++ R))) (WeakL.keep 20 [8] (by kernel_rfl)) (by kernel_rfl) (LeL.refl _) (by kernel_rfl) (ins_ok O hc hlt (by omega) bl.flatten u R W hp (by omega) w1 w2 _ _ rfl (by omega)) rfl ?_)
  have hfl:(bl ++ [W]).flatten = bl.flatten ++ W:=by simp
  refine zG zE (NS.next ⟨(bl ++ [W],R),fun x hx=>?_,?_⟩ (by simp only [List.length_append];omega) ?_)
  ·rcases List.mem_append.1 hx with hx | hx
   ·exact b1 x hx
   ·obtain rfl:=List.mem_singleton.1 hx
    exact ⟨by omega,w2⟩
  ·simp only [hfl,List.append_assoc]
   exact ((w1.append_right R).append_left bl.flatten).trans b2
  ·refine weak_hd [] rfl ⟨rfl,rfl,rfl,rfl,ren_int rfl ?_,ren_int rfl ?_,trivial⟩ ⟨ren_row rfl rfl fun i hi j hj=>?_,trivial⟩ (Pre_cut (by kernel_rfl)) (by kernel_rfl)
   ·show ((bl.flatten.length + 20:Nat):Int) = (((bl ++ [W]).flatten.length:Nat):Int)
    rw [hfl,List.length_append];omega
   ·show IntKind.i64.wrap (((bl.flatten.length + 20:Nat):Int) + 20) = (((bl ++ [W]).flatten.length + 20:Nat):Int)
    rw [hfl,List.length_append,wrap_i64 (by omega) (by omega)];omega
   ·show rowL nC (bl.flatten ++ (W ++ R)) i j = rowL nC ((bl ++ [W]).flatten ++ R) i j
    rw [hfl,List.append_assoc]
 have q:k < bl.flatten.length + 20:=by have q:decide (((bl.flatten.length + 20:Nat):Int) <= (k:Int)) = false:=q;have q:=of_decide_eq_false q;omega
 obtain ⟨W,w1,w2⟩:=O.sort R
 have hW:=w1.length_eq
 have hI:=ins_ok (n:=k) O hc hlt (by omega) bl.flatten R [] W (by rw [List.append_nil];exact hp) (by simp only [List.length_nil];omega) w1 w2 bl.flatten.length k rfl (by omega)
 simp only [List.append_nil] at hI
 refine zG zE (NS.leave rfl zE ?_)
 refine zG zE (NS.inn (P:=Tryz.prog) (vals:=[.own 8,.int .i64 (bl.flatten.length:Nat),.int .i64 k,.fn 196 [.ip 2 (getA d.cells)]]) (objs1:=oL k (bl.flatten ++ R)) (WeakL.keep 20 [8] (by kernel_rfl)) (by kernel_rfl) (LeL.refl _) (by kernel_rfl) hI rfl ?_)
 have hB:Blk (ltD d) 20 (bl.flatten ++ W):=Blk.append (.last W (by omega) w2) b1
 have hP:(bl.flatten ++ W).Perm (upto 0 k):=(w1.append_left _).trans b2
 refine zG zE ?_
 refine NS.loop (σ:={ q:Nat × List Int // (0 < q.1 /\ q.1 <= 2000000) /\ Blk (ltD d) q.1 q.2 /\ q.2.Perm (upto 0 k) }) (fun q=>[(0,.own 8),(1,.int .i64 k),(2,.fn 196 [.ip 2 (getA d.cells)]),(6,.int .i64 (q.1.1:Nat))]) (fun q=>[(8,rowI k q.1.2)]) (fun q=>k - q.1.1) ⟨(20,bl.flatten ++ W),⟨by simp only;omega,by simp only;omega⟩,hB,hP⟩ ?_ ?_
 ·exact weak_hd [] rfl ⟨rfl,rfl,rfl,rfl,trivial⟩ ⟨ren_row rfl rfl fun _ _ _ _=>rfl,trivial⟩ (Pre_cut (by kernel_rfl)) (by kernel_rfl)
 rintro ⟨⟨bs,L⟩,⟨s1,s2⟩,hB,hP⟩
 simp only at s1 s2 hB hP
 refine zG zE (NS.ite (fun q=>?_) (fun q=>?_))
 ·have q:bs < k:=by have q:decide ((bs:Int) < (k:Int)) = true:=q;have q:=of_decide_eq_true q;omega
  refine zG zE ?_
  refine NS.loop (σ:={ q:List (List Int) × List Int // (∀ u ∈ q.1,u.length = 2 * bs /\ Asc (ltD d) u) /\ Blk (ltD d) bs q.2 /\ (q.1.flatten ++ q.2).Perm (upto 0 k) }) (fun q=>[(0,.own 8),(1,.int .i64 k),(2,.fn 196 [.ip 2 (getA d.cells)]),(6,.int .i64 (bs:Nat)),(7,.int .i64 (q.1.1.flatten.length:Nat)),(8,.int .i64 (q.1.1.flatten.length + 2 * bs:Nat))]) (fun q=>[(8,rowI k (q.1.1.flatten ++ q.1.2))]) (fun q=>q.1.2.length) ⟨([],L),by simp,hB,by simpa using hP⟩ ?_ ?_
  ·refine weak_hd [] rfl ⟨rfl,rfl,rfl,rfl,rfl,ren_int rfl ?_,trivial⟩ ⟨ren_row rfl rfl fun _ _ _ _=>rfl,trivial⟩ (Pre_cut (by kernel_rfl)) (by kernel_rfl)
   show IntKind.i64.wrap (2 * (bs:Int)) = ((([]:List (List Int)).flatten.length + 2 * bs:Nat):Int)
   rw [wrap_i64 (by omega) (by omega)]
   simp
  rintro ⟨⟨bl,R⟩,b1,hB,b2⟩
  simp only at b1 b2 hB
  have hl:=hpl _ b2
  rw [List.length_append] at hl
  have hp:=hpm _ b2
  have ebs:=addN (a:=bl.flatten.length) (b:=bs) (by omega)
  refine zG zE (NS.ite (fun q2=>?_) (fun q2=>?_))
  ·have q2:bl.flatten.length + 2 * bs <= k:=by have q2:decide (((bl.flatten.length + 2 * bs:Nat):Int) <= (k:Int)) = true:=q2;have q2:=of_decide_eq_true q2;omega
   obtain ⟨u,r,rfl,hu,au,hB⟩:=hB.full (by omega)
   rw [List.length_append] at hl
   obtain ⟨v,R,rfl,hv,av,hB⟩:=hB.full (by omega)
   rw [List.length_append] at hl
   obtain ⟨W,w1,w2⟩:=O.sort (u ++ v)
   have hW:=w1.length_eq
   rw [List.length_append] at hW
   refine zG zE (NS.inn (P:=Tryz.prog) (vals:=[.own 8,.int .i64 (bl.flatten.length:Nat),.int .i64 (bl.flatten.length + bs:Nat),.int .i64 (bl.flatten.length + 2 * bs:Nat),.fn 196 [.ip 2 (getA d.cells)]]) (objs1:=oL k (bl.flatten ++ (u ++ (v ++ R)))) (WeakL.keep 20 [8] (by kernel_rfl)) (by kernel_rfl) (LeL.cons (LeA.refl _) (LeL.cons (LeA.refl _) (LeL.cons (LeA.of (congrArg (A.int .i64) ebs)) (LeL.refl _)))) (by kernel_rfl) (sym_ok O hc hlt (by omega) (2 * bs) bl.flatten u v R W (by omega) (by omega) (by omega) hp (by omega) au av w1 w2 _ _ _ rfl (by omega) (by omega)) rfl ?_)
   have hfl:(bl ++ [W]).flatten = bl.flatten ++ W:=by simp
   refine zG zE (NS.next ⟨(bl ++ [W],R),fun x hx=>?_,hB,?_⟩ (by simp only [List.length_append];omega) ?_)
   ·rcases List.mem_append.1 hx with hx | hx
    ·exact b1 x hx
    ·obtain rfl:=List.mem_singleton.1 hx
     exact ⟨by omega,w2⟩
   ·simp only [hfl,List.append_assoc]
    refine ((w1.append_right R).append_left bl.flatten).trans ?_
    rw [List.append_assoc]
    exact b2
   ·refine weak_hd [] rfl ⟨rfl,rfl,rfl,rfl,ren_int rfl ?_,ren_int rfl ?_,trivial⟩ ⟨ren_row rfl rfl fun i hi j hj=>?_,trivial⟩ (Pre_cut (by kernel_rfl)) (by kernel_rfl)
    ·show ((bl.flatten.length + 2 * bs:Nat):Int) = (((bl ++ [W]).flatten.length:Nat):Int)
     rw [hfl,List.length_append];omega
    ·show IntKind.i64.wrap (((bl.flatten.length + 2 * bs:Nat):Int) + IntKind.i64.wrap (2 * (bs:Int))) = (((bl ++ [W]).flatten.length + 2 * bs:Nat):Int)
     rw [hfl,List.length_append,wrap_i64 (n:=2 * (bs:Int)) (by omega) (by omega),wrap_i64 (by omega) (by omega)];omega
    ·show rowL nC (bl.flatten ++ (W ++ R)) i j = rowL nC ((bl ++ [W]).flatten ++ R) i j
     rw [hfl,List.append_assoc]
  have q2:k < bl.flatten.length + 2 * bs:=by have q2:decide (((bl.flatten.length + 2 * bs:Nat):Int) <= (k:Int)) = false:=q2;have q2:=of_decide_eq_false q2;omega
  by_cases q3:R.length <= bs
  ·refine zG zE (NS.leave rfl zE ?_)
   refine zG zE (NS.no (by show decide (IntKind.i64.wrap (((bl.flatten.length:Nat):Int) + (bs:Int)) < (k:Int)) = false;rw [ebs];exact decide_eq_false (by omega)) ?_)
   refine zG zE (NS.next ⟨(bs * 2,bl.flatten ++ R),⟨by omega,by omega⟩,Blk.append (.last R (by omega) (hB.one q3)) (fun u hu=>⟨by have:=(b1 u hu).1;omega,(b1 u hu).2⟩),b2⟩ (by show k - bs * 2 < k - bs;omega) ?_)
   exact weak_hd [] rfl ⟨rfl,rfl,rfl,ren_int rfl (by show IntKind.i64.wrap ((bs:Int) * 2) = ((bs * 2:Nat):Int);rw [wrap_i64 (by omega) (by omega)];omega),trivial⟩ ⟨ren_row rfl rfl fun _ _ _ _=>rfl,trivial⟩ (Pre_cut (by kernel_rfl)) (by kernel_rfl)
  ·obtain ⟨u,v,rfl,hu,au,hB⟩:=hB.two (by omega)
   rw [List.length_append] at hl q3
   have av:=hB.one (by omega)
   obtain ⟨W,w1,w2⟩:=O.sort (u ++ v)
   have hW:=w1.length_eq
   rw [List.length_append] at hW
   have hI:=sym_ok (n:=k) O hc hlt (by omega) (2 * bs) bl.flatten u v [] W (by omega) (by omega) (by omega) (by rw [List.append_nil];exact hp) (by simp only [List.length_nil];omega) au av w1 w2 bl.flatten.length (bl.flatten.length + bs) k rfl (by omega) (by omega)
   simp only [List.append_nil] at hI
   refine zG zE (NS.leave rfl zE ?_)
   refine zG zE (NS.yes (by show decide (IntKind.i64.wrap (((bl.flatten.length:Nat):Int) + (bs:Int)) < (k:Int)) = true;rw [ebs];exact decide_eq_true (by omega)) ?_)
   refine zG zE (NS.inn (P:=Tryz.prog) (vals:=[.own 8,.int .i64 (bl.flatten.length:Nat),.int .i64 (bl.flatten.length + bs:Nat),.int .i64 k,.fn 196 [.ip 2 (getA d.cells)]]) (objs1:=oL k (bl.flatten ++ (u ++ v))) (WeakL.keep 20 [8] (by kernel_rfl)) (by kernel_rfl) (LeL.cons (LeA.refl _) (LeL.cons (LeA.refl _) (LeL.cons (LeA.of (congrArg (A.int .i64) ebs)) (LeL.refl _)))) (by kernel_rfl) hI rfl ?_)
   refine zG zE (NS.next ⟨(bs * 2,bl.flatten ++ W),⟨by omega,by omega⟩,Blk.append (.last W (by omega) w2) (fun u hu=>⟨by have:=(b1 u hu).1;omega,(b1 u hu).2⟩),(w1.append_left _).trans b2⟩ (by show k - bs * 2 < k - bs;omega) ?_)
   exact weak_hd [] rfl ⟨rfl,rfl,rfl,ren_int rfl (by show IntKind.i64.wrap ((bs:Int) * 2) = ((bs * 2:Nat):Int);rw [wrap_i64 (by omega) (by omega)];omega),trivial⟩ ⟨ren_row rfl rfl fun _ _ _ _=>rfl,trivial⟩ (Pre_cut (by kernel_rfl)) (by kernel_rfl)
 ·have q:k <= bs:=by have q:decide ((bs:Int) < (k:Int)) = false:=q;have q:=of_decide_eq_false q;omega
  have hL:=hfin L hP (hB.one (by rw [hpl L hP];exact q))
  subst hL
  refine zG zE (NS.leave rfl zE ?_)
  exact zG zE (NS.retRow 8 rfl rfl (LeA.refl _) ⟨rfl,rfl,rfl,fun _ _ _ _=>rfl⟩ fun _ _ _ _=>flatN _ _ _)
def rem5 (x:Itm):Mb.Act:=⟨5,x,0,0⟩
def remsA (t:Int) (l:List Itm):List Mb.Act:=(l.filter (expd t)).map rem5
def wait4 (d:Dur) (i:Int):Mb.Act:=⟨4,d.items.getD i.toNat default,0,0⟩
def waitA (d:Dur):List Mb.Act:=(ordR (ltD d) d.items.length).map (wait4 d)
def readN (n:Nod):Nod:=⟨n.self,n.quota,true,n.jour.extract 0 (durM n.jour).2.1,((durM n.jour).2.1:Nat),(durM n.jour).1,[]⟩
def recsM (n:Nod) (t:Int):List Jrec:=expRecs t (durM n.jour).1.items
def upD (n:Nod) (t:Int):Dur:=⟨keep (expd t) (durM n.jour).1.items,(durM n.jour).1.inbox⟩
def restM (n:Nod) (t:Int):Nod × List Mb.Act × Int:=
 if chkN n != 0 then (zeroN,[],1) else if n.up then (zeroN,[],19) else if decide (t < 0) || decide (t > 1099511627776) then (zeroN,[],2)
 else if decide (usedM (durM n.jour).1.items > n.quota) then (zeroN,[],15)
 else if (appM (ls (readN n).jour) (recsM n t)).2 != 0 then (zeroN,[],4)
 else ({ readN n with jour:=bs (appM (ls (readN n).jour) (recsM n t)).1,dur:=upD n t },remsA t (durM n.jour).1.items ++ waitA (upD n t),0)
noncomputable def CRS:Cx:={ E:=EF,inl:=[88,90,91,144],ok:=EF_ok }
theorem zero_ret {r:Nod × List Mb.Act × Int} {e:Int} {a:List A} {x z:A} (h:r = (zeroN,[],e)) (ha:a = [.int .i64 0,.int .i64 0,.bool false,.str .empty,.int .i64 0,.nils,.nils,.nils]) (hx:x = .nils) (hz:LeA z (.int .i64 e)):LeA (.tup [.agg a,x,z]) (nodA r):=by
 subst h hx
 exact LeA.tup3 (zeroN_le ha) (LeA.nil' rfl) hz
theorem remsA_snoc (t:Int) {l:List Itm} {k:Nat} (h:k < l.length):remsA t (l.take (k + 1)) = remsA t (l.take k) ++ (if expd t (l.getD k default) then [rem5 (l.getD k default)] else []):=by
 unfold remsA
 rw [filter_snoc h,List.map_append]
 split <;> rfl
theorem remsA_len (t:Int) (l:List Itm) (k:Nat):(remsA t (l.take k)).length <= l.length:=by
 unfold remsA
 rw [List.length_map]
 exact Nat.le_trans (List.length_filter_le _ _) (by simp;omega)
structure JD (n:Nod):Prop where
 err:(durM n.jour).2.2 = 0
 good:Good (durM n.jour).1
 len:(durM n.jour).2.1 <= n.jour.size
 size:n.jour.size <= 65536
 items:(durM n.jour).1.items.length <= 65536
 inbox:(durM n.jour).1.inbox.length <= 65536
theorem rdJ_num (s:ByteArray) (h:s.size <= 65536):(rdJ (ls s)).1.length <= 65536:=by
 have h1:=rdJA_len (ls s)
 have h2:=ls_len s
 unfold rdJA at h1
 rw [if_neg (by rw [decide_eq_true_eq];omega)] at h1
 exact h1
theorem jd_of {n:Nod} (h:chkN n = 0):JD n:=by
 obtain ⟨_,_,h3,_⟩:=chkN_last h
 obtain ⟨e,_,_,g⟩:=durM_ok (s:=n.jour) h3
 obtain ⟨l1,_⟩:=rdJ_le (ls n.jour).length rfl (ls_lt n.jour)
 rw [ls_len] at l1
 have hn:=rdJ_num n.jour (by omega)
 obtain ⟨i1,i2⟩:=effs_len (rdJ (ls n.jour)).1 ⟨[],[]⟩
 have z:(([]:List Itm)).length = 0:=rfl
 simp only [z] at i1 i2
 exact ⟨by rw [e],by rw [e];exact g,by rw [e];exact l1,by omega,by rw [e];show (effs _ _).items.length <= _;omega,by rw [e];show (effs _ _).inbox.length <= _;omega⟩
theorem appM_err {s:List Nat} {l:List Jrec} (h:∀ r ∈ l,recErr r = 0):(appM s l).2 = 0 \/ (appM s l).2 = 4:=by
 have hj:∀ (l:List Jrec) (s:List Nat),(∀ r ∈ l,recErr r = 0) -> (appJ s l).2 = 0 \/ (appJ s l).2 = 4:=by
  intro l
  induction l with
  | nil=>exact fun s _=>.inl rfl
  | cons r l ih=>
   intro s h
   unfold appJ
   split
   ·rename_i q
    right
    unfold encRM at q ⊢
    rw [if_neg (by rw [h r (by simp)];decide)] at q ⊢
    split at q
    ·rename_i q2;rw [if_pos q2]
    ·cases q
   ·exact ih _ fun x hx=>h x (List.mem_cons_of_mem _ hx)
 unfold appM
 split
 ·exact hj l s h
 ·split
  ·exact .inr rfl
  ·exact .inl rfl
theorem apply_good {d:Dur} {r:Jrec} (hd:Good d) (hr:recErr r = 0):applyM d r = (effM d r,0):=by
 unfold applyM
 rw [(good_iff d).2 hd,hr]
 rfl
theorem readN_sz {n:Nod} (h:n.jour.size <= 65536):(readN n).jour.size <= 100000:=by
 have h2:=ls_len (readN n).jour
 show (n.jour.extract 0 (durM n.jour).2.1).size <= _
 rw [<- ls_len,ls_extract,List.drop_zero,List.length_take,ls_len]
 omega
theorem recRest_ok (n:Nod) (t:Int) (h1:n.dur.items.length <= 1000000) (h2:n.dur.inbox.length <= 1000000) (h3:n.ofs.length <= 1000000):FnOK Tryz.prog 56 [.agg n.cells,.int .i64 t] (nodA (restM n t),none):=by
 obtain ⟨R,hR⟩:∃ R,R = restM n t:=⟨_,rfl⟩
 rw [<- hR]
 unfold restM at hR
 refine fn_ok CRS rfl (by kernel_rfl) Tryz.func56 rfl ?_
 refine zG zE (NS.call (nCheck_ok n h1 h2 h3) rfl ?_)
 refine zG zE (NS.ite (fun a1=>?_) (fun a1=>?_))
 ·rw [if_pos a1] at hR
  exact zG zE (NS.ret rfl rfl (zero_ret hR rfl rfl (LeA.refl _)))
 have hc:chkN n = 0:=by have a1:(chkN n != 0) = false:=a1;simpa using a1
 rw [if_neg (by rw [a1];decide)] at hR
 refine zG zE (NS.ite (fun a2=>?_) (fun a2=>?_))
 ·rw [if_pos a2] at hR
  exact zG zE (NS.ret rfl rfl (zero_ret hR rfl rfl (LeA.refl _)))
 rw [if_neg (by rw [show n.up = false from a2];decide)] at hR
 refine zG zE (NS.ite (fun a3=>?_) (fun a3=>?_))
 ·rw [if_pos (by rw [show decide (t < 0) = true from a3];rfl)] at hR
  exact zG zE (NS.ret rfl rfl (zero_ret hR rfl rfl (LeA.refl _)))
 refine zG zE (NS.ite (fun a4=>?_) (fun a4=>?_))
 ·rw [if_pos (by rw [show decide (t < 0) = false from a3,show decide (t > 1099511627776) = true from a4];rfl)] at hR
  exact zG zE (NS.ret rfl rfl (zero_ret hR rfl rfl (LeA.refl _)))
 have ht:inR t 0 1099511627776 = true:=by
  have a3:decide (t < 0) = false:=a3
  have a4:decide (t > 1099511627776) = false:=a4
  rw [inR_iff]
  simp only [decide_eq_false_iff_not] at a3 a4
  omega
 rw [if_neg (by rw [show decide (t < 0) = false from a3,show decide (t > 1099511627776) = false from a4];decide)] at hR
 obtain ⟨j1,j2,j3,j4,j5,j6⟩:=jd_of hc
 refine zG zE (NS.call (recDur_ok n.jour) rfl ?_)
 refine zG zE (NS.no (by rw [j1];rfl) ?_)
 refine zG zE (NS.chk (by kernel_rfl) ?_)
 refine zG zE (NS.call (used_ok (durM n.jour).1 (by omega)) rfl ?_)
 refine zG zE (NS.ite (fun a6=>?_) (fun a6=>?_))
 ·rw [if_pos a6] at hR
  refine zG zE (NS.yes (rfl) ?_)
  exact zG zE (NS.ret rfl rfl (zero_ret hR rfl rfl (LeA.refl _)))
 rw [if_neg (by rw [show decide (usedM (durM n.jour).1.items > n.quota) = false from a6];decide)] at hR
 have hex:expireM (durM n.jour).1 t = (recsM n t,0):=by
  unfold expireM
  rw [(good_iff _).2 j2,ht]
  rfl
 have hvr:∀ r ∈ recsM n t,recErr r = 0:=expRecs_ok j2 ht
 have hlw:effs (recsM n t) (durM n.jour).1 = upD n t:=expired_law j2
 refine zG zE (NS.chk (by kernel_rfl) ?_)
 refine zG zE (NS.need (decide_eq_true (by omega)) ?_)
 refine zG zE (NS.no (rfl) ?_)
 refine zG zE ?_
 refine NS.loop (σ:={ k:Nat // k <= (durM n.jour).1.items.length }) (fun k=>[(1,.int .i64 t),(4,.ptr 4 0),(7,.ptr 32 0),(9,.ptr 9 0),(44,slItm (durM n.jour).1.items),(45,.int .i64 (durM n.jour).1.items.length),(46,.int .i64 (k.1:Nat))]) (fun k=>[(4,.box [.junk,.junk,.junk,.junk,.junk,.junk,.junk,.junk]),(9,.box [.own 33]),(32,.box (readN n).cells),(33,rowAct (remsA t ((durM n.jour).1.items.take k.1)))]) (fun k=>(durM n.jour).1.items.length - k.1) ⟨0,Nat.zero_le _⟩ ?_ ?_
 ·refine (weak_promoteB 9 0 33 63 14 (rowL Mb.Act.cells []) rfl rfl rfl).trans ?_
  refine (weak_box 32 (cells':=(readN n).cells) rfl (LeL.cons (LeA.refl _) (LeL.cons (LeA.refl _) (LeL.cons (LeA.kb _) (LeL.cons (LeA.refl _) (LeL.cons (LeA.refl _) (LeL.cons (LeA.refl _) (LeL.cons (LeA.refl _) (LeL.cons (LeA.nil' rfl) LeL.nil))))))))).trans ?_
  exact weak_hd [] rfl ⟨rfl,rfl,rfl,rfl,rfl,rfl,rfl,trivial⟩ ⟨⟨_,rfl,⟨_,_,rfl,trivial,_,_,rfl,trivial,_,_,rfl,trivial,_,_,rfl,trivial,_,_,rfl,trivial,_,_,rfl,trivial,_,_,rfl,trivial,_,_,rfl,trivial,rfl⟩⟩,⟨_,rfl,_,_,rfl,rfl,rfl⟩,⟨_,rfl,renNod _ _⟩,ren_row rfl rfl fun _ _ _ _=>rfl,trivial⟩ trivial (by kernel_rfl)
 rintro ⟨k,hk⟩
 have hk:k <= (durM n.jour).1.items.length:=hk
 have hlen:=remsA_len t (durM n.jour).1.items k
 refine zG zE (NS.ite (fun b1=>?_) (fun b1=>?_))
 ·have b1:k < (durM n.jour).1.items.length:=by simpa using b1
  have hsn:=remsA_snoc t b1
  refine zG zE (NS.need (by simp;omega) ?_)
  refine zG zE (NS.ite (fun b2=>?_) (fun b2=>?_))
  ·have b2:expd t ((durM n.jour).1.items.getD k default) = true:=b2
   rw [if_pos b2] at hsn
   refine zG zE (NS.need (decide_eq_true (by simp only [maxRow];omega)) ?_)
   refine zG zE (NS.next ⟨k + 1,b1⟩ (by show (durM n.jour).1.items.length - (k + 1) < (durM n.jour).1.items.length - k;omega) ?_)
   exact weak_hd [(33,58)] rfl ⟨rfl,rfl,rfl,rfl,rfl,rfl,ren_int rfl (i64_k (k:=k) (n:=(durM n.jour).1.items.length) b1 (by omega)),trivial⟩ ⟨⟨_,rfl,⟨_,_,rfl,trivial,_,_,rfl,trivial,_,_,rfl,trivial,_,_,rfl,trivial,_,_,rfl,trivial,_,_,rfl,trivial,_,_,rfl,trivial,_,_,rfl,trivial,rfl⟩⟩,⟨_,rfl,_,_,rfl,rfl,rfl⟩,⟨_,rfl,renNod _ _⟩,ren_row rfl (by rw [hsn];simp) (fun q hq j hj=>by rw [hsn] at hq ⊢;exact row_snoc (cells:=Mb.Act.cells) (x:=rem5 ((durM n.jour).1.items.getD k default)) rfl q (by simpa using hq) j hj),trivial⟩ trivial (by kernel_rfl)
  ·have b2:expd t ((durM n.jour).1.items.getD k default) = false:=b2
   rw [if_neg (by rw [b2];decide),List.append_nil] at hsn
   refine zG zE (NS.next ⟨k + 1,b1⟩ (by show (durM n.jour).1.items.length - (k + 1) < (durM n.jour).1.items.length - k;omega) ?_)
   exact weak_hd [] rfl ⟨rfl,rfl,rfl,rfl,rfl,rfl,ren_int rfl (i64_k (k:=k) (n:=(durM n.jour).1.items.length) b1 (by omega)),trivial⟩ ⟨⟨_,rfl,⟨_,_,rfl,trivial,_,_,rfl,trivial,_,_,rfl,trivial,_,_,rfl,trivial,_,_,rfl,trivial,_,_,rfl,trivial,_,_,rfl,trivial,_,_,rfl,trivial,rfl⟩⟩,⟨_,rfl,_,_,rfl,rfl,rfl⟩,⟨_,rfl,renNod _ _⟩,ren_row rfl (by rw [hsn]) (fun _ _ _ _=>by rw [hsn]),trivial⟩ trivial (by kernel_rfl)
 ·have b1:¬ k < (durM n.jour).1.items.length:=by simpa using b1
  obtain rfl:k = (durM n.jour).1.items.length:=by omega
  refine zG zE (NS.leave rfl zE ?_)
  rw [List.take_length]
  have hel:=expireM_len (durM n.jour).1 t
  rw [hex] at hel
  have cex:=expire_ok (durM n.jour).1 t (by omega) (by omega)
  rw [hex] at cex
  refine zG zE (NS.call (cex) rfl ?_)
  refine zG zE (NS.no (rfl) ?_)
  refine zG zE (NS.call (append_ok (readN n).jour (recsM n t) (readN_sz j4) (by have hel:(recsM n t).length <= (durM n.jour).1.items.length:=hel;omega)) rfl ?_)
  refine zG zE (NS.ite (fun a8=>?_) (fun a8=>?_))
  ·have e8:(appM (ls (readN n).jour) (recsM n t)).2 = 4:=by
    rcases appM_err (s:=ls (readN n).jour) hvr with h | h
    ·have a8:((appM (ls (readN n).jour) (recsM n t)).2 != 0) = true:=a8
     rw [h] at a8;cases a8
    ·exact h
   rw [if_pos a8] at hR
   refine zG zE (NS.yes (a8) ?_)
   exact zG zE (NS.ret rfl rfl (zero_ret hR rfl rfl (LeA.of (congrArg (A.int .i64) e8))))
  rw [if_neg (by rw [show ((appM (ls (readN n).jour) (recsM n t)).2 != 0) = false from a8];decide)] at hR
  generalize hl:recsM n t = l at *
  generalize hJ:bs (appM (ls (readN n).jour) l).1 = J at *
  have hll:l.length <= 65536:=by have hel:l.length <= (durM n.jour).1.items.length:=hel;omega
  have hgk:∀ k,Good (effs (l.take k) (durM n.jour).1):=fun k=>good_effs j2 fun r hr=>hvr r (List.mem_of_mem_take hr)
  have hlk:∀ k,k <= l.length -> (effs (l.take k) (durM n.jour).1).items.length <= 200000 /\ (effs (l.take k) (durM n.jour).1).inbox.length <= 200000:=fun k hk=>by
   obtain ⟨i1,i2⟩:=effs_len (l.take k) (durM n.jour).1
   rw [List.length_take] at i1 i2
   omega
  refine zG zE ?_
  refine NS.loop (σ:={ k:Nat // k <= l.length }) (fun k=>[(0,.ptr 32 0),(29,slR l),(30,.int .i64 l.length),(31,.int .i64 (k.1:Nat))]) (fun k=>[(32,.box { readN n with jour:=J,dur:=effs (l.take k.1) (durM n.jour).1 }.cells)]) (fun k=>l.length - k.1) ⟨0,Nat.zero_le _⟩ ?_ ?_
  ·exact weak_hd [] rfl ⟨rfl,rfl,rfl,rfl,trivial⟩ ⟨⟨_,rfl,renNod _ _⟩,trivial⟩ (by repeat' (first | exact trivial | refine ⟨.inr rfl,?_⟩ | refine ⟨.inl rfl,?_⟩)) (by kernel_rfl)
  rintro ⟨k,hk⟩
  have hk:k <= l.length:=hk
  obtain ⟨k1,k2⟩:=hlk k hk
  refine zG zE (NS.ite (fun b3=>?_) (fun b3=>?_))
  ·have b3:k < l.length:=by simpa using b3
   have hap:=apply_good (hgk k) (hvr (l.getD k default) (by rw [getD_lt b3];exact List.getElem_mem _))
   have hsn:effs (l.take (k + 1)) (durM n.jour).1 = effM (effs (l.take k) (durM n.jour).1) (l.getD k default):=by rw [take_snoc b3,effs_snoc]
   refine zG zE (NS.need (by simp;omega) ?_)
   refine zG zE (NS.chk (by kernel_rfl) ?_)
   have cap:=apply_ok (effs (l.take k) (durM n.jour).1) (l.getD k default) (by omega) (by omega)
   rw [hap] at cap
   refine zG zE (NS.call (cap) rfl ?_)
   refine zG zE (NS.no (rfl) ?_)
   refine zG zE (NS.next ⟨k + 1,b3⟩ (by show l.length - (k + 1) < l.length - k;omega) ?_)
   exact weak_hd [] rfl ⟨rfl,rfl,rfl,ren_int rfl (i64_k (k:=k) (n:=l.length) b3 (by omega)),trivial⟩ ⟨⟨_,rfl,by rw [hsn];exact renNod _ _⟩,trivial⟩ (by repeat' (first | exact trivial | refine ⟨.inr rfl,?_⟩ | refine ⟨.inl rfl,?_⟩)) (by kernel_rfl)
  ·have b3:¬ k < l.length:=by simpa using b3
   obtain rfl:k = l.length:=by omega
   rw [List.take_length] at k1 k2
   rw [hlw] at k1 k2
   have hD:effs (l.take l.length) (durM n.jour).1 = upD n t:=by rw [List.take_length];exact hlw
   have hGD:Good (upD n t):=by rw [<- hD];exact hgk _
   rw [hD]
   refine zG zE (NS.leave rfl zE ?_)
   refine zG zE (NS.no (rfl) ?_)
   refine zG zE (NS.call (orderA_ok (upD n t) hGD.2.2.1 (by omega)) rfl ?_)
   generalize hE:upD n t = D at *
   have hol:=ordR_len (ltD D) D.items.length
   have hom:=ordR_mem (ltD D) D.items.length
   generalize hOo:ordR (ltD D) D.items.length = o at *
   have hwA:waitA D = o.map (wait4 D):=by unfold waitA;rw [hOo]
   have hlen2:=remsA_len t (durM n.jour).1.items (durM n.jour).1.items.length
   rw [List.take_length] at hlen2
   refine zG zE ?_
   refine NS.loop (σ:={ k:Nat // k <= D.items.length }) (fun k=>[(0,.yld 96),(1,.ptr 95 0),(10,.own 107),(11,.int .i64 D.items.length),(12,.int .i64 (k.1:Nat))]) (fun k=>[(9,.box [.own 98]),(33,.dead),(98,rowAct (remsA t (durM n.jour).1.items ++ (o.take k.1).map (wait4 D))),(107,.row 3 1 D.items.length (rowL nC o))]) (fun k=>D.items.length - k.1) ⟨0,Nat.zero_le _⟩ ?_ ?_
   ·refine (moveB 9 0 33 98 rfl rfl rfl rfl).weak.trans ?_
    exact weak_hd [] rfl ⟨rfl,rfl,rfl,rfl,rfl,trivial⟩ ⟨⟨_,rfl,_,_,rfl,rfl,rfl⟩,rfl,ren_row rfl (by simp) (fun _ _ _ _=>by simp),ren_row rfl rfl (fun _ _ _ _=>rfl),trivial⟩ (Pre_cut (by kernel_rfl)) (by kernel_rfl)
   rintro ⟨k,hk⟩
   have hk:k <= D.items.length:=hk
   refine zG zE (NS.ite (fun b4=>?_) (fun b4=>?_))
   ·have b4:k < D.items.length:=by have b4:decide ((k:Int) < (D.items.length:Int)) = true:=b4;have b4:=of_decide_eq_true b4;omega
    obtain ⟨m1,m2⟩:=hom (o.getD k default) (by rw [getD_lt (by omega)];exact List.getElem_mem _)
    have hsn:(o.take (k + 1)).map (wait4 D) = (o.take k).map (wait4 D) ++ [wait4 D (o.getD k default)]:=by rw [take_snoc (by omega),List.map_append];rfl
    refine zG zE (NS.need (in_row b4) ?_)
    refine zG zE (NS.need (in_row' b4) ?_)
    refine zG zE (NS.need (decide_eq_true (by show 0 <= o.getD k default /\ o.getD k default < (D.items.length:Int);exact ⟨m1,m2⟩)) ?_)
    refine zG zE (NS.need (decide_eq_true (by simp only [maxRow];simp only [List.length_append,List.length_map,List.length_take];omega)) ?_)
    refine zG zE (NS.next ⟨k + 1,b4⟩ (by show D.items.length - (k + 1) < D.items.length - k;omega) ?_)
    exact weak_hd [(98,214)] rfl ⟨rfl,rfl,rfl,rfl,ren_int rfl (add1N (a:=k) (by omega)),trivial⟩ ⟨⟨_,rfl,_,_,rfl,rfl,rfl⟩,rfl,ren_row rfl (by rw [hsn];simp only [List.length_append,List.length_cons,List.length_nil];omega) (fun q hq j hj=>by rw [hsn] at hq ⊢;rw [<- List.append_assoc] at hq ⊢;exact row_snoc (cells:=Mb.Act.cells) (x:=wait4 D (o.getD k default)) rfl q (by simp only [List.length_append,List.length_cons,List.length_nil] at hq ⊢;omega) j hj),ren_row rfl rfl (fun _ _ _ _=>rfl),trivial⟩ (Pre_cut (by kernel_rfl)) (by kernel_rfl)
   ·have b4:k = D.items.length:=by have b4:decide ((k:Int) < (D.items.length:Int)) = false:=b4;have b4:=of_decide_eq_false b4;omega
    have hoe:(o.take k).map (wait4 D) = waitA D:=by rw [hwA,b4,<- hol,List.take_length]
    refine zG zE (NS.leave rfl zE ?_)
    refine zG zE (NS.chk (by kernel_rfl) ?_)
    rw [hR]
    exact zG zE (NS.ret rfl rfl (LeA.tup3 (LeA.refl _) (LeA.of (by show slAct (remsA t (durM n.jour).1.items ++ (o.take k).map (wait4 D)) = slAct (remsA t (durM n.jour).1.items ++ waitA D);rw [hoe])) (LeA.refl _)))
theorem act_ne {a b:Mb.Act} (h:a ≠ b):Mb.Act.eqv a b = false:=by rw [<- Bool.not_eq_true,Mb.Act.eqv_iff];exact h
theorem act_eq {a b:Mb.Act} (h1:a.kind = b.kind) (h2:a.item = b.item) (h3:a.contact = b.contact) (h4:a.value = b.value):Mb.Act.eqv a b = true:=by
 rw [Mb.Act.eqv_iff]
 obtain ⟨_,_,_,_⟩:=a
 obtain ⟨_,_,_,_⟩:=b
 simp only at h1 h2 h3 h4
 subst h1 h2 h3 h4
 rfl
theorem sameA_ok (l m:List Mb.Act) (hl:l.length <= 100000000):FnOK Tryz.prog 26 [slAct l,slAct m] (.bool (sameBy Mb.Act.eqv l m),none):=by
 refine fn_ok CF rfl (by kernel_rfl) Tryz.func26 rfl ?_
 refine zG zE (NS.ite (fun h0=>?_) (fun h0=>?_))
 ·exact zG zE (NS.ret rfl rfl (LeA.of (congrArg A.bool ((sameBy_len (fun _ _=>Mb.Act.eqv_iff) (by intro e;rw [e] at h0;simp at h0)).symm))))
 have hlm:l.length = m.length:=by simp only [bne_eq_false_iff_eq] at h0;omega
 refine zG zE ?_
 refine NS.loop (σ:={ k:Nat // k <= l.length /\ ∀ i,i < k -> Mb.Act.eqv (l.getD i default) (m.getD i default) = true }) (fun k=>[(0,slAct l),(1,slAct m),(5,.int .i64 k.1)]) (fun _=>[]) (fun k=>l.length - k.1) ⟨0,Nat.zero_le _,fun i hi=>by omega⟩ ?_ ?_
 ·exact weak_hd [] rfl ⟨rfl,rfl,rfl,trivial⟩ trivial trivial (by kernel_rfl)
 rintro ⟨k,hk,hn⟩
 have nx:Mb.Act.eqv (l.getD k default) (m.getD k default) = true -> ∀ i,i < k + 1 -> Mb.Act.eqv (l.getD i default) (m.getD i default) = true:=by
  intro hq i hi
  by_cases hik:i = k
  ·subst hik;exact hq
  ·exact hn i (by omega)
 refine zG zE (NS.ite (fun h=>?_) (fun h=>?_))
 ·have h:k < l.length:=by simpa using h
  refine zG zE (NS.chk (by kernel_rfl) ?_)
  refine zG zE (NS.need (by simp;omega) ?_)
  refine zG zE (NS.need (by simp;omega) ?_)
  refine zG zE (NS.ite (fun c1=>?_) (fun c1=>?_))
  ·exact zG zE (NS.leaveOut rfl zE (NS.ret rfl rfl (LeA.of (congrArg A.bool ((sameBy_f (k:=k) (fun _ _=>Mb.Act.eqv_iff) (act_ne fun q=>by have this:((l.getD k default).kind == (m.getD k default).kind) = false:=not_t c1;rw [q] at this;simp at this)).symm)))))
  have c1:((l.getD k default).kind == (m.getD k default).kind) = true:=not_f c1
  refine zG zE (NS.need (by simp;omega) ?_)
  refine zG zE (NS.need (by simp;omega) ?_)
  refine zG zE (NS.call (sameItem_ok (l.getD k default).item (m.getD k default).item) rfl ?_)
  refine zG zE (NS.ite (fun c2=>?_) (fun c2=>?_))
  ·exact zG zE (NS.leaveOut rfl zE (NS.ret rfl rfl (LeA.of (congrArg A.bool ((sameBy_f (k:=k) (fun _ _=>Mb.Act.eqv_iff) (act_ne fun q=>by have:=not_t c2;rw [q,Itm.eqv_iff.2 rfl] at this;cases this)).symm)))))
  have c2:=Itm.eqv_iff.1 (not_f c2)
  refine zG zE (NS.need (by simp;omega) ?_)
  refine zG zE (NS.need (by simp;omega) ?_)
  refine zG zE (NS.ite (fun c3=>?_) (fun c3=>?_))
  ·exact zG zE (NS.leaveOut rfl zE (NS.ret rfl rfl (LeA.of (congrArg A.bool ((sameBy_f (k:=k) (fun _ _=>Mb.Act.eqv_iff) (act_ne fun q=>by have this:((l.getD k default).contact == (m.getD k default).contact) = false:=not_t c3;rw [q] at this;simp at this)).symm)))))
  have c3:((l.getD k default).contact == (m.getD k default).contact) = true:=not_f c3
  refine zG zE (NS.need (by simp;omega) ?_)
  refine zG zE (NS.need (by simp;omega) ?_)
  refine zG zE (NS.ite (fun c4=>?_) (fun c4=>?_))
  ·exact zG zE (NS.leaveOut rfl zE (NS.ret rfl rfl (LeA.of (congrArg A.bool ((sameBy_f (k:=k) (fun _ _=>Mb.Act.eqv_iff) (act_ne fun q=>by have this:((l.getD k default).value == (m.getD k default).value) = false:=not_t c4;rw [q] at this;simp at this)).symm)))))
  have c4:((l.getD k default).value == (m.getD k default).value) = true:=not_f c4
  refine zG zE (NS.next ⟨k + 1,by omega,nx (act_eq (by simpa using c1) c2 (by simpa using c3) (by simpa using c4))⟩ (by simp;omega) ?_)
  exact weak_hd [] rfl ⟨rfl,rfl,ren_int rfl (i64_k (by omega) (by omega)),trivial⟩ trivial trivial (by kernel_rfl)
 ·have h:¬ k < l.length:=by simpa using h
  refine zG zE (NS.leave rfl zE ?_)
  exact zG zE (NS.ret rfl rfl (LeA.of (congrArg A.bool ((sameBy_t (fun _ _=>Mb.Act.eqv_iff) hlm fun i hi=>hn i (by omega)).symm))))
theorem small_of {n:Nod} (h:greatN n = false):n.dur.items.length <= 12 /\ n.dur.inbox.length <= 12 /\ n.ofs.length <= 12 /\ n.jour.size <= 3000:=by
 unfold greatN at h
 simp only [Bool.or_eq_false_iff] at h
 obtain ⟨⟨h1,h2⟩,h3⟩:=h
 obtain ⟨b1,b2,_,_⟩:=not_great h1
 have h2:=of_decide_eq_false h2
 have h3:=of_decide_eq_false h3
 exact ⟨b1,b2,by omega,by omega⟩
def rIt:Itm:=⟨0,⟨3,0,0,0,0⟩,2,50,0,false,⟨#[49,50,51,52,53,54,55,56]⟩⟩
def rEv:Evt:=⟨1,5,rIt,.zero,0,0,false,0⟩
def rN1:Nod:=(goM (nod0 1 20) rEv).1
theorem rh_1:(goM (nod0 1 20) rEv).2 = ([⟨2,rIt,0,1⟩],0):=by kernel_rfl
theorem rn1_sz:rN1.dur.items = [rIt] /\ rN1.dur.inbox = [] /\ rN1.ofs = []:=⟨by kernel_rfl,by kernel_rfl,by kernel_rfl⟩
def rN2:Nod:=(crashM rN1 0).1
theorem rc_1:(crashM rN1 0).2 = 0:=by kernel_rfl
theorem rn2_sz:rN2.dur.items = [] /\ rN2.dur.inbox = [] /\ rN2.ofs = [] /\ rN2.up = false:=⟨by kernel_rfl,by kernel_rfl,by kernel_rfl,by kernel_rfl⟩
theorem rr_1:(restM rN2 40).2 = ([⟨4,rIt,0,0⟩],0) /\ (restM rN2 40).1.up = true /\ (restM rN2 40).1.dur.items = [rIt] /\ (restM rN2 40).1.dur.inbox = []:=⟨by kernel_rfl,by kernel_rfl,by kernel_rfl,by kernel_rfl⟩
theorem rr_2:(restM rN2 50).2 = ([⟨5,rIt,0,0⟩],0) /\ (restM rN2 50).1.dur.items = [] /\ (restM rN2 50).1.dur.inbox = []:=⟨by kernel_rfl,by kernel_rfl,by kernel_rfl⟩
theorem awakeR_ok:FnOK Tryz.prog 50 [] (.bool true,none):=by
 have cn:=nNew_ok 1 20
 rw [show newN 1 20 = (nod0 1 20,0) from rfl] at cn
 have ch:=hand_ok (val0 1 20 (by decide)) rEv
 rw [show goM (nod0 1 20) rEv = (rN1,[⟨2,rIt,0,1⟩],0) from Prod.ext rfl rh_1] at ch
 obtain ⟨s1,s2,s3⟩:=rn1_sz
 have cc:=recCrash_ok rN1 0 (by rw [s1];decide) (by rw [s2];decide) (by rw [s3];decide)
 rw [show crashM rN1 0 = (rN2,0) from Prod.ext rfl rc_1] at cc
 obtain ⟨q1,q2,q3,q4⟩:=rn2_sz
 have ca:=recRest_ok rN2 40 (by rw [q1];decide) (by rw [q2];decide) (by rw [q3];decide)
 have cb:=recRest_ok rN2 50 (by rw [q1];decide) (by rw [q2];decide) (by rw [q3];decide)
 obtain ⟨a1,a2,a3,a4⟩:=rr_1
 obtain ⟨b1,b2,b3⟩:=rr_2
 obtain ⟨Na,hNa⟩:∃ Na,Na = (restM rN2 40).1:=⟨_,rfl⟩
 obtain ⟨Nb,hNb⟩:∃ Nb,Nb = (restM rN2 50).1:=⟨_,rfl⟩
 rw [<- hNa] at a2 a3 a4
 rw [<- hNb] at b2 b3
 rw [show restM rN2 40 = (Na,[⟨4,rIt,0,0⟩],0) from Prod.ext hNa.symm a1] at ca
 rw [show restM rN2 50 = (Nb,[⟨5,rIt,0,0⟩],0) from Prod.ext hNb.symm b1] at cb
 clear a1 b1 hNa hNb
 generalize rN2 = N2 at *
 refine fn_ok CF rfl (by kernel_rfl) Tryz.func50 rfl ?_
 have ea:Na.dur = ⟨[rIt],[]⟩:=by cases hd:Na.dur;rw [hd] at a3 a4;simp only at a3 a4;rw [a3,a4]
 have eb:Nb.dur = ⟨[],[]⟩:=by cases hd:Nb.dur;rw [hd] at b2 b3;simp only at b2 b3;rw [b2,b3]
 have k1:=same_ok Na.dur ⟨[rIt],[]⟩ (by rw [ea];decide) (by rw [ea];decide)
 rw [sameD_iff.2 ea] at k1
 have k2:=same_ok Nb.dur ⟨[],[]⟩ (by rw [eb];decide) (by rw [eb];decide)
 rw [sameD_iff.2 eb] at k2
 have k3:=sameA_ok [⟨4,rIt,0,0⟩] [⟨4,rIt,0,0⟩] (by decide)
 rw [(sameBy_iff (fun _ _=>Mb.Act.eqv_iff)).2 rfl] at k3
 have k4:=sameA_ok [⟨5,rIt,0,0⟩] [⟨5,rIt,0,0⟩] (by decide)
 rw [(sameBy_iff (fun _ _=>Mb.Act.eqv_iff)).2 rfl] at k4
 refine zG zE (NS.call (cn) rfl ?_)
 refine zG zE (NS.call (ch) rfl ?_)
 refine zG zE (NS.no (rfl) ?_)
 refine zG zE (NS.no (rfl) ?_)
 refine zG zE (NS.call (cc) rfl ?_)
 refine zG zE (NS.call (ca) rfl ?_)
 refine zG zE (NS.call (cb) rfl ?_)
 repeat' (first | (refine zG zE (NS.chk (by kernel_rfl) ?_)) | (refine zG zE (NS.yes (rfl) ?_)) | (refine zG zE (NS.no (rfl) ?_)) | (refine zG zE (NS.yes (by rw [q4];rfl) ?_)) | (refine zG zE (NS.yes (a2) ?_)))
 refine zG zE (NS.call (k1.le (LeL.cons (LeA.refl _) (LeL.cons (LeA.agg (LeL.cons (LeA.slLe rfl ?_) (LeL.cons (LeA.nil' rfl) LeL.nil))) LeL.nil))) rfl ?_)
 ·intro i hi j hj
  obtain rfl:i = 0:=by have hi:i < 1:=hi;omega
  have hj:j < 11:=hj
  have:j = 0 \/ j = 1 \/ j = 2 \/ j = 3 \/ j = 4 \/ j = 5 \/ j = 6 \/ j = 7 \/ j = 8 \/ j = 9 \/ j = 10:=by omega
  rcases this with rfl | rfl | rfl | rfl | rfl | rfl | rfl | rfl | rfl | rfl | rfl <;> exact LeA.refl _
 repeat' (first | (refine zG zE (NS.chk (by kernel_rfl) ?_)) | (refine zG zE (NS.yes (rfl) ?_)) | (refine zG zE (NS.no (rfl) ?_)) | (refine zG zE (NS.yes (by rw [q4];rfl) ?_)) | (refine zG zE (NS.yes (a2) ?_)))
 refine zG zE (NS.call (k3.le (LeL.cons (LeA.refl _) (LeL.cons (LeA.slLe rfl ?_) LeL.nil))) rfl ?_)
 ·intro i hi j hj
  obtain rfl:i = 0:=by have hi:i < 1:=hi;omega
  have hj:j < 14:=hj
  have:j = 0 \/ j = 1 \/ j = 2 \/ j = 3 \/ j = 4 \/ j = 5 \/ j = 6 \/ j = 7 \/ j = 8 \/ j = 9 \/ j = 10 \/ j = 11 \/ j = 12 \/ j = 13:=by omega
  rcases this with rfl | rfl | rfl | rfl | rfl | rfl | rfl | rfl | rfl | rfl | rfl | rfl | rfl | rfl <;> exact LeA.refl _
 repeat' (first | (refine zG zE (NS.chk (by kernel_rfl) ?_)) | (refine zG zE (NS.yes (rfl) ?_)) | (refine zG zE (NS.no (rfl) ?_)) | (refine zG zE (NS.yes (by rw [q4];rfl) ?_)) | (refine zG zE (NS.yes (a2) ?_)))
 refine zG zE (NS.call (k2.le (LeL.cons (LeA.refl _) (LeL.cons (LeA.agg (LeL.cons (LeA.nil' rfl) (LeL.cons (LeA.nil' rfl) LeL.nil))) LeL.nil))) rfl ?_)
 repeat' (first | (refine zG zE (NS.chk (by kernel_rfl) ?_)) | (refine zG zE (NS.yes (rfl) ?_)) | (refine zG zE (NS.no (rfl) ?_)) | (refine zG zE (NS.yes (by rw [q4];rfl) ?_)) | (refine zG zE (NS.yes (a2) ?_)))
 refine zG zE (NS.call (k4.le (LeL.cons (LeA.refl _) (LeL.cons (LeA.slLe rfl ?_) LeL.nil))) rfl ?_)
 ·intro i hi j hj
  obtain rfl:i = 0:=by have hi:i < 1:=hi;omega
  have hj:j < 14:=hj
  have:j = 0 \/ j = 1 \/ j = 2 \/ j = 3 \/ j = 4 \/ j = 5 \/ j = 6 \/ j = 7 \/ j = 8 \/ j = 9 \/ j = 10 \/ j = 11 \/ j = 12 \/ j = 13:=by omega
  rcases this with rfl | rfl | rfl | rfl | rfl | rfl | rfl | rfl | rfl | rfl | rfl | rfl | rfl | rfl <;> exact LeA.refl _
 repeat' (first | (refine zG zE (NS.chk (by kernel_rfl) ?_)) | (refine zG zE (NS.yes (rfl) ?_)) | (refine zG zE (NS.no (rfl) ?_)) | (refine zG zE (NS.yes (by rw [q4];rfl) ?_)) | (refine zG zE (NS.yes (a2) ?_)))
 exact zG zE (NS.ret rfl rfl (LeA.refl _))
theorem great48_ok (n:Nod):FnOK Tryz.prog 53 [.agg n.cells] (.bool (greatN n),none):=by
 refine fn_ok CF rfl (by kernel_rfl) Tryz.func53 rfl ?_
 refine zG zE (NS.call (greatN_ok n) rfl ?_)
 exact zG zE (NS.ret rfl rfl (LeA.refl _))
def nidQ (q:List Int):Nid:=⟨q.getD 0 0,q.getD 1 0,q.getD 2 0,q.getD 3 0,q.getD 4 0⟩
theorem nidQ_id {q:List Int} (hq:q.length = 5):q = idI (nidQ q):=by
 match q,hq with
 | [a,b,c,d,e],_=>rfl
theorem idQ (id:Nid):nidQ (idI id) = id:=rfl
def cellK (p:Nat × Int):A:=.agg [.int .i64 (p.1:Nat),.int .i64 p.2]
def mpH (f:Nid -> Option (Nat × Int)) (q:List Int):Bool:=(f (nidQ q)).isSome
def mpV (f:Nid -> Option (Nat × Int)) (q:List Int):A:=cellK ((f (nidQ q)).getD (0,0))
theorem look0 (f:Nid -> Option (Nat × Int)) (q:List Int):lookM (mpH f) (mpV f) [] q = (f (nidQ q)).map cellK:=by
 simp only [lookM,mpH,mpV]
 cases f (nidQ q) <;> rfl
theorem look_same {f g:Nid -> Option (Nat × Int)} (h:∀ i,g i = f i) (q:List Int):lookM (mpH f) (mpV f) [] q = lookM (mpH g) (mpV g) [] q:=by rw [look0,look0,h]
theorem look_put {f g:Nid -> Option (Nat × Int)} {id:Nid} {p:Nat × Int} (h:∀ i,g i = if i = id then some p else f i) {q:List Int} (hq:q.length = 5):lookM (mpH f) (mpV f) [(idI id,some (cellK p))] q = lookM (mpH g) (mpV g) [] q:=by
 rw [look0 g,h]
 by_cases e:nidQ q = id
 ·rw [if_pos e]
  have:eqKs q (idI id) = true:=eqKs_iff.2 (by rw [nidQ_id hq,e])
  simp only [lookM,this]
  rfl
 ·rw [if_neg e,<- look0 f]
  have:eqKs q (idI id) = false:=eqKs_f (fun h2=>e (by rw [h2];rfl))
  simp only [lookM,this]
theorem look_del {f g:Nid -> Option (Nat × Int)} {id:Nid} (h:∀ i,g i = if i = id then none else f i) {q:List Int} (hq:q.length = 5):lookM (mpH f) (mpV f) [(idI id,none)] q = lookM (mpH g) (mpV g) [] q:=by
 rw [look0 g,h]
 by_cases e:nidQ q = id
 ·rw [if_pos e]
  have:eqKs q (idI id) = true:=eqKs_iff.2 (by rw [nidQ_id hq,e])
  simp only [lookM,this]
  rfl
 ·rw [if_neg e,<- look0 f]
  have:eqKs q (idI id) = false:=eqKs_f (fun h2=>e (by rw [h2];rfl))
  simp only [lookM,this]
theorem part_int {P:Program} {t:TypeId} (ht:P.underlying t = some (.int .i64)) (w:World) (cs:Array Value) (off:Nat) (v:Value) (h:cs[off]? = some v):(part t cs off).run P w = .ok v w:=by
 simp [part,isAgg,run_underlying ht,h]
theorem check_int {P:Program} {t:TypeId} (ht:P.underlying t = some (.int .i64)) (w:World) (em:Bool) (n:Nat) (a:Int):(Instr.checkKey em (n + 1) t (.int .i64 a)).run P w = .ok () w:=by
 unfold Instr.checkKey
 simp only [Sem.run_bind,run_underlying ht,Result.andThen_ok]
 rfl
theorem key_check (w:World) (em:Bool) (q:List Int) (hq:q.length = 5):(Instr.checkKey em 10000 39 (kvOf true q)).run Tryz.prog w = .ok () w:=by
 match q,hq with
 | [a,b,c,d,e],_=>
  rw [show (10000:Nat) = 9998 + 1 + 1 from rfl]
  unfold Instr.checkKey
  simp only [kvOf,Sem.run_bind,run_underlying Tryz.underlying39,Result.andThen_ok]
  have p0:=part_int Tryz.underlying3 w #[Value.int .i64 a,Value.int .i64 b,Value.int .i64 c,Value.int .i64 d,Value.int .i64 e] 0 _ rfl
  have p1:=part_int Tryz.underlying3 w #[Value.int .i64 a,Value.int .i64 b,Value.int .i64 c,Value.int .i64 d,Value.int .i64 e] 1 _ rfl
  have p2:=part_int Tryz.underlying3 w #[Value.int .i64 a,Value.int .i64 b,Value.int .i64 c,Value.int .i64 d,Value.int .i64 e] 2 _ rfl
  have p3:=part_int Tryz.underlying3 w #[Value.int .i64 a,Value.int .i64 b,Value.int .i64 c,Value.int .i64 d,Value.int .i64 e] 3 _ rfl
  have p4:=part_int Tryz.underlying3 w #[Value.int .i64 a,Value.int .i64 b,Value.int .i64 c,Value.int .i64 d,Value.int .i64 e] 4 _ rfl
  simp [p0,p1,p2,p3,p4,check_int Tryz.underlying3 w em 9998]
theorem mapOK:MapTab Tryz.prog [(156,true,5)]:=by
 intro p hp
 obtain rfl:=List.mem_singleton.1 hp
 exact ⟨39,158,by kernel_rfl,mapLaw_struct eqTab_ok rfl ⟨_,Tryz.underlying39⟩ key_check⟩
noncomputable def EKM:Env:={ P:=Tryz.prog,eqT:=lookE eqTab,mps:=lookMp [(156,true,5)] }
theorem EKM_ok:EqOK EKM:=eqOK_mp eqTab_ok mapOK
noncomputable def CKM:Cx:={ E:=EKM,inl:=[],ok:=EKM_ok }
theorem compact_ok (l:List Jrec) (hv:∀ r ∈ l,recErr r = 0) (hl:l.length <= 100000):FnOK Tryz.prog 96 [slR l] (.tup [slR (compM l),.int .i64 0],none):=by
 refine fn_ok CKM rfl (by kernel_rfl) Tryz.func96 rfl ?_
 refine zG zE ?_
 refine NS.loop (σ:={ k:Nat // k <= l.length }) (fun k=>[(0,slR l),(4,.yld 20),(5,.yld 21),(22,slR l),(23,.int .i64 l.length),(24,.int .i64 (k.1:Nat))]) (fun k=>[(20,.mp 156 true 5 true [] (mpH (itK l k.1)) (mpV (itK l k.1))),(21,.mp 156 true 5 true [] (mpH (inK l k.1)) (mpV (inK l k.1)))]) (fun k=>l.length - k.1) ⟨0,Nat.zero_le _⟩ ?_ ?_
 ·exact weak_hd [] rfl ⟨rfl,rfl,rfl,rfl,rfl,rfl,trivial⟩ ⟨⟨_,_,_,rfl,rfl,fun q hq=>rfl⟩,⟨_,_,_,rfl,rfl,fun q hq=>rfl⟩,trivial⟩ trivial (by kernel_rfl)
 rintro ⟨k,hk⟩
 have hk:k <= l.length:=hk
 refine zG zE (NS.ite (fun a=>?_) (fun a=>?_))
 ·have a:k < l.length:=by have a:decide ((k:Int) < (l.length:Int)) = true:=a;have a:=of_decide_eq_true a;omega
  have hr:=hv (l.getD k default) (by rw [getD_lt a];exact List.getElem_mem _)
  have cc:=jCheck_ok (l.getD k default)
  rw [hr] at cc
  repeat' (first | (refine zG zE (NS.chk (by kernel_rfl) ?_)) | (refine zG zE (NS.need (in_row a) ?_)) | (refine zG zE (NS.need (in_row' a) ?_)) | (refine zG zE (NS.call (cc) rfl ?_)))
  refine zG zE (NS.no (rfl) ?_)
  have hkd:=recErr_kind hr
  have hsB:(l.getD k default).kind ≠ 3 -> ∀ i,inK l (k + 1) i = inK l k i:=fun h i=>by
   conv=>lhs;unfold inK
   rw [if_neg (by simpa using h)]
  rcases hkd with h | h | h | h
  ·have b1:((l.getD k default).kind == 1) = true:=by rw [h];rfl
   refine zG zE (NS.yes (b1) ?_)
   refine zG zE (NS.ite (fun b=>?_) (fun b=>?_))
   ·have b:(itK l k (l.getD k default).item.id).isSome = true:=b
    have hs:∀ i,itK l (k + 1) i = itK l k i:=fun i=>by
     conv=>lhs;unfold itK
     rw [if_pos b1,if_neg]
     rintro ⟨q1,q2⟩
     rw [<- q1] at q2
     rw [Option.isNone_iff_eq_none.1 q2] at b
     cases b
    repeat' (first | (refine zG zE (NS.chk (by kernel_rfl) ?_)) | (refine zG zE (NS.no (rfl) ?_)) | (refine zG zE (NS.yes (rfl) ?_)))
    refine zG zE (NS.next ⟨k + 1,a⟩ (by show l.length - (k + 1) < l.length - k;omega) ?_)
    exact weak_hd [] rfl ⟨rfl,rfl,rfl,rfl,rfl,ren_int rfl (add1N (a:=k) (by omega)),trivial⟩ ⟨⟨_,_,_,rfl,rfl,fun q hq=>look_same hs q⟩,⟨_,_,_,rfl,rfl,fun q hq=>look_same (hsB (by rw [h];decide)) q⟩,trivial⟩ trivial (by kernel_rfl)
   ·have b:(itK l k (l.getD k default).item.id).isSome = false:=b
    have hn:itK l k (l.getD k default).item.id = none:=by simpa using b
    have hs:∀ i,itK l (k + 1) i = if i = (l.getD k default).item.id then some (k,(l.getD k default).item.ticket) else itK l k i:=fun i=>by
     conv=>lhs;unfold itK
     rw [if_pos b1]
     by_cases e:i = (l.getD k default).item.id
     ·rw [if_pos e,if_pos ⟨e.symm,by rw [e,hn];rfl⟩]
     ·rw [if_neg e,if_neg (fun q=>e q.1.symm)]
    repeat' (first | (refine zG zE (NS.chk (by kernel_rfl) ?_)) | (refine zG zE (NS.no (rfl) ?_)) | (refine zG zE (NS.yes (rfl) ?_)))
    refine zG zE (NS.next ⟨k + 1,a⟩ (by show l.length - (k + 1) < l.length - k;omega) ?_)
    exact weak_hd [] rfl ⟨rfl,rfl,rfl,rfl,rfl,ren_int rfl (add1N (a:=k) (by omega)),trivial⟩ ⟨⟨_,_,_,rfl,rfl,fun q hq=>look_put hs hq⟩,⟨_,_,_,rfl,rfl,fun q hq=>look_same (hsB (by rw [h];decide)) q⟩,trivial⟩ trivial (by kernel_rfl)
  ·have b1:((l.getD k default).kind == 1) = false:=by rw [h];rfl
   have b3:((l.getD k default).kind == 3) = false:=by rw [h];rfl
   have b2:((l.getD k default).kind == 2) = true:=by rw [h];rfl
   have hs:∀ i,itK l (k + 1) i = if i = (l.getD k default).id then none else itK l k i:=fun i=>by
    conv=>lhs;unfold itK
    rw [if_neg (by rw [b1];decide),if_pos b2]
    by_cases e:i = (l.getD k default).id
    ·rw [if_pos e,if_pos e.symm]
    ·rw [if_neg e,if_neg (fun q=>e q.symm)]
   refine zG zE (NS.no (b1) ?_)
   refine zG zE (NS.no (b3) ?_)
   refine zG zE (NS.yes (b2) ?_)
   repeat' (first | (refine zG zE (NS.chk (by kernel_rfl) ?_)) | (refine zG zE (NS.no (rfl) ?_)) | (refine zG zE (NS.yes (rfl) ?_)))
   refine zG zE (NS.next ⟨k + 1,a⟩ (by show l.length - (k + 1) < l.length - k;omega) ?_)
   exact weak_hd [] rfl ⟨rfl,rfl,rfl,rfl,rfl,ren_int rfl (add1N (a:=k) (by omega)),trivial⟩ ⟨⟨_,_,_,rfl,rfl,fun q hq=>look_del hs hq⟩,⟨_,_,_,rfl,rfl,fun q hq=>look_same (hsB (by rw [h];decide)) q⟩,trivial⟩ trivial (by kernel_rfl)
  ·have b1:((l.getD k default).kind == 1) = false:=by rw [h];rfl
   have b3:((l.getD k default).kind == 3) = true:=by rw [h];rfl
   have hsI:∀ i,itK l (k + 1) i = itK l k i:=fun i=>by
    conv=>lhs;unfold itK
    rw [if_neg (by rw [b1];decide),if_neg (by rw [h];decide),if_neg (by rw [h];decide)]
   refine zG zE (NS.no (b1) ?_)
   refine zG zE (NS.yes (b3) ?_)
   refine zG zE (NS.ite (fun b=>?_) (fun b=>?_))
   ·have b:(inK l k (l.getD k default).item.id).isSome = true:=b
    have hs:∀ i,inK l (k + 1) i = inK l k i:=fun i=>by
     conv=>lhs;unfold inK
     rw [if_pos b3,if_neg]
     rintro ⟨q1,q2⟩
     rw [<- q1] at q2
     rw [Option.isNone_iff_eq_none.1 q2] at b
     cases b
    repeat' (first | (refine zG zE (NS.chk (by kernel_rfl) ?_)) | (refine zG zE (NS.no (rfl) ?_)) | (refine zG zE (NS.yes (rfl) ?_)))
    refine zG zE (NS.next ⟨k + 1,a⟩ (by show l.length - (k + 1) < l.length - k;omega) ?_)
    exact weak_hd [] rfl ⟨rfl,rfl,rfl,rfl,rfl,ren_int rfl (add1N (a:=k) (by omega)),trivial⟩ ⟨⟨_,_,_,rfl,rfl,fun q hq=>look_same hsI q⟩,⟨_,_,_,rfl,rfl,fun q hq=>look_same hs q⟩,trivial⟩ trivial (by kernel_rfl)
   ·have b:(inK l k (l.getD k default).item.id).isSome = false:=b
    have hn:inK l k (l.getD k default).item.id = none:=by simpa using b
    have hs:∀ i,inK l (k + 1) i = if i = (l.getD k default).item.id then some (k,(l.getD k default).item.ticket) else inK l k i:=fun i=>by
     conv=>lhs;unfold inK
     rw [if_pos b3]
     by_cases e:i = (l.getD k default).item.id
     ·rw [if_pos e,if_pos ⟨e.symm,by rw [e,hn];rfl⟩]
     ·rw [if_neg e,if_neg (fun q=>e q.1.symm)]
    repeat' (first | (refine zG zE (NS.chk (by kernel_rfl) ?_)) | (refine zG zE (NS.no (rfl) ?_)) | (refine zG zE (NS.yes (rfl) ?_)))
    refine zG zE (NS.next ⟨k + 1,a⟩ (by show l.length - (k + 1) < l.length - k;omega) ?_)
    exact weak_hd [] rfl ⟨rfl,rfl,rfl,rfl,rfl,ren_int rfl (add1N (a:=k) (by omega)),trivial⟩ ⟨⟨_,_,_,rfl,rfl,fun q hq=>look_same hsI q⟩,⟨_,_,_,rfl,rfl,fun q hq=>look_put hs hq⟩,trivial⟩ trivial (by kernel_rfl)
  ·have b1:((l.getD k default).kind == 1) = false:=by rw [h];rfl
   have b3:((l.getD k default).kind == 3) = false:=by rw [h];rfl
   have b2:((l.getD k default).kind == 2) = false:=by rw [h];rfl
   have b4:((l.getD k default).kind == 4) = true:=by rw [h];rfl
   have hs0:∀ i,itK l (k + 1) i = if (l.getD k default).id = i then (itK l k i).map (fun p=>(p.1,(l.getD k default).ticket)) else itK l k i:=fun i=>by
    conv=>lhs;unfold itK
    rw [if_neg (by rw [b1];decide),if_neg (by rw [b2];decide),if_pos b4]
   refine zG zE (NS.no (b1) ?_)
   refine zG zE (NS.no (b3) ?_)
   refine zG zE (NS.no (b2) ?_)
   refine zG zE (NS.yes (b4) ?_)
   refine zG zE (NS.ite (fun b=>?_) (fun b=>?_))
   ·have b:(itK l k (l.getD k default).id).isSome = true:=b
    obtain ⟨p,hp⟩:=Option.isSome_iff_exists.1 b
    have hs:∀ i,itK l (k + 1) i = if i = (l.getD k default).id then some (p.1,(l.getD k default).ticket) else itK l k i:=fun i=>by
     rw [hs0]
     by_cases e:i = (l.getD k default).id
     ·rw [if_pos e,if_pos e.symm,e,hp];rfl
     ·rw [if_neg e,if_neg (fun q=>e q.symm)]
    repeat' (first | (refine zG zE (NS.chk (by kernel_rfl) ?_)) | (refine zG zE (NS.no (rfl) ?_)) | (refine zG zE (NS.yes (rfl) ?_)))
    refine zG zE (NS.next ⟨k + 1,a⟩ (by show l.length - (k + 1) < l.length - k;omega) ?_)
    refine weak_hd [] rfl ⟨rfl,rfl,rfl,rfl,rfl,ren_int rfl (add1N (a:=k) (by omega)),trivial⟩ ⟨⟨_,_,_,rfl,rfl,fun q hq=>?_⟩,⟨_,_,_,rfl,rfl,fun q hq=>look_same (hsB (by rw [h];decide)) q⟩,trivial⟩ trivial (by kernel_rfl)
    refine Eq.trans ?_ (look_put hs hq)
    show lookM _ _ [(idI (l.getD k default).id,some (cellK (((itK l k (nidQ (idI (l.getD k default).id))).getD (0,0)).1,(l.getD k default).ticket)))] q = _
    rw [idQ,hp]
    rfl
   ·have b:(itK l k (l.getD k default).id).isSome = false:=b
    have hn:itK l k (l.getD k default).id = none:=by simpa using b
    have hs:∀ i,itK l (k + 1) i = itK l k i:=fun i=>by
     rw [hs0]
     by_cases e:(l.getD k default).id = i
     ·rw [if_pos e,<- e,hn];rfl
     ·rw [if_neg e]
    repeat' (first | (refine zG zE (NS.chk (by kernel_rfl) ?_)) | (refine zG zE (NS.no (rfl) ?_)) | (refine zG zE (NS.yes (rfl) ?_)))
    refine zG zE (NS.next ⟨k + 1,a⟩ (by show l.length - (k + 1) < l.length - k;omega) ?_)
    exact weak_hd [] rfl ⟨rfl,rfl,rfl,rfl,rfl,ren_int rfl (add1N (a:=k) (by omega)),trivial⟩ ⟨⟨_,_,_,rfl,rfl,fun q hq=>look_same hs q⟩,⟨_,_,_,rfl,rfl,fun q hq=>look_same (hsB (by rw [h];decide)) q⟩,trivial⟩ trivial (by kernel_rfl)
 ·have a:k = l.length:=by have a:decide ((k:Int) < (l.length:Int)) = false:=a;have a:=of_decide_eq_false a;omega
  subst a
  refine zG zE (NS.leave rfl zE ?_)
  refine zG zE ?_
  refine NS.loop (σ:={ k:Nat // k <= l.length }) (fun k=>[(4,.yld 20),(5,.yld 21),(15,.own 15),(102,slR l),(103,.int .i64 l.length),(104,.int .i64 (k.1:Nat))]) (fun k=>[(15,.row 101 19 (compK l k.1).length (rowL Jrec.cells (compK l k.1))),(20,.mp 156 true 5 true [] (mpH (itK l l.length)) (mpV (itK l l.length))),(21,.mp 156 true 5 true [] (mpH (inK l l.length)) (mpV (inK l l.length)))]) (fun k=>l.length - k.1) ⟨0,Nat.zero_le _⟩ ?_ ?_
  ·refine (weak_promote 15 15 101 19 (rowL Jrec.cells []) rfl rfl).trans ?_
   exact weak_hd [] rfl ⟨rfl,rfl,rfl,rfl,rfl,rfl,trivial⟩ ⟨ren_row rfl rfl (fun i hi=>absurd hi (Nat.not_lt_zero i)),⟨_,_,_,rfl,rfl,fun q hq=>rfl⟩,⟨_,_,_,rfl,rfl,fun q hq=>rfl⟩,trivial⟩ trivial (by kernel_rfl)
  rintro ⟨i,hi⟩
  have hi:i <= l.length:=hi
  have hcl:=comp_len l i
  refine zG zE (NS.ite (fun a=>?_) (fun a=>?_))
  ·have a:i < l.length:=by have a:decide ((i:Int) < (l.length:Int)) = true:=a;have a:=of_decide_eq_true a;omega
   repeat' (first | (refine zG zE (NS.chk (by kernel_rfl) ?_)) | (refine zG zE (NS.need (in_row a) ?_)) | (refine zG zE (NS.need (in_row' a) ?_)))
   refine zG zE (NS.ite (fun b=>?_) (fun b=>?_))
   ·have b:(itK l l.length (l.getD i default).item.id).isSome = true:=b
    by_cases h3:(l.getD i default).kind = 3
    ·have b3:((l.getD i default).kind == 3) = true:=by rw [h3];rfl
     refine zG zE (NS.yes (b3) ?_)
     refine zG zE (NS.ite (fun b4=>?_) (fun b4=>?_))
     ·have b4:(inK l l.length (l.getD i default).item.id).isSome = true:=b4
      obtain ⟨p,hp⟩:=Option.isSome_iff_exists.1 b4
      repeat' (first | (refine zG zE (NS.chk (by kernel_rfl) ?_)) | (refine zG zE (NS.yes (rfl) ?_)) | (refine zG zE (NS.no (rfl) ?_)))
      have he:endK l i = some p:=by unfold endK;rw [if_pos b3];exact hp
      refine zG zE (NS.ite (fun c=>?_) (fun c=>?_))
      ·have c:((((inK l l.length (l.getD i default).item.id).getD (0,0)).1:Nat):Int) = (i:Int):=by have c:(((((inK l l.length (l.getD i default).item.id).getD (0,0)).1:Nat):Int) == (i:Int)) = true:=c;exact eq_of_beq c
       rw [hp] at c
       have c:p.1 = i:=by have c:((p.1:Nat):Int) = (i:Int):=c;omega
       have hke:keptR l i = [withT (l.getD i default) ((inK l l.length (l.getD i default).item.id).getD (0,0)).2]:=by
        unfold keptR
        rw [he,hp]
        obtain ⟨j,t⟩:=p
        simp only at c
        subst c
        simp
       have hsn:compK l (i + 1) = compK l i ++ [withT (l.getD i default) ((inK l l.length (l.getD i default).item.id).getD (0,0)).2]:=by rw [compK,hke]
       repeat' (first | (refine zG zE (NS.chk (by kernel_rfl) ?_)) | (refine zG zE (NS.need (decide_eq_true (by simp only [maxRow];omega)) ?_)))
       refine zG zE (NS.next ⟨i + 1,a⟩ (by show l.length - (i + 1) < l.length - i;omega) ?_)
       exact weak_hd [(15,142)] rfl ⟨rfl,rfl,rfl,rfl,rfl,ren_int rfl (add1N (a:=i) (by omega)),trivial⟩ ⟨ren_row rfl (by rw [hsn];simp only [List.length_append,List.length_cons,List.length_nil]) (fun q hq j hj=>by rw [hsn] at hq ⊢;exact row_snoc (cells:=Jrec.cells) (x:=withT (l.getD i default) ((inK l l.length (l.getD i default).item.id).getD (0,0)).2) rfl q (by simp only [List.length_append,List.length_cons,List.length_nil] at hq ⊢;omega) j hj),⟨_,_,_,rfl,rfl,fun q hq=>rfl⟩,⟨_,_,_,rfl,rfl,fun q hq=>rfl⟩,trivial⟩ trivial (by kernel_rfl)
      ·have c:((((inK l l.length (l.getD i default).item.id).getD (0,0)).1:Nat):Int) ≠ (i:Int):=by have c:(((((inK l l.length (l.getD i default).item.id).getD (0,0)).1:Nat):Int) == (i:Int)) = false:=c;exact ne_of_beq_false c
       rw [hp] at c
       have c:p.1 ≠ i:=by intro e;apply c;simp [e]
       have hke:keptR l i = []:=by
        unfold keptR
        rw [he]
        obtain ⟨j,t⟩:=p
        show (if j = i then _ else _) = _
        rw [if_neg c]
       have hsn:compK l (i + 1) = compK l i:=by rw [compK,hke,List.append_nil]
       repeat' (first | (refine zG zE (NS.chk (by kernel_rfl) ?_)) | (refine zG zE (NS.no (rfl) ?_)))
       refine zG zE (NS.next ⟨i + 1,a⟩ (by show l.length - (i + 1) < l.length - i;omega) ?_)
       exact weak_hd [] rfl ⟨rfl,rfl,rfl,rfl,rfl,ren_int rfl (add1N (a:=i) (by omega)),trivial⟩ ⟨ren_row rfl (by rw [hsn]) (fun q hq j hj=>by rw [hsn]),⟨_,_,_,rfl,rfl,fun q hq=>rfl⟩,⟨_,_,_,rfl,rfl,fun q hq=>rfl⟩,trivial⟩ trivial (by kernel_rfl)
     ·have b4:(inK l l.length (l.getD i default).item.id).isSome = false:=b4
      have hn:inK l l.length (l.getD i default).item.id = none:=by simpa using b4
      have hke:keptR l i = []:=by unfold keptR endK;rw [if_pos b3,hn]
      have hsn:compK l (i + 1) = compK l i:=by rw [compK,hke,List.append_nil]
      repeat' (first | (refine zG zE (NS.chk (by kernel_rfl) ?_)) | (refine zG zE (NS.no (rfl) ?_)))
      refine zG zE (NS.next ⟨i + 1,a⟩ (by show l.length - (i + 1) < l.length - i;omega) ?_)
      exact weak_hd [] rfl ⟨rfl,rfl,rfl,rfl,rfl,ren_int rfl (add1N (a:=i) (by omega)),trivial⟩ ⟨ren_row rfl (by rw [hsn]) (fun q hq j hj=>by rw [hsn]),⟨_,_,_,rfl,rfl,fun q hq=>rfl⟩,⟨_,_,_,rfl,rfl,fun q hq=>rfl⟩,trivial⟩ trivial (by kernel_rfl)
    ·have b3:((l.getD i default).kind == 3) = false:=by simpa using h3
     refine zG zE (NS.no (b3) ?_)
     obtain ⟨p,hp⟩:=Option.isSome_iff_exists.1 b
     repeat' (first | (refine zG zE (NS.chk (by kernel_rfl) ?_)) | (refine zG zE (NS.yes (rfl) ?_)) | (refine zG zE (NS.no (rfl) ?_)))
     have he:endK l i = some p:=by unfold endK;rw [if_neg (by rw [b3];decide)];exact hp
     refine zG zE (NS.ite (fun c=>?_) (fun c=>?_))
     ·have c:((((itK l l.length (l.getD i default).item.id).getD (0,0)).1:Nat):Int) = (i:Int):=by have c:(((((itK l l.length (l.getD i default).item.id).getD (0,0)).1:Nat):Int) == (i:Int)) = true:=c;exact eq_of_beq c
      rw [hp] at c
      have c:p.1 = i:=by have c:((p.1:Nat):Int) = (i:Int):=c;omega
      have hke:keptR l i = [withT (l.getD i default) ((itK l l.length (l.getD i default).item.id).getD (0,0)).2]:=by
       unfold keptR
       rw [he,hp]
       obtain ⟨j,t⟩:=p
       simp only at c
       subst c
       simp
      have hsn:compK l (i + 1) = compK l i ++ [withT (l.getD i default) ((itK l l.length (l.getD i default).item.id).getD (0,0)).2]:=by rw [compK,hke]
      repeat' (first | (refine zG zE (NS.chk (by kernel_rfl) ?_)) | (refine zG zE (NS.need (decide_eq_true (by simp only [maxRow];omega)) ?_)))
      refine zG zE (NS.next ⟨i + 1,a⟩ (by show l.length - (i + 1) < l.length - i;omega) ?_)
      exact weak_hd [(15,142)] rfl ⟨rfl,rfl,rfl,rfl,rfl,ren_int rfl (add1N (a:=i) (by omega)),trivial⟩ ⟨ren_row rfl (by rw [hsn];simp only [List.length_append,List.length_cons,List.length_nil]) (fun q hq j hj=>by rw [hsn] at hq ⊢;exact row_snoc (cells:=Jrec.cells) (x:=withT (l.getD i default) ((itK l l.length (l.getD i default).item.id).getD (0,0)).2) rfl q (by simp only [List.length_append,List.length_cons,List.length_nil] at hq ⊢;omega) j hj),⟨_,_,_,rfl,rfl,fun q hq=>rfl⟩,⟨_,_,_,rfl,rfl,fun q hq=>rfl⟩,trivial⟩ trivial (by kernel_rfl)
     ·have c:((((itK l l.length (l.getD i default).item.id).getD (0,0)).1:Nat):Int) ≠ (i:Int):=by have c:(((((itK l l.length (l.getD i default).item.id).getD (0,0)).1:Nat):Int) == (i:Int)) = false:=c;exact ne_of_beq_false c
      rw [hp] at c
      have c:p.1 ≠ i:=by intro e;apply c;simp [e]
      have hke:keptR l i = []:=by
       unfold keptR
       rw [he]
       obtain ⟨j,t⟩:=p
       show (if j = i then _ else _) = _
       rw [if_neg c]
      have hsn:compK l (i + 1) = compK l i:=by rw [compK,hke,List.append_nil]
      repeat' (first | (refine zG zE (NS.chk (by kernel_rfl) ?_)) | (refine zG zE (NS.no (rfl) ?_)))
      refine zG zE (NS.next ⟨i + 1,a⟩ (by show l.length - (i + 1) < l.length - i;omega) ?_)
      exact weak_hd [] rfl ⟨rfl,rfl,rfl,rfl,rfl,ren_int rfl (add1N (a:=i) (by omega)),trivial⟩ ⟨ren_row rfl (by rw [hsn]) (fun q hq j hj=>by rw [hsn]),⟨_,_,_,rfl,rfl,fun q hq=>rfl⟩,⟨_,_,_,rfl,rfl,fun q hq=>rfl⟩,trivial⟩ trivial (by kernel_rfl)
   ·have b:(itK l l.length (l.getD i default).item.id).isSome = false:=b
    by_cases h3:(l.getD i default).kind = 3
    ·have b3:((l.getD i default).kind == 3) = true:=by rw [h3];rfl
     refine zG zE (NS.yes (b3) ?_)
     refine zG zE (NS.ite (fun b4=>?_) (fun b4=>?_))
     ·have b4:(inK l l.length (l.getD i default).item.id).isSome = true:=b4
      obtain ⟨p,hp⟩:=Option.isSome_iff_exists.1 b4
      repeat' (first | (refine zG zE (NS.chk (by kernel_rfl) ?_)) | (refine zG zE (NS.yes (rfl) ?_)) | (refine zG zE (NS.no (rfl) ?_)))
      have he:endK l i = some p:=by unfold endK;rw [if_pos b3];exact hp
      refine zG zE (NS.ite (fun c=>?_) (fun c=>?_))
      ·have c:((((inK l l.length (l.getD i default).item.id).getD (0,0)).1:Nat):Int) = (i:Int):=by have c:(((((inK l l.length (l.getD i default).item.id).getD (0,0)).1:Nat):Int) == (i:Int)) = true:=c;exact eq_of_beq c
       rw [hp] at c
       have c:p.1 = i:=by have c:((p.1:Nat):Int) = (i:Int):=c;omega
       have hke:keptR l i = [withT (l.getD i default) ((inK l l.length (l.getD i default).item.id).getD (0,0)).2]:=by
        unfold keptR
        rw [he,hp]
        obtain ⟨j,t⟩:=p
        simp only at c
        subst c
        simp
       have hsn:compK l (i + 1) = compK l i ++ [withT (l.getD i default) ((inK l l.length (l.getD i default).item.id).getD (0,0)).2]:=by rw [compK,hke]
       repeat' (first | (refine zG zE (NS.chk (by kernel_rfl) ?_)) | (refine zG zE (NS.need (decide_eq_true (by simp only [maxRow];omega)) ?_)))
       refine zG zE (NS.next ⟨i + 1,a⟩ (by show l.length - (i + 1) < l.length - i;omega) ?_)
       exact weak_hd [(15,142)] rfl ⟨rfl,rfl,rfl,rfl,rfl,ren_int rfl (add1N (a:=i) (by omega)),trivial⟩ ⟨ren_row rfl (by rw [hsn];simp only [List.length_append,List.length_cons,List.length_nil]) (fun q hq j hj=>by rw [hsn] at hq ⊢;exact row_snoc (cells:=Jrec.cells) (x:=withT (l.getD i default) ((inK l l.length (l.getD i default).item.id).getD (0,0)).2) rfl q (by simp only [List.length_append,List.length_cons,List.length_nil] at hq ⊢;omega) j hj),⟨_,_,_,rfl,rfl,fun q hq=>rfl⟩,⟨_,_,_,rfl,rfl,fun q hq=>rfl⟩,trivial⟩ trivial (by kernel_rfl)
      ·have c:((((inK l l.length (l.getD i default).item.id).getD (0,0)).1:Nat):Int) ≠ (i:Int):=by have c:(((((inK l l.length (l.getD i default).item.id).getD (0,0)).1:Nat):Int) == (i:Int)) = false:=c;exact ne_of_beq_false c
       rw [hp] at c
       have c:p.1 ≠ i:=by intro e;apply c;simp [e]
       have hke:keptR l i = []:=by
        unfold keptR
        rw [he]
        obtain ⟨j,t⟩:=p
        show (if j = i then _ else _) = _
        rw [if_neg c]
       have hsn:compK l (i + 1) = compK l i:=by rw [compK,hke,List.append_nil]
       repeat' (first | (refine zG zE (NS.chk (by kernel_rfl) ?_)) | (refine zG zE (NS.no (rfl) ?_)))
       refine zG zE (NS.next ⟨i + 1,a⟩ (by show l.length - (i + 1) < l.length - i;omega) ?_)
       exact weak_hd [] rfl ⟨rfl,rfl,rfl,rfl,rfl,ren_int rfl (add1N (a:=i) (by omega)),trivial⟩ ⟨ren_row rfl (by rw [hsn]) (fun q hq j hj=>by rw [hsn]),⟨_,_,_,rfl,rfl,fun q hq=>rfl⟩,⟨_,_,_,rfl,rfl,fun q hq=>rfl⟩,trivial⟩ trivial (by kernel_rfl)
     ·have b4:(inK l l.length (l.getD i default).item.id).isSome = false:=b4
      have hn:inK l l.length (l.getD i default).item.id = none:=by simpa using b4
      have hke:keptR l i = []:=by unfold keptR endK;rw [if_pos b3,hn]
      have hsn:compK l (i + 1) = compK l i:=by rw [compK,hke,List.append_nil]
      repeat' (first | (refine zG zE (NS.chk (by kernel_rfl) ?_)) | (refine zG zE (NS.no (rfl) ?_)))
      refine zG zE (NS.next ⟨i + 1,a⟩ (by show l.length - (i + 1) < l.length - i;omega) ?_)
      exact weak_hd [] rfl ⟨rfl,rfl,rfl,rfl,rfl,ren_int rfl (add1N (a:=i) (by omega)),trivial⟩ ⟨ren_row rfl (by rw [hsn]) (fun q hq j hj=>by rw [hsn]),⟨_,_,_,rfl,rfl,fun q hq=>rfl⟩,⟨_,_,_,rfl,rfl,fun q hq=>rfl⟩,trivial⟩ trivial (by kernel_rfl)
    ·have b3:((l.getD i default).kind == 3) = false:=by simpa using h3
     refine zG zE (NS.no (b3) ?_)
     have hn:itK l l.length (l.getD i default).item.id = none:=by simpa using b
     have hke:keptR l i = []:=by unfold keptR endK;rw [if_neg (by rw [b3];decide),hn]
     have hsn:compK l (i + 1) = compK l i:=by rw [compK,hke,List.append_nil]
     repeat' (first | (refine zG zE (NS.chk (by kernel_rfl) ?_)) | (refine zG zE (NS.no (rfl) ?_)))
     refine zG zE (NS.next ⟨i + 1,a⟩ (by show l.length - (i + 1) < l.length - i;omega) ?_)
     exact weak_hd [] rfl ⟨rfl,rfl,rfl,rfl,rfl,ren_int rfl (add1N (a:=i) (by omega)),trivial⟩ ⟨ren_row rfl (by rw [hsn]) (fun q hq j hj=>by rw [hsn]),⟨_,_,_,rfl,rfl,fun q hq=>rfl⟩,⟨_,_,_,rfl,rfl,fun q hq=>rfl⟩,trivial⟩ trivial (by kernel_rfl)
  ·have a:i = l.length:=by have a:decide ((i:Int) < (l.length:Int)) = false:=a;have a:=of_decide_eq_false a;omega
   subst a
   refine zG zE (NS.leave rfl zE ?_)
   exact zG zE (NS.ret rfl rfl (LeA.tup2 (LeA.refl _) (LeA.refl _)))
def recsJ (n:Nod):List Jrec:=(rdJA (ls n.jour)).1
def shrJ (n:Nod):List Nat:=jnL (compM (recsJ n))
def shrN (n:Nod):Nod:={ n with jour:=bs (shrJ n),last:=((shrJ n).length:Int) }
def shrM (n:Nod):Nod × Int:=if chkN n != 0 then (zeroN,1) else if !n.up then (zeroN,29) else (shrN n,0)
structure RecJ (L:List Jrec) (s:Nat):Prop where
 ok:∀ r ∈ L,recErr r = 0
 con:∀ r ∈ L,(conL r).length <= 65536
 sz:(jnL L).length = s
theorem recsJ_ok {n:Nod} (h:Val n):RecJ (recsJ n) n.jour.size /\ recsJ n = (rdJ (ls n.jour)).1:=by
 have hs:=h.j.sz
 obtain ⟨j1,j2,j3,_,_,_,j7⟩:=jrn_ok (n:=n) (by omega)
 obtain ⟨b1,b2⟩:=rdJ_back (ls n.jour).length rfl (ls_lt n.jour)
 have e:recsJ n = (rdJ (ls n.jour)).1:=j2
 exact ⟨⟨by rw [e];exact j7,by rw [e];exact b2,by rw [e,b1,h.j.rd]⟩,e⟩
theorem comp_rec {L:List Jrec} {s:Nat} (h:RecJ L s) (hs:s <= 65536):RecJ (compM L) (jnL (compM L)).length /\ (jnL (compM L)).length <= s:=by
 have h1:=compM_sz h.ok h.con
 have h2:=h.sz
 exact ⟨⟨comp_ok h.ok _ (Nat.le_refl _),comp_con h.ok h.con (by omega),rfl⟩,by omega⟩
theorem app_rec {L:List Jrec} {s:Nat} (h:RecJ L s) (hs:s <= 65536):appM [] L = (jnL L,0):=appM_jnL h.ok h.con (by rw [h.sz];exact hs)
theorem shr_facts {n:Nod} (h:Val n):RecJ (compM (recsJ n)) (shrJ n).length /\ (shrJ n).length <= n.jour.size /\ (bs (shrJ n)).size = (shrJ n).length /\ ls (bs (shrJ n)) = shrJ n:=by
 obtain ⟨h1,_⟩:=recsJ_ok h
 obtain ⟨h2,h3⟩:=comp_rec h1 h.j.sz
 exact ⟨h2,h3,bs_len _,ls_bs (jnL_lt _)⟩
theorem shr_le {n:Nod} {J:ByteArray} {k:Int} (hJ:J = bs (shrJ n)) (hk:k = ((shrJ n).length:Int)) {a:List A} (h:a = [.int .i64 n.self,.int .i64 n.quota,.bool n.up,.str J,.int .i64 k,slItm n.dur.items,slItm n.dur.inbox,slOfr n.ofs]):LeA (.agg a) (.agg (shrN n).cells):=by
 subst h hJ hk
 exact LeA.refl _
theorem shrink_ok (n:Nod) (h1:n.dur.items.length <= 1000000) (h2:n.dur.inbox.length <= 1000000) (h3:n.ofs.length <= 1000000):FnOK Tryz.prog 59 [.agg n.cells] (nodE (shrM n),none):=by
 obtain ⟨R,hR⟩:∃ R,R = shrM n:=⟨_,rfl⟩
 rw [<- hR]
 unfold shrM at hR
 refine fn_ok CF rfl (by kernel_rfl) Tryz.func59 rfl ?_
 refine zG zE (NS.call (nCheck_ok n h1 h2 h3) rfl ?_)
 refine zG zE (NS.ite (fun a1=>?_) (fun a1=>?_))
 ·rw [if_pos a1] at hR
  exact zG zE (NS.ret rfl rfl (nodE_le hR (zeroN_le rfl) (LeA.refl _)))
 rw [if_neg (by rw [a1];decide)] at hR
 refine zG zE (NS.ite (fun a2=>?_) (fun a2=>?_))
 ·rw [if_pos a2] at hR
  exact zG zE (NS.ret rfl rfl (nodE_le hR (zeroN_le rfl) (LeA.refl _)))
 rw [if_neg (by rw [show (!n.up) = false from a2];decide)] at hR
 have hv:Val n:=(val_iff n).1 ⟨by have a1:(chkN n != 0) = false:=a1;simpa using a1,by have a2:(!n.up) = false:=a2;simpa using a2⟩
 obtain ⟨h6,h7⟩:=recsJ_ok hv
 obtain ⟨g1,g2,g3,g4⟩:=shr_facts hv
 have hs:=hv.j.sz
 have e1:rdJA (ls n.jour) = (recsJ n,(rdJA (ls n.jour)).2.1,0):=by
  obtain ⟨j1,_⟩:=jrn_ok (n:=n) (by omega)
  rw [<- j1]
  rfl
 have hrl:(recsJ n).length <= 65536:=rdJA_len (ls n.jour)
 have hcl:(compM (recsJ n)).length <= 65536:=by have:=comp_len (recsJ n) (recsJ n).length;show (compK _ _).length <= _;omega
 have cr:=read_ok n.jour
 rw [e1] at cr
 have ca:=append_ok .empty (compM (recsJ n)) (by decide) (by omega)
 rw [show ls .empty = [] from rfl,app_rec g1 (by omega)] at ca
 refine zG zE (NS.call (cr) rfl ?_)
 refine zG zE (NS.no (rfl) ?_)
 refine zG zE (NS.call (compact_ok (recsJ n) h6.ok (by omega)) rfl ?_)
 refine zG zE (NS.no (rfl) ?_)
 refine zG zE (NS.call (ca) rfl ?_)
 refine zG zE (NS.no (rfl) ?_)
 exact zG zE (NS.ret rfl rfl (nodE_le hR (shr_le rfl (by rw [<- g3];rfl) rfl) (LeA.refl _)))
theorem rFind42_ok (l:List Itm) (id:Nid) (hl:l.length <= 1000000):FnOK Tryz.prog 155 [slItm l,.agg id.cells] (.int .i64 (idx (hasId id) l),none):=by
 refine fn_ok CF rfl (by kernel_rfl) Tryz.func155 rfl ?_
 refine zG zE ?_
 refine NS.loop (σ:={ k:Nat // k <= l.length /\ ∀ i,i < k -> hasId id (l.getD i default) = false }) (fun k=>[(0,slItm l),(3,.ptr 3 0),(5,.int .i64 k.1)]) (fun _=>[(3,.box id.cells)]) (fun k=>l.length - k.1) ⟨0,Nat.zero_le _,fun i hi=>by omega⟩ ?_ ?_
 ·exact weak_hd [] rfl ⟨rfl,rfl,rfl,trivial⟩ ⟨⟨_,rfl,_,_,rfl,rfl,_,_,rfl,rfl,_,_,rfl,rfl,_,_,rfl,rfl,_,_,rfl,rfl,rfl⟩,trivial⟩ trivial (by kernel_rfl)
 rintro ⟨k,hk,hn⟩
 refine zG zE (NS.ite (fun h=>?_) (fun h=>?_))
 ·have h:k < l.length:=by have h:decide ((k:Int) < (l.length:Int)) = true:=h;have h:=of_decide_eq_true h;omega
  repeat' (first | (refine zG zE (NS.chk (by kernel_rfl) ?_)) | (refine zG zE (NS.need (in_row h) ?_)) | (refine zG zE (NS.need (in_row' h) ?_)))
  refine zG zE (NS.ite (fun h2=>?_) (fun h2=>?_))
  ·exact zG zE (NS.leaveOut rfl zE (NS.ret rfl rfl (LeA.of (congrArg (A.int .i64) ((idx_found (by omega) h2 hn).symm)))))
  ·refine zG zE (NS.next ⟨k + 1,by omega,fun i hi=>?_⟩ (by show l.length - (k + 1) < l.length - k;omega) ?_)
   ·by_cases hik:i = k
    ·subst hik;exact h2
    ·exact hn i (by omega)
   ·exact weak_hd [] rfl ⟨rfl,rfl,ren_int rfl (i64_k (k:=k) (n:=l.length) (by omega) (by omega)),trivial⟩ ⟨⟨_,rfl,_,_,rfl,rfl,_,_,rfl,rfl,_,_,rfl,rfl,_,_,rfl,rfl,_,_,rfl,rfl,rfl⟩,trivial⟩ trivial (by kernel_rfl)
 ·have h:k = l.length:=by have h:decide ((k:Int) < (l.length:Int)) = false:=h;have h:=of_decide_eq_false h;omega
  refine zG zE (NS.leave rfl zE ?_)
  exact zG zE (NS.ret rfl rfl (LeA.of (congrArg (A.int .i64) ((idx_none fun i hi=>hn i (by omega)).symm))))
def itsA (d:Dur):A:=.tup [slItm d.items,slItm d.inbox]
theorem its_le {d:Dur} {a b:List Itm} (h:d = ⟨a,b⟩) {x y:A} (hx:LeA x (slItm a)) (hy:LeA y (slItm b)):LeA (.tup [x,y]) (itsA d):=by
 subst h;exact LeA.tup2 hx hy
theorem row_snoc2 {l:List Itm} {x:Itm} {g:Nat -> Nat -> A} (i:Nat) (hi:i < l.length + 1) (j:Nat) (hj:j < 11):(if i < 0 + l.length then (if i < 0 then g i j else rowL Itm.cells l (i - 0) j) else getA x.cells ((i - (0 + l.length)) * 11 + j)) = rowL Itm.cells (l ++ [x]) i j:=by
 rw [Nat.zero_add,if_neg (Nat.not_lt_zero i),Nat.sub_zero]
 exact row_snoc (cells:=Itm.cells) (x:=x) rfl i hi j hj
theorem rStep42_ok (d:Dur) (r:Jrec) (hu:Uniq d.items) (hr:recErr r = 0) (h1:d.items.length <= 900000) (h2:d.inbox.length <= 900000):FnOK Tryz.prog 210 [slItm d.items,slItm d.inbox,.agg r.cells] (itsA (effM d r),none):=by
 have hx:=idx_lt (hasId r.item.id) d.items
 have hy:=idx_lt (hasId r.item.id) d.inbox
 have hz:=idx_lt (hasId r.id) d.items
 have hk:=recErr_kind hr
 obtain ⟨kd,x,id,tk,tm⟩:=r
 simp only at hx hy hz hk
 refine fn_ok CF rfl (by kernel_rfl) Tryz.func210 rfl ?_
 refine zG zE (NS.call (rFind42_ok d.items id (by omega)) rfl ?_)
 rcases hk with rfl | rfl | rfl | rfl
 ·repeat' (first | (refine zG zE (NS.chk (by kernel_rfl) ?_)) | (refine zG zE (NS.yes (rfl) ?_)) | (refine zG zE (NS.call (rFind42_ok d.items x.id (by omega)) rfl ?_)))
  refine zG zE (NS.ite (fun h=>?_) (fun h=>?_))
  ·have hw:withM d.items x = d.items ++ [x]:=by unfold withM;rw [if_neg (by have h:=of_decide_eq_true h;omega)]
   have he:effM d ⟨1,x,id,tk,tm⟩ = ⟨d.items ++ [x],d.inbox⟩:=by simp only [effM,hw];rfl
   rw [he]
   repeat' (first | (refine zG zE (NS.chk (by kernel_rfl) ?_)) | (refine zG zE (NS.need (decide_eq_true (by simp only [maxRow];simp;omega)) ?_)))
   exact zG zE (NS.ret rfl rfl (its_le rfl (LeA.sl (by simp) (fun i' hi j hj=>row_snoc2 (x:=x) (g:=fun _ _=>.junk) i' (by simpa using hi) j hj)) (LeA.refl _)))
  ·have hw:withM d.items x = d.items:=by unfold withM;rw [if_pos (by have h:=of_decide_eq_false h;omega)]
   have he:effM d ⟨1,x,id,tk,tm⟩ = d:=by simp only [effM,hw];rfl
   rw [he]
   repeat' (first | (refine zG zE (NS.chk (by kernel_rfl) ?_)) | (refine zG zE (NS.no (rfl) ?_)))
   exact zG zE (NS.ret rfl rfl (its_le rfl (LeA.refl _) (LeA.refl _)))
 ·have he:effM d ⟨2,x,id,tk,tm⟩ = ⟨d.items.filter (notId id),d.inbox⟩:=by simp only [effM];rfl
  rw [he]
  repeat' (first | (refine zG zE (NS.chk (by kernel_rfl) ?_)) | (refine zG zE (NS.no (rfl) ?_)) | (refine zG zE (NS.yes (rfl) ?_)))
  refine zG zE (NS.ite (fun h=>?_) (fun h=>?_))
  ·rcases idx_cases (hasId id) d.items with ⟨e,_⟩ | ⟨k,hkl,e,hp,_⟩
   ·have h:=of_decide_eq_true h
    omega
   have hf:=filter_cut hu hkl hp
   have ew:IntKind.i64.wrap (idx (hasId id) d.items + 1) = ((k + 1:Nat):Int):=by rw [e,add1N (by omega)]
   have ew2:IntKind.i64.wrap ((k:Int) + 1) = ((k + 1:Nat):Int):=add1N (by omega)
   refine zG zE (NS.chk (by kernel_rfl) ?_)
   repeat' (first | (refine zG zE (NS.need (decide_eq_true (by show 0 <= (0:Int) /\ 0 <= idx (hasId id) d.items /\ idx (hasId id) d.items <= (d.items.length:Int);rw [e];omega)) ?_)) | (refine zG zE (NS.need (decide_eq_true (by simp only [maxRow];omega)) ?_)) | (refine zG zE (NS.need (decide_eq_true (by show 0 <= IntKind.i64.wrap (idx (hasId id) d.items + 1) /\ IntKind.i64.wrap (idx (hasId id) d.items + 1) <= (d.items.length:Int) /\ (d.items.length:Int) <= (d.items.length:Int);rw [ew];omega)) ?_)))
   refine zG zE (NS.ret rfl rfl (its_le rfl ?_ (LeA.refl _)))
   have hcl:(d.items.filter (notId id)).length = d.items.length - 1:=by rw [<- hf,List.length_append,List.length_take,List.length_drop];omega
   refine LeA.sl (by rw [e,ew2,hcl];omega) (fun i hi j hj=>?_)
   have hi:i < 0 + (idx (hasId id) d.items - 0).toNat + ((d.items.length:Int) - IntKind.i64.wrap (idx (hasId id) d.items + 1)).toNat:=hi
   rw [e,ew2] at hi
   show (if i < 0 + (idx (hasId id) d.items - 0).toNat then (if i < 0 then A.junk else rowL Itm.cells d.items ((0:Int).toNat + (i - 0)) j) else rowL Itm.cells d.items ((IntKind.i64.wrap (idx (hasId id) d.items + 1)).toNat + (i - (0 + (idx (hasId id) d.items - 0).toNat))) j) = rowL Itm.cells (d.items.filter (notId id)) i j
   rw [e,ew2,<- hf]
   unfold rowL
   by_cases hik:i < k
   ·rw [if_pos (by omega),if_neg (Nat.not_lt_zero i)]
    have e1:(d.items.take k ++ d.items.drop (k + 1)).getD i default = d.items.getD i default:=by
     simp only [List.getD]
     rw [List.getElem?_append_left (by rw [List.length_take];omega),List.getElem?_take,if_pos hik]
    rw [e1,show (0:Int).toNat + (i - 0) = i by omega]
   ·rw [if_neg (by omega)]
    have e1:(d.items.take k ++ d.items.drop (k + 1)).getD i default = d.items.getD (i + 1) default:=by
     simp only [List.getD]
     rw [List.getElem?_append_right (by rw [List.length_take];omega),List.getElem?_drop,List.length_take]
     congr 2
     omega
    rw [e1,show (((k + 1:Nat):Int)).toNat + (i - (0 + ((k:Int) - 0).toNat)) = i + 1 by omega]
  ·have h:=of_decide_eq_false h
   rw [filter_none (by omega)]
   repeat' (first | (refine zG zE (NS.chk (by kernel_rfl) ?_)) | (refine zG zE (NS.no (rfl) ?_)))
   exact zG zE (NS.ret rfl rfl (its_le rfl (LeA.refl _) (LeA.refl _)))
 ·repeat' (first | (refine zG zE (NS.chk (by kernel_rfl) ?_)) | (refine zG zE (NS.no (rfl) ?_)) | (refine zG zE (NS.yes (rfl) ?_)) | (refine zG zE (NS.call (rFind42_ok d.inbox x.id (by omega)) rfl ?_)))
  refine zG zE (NS.ite (fun h=>?_) (fun h=>?_))
  ·have hw:withM d.inbox x = d.inbox ++ [x]:=by unfold withM;rw [if_neg (by have h:=of_decide_eq_true h;omega)]
   have he:effM d ⟨3,x,id,tk,tm⟩ = ⟨d.items,d.inbox ++ [x]⟩:=by simp only [effM,hw];rfl
   rw [he]
   repeat' (first | (refine zG zE (NS.chk (by kernel_rfl) ?_)) | (refine zG zE (NS.need (decide_eq_true (by simp only [maxRow];simp;omega)) ?_)))
   exact zG zE (NS.ret rfl rfl (its_le rfl (LeA.refl _) (LeA.sl (by simp) (fun i' hi j hj=>row_snoc2 (x:=x) (g:=fun _ _=>.junk) i' (by simpa using hi) j hj))))
  ·have hw:withM d.inbox x = d.inbox:=by unfold withM;rw [if_pos (by have h:=of_decide_eq_false h;omega)]
   have he:effM d ⟨3,x,id,tk,tm⟩ = d:=by simp only [effM,hw];rfl
   rw [he]
   repeat' (first | (refine zG zE (NS.chk (by kernel_rfl) ?_)) | (refine zG zE (NS.no (rfl) ?_)))
   exact zG zE (NS.ret rfl rfl (its_le rfl (LeA.refl _) (LeA.refl _)))
 ·have he:effM d ⟨4,x,id,tk,tm⟩ = ⟨setTick d.items id tk,d.inbox⟩:=by simp only [effM];rfl
  rw [he]
  repeat' (first | (refine zG zE (NS.chk (by kernel_rfl) ?_)) | (refine zG zE (NS.no (rfl) ?_)) | (refine zG zE (NS.yes (rfl) ?_)))
  refine zG zE (NS.ite (fun h=>?_) (fun h=>?_))
  ·have h:=of_decide_eq_true h
   have hs:setTick d.items id tk = d.items.modify (idx (hasId id) d.items).toNat (fun x=>{ x with ticket:=tk }):=by unfold setTick;rw [if_pos h]
   refine zG zE (NS.need (decide_eq_true (by simp only [maxRow];omega)) ?_)
   repeat' (first | (refine zG zE (NS.need (decide_eq_true (by omega)) ?_)))
   rw [hs]
   refine zG zE (NS.ret rfl rfl (its_le rfl ?_ (LeA.refl _)))
   refine LeA.sl (by simp) (fun i hi j hj=>?_)
   simp only [rowL,getD_modify _ _ _ _ (show i < d.items.length by simpa using hi)]
   have hj:j < 11:=hj
   by_cases hik:i = (idx (hasId id) d.items).toNat
   ·rw [if_pos hik]
    by_cases hj0:j = 0
    ·subst hj0;rw [if_pos ⟨hik,by omega,by omega⟩];rfl
    ·rw [if_neg (by omega),if_neg (Nat.not_lt_zero i),Nat.sub_zero]
     obtain ⟨j,rfl⟩:∃ q,j = q + 1:=⟨j - 1,by omega⟩
     rfl
   ·rw [if_neg hik,if_neg (by omega),if_neg (Nat.not_lt_zero i),Nat.sub_zero]
  ·have h:=of_decide_eq_false h
   have hs:setTick d.items id tk = d.items:=by unfold setTick;rw [if_neg (by omega)]
   rw [hs]
   repeat' (first | (refine zG zE (NS.chk (by kernel_rfl) ?_)) | (refine zG zE (NS.no (rfl) ?_)))
   exact zG zE (NS.ret rfl rfl (its_le rfl (LeA.refl _) (LeA.refl _)))
noncomputable def EEF:Env:={ P:=Tryz.prog,eqT:=lookE eqTab,frz:=[7,8] }
theorem EEF_ok:EqOK EEF:=eqOK_of eqTab_ok
noncomputable def CEF:Cx:={ E:=EEF,inl:=[],ok:=EEF_ok }
def row0 (l:List Itm):Nat -> Nat -> Nat -> A | 0=>fun _ _=>.junk | _ + 1=>rowL Itm.cells l
theorem row0_le {l:List Itm} {k:Nat} (h:k = 0 -> l = []):LeA (.sl 11 l.length (row0 l k)) (slItm l):=by
 cases k with
 | zero=>have:=h rfl;subst this;exact LeA.sl rfl (fun i hi=>absurd hi (Nat.not_lt_zero i))
 | succ k=>exact LeA.refl _
theorem rEffect42_ok (l:List Jrec) (hv:∀ r ∈ l,recErr r = 0) (hl:l.length <= 100000):FnOK Tryz.prog 154 [slR l] (itsA (effs l ⟨[],[]⟩),none):=by
 have hg:∀ k,Good (effs (l.take k) ⟨[],[]⟩):=fun k=>good_effs good_nil fun r h=>hv r (List.mem_of_mem_take h)
 have hn:∀ k,(effs (l.take k) ⟨[],[]⟩).items.length <= 900000 /\ (effs (l.take k) ⟨[],[]⟩).inbox.length <= 900000:=fun k=>by
  obtain ⟨i1,i2⟩:=effs_len (l.take k) ⟨[],[]⟩
  rw [List.length_take] at i1 i2
  simp only [List.length_nil] at i1 i2
  omega
 refine fn_ok CEF rfl (by kernel_rfl) Tryz.func154 rfl ?_
 refine zG zE ?_
 refine NS.loop (σ:={ k:Nat // k <= l.length }) (fun k=>[(0,slR l),(4,.sl 11 (effs (l.take k.1) ⟨[],[]⟩).items.length (row0 (effs (l.take k.1) ⟨[],[]⟩).items k.1)),(5,.sl 11 (effs (l.take k.1) ⟨[],[]⟩).inbox.length (row0 (effs (l.take k.1) ⟨[],[]⟩).inbox k.1)),(6,.int .i64 (k.1:Nat))]) (fun _=>[]) (fun k=>l.length - k.1) ⟨0,Nat.zero_le _⟩ ?_ ?_
 ·exact weak_hd [] rfl ⟨rfl,rfl,rfl,rfl,trivial⟩ trivial trivial (by kernel_rfl)
 rintro ⟨k,hk⟩
 refine zG zE (NS.ite (fun h=>?_) (fun h=>?_))
 ·have h:k < l.length:=by have h:decide ((k:Int) < (l.length:Int)) = true:=h;have h:=of_decide_eq_true h;omega
  have hr:=hv (l.getD k default) (by rw [getD_lt h];exact List.getElem_mem _)
  obtain ⟨n1,n2⟩:=hn k
  have e1:effM (effs (l.take k) ⟨[],[]⟩) (l.getD k default) = effs (l.take (k + 1)) ⟨[],[]⟩:=by rw [take_snoc h,effs_snoc]
  have cs:=(rStep42_ok (effs (l.take k) ⟨[],[]⟩) (l.getD k default) (hg k).2.2.1 hr n1 n2).le (LeL.cons (row0_le (k:=k) fun e=>by subst e;rfl) (LeL.cons (row0_le (k:=k) fun e=>by subst e;rfl) (LeL.cons (LeA.refl _) LeL.nil)))
  rw [e1] at cs
  repeat' (first | (refine zG zE (NS.chk (by kernel_rfl) ?_)) | (refine zG zE (NS.need (in_row h) ?_)) | (refine zG zE (NS.need (in_row' h) ?_)))
  refine zG zE (NS.call (cs) rfl ?_)
  refine zG zE (NS.next ⟨k + 1,by omega⟩ (by show l.length - (k + 1) < l.length - k;omega) ?_)
  exact weak_hd [] rfl ⟨rfl,rfl,rfl,ren_int rfl (i64_k (k:=k) (n:=l.length) (by omega) (by omega)),trivial⟩ trivial trivial (by kernel_rfl)
 ·have h:k = l.length:=by have h:decide ((k:Int) < (l.length:Int)) = false:=h;have h:=of_decide_eq_false h;omega
  subst h
  refine zG zE (NS.leave rfl zE ?_)
  rw [List.take_length] at *
  refine zG zE (NS.ret rfl rfl (its_le rfl ?_ ?_))
  ·exact row0_le fun e=>by rw [List.eq_nil_of_length_eq_zero e];rfl
  ·exact row0_le fun e=>by rw [List.eq_nil_of_length_eq_zero e];rfl
def scR (l:List Jrec) (i:Nat):Nat -> Bool × Int
 | 0=>(true,(l.getD i default).item.ticket)
 | d + 1=>(if (l.getD (i + 1 + d) default).kind = 2 /\ (l.getD (i + 1 + d) default).id = (l.getD i default).item.id then false else (scR l i d).1,
   if (l.getD (i + 1 + d) default).kind = 4 /\ (l.getD (i + 1 + d) default).id = (l.getD i default).item.id then (l.getD (i + 1 + d) default).ticket else (scR l i d).2)
theorem scR_succ (l:List Jrec) (i d:Nat):scR l i (d + 1) = (if (l.getD (i + 1 + d) default).kind = 2 /\ (l.getD (i + 1 + d) default).id = (l.getD i default).item.id then false else (scR l i d).1,
      if (l.getD (i + 1 + d) default).kind = 4 /\ (l.getD (i + 1 + d) default).id = (l.getD i default).item.id then (l.getD (i + 1 + d) default).ticket else (scR l i d).2):=rfl
theorem scR_2 (l:List Jrec) (i d:Nat):(scR l i (d + 1)).2 = if (l.getD (i + 1 + d) default).kind = 4 /\ (l.getD (i + 1 + d) default).id = (l.getD i default).item.id then (l.getD (i + 1 + d) default).ticket else (scR l i d).2:=rfl
theorem scR_it {l:List Jrec} {i:Nat} (hk:(l.getD i default).kind = 1) (hn:itK l i (l.getD i default).item.id = none):∀ d,((scR l i d).1 = true -> itK l (i + 1 + d) (l.getD i default).item.id = some (i,(scR l i d).2)) /\ ((scR l i d).1 = false -> ∀ j t,itK l (i + 1 + d) (l.getD i default).item.id = some (j,t) -> i < j)
 | 0=>by
  refine ⟨fun _=>?_,fun h=>by cases h⟩
  show itK l (i + 1) _ = _
  unfold itK
  rw [if_pos (by rw [hk];rfl),if_pos ⟨rfl,by rw [hn];rfl⟩]
  rfl
 | d + 1=>by
  obtain ⟨h1,h2⟩:=scR_it hk hn d
  have e:i + 1 + (d + 1) = (i + 1 + d) + 1:=by omega
  rw [e]
  by_cases a1:(l.getD (i + 1 + d) default).kind = 1
  ·have s:scR l i (d + 1) = scR l i d:=by
    rw [scR_succ]
    rw [if_neg (by rw [a1];rintro ⟨q,_⟩;cases q),if_neg (by rw [a1];rintro ⟨q,_⟩;cases q)]
   rw [s]
   refine ⟨fun q=>?_,fun q j t hj=>?_⟩
   ·have:=h1 q
    unfold itK
    rw [if_pos (by rw [a1];rfl),if_neg]
    ·exact this
    ·rintro ⟨_,q2⟩
     rw [this] at q2
     cases q2
   ·unfold itK at hj
    rw [if_pos (by rw [a1];rfl)] at hj
    split at hj
    ·simp only [Option.some.injEq,Prod.mk.injEq] at hj
     omega
    ·exact h2 q j t hj
  by_cases a2:(l.getD (i + 1 + d) default).kind = 2
  ·have hi:itK l (i + 1 + d + 1) (l.getD i default).item.id = if (l.getD (i + 1 + d) default).id = (l.getD i default).item.id then none else itK l (i + 1 + d) (l.getD i default).item.id:=by
    conv=>lhs;unfold itK
    rw [if_neg (by simpa using a1),if_pos (by rw [a2];rfl)]
   rw [hi]
   by_cases q:(l.getD (i + 1 + d) default).id = (l.getD i default).item.id
   ·have s:(scR l i (d + 1)).1 = false:=by rw [scR_succ];rw [if_pos ⟨a2,q⟩]
    rw [s,if_pos q]
    exact ⟨fun h=>(by cases h),fun _ j t h=>by cases h⟩
   ·have s:scR l i (d + 1) = scR l i d:=by
     rw [scR_succ]
     rw [if_neg (fun h=>q h.2),if_neg (fun h=>q h.2)]
    rw [s,if_neg q]
    exact ⟨h1,h2⟩
  by_cases a4:(l.getD (i + 1 + d) default).kind = 4
  ·have hi:itK l (i + 1 + d + 1) (l.getD i default).item.id = if (l.getD (i + 1 + d) default).id = (l.getD i default).item.id then (itK l (i + 1 + d) (l.getD i default).item.id).map (fun p=>(p.1,(l.getD (i + 1 + d) default).ticket)) else itK l (i + 1 + d) (l.getD i default).item.id:=by
    conv=>lhs;unfold itK
    rw [if_neg (by simpa using a1),if_neg (by simpa using a2),if_pos (by rw [a4];rfl)]
   rw [hi]
   have s1:(scR l i (d + 1)).1 = (scR l i d).1:=by rw [scR_succ];rw [if_neg (fun h=>a2 h.1)]
   rw [s1]
   by_cases q:(l.getD (i + 1 + d) default).id = (l.getD i default).item.id
   ·have s2:(scR l i (d + 1)).2 = (l.getD (i + 1 + d) default).ticket:=by rw [scR_2,if_pos ⟨a4,q⟩]
    rw [s2,if_pos q]
    refine ⟨fun h=>by rw [h1 h];rfl,fun h j t hj=>?_⟩
    cases e3:itK l (i + 1 + d) (l.getD i default).item.id with
    | none=>rw [e3] at hj;cases hj
    | some p=>
     rw [e3] at hj
     simp only [Option.map_some,Option.some.injEq,Prod.mk.injEq] at hj
     rw [<- hj.1]
     exact h2 h p.1 p.2 e3
   ·have s2:(scR l i (d + 1)).2 = (scR l i d).2:=by rw [scR_2,if_neg (fun h=>q h.2)]
    rw [s2,if_neg q]
    exact ⟨h1,h2⟩
  ·have hi:itK l (i + 1 + d + 1) (l.getD i default).item.id = itK l (i + 1 + d) (l.getD i default).item.id:=by
    conv=>lhs;unfold itK
    rw [if_neg (by simpa using a1),if_neg (by simpa using a2),if_neg (by simpa using a4)]
   have s:scR l i (d + 1) = scR l i d:=by
    rw [scR_succ]
    rw [if_neg (fun h=>a2 h.1),if_neg (fun h=>a4 h.1)]
   rw [hi,s]
   exact ⟨h1,h2⟩
theorem kept_sto {l:List Jrec} {i:Nat} (hi:i < l.length) (hk:(l.getD i default).kind = 1) (hn:itK l i (l.getD i default).item.id = none):keptR l i = if (scR l i (l.length - (i + 1))).1 = true then [withT (l.getD i default) (scR l i (l.length - (i + 1))).2] else []:=by
 obtain ⟨h1,h2⟩:=scR_it hk hn (l.length - (i + 1))
 rw [show i + 1 + (l.length - (i + 1)) = l.length by omega] at h1 h2
 have e:endK l i = itK l l.length (l.getD i default).item.id:=by unfold endK;rw [if_neg (by rw [hk];decide)]
 unfold keptR
 rw [e]
 by_cases q:(scR l i (l.length - (i + 1))).1 = true
 ·rw [h1 q,if_pos q]
  simp
 ·rw [if_neg q]
  cases e2:itK l l.length (l.getD i default).item.id with
  | none=>rfl
  | some p=>
   obtain ⟨j,t⟩:=p
   have:=h2 (by simpa using q) j t e2
   show (if j = i then _ else _) = _
   rw [if_neg (by omega)]
theorem kept_old {l:List Jrec} {i:Nat} (hk:(l.getD i default).kind = 1) (hn:(itK l i (l.getD i default).item.id).isSome = true):keptR l i = []:=by
 have e:endK l i = itK l l.length (l.getD i default).item.id:=by unfold endK;rw [if_neg (by rw [hk];decide)]
 unfold keptR
 rw [e]
 cases e2:itK l l.length (l.getD i default).item.id with
 | none=>rfl
 | some p=>
  obtain ⟨j,t⟩:=p
  show (if j = i then _ else _) = _
  rw [if_neg]
  rintro rfl
  rw [(itK_at e2).2.2] at hn
  cases hn
theorem kept_del {l:List Jrec} {i:Nat} (hi:i < l.length) (hk:(l.getD i default).kind = 3):keptR l i = if (inK l i (l.getD i default).item.id).isNone = true then [l.getD i default] else []:=by
 have e:endK l i = inK l l.length (l.getD i default).item.id:=by unfold endK;rw [if_pos (by rw [hk];rfl)]
 unfold keptR
 rw [e]
 cases e2:inK l i (l.getD i default).item.id with
 | none=>
  have h1:inK l (i + 1) (l.getD i default).item.id = some (i,(l.getD i default).item.ticket):=by
   unfold inK
   rw [if_pos (by rw [hk];rfl),if_pos ⟨rfl,by rw [e2];rfl⟩]
  have h2:=inK_keep h1 (l.length - (i + 1))
  rw [show i + 1 + (l.length - (i + 1)) = l.length by omega] at h2
  rw [h2]
  simp [withT_self]
 | some p=>
  obtain ⟨j,t⟩:=p
  have hj:=inK_lt e2
  have h2:=inK_keep e2 (l.length - i)
  rw [show i + (l.length - i) = l.length by omega] at h2
  rw [h2]
  show (if j = i then _ else _) = _
  rw [if_neg (by omega)]
  rfl
theorem comp_take {l:List Jrec} {k:Nat}:compK l (k + 1) = compK l k ++ keptR l k:=rfl
def rowRec (L:List Jrec):Ob:=.row 101 19 L.length (rowL Jrec.cells L)
theorem kept_no {l:List Jrec} {i:Nat} (h1:(l.getD i default).kind ≠ 1) (h3:(l.getD i default).kind ≠ 3):keptR l i = []:=by
 have e:endK l i = itK l l.length (l.getD i default).item.id:=by unfold endK;rw [if_neg (by simpa using h3)]
 unfold keptR
 rw [e]
 cases e2:itK l l.length (l.getD i default).item.id with
 | none=>rfl
 | some p=>
  obtain ⟨j,t⟩:=p
  show (if j = i then _ else _) = _
  rw [if_neg]
  rintro rfl
  exact h1 (itK_at e2).1
theorem ren_jrec (σ:Nat -> Nat) (x:Jrec):RenL σ x.cells x.cells:=by
 exact ⟨_,_,rfl,rfl,_,_,rfl,rfl,_,_,rfl,rfl,_,_,rfl,rfl,_,_,rfl,rfl,_,_,rfl,rfl,_,_,rfl,rfl,_,_,rfl,rfl,_,_,rfl,rfl,_,_,rfl,rfl,_,_,rfl,.inl rfl,_,_,rfl,rfl,_,_,rfl,rfl,_,_,rfl,rfl,_,_,rfl,rfl,_,_,rfl,rfl,_,_,rfl,rfl,_,_,rfl,rfl,_,_,rfl,rfl,rfl⟩
theorem rCompact_ok (l:List Jrec) (hv:∀ r ∈ l,recErr r = 0) (hl:l.length <= 100000):FnOK Tryz.prog 98 [slR l] (.tup [slR (compM l),.int .i64 0],none):=by
 refine fn_ok CF rfl (by kernel_rfl) Tryz.func98 rfl ?_
 refine zG zE ?_
 refine NS.loop (σ:={ k:Nat // k <= l.length }) (fun k=>[(0,slR l),(4,.own 13),(5,.int .i64 (k.1:Nat))]) (fun k=>[(13,rowRec [])]) (fun k=>l.length - k.1) ⟨0,Nat.zero_le _⟩ ?_ ?_
 ·exact weak_hd [] rfl ⟨rfl,rfl,rfl,trivial⟩ ⟨ren_row rfl rfl fun i hi=>absurd hi (Nat.not_lt_zero i),trivial⟩ trivial (by kernel_rfl)
 rintro ⟨k,hk⟩
 have hk:k <= l.length:=hk
 refine zG zE (NS.ite (fun a=>?_) (fun a=>?_))
 ·have a:k < l.length:=by have a:decide ((k:Int) < (l.length:Int)) = true:=a;have a:=of_decide_eq_true a;omega
  have hr:=hv (l.getD k default) (by rw [getD_lt a];exact List.getElem_mem _)
  have cc:=rCheck_ok (l.getD k default)
  rw [hr] at cc
  repeat' (first | (refine zG zE (NS.chk (by kernel_rfl) ?_)) | (refine zG zE (NS.need (in_row a) ?_)) | (refine zG zE (NS.need (in_row' a) ?_)) | (refine zG zE (NS.call (cc) rfl ?_)))
  refine zG zE (NS.no (rfl) ?_)
  refine zG zE (NS.next ⟨k + 1,a⟩ (by show l.length - (k + 1) < l.length - k;omega) ?_)
  exact weak_hd [] rfl ⟨rfl,rfl,ren_int rfl (add1N (a:=k) (by omega)),trivial⟩ ⟨ren_row rfl rfl fun i hi=>absurd hi (Nat.not_lt_zero i),trivial⟩ trivial (by kernel_rfl)
 refine zG zE (NS.leave rfl zE ?_)
 refine zG zE ?_
 refine NS.loop (σ:={ k:Nat // k <= l.length }) (fun k=>[(0,slR l),(4,.own 13),(7,.int .i64 (k.1:Nat))]) (fun k=>[(13,rowRec (compK l k.1))]) (fun k=>l.length - k.1) ⟨0,Nat.zero_le _⟩ ?_ ?_
 ·exact weak_hd [] rfl ⟨rfl,rfl,rfl,trivial⟩ ⟨ren_row rfl rfl fun i hi=>absurd hi (Nat.not_lt_zero i),trivial⟩ trivial (by kernel_rfl)
 clear a
 rintro ⟨i,hi⟩
 have hi:i <= l.length:=hi
 have hcl:=comp_len l i
 refine zG zE (NS.ite (fun a=>?_) (fun a=>?_))
 ·have a:i < l.length:=by have a:decide ((i:Int) < (l.length:Int)) = true:=a;have a:=of_decide_eq_true a;omega
  have hr:=hv (l.getD i default) (by rw [getD_lt a];exact List.getElem_mem _)
  have hef:=effs_K hv i hi
  have hel:=effs_len (l.take i) ⟨[],[]⟩
  rw [hef,List.length_take] at hel
  simp only [List.length_nil,Nat.zero_add] at hel
  have cE:=(rEffect42_ok (l.take i) (fun r h=>hv r (List.mem_of_mem_take h)) (by rw [List.length_take];omega)).le (LeL.cons (LeA.sl (c:=19) (n:=((i:Int) - ((0:Nat):Int)).toNat) (el:=fun j=>rowL Jrec.cells l (((0:Nat):Int).toNat + j)) (by rw [List.length_take];omega) (fun j hj q hq=>by
   have hj:j < i:=by omega
   show getA ((l.getD (((0:Nat):Int).toNat + j) default).cells) q = getA (((l.take i).getD j default).cells) q
   rw [show (((0:Nat):Int).toNat + j) = j by omega,getD_lt (by omega),getD_lt (by rw [List.length_take];omega),List.getElem_take])) LeL.nil)
  rw [hef] at cE
  repeat' (first | (refine zG zE (NS.chk (by kernel_rfl) ?_)) | (refine zG zE (NS.need (in_row a) ?_)) | (refine zG zE (NS.need (decide_eq_true (show (0:Int) <= 0 /\ (0:Int) <= (i:Int) /\ (i:Int) <= (l.length:Int) by omega)) ?_)))
  refine zG zE (NS.call (cE) rfl ?_)
  rcases recErr_kind hr with e1 | e1 | e1 | e1
  ·have k3:((l.getD i default).kind == 3) = false:=by rw [e1];rfl
   have k1:((l.getD i default).kind == 1) = true:=by rw [e1];rfl
   refine zG zE (NS.no (k3) ?_)
   refine zG zE (NS.yes (k1) ?_)
   refine zG zE (NS.call (rFind42_ok (itL l i) (l.getD i default).item.id (by omega)) rfl ?_)
   have hge:=idx_ge (hasId (l.getD i default).item.id) (itL l i)
   rw [itL_any] at hge
   refine zG zE (NS.ite (fun b=>?_) (fun b=>?_))
   ·have b:=hge.1 (of_decide_eq_true b)
    have hc:compK l (i + 1) = compK l i:=by rw [comp_take,kept_old e1 b,List.append_nil]
    refine zG zE (NS.next ⟨i + 1,a⟩ (by show l.length - (i + 1) < l.length - i;omega) ?_)
    exact weak_hd [] rfl ⟨rfl,rfl,ren_int rfl (add1N (a:=i) (by omega)),trivial⟩ ⟨ren_row rfl (congrArg List.length hc.symm) fun _ _ _ _=>by rw [hc],trivial⟩ trivial (by kernel_rfl)
   have b:itK l i (l.getD i default).item.id = none:=by
    have b:=of_decide_eq_false b
    cases q:itK l i (l.getD i default).item.id with
    | none=>rfl
    | some p=>rw [q] at hge;exact absurd (hge.2 rfl) b
   refine zG zE ?_
   refine NS.loop (σ:={ d:Nat // i + 1 + d <= l.length }) (fun d=>[(0,slR l),(4,.own 13),(7,.int .i64 (i:Nat)),(8,.ptr 8 0),(11,.bool (scR l i d.1).1),(12,.int .i64 ((i + 1 + d.1:Nat):Int))]) (fun d=>[(13,rowRec (compK l i)),(8,.box (withT (l.getD i default) (scR l i d.1).2).cells)]) (fun d=>l.length - (i + 1 + d.1)) ⟨0,by omega⟩ ?_ ?_
   ·exact weak_hd [] rfl ⟨rfl,rfl,rfl,rfl,.inr rfl,ren_int rfl (add1N (a:=i) (by omega)),trivial⟩ ⟨ren_row rfl rfl fun _ _ _ _=>rfl,⟨_,rfl,ren_jrec _ _⟩,trivial⟩ trivial (by kernel_rfl)
   rintro ⟨d,hd⟩
   have hd:i + 1 + d <= l.length:=hd
   refine zG zE (NS.ite (fun g=>?_) (fun g=>?_))
   ·have g:i + 1 + d < l.length:=by have g:decide (((i + 1 + d:Nat):Int) < (l.length:Int)) = true:=g;have g:=of_decide_eq_true g;omega
    repeat' (first | (refine zG zE (NS.chk (by kernel_rfl) ?_)) | (refine zG zE (NS.need (in_row g) ?_)) | (refine zG zE (NS.need (in_row' g) ?_)))
    refine zG zE (NS.ite (fun g2=>?_) (fun g2=>?_))
    ·have g2:(l.getD (i + 1 + d) default).kind = 2:=eq_of_beq g2
     have k4:((l.getD (i + 1 + d) default).kind == 4) = false:=by rw [g2];rfl
     repeat' (first | (refine zG zE (NS.chk (by kernel_rfl) ?_)) | (refine zG zE (NS.need (in_row g) ?_)) | (refine zG zE (NS.need (in_row' g) ?_)))
     refine zG zE (NS.ite (fun g3=>?_) (fun g3=>?_))
     ·have g3:(l.getD (i + 1 + d) default).id = (l.getD i default).item.id:=Nid.eqv_iff.1 g3
      repeat' (first | (refine zG zE (NS.chk (by kernel_rfl) ?_)) | (refine zG zE (NS.need (in_row g) ?_)) | (refine zG zE (NS.need (in_row' g) ?_)))
      refine zG zE (NS.no (k4) ?_)
      have hs:scR l i (d + 1) = (false,(scR l i d).2):=by rw [scR_succ,if_pos ⟨g2,g3⟩,if_neg (by rw [g2];rintro ⟨q,_⟩;cases q)]
      refine zG zE (NS.next ⟨d + 1,by omega⟩ (by show l.length - (i + 1 + (d + 1)) < l.length - (i + 1 + d);omega) ?_)
      exact weak_hd [] rfl ⟨rfl,rfl,rfl,rfl,ren_kb rfl (by rw [hs]),ren_int rfl (add1N (a:=i + 1 + d) (by omega)),trivial⟩ ⟨ren_row rfl rfl fun _ _ _ _=>rfl,⟨_,rfl,(by show RenL _ (withT (l.getD i default) (scR l i (d + 1)).2).cells _;rw [hs];exact ren_jrec _ _)⟩,trivial⟩ trivial (by kernel_rfl)
     ·have g3:¬ (l.getD (i + 1 + d) default).id = (l.getD i default).item.id:=fun q=>by have:=(Nid.eqv_iff.2 q).symm.trans g3;cases this
      repeat' (first | (refine zG zE (NS.chk (by kernel_rfl) ?_)) | (refine zG zE (NS.need (in_row g) ?_)) | (refine zG zE (NS.need (in_row' g) ?_)))
      refine zG zE (NS.no (k4) ?_)
      have hs:scR l i (d + 1) = scR l i d:=by rw [scR_succ,if_neg (fun q=>g3 q.2),if_neg (fun q=>g3 q.2)]
      refine zG zE (NS.next ⟨d + 1,by omega⟩ (by show l.length - (i + 1 + (d + 1)) < l.length - (i + 1 + d);omega) ?_)
      exact weak_hd [] rfl ⟨rfl,rfl,rfl,rfl,ren_bool rfl (by rw [hs]),ren_int rfl (add1N (a:=i + 1 + d) (by omega)),trivial⟩ ⟨ren_row rfl rfl fun _ _ _ _=>rfl,⟨_,rfl,(by show RenL _ (withT (l.getD i default) (scR l i (d + 1)).2).cells _;rw [hs];exact ren_jrec _ _)⟩,trivial⟩ trivial (by kernel_rfl)
    ·have g2:¬ (l.getD (i + 1 + d) default).kind = 2:=ne_of_beq_false g2
     repeat' (first | (refine zG zE (NS.chk (by kernel_rfl) ?_)) | (refine zG zE (NS.need (in_row g) ?_)) | (refine zG zE (NS.need (in_row' g) ?_)))
     refine zG zE (NS.ite (fun g3=>?_) (fun g3=>?_))
     ·have g3:(l.getD (i + 1 + d) default).kind = 4:=eq_of_beq g3
      repeat' (first | (refine zG zE (NS.chk (by kernel_rfl) ?_)) | (refine zG zE (NS.need (in_row g) ?_)) | (refine zG zE (NS.need (in_row' g) ?_)))
      refine zG zE (NS.ite (fun g4=>?_) (fun g4=>?_))
      ·have g4:(l.getD (i + 1 + d) default).id = (l.getD i default).item.id:=Nid.eqv_iff.1 g4
       repeat' (first | (refine zG zE (NS.chk (by kernel_rfl) ?_)) | (refine zG zE (NS.need (in_row g) ?_)) | (refine zG zE (NS.need (in_row' g) ?_)))
       have hs:scR l i (d + 1) = ((scR l i d).1,(l.getD (i + 1 + d) default).ticket):=by rw [scR_succ,if_neg (fun q=>g2 q.1),if_pos ⟨g3,g4⟩]
       refine zG zE (NS.next ⟨d + 1,by omega⟩ (by show l.length - (i + 1 + (d + 1)) < l.length - (i + 1 + d);omega) ?_)
       exact weak_hd [] rfl ⟨rfl,rfl,rfl,rfl,ren_bool rfl (by rw [hs]),ren_int rfl (add1N (a:=i + 1 + d) (by omega)),trivial⟩ ⟨ren_row rfl rfl fun _ _ _ _=>rfl,⟨_,rfl,(by show RenL _ (withT (l.getD i default) (scR l i (d + 1)).2).cells _;rw [hs];exact ren_jrec _ (withT (l.getD i default) (l.getD (i + 1 + d) default).ticket))⟩,trivial⟩ trivial (by kernel_rfl)
      ·have g4:¬ (l.getD (i + 1 + d) default).id = (l.getD i default).item.id:=fun q=>by have:=(Nid.eqv_iff.2 q).symm.trans g4;cases this
       repeat' (first | (refine zG zE (NS.chk (by kernel_rfl) ?_)) | (refine zG zE (NS.need (in_row g) ?_)) | (refine zG zE (NS.need (in_row' g) ?_)))
       have hs:scR l i (d + 1) = scR l i d:=by rw [scR_succ,if_neg (fun q=>g4 q.2),if_neg (fun q=>g4 q.2)]
       refine zG zE (NS.next ⟨d + 1,by omega⟩ (by show l.length - (i + 1 + (d + 1)) < l.length - (i + 1 + d);omega) ?_)
       exact weak_hd [] rfl ⟨rfl,rfl,rfl,rfl,ren_bool rfl (by rw [hs]),ren_int rfl (add1N (a:=i + 1 + d) (by omega)),trivial⟩ ⟨ren_row rfl rfl fun _ _ _ _=>rfl,⟨_,rfl,(by show RenL _ (withT (l.getD i default) (scR l i (d + 1)).2).cells _;rw [hs];exact ren_jrec _ _)⟩,trivial⟩ trivial (by kernel_rfl)
     ·have g3:¬ (l.getD (i + 1 + d) default).kind = 4:=ne_of_beq_false g3
      repeat' (first | (refine zG zE (NS.chk (by kernel_rfl) ?_)) | (refine zG zE (NS.need (in_row g) ?_)) | (refine zG zE (NS.need (in_row' g) ?_)))
      have hs:scR l i (d + 1) = scR l i d:=by rw [scR_succ,if_neg (fun q=>g2 q.1),if_neg (fun q=>g3 q.1)]
      refine zG zE (NS.next ⟨d + 1,by omega⟩ (by show l.length - (i + 1 + (d + 1)) < l.length - (i + 1 + d);omega) ?_)
      exact weak_hd [] rfl ⟨rfl,rfl,rfl,rfl,ren_bool rfl (by rw [hs]),ren_int rfl (add1N (a:=i + 1 + d) (by omega)),trivial⟩ ⟨ren_row rfl rfl fun _ _ _ _=>rfl,⟨_,rfl,(by show RenL _ (withT (l.getD i default) (scR l i (d + 1)).2).cells _;rw [hs];exact ren_jrec _ _)⟩,trivial⟩ trivial (by kernel_rfl)
   ·refine zG zE (NS.leave rfl zE ?_)
    have g:i + 1 + d = l.length:=by have g:decide (((i + 1 + d:Nat):Int) < (l.length:Int)) = false:=g;have g:=of_decide_eq_false g;omega
    refine zG zE (NS.ite (fun g3=>?_) (fun g3=>?_))
    ·have hc:compK l (i + 1) = compK l i ++ [withT (l.getD i default) (scR l i d).2]:=by rw [comp_take,kept_sto a e1 b,show l.length - (i + 1) = d by omega,if_pos g3]
     repeat' (first | (refine zG zE (NS.chk (by kernel_rfl) ?_)) | (refine zG zE (NS.need (decide_eq_true (by simp only [maxRow];omega)) ?_)))
     refine zG zE (NS.next ⟨i + 1,a⟩ (by show l.length - (i + 1) < l.length - i;omega) ?_)
     exact weak_hd [(13,121)] rfl ⟨rfl,rfl,ren_int rfl (add1N (a:=i) (by omega)),trivial⟩ ⟨ren_row rfl (by rw [hc];simp only [List.length_append,List.length_cons,List.length_nil]) (fun q hq j hj=>by rw [hc] at hq ⊢;exact row_snoc (cells:=Jrec.cells) (x:=withT (l.getD i default) (scR l i d).2) rfl q (by simpa using hq) j hj),trivial⟩ trivial (by kernel_rfl)
    ·refine zG zE (NS.next ⟨i + 1,a⟩ (by show l.length - (i + 1) < l.length - i;omega) ?_)
     have hc:compK l (i + 1) = compK l i:=by rw [comp_take,kept_sto a e1 b,show l.length - (i + 1) = d by omega,if_neg (by rw [g3];decide),List.append_nil]
     exact weak_hd [] rfl ⟨rfl,rfl,ren_int rfl (add1N (a:=i) (by omega)),trivial⟩ ⟨ren_row rfl (congrArg List.length hc.symm) fun _ _ _ _=>by rw [hc],trivial⟩ trivial (by kernel_rfl)
  ·have k3:((l.getD i default).kind == 3) = false:=by rw [e1];rfl
   have k1:((l.getD i default).kind == 1) = false:=by rw [e1];rfl
   refine zG zE (NS.no (k3) ?_)
   refine zG zE (NS.no (k1) ?_)
   have hc:compK l (i + 1) = compK l i:=by rw [comp_take,kept_no (by rw [e1];decide) (by rw [e1];decide),List.append_nil]
   refine zG zE (NS.next ⟨i + 1,a⟩ (by show l.length - (i + 1) < l.length - i;omega) ?_)
   exact weak_hd [] rfl ⟨rfl,rfl,ren_int rfl (add1N (a:=i) (by omega)),trivial⟩ ⟨ren_row rfl (congrArg List.length hc.symm) fun _ _ _ _=>by rw [hc],trivial⟩ trivial (by kernel_rfl)
  ·have k3:((l.getD i default).kind == 3) = true:=by rw [e1];rfl
   refine zG zE (NS.yes (k3) ?_)
   refine zG zE (NS.call (rFind42_ok (inL l i) (l.getD i default).item.id (by omega)) rfl ?_)
   have hge:=idx_ge (hasId (l.getD i default).item.id) (inL l i)
   rw [inL_any] at hge
   refine zG zE (NS.ite (fun b=>?_) (fun b=>?_))
   ·have hc:compK l (i + 1) = compK l i ++ [l.getD i default]:=by
     rw [comp_take,kept_del a e1,if_pos]
     have b:=of_decide_eq_true b
     cases q:inK l i (l.getD i default).item.id with
     | none=>rfl
     | some p=>rw [q] at hge;exact absurd (hge.2 rfl) (by omega)
    repeat' (first | (refine zG zE (NS.chk (by kernel_rfl) ?_)) | (refine zG zE (NS.need (decide_eq_true (by simp only [maxRow];omega)) ?_)))
    refine zG zE (NS.next ⟨i + 1,a⟩ (by show l.length - (i + 1) < l.length - i;omega) ?_)
    exact weak_hd [(13,59)] rfl ⟨rfl,rfl,ren_int rfl (add1N (a:=i) (by omega)),trivial⟩ ⟨ren_row rfl (by rw [hc];simp only [List.length_append,List.length_cons,List.length_nil]) (fun q hq j hj=>by rw [hc] at hq ⊢;exact row_snoc (cells:=Jrec.cells) (x:=l.getD i default) rfl q (by simpa using hq) j hj),trivial⟩ trivial (by kernel_rfl)
   ·have hc:compK l (i + 1) = compK l i:=by
     rw [comp_take,kept_del a e1,if_neg,List.append_nil]
     have b:=of_decide_eq_false b
     rw [Option.isNone_iff_eq_none]
     intro q
     rw [q] at hge
     exact absurd (hge.1 (by omega)) (by decide)
    refine zG zE (NS.next ⟨i + 1,a⟩ (by show l.length - (i + 1) < l.length - i;omega) ?_)
    exact weak_hd [] rfl ⟨rfl,rfl,ren_int rfl (add1N (a:=i) (by omega)),trivial⟩ ⟨ren_row rfl (congrArg List.length hc.symm) fun _ _ _ _=>by rw [hc],trivial⟩ trivial (by kernel_rfl)
  ·have k3:((l.getD i default).kind == 3) = false:=by rw [e1];rfl
   have k1:((l.getD i default).kind == 1) = false:=by rw [e1];rfl
   refine zG zE (NS.no (k3) ?_)
   refine zG zE (NS.no (k1) ?_)
   have hc:compK l (i + 1) = compK l i:=by rw [comp_take,kept_no (by rw [e1];decide) (by rw [e1];decide),List.append_nil]
   refine zG zE (NS.next ⟨i + 1,a⟩ (by show l.length - (i + 1) < l.length - i;omega) ?_)
   exact weak_hd [] rfl ⟨rfl,rfl,ren_int rfl (add1N (a:=i) (by omega)),trivial⟩ ⟨ren_row rfl (congrArg List.length hc.symm) fun _ _ _ _=>by rw [hc],trivial⟩ trivial (by kernel_rfl)
 have hkl:i = l.length:=by have a:decide ((i:Int) < (l.length:Int)) = false:=a;have a:=of_decide_eq_false a;omega
 subst hkl
 refine zG zE (NS.leave rfl zE ?_)
 exact zG zE (NS.ret rfl rfl (LeA.tup2 (LeA.refl _) (LeA.refl _)))
theorem zero_ret2 {r:Nod × List Mb.Act × Int} {e:Int} {a:List A} {x z:A} (h:r = (zeroN,[],e)) (ha:a = [.int .i64 0,.int .i64 0,.bool false,.str .empty,.int .i64 0,.nils,.nils,.nils]) (hx:LeA x (slAct [])) (hz:LeA z (.int .i64 e)):LeA (.tup [.agg a,x,z]) (nodA r):=by
 subst h
 exact LeA.tup3 (zeroN_le ha) hx hz
theorem findK {d:Dur} (hd:Good d) (t:Int) {k:Nat} (hk:k < (d.items.filter (expd t)).length):
  findM (effs ((expRecs t d.items).take k) d) ((d.items.filter (expd t)).getD k default).id = ((d.items.filter (expd t)).getD k default,true):=by
 have hE:Uniq (d.items.filter (expd t)):=uniq_filter hd.2.2.1
 have e:effs ((expRecs t d.items).take k) d = ⟨d.items.filter (fun x=>(((d.items.filter (expd t)).take k).map Itm.id).all fun i=>notId i x),d.inbox⟩:=by
  rw [expRecs_map,<- List.map_take,<- List.map_take,effs_remove]
 rw [e]
 refine find_eq (uniq_filter hd.2.2.1) ?_
 have hm:(d.items.filter (expd t)).getD k default ∈ d.items.filter (expd t):=by rw [getD_lt hk];exact List.getElem_mem _
 rw [List.mem_filter]
 refine ⟨(List.mem_filter.1 hm).1,?_⟩
 rw [List.all_eq_true]
 intro i hi
 obtain ⟨y,hy,rfl⟩:=List.mem_map.1 hi
 obtain ⟨j,hj,e2⟩:=List.mem_iff_getElem.1 hy
 rw [List.length_take] at hj
 rw [List.getElem_take] at e2
 have h3:=uniq_get.1 hE j k (by omega) hk (by omega)
 unfold notId
 rw [Bool.not_eq_true',<- Bool.not_eq_true,hasId,Nid.eqv_iff]
 rw [getD_lt hk,<- e2]
 first | exact h3 | exact fun e=>h3 e.symm
theorem recs_get (t:Int) (l:List Itm) {k:Nat} (hk:k < (expRecs t l).length):(expRecs t l).getD k default = ⟨2,.zero,((l.filter (expd t)).getD k default).id,0,t⟩:=by
 rw [expRecs_map,List.length_map,List.length_map] at hk
 rw [expRecs_map,getD_lt (by simpa using hk),getD_lt hk]
 simp
theorem recs_len (t:Int) (l:List Itm):(expRecs t l).length = (l.filter (expd t)).length:=by rw [expRecs_map,List.length_map,List.length_map]
noncomputable def CRQ:Cx:={ E:=EF,inl:=[],ok:=EF_ok }
theorem refRest_ok (n:Nod) (t:Int) (h1:n.dur.items.length <= 1000000) (h2:n.dur.inbox.length <= 1000000) (h3:n.ofs.length <= 1000000):FnOK Tryz.prog 58 [.agg n.cells,.int .i64 t] (nodA (restM n t),none):=by
 obtain ⟨R,hR⟩:∃ R,R = restM n t:=⟨_,rfl⟩
 rw [<- hR]
 unfold restM at hR
 have cc:=rCheckN_ok n h1 h2
 rw [chk_eq n h1 h2 h3] at cc
 refine fn_ok CRQ rfl (by kernel_rfl) Tryz.func58 rfl ?_
 refine zG zE (NS.call (cc) rfl ?_)
 refine zG zE (NS.ite (fun a1=>?_) (fun a1=>?_))
 ·rw [if_pos a1] at hR
  exact zG zE (NS.ret rfl rfl (zero_ret2 hR rfl (LeA.sl rfl fun i hi=>absurd hi (Nat.not_lt_zero i)) (LeA.refl _)))
 have hc:chkN n = 0:=by have a1:(chkN n != 0) = false:=a1;simpa using a1
 rw [if_neg (by rw [a1];decide)] at hR
 refine zG zE (NS.ite (fun a2=>?_) (fun a2=>?_))
 ·rw [if_pos a2] at hR
  exact zG zE (NS.ret rfl rfl (zero_ret2 hR rfl (LeA.sl rfl fun i hi=>absurd hi (Nat.not_lt_zero i)) (LeA.refl _)))
 rw [if_neg (by rw [show n.up = false from a2];decide)] at hR
 refine zG zE (NS.ite (fun a3=>?_) (fun a3=>?_))
 ·rw [if_pos (by rw [show decide (t < 0) = true from a3];rfl)] at hR
  exact zG zE (NS.ret rfl rfl (zero_ret2 hR rfl (LeA.sl rfl fun i hi=>absurd hi (Nat.not_lt_zero i)) (LeA.refl _)))
 refine zG zE (NS.ite (fun a4=>?_) (fun a4=>?_))
 ·rw [if_pos (by rw [show decide (t < 0) = false from a3,show decide (t > 1099511627776) = true from a4];rfl)] at hR
  exact zG zE (NS.ret rfl rfl (zero_ret2 hR rfl (LeA.sl rfl fun i hi=>absurd hi (Nat.not_lt_zero i)) (LeA.refl _)))
 have ht:inR t 0 1099511627776 = true:=by
  have a3:decide (t < 0) = false:=a3
  have a4:decide (t > 1099511627776) = false:=a4
  rw [inR_iff]
  simp only [decide_eq_false_iff_not] at a3 a4
  omega
 rw [if_neg (by rw [show decide (t < 0) = false from a3,show decide (t > 1099511627776) = false from a4];decide)] at hR
 obtain ⟨j1,j2,j3,j4,j5,j6⟩:=jd_of hc
 have hex:expireM (durM n.jour).1 t = (recsM n t,0):=by
  unfold expireM
  rw [(good_iff _).2 j2,ht]
  rfl
 have hvr:∀ r ∈ recsM n t,recErr r = 0:=expRecs_ok j2 ht
 have hlw:effs (recsM n t) (durM n.jour).1 = upD n t:=expired_law j2
 have hel:(recsM n t).length <= (durM n.jour).1.items.length:=by rw [show (recsM n t).length = _ from recs_len t _];exact List.length_filter_le _ _
 have cex:=rExpire_ok (durM n.jour).1 t (by omega) (by omega)
 rw [hex] at cex
 refine zG zE (NS.call (refDur_ok n.jour) rfl ?_)
 refine zG zE (NS.chk (by kernel_rfl) ?_)
 refine zG zE (NS.call (rUsed_ok (durM n.jour).1 (by omega)) rfl ?_)
 refine zG zE (NS.ite (fun a6=>?_) (fun a6=>?_))
 ·rw [if_pos a6] at hR
  exact zG zE (NS.ret rfl rfl (zero_ret2 hR rfl (LeA.sl rfl fun i hi=>absurd hi (Nat.not_lt_zero i)) (LeA.refl _)))
 rw [if_neg (by rw [show decide (usedM (durM n.jour).1.items > n.quota) = false from a6];decide)] at hR
 refine zG zE (NS.chk (by kernel_rfl) ?_)
 refine zG zE (NS.need (decide_eq_true (by omega)) ?_)
 refine zG zE (NS.call (cex) rfl ?_)
 have hll:(recsM n t).length <= 65536:=by omega
 have hgk:∀ k,Good (effs ((recsM n t).take k) (durM n.jour).1):=fun k=>good_effs j2 fun r hr=>hvr r (List.mem_of_mem_take hr)
 have hlk:∀ k,(effs ((recsM n t).take k) (durM n.jour).1).items.length <= 200000 /\ (effs ((recsM n t).take k) (durM n.jour).1).inbox.length <= 200000:=fun k=>by
  obtain ⟨i1,i2⟩:=effs_len ((recsM n t).take k) (durM n.jour).1
  rw [List.length_take] at i1 i2
  omega
 have hfk:∀ k,k < (recsM n t).length -> findM (effs ((recsM n t).take k) (durM n.jour).1) ((recsM n t).getD k default).id = (((durM n.jour).1.items.filter (expd t)).getD k default,true):=fun k hk=>by
  have hk2:k < ((durM n.jour).1.items.filter (expd t)).length:=by rw [<- recs_len];exact hk
  unfold recsM at hk ⊢
  rw [recs_get t _ hk]
  exact findK j2 t hk2
 have hre:remsA t (durM n.jour).1.items = ((durM n.jour).1.items.filter (expd t)).map rem5:=rfl
 have hel2:(recsM n t).length = ((durM n.jour).1.items.filter (expd t)).length:=recs_len t _
 generalize hl:recsM n t = l at *
 generalize hE:(durM n.jour).1.items.filter (expd t) = E at *
 refine zG zE ?_
 refine NS.loop (σ:={ k:Nat // k <= l.length }) (fun k=>[(4,.ptr 4 0),(10,.ptr 10 0),(11,.own 63),(12,slR l),(14,.int .i64 (k.1:Nat))]) (fun k=>[(4,.box [.junk,.junk,.junk,.junk,.junk,.junk,.junk,.junk]),(10,.box { readN n with dur:=effs (l.take k.1) (durM n.jour).1 }.cells),(63,rowAct ((E.take k.1).map rem5))]) (fun k=>l.length - k.1) ⟨0,Nat.zero_le _⟩ ?_ ?_
 ·refine (weak_box 10 (cells':=(readN n).cells) rfl (LeL.cons (LeA.refl _) (LeL.cons (LeA.refl _) (LeL.cons (LeA.kb _) (LeL.cons (LeA.refl _) (LeL.cons (LeA.refl _) (LeL.cons (LeA.refl _) (LeL.cons (LeA.refl _) (LeL.cons (LeA.nil' rfl) LeL.nil))))))))).trans ?_
  exact weak_hd [] rfl ⟨rfl,rfl,rfl,rfl,rfl,trivial⟩ ⟨⟨_,rfl,⟨_,_,rfl,trivial,_,_,rfl,trivial,_,_,rfl,trivial,_,_,rfl,trivial,_,_,rfl,trivial,_,_,rfl,trivial,_,_,rfl,trivial,_,_,rfl,trivial,rfl⟩⟩,⟨_,rfl,renNod _ _⟩,ren_row rfl rfl fun i hi=>absurd hi (Nat.not_lt_zero i),trivial⟩ trivial (by kernel_rfl)
 rintro ⟨k,hk⟩
 have hk:k <= l.length:=hk
 obtain ⟨k1,k2⟩:=hlk k
 have hgk1:=hgk k
 refine zG zE (NS.ite (fun b1=>?_) (fun b1=>?_))
 ·have b1:k < l.length:=by have b1:decide ((k:Int) < (l.length:Int)) = true:=b1;have b1:=of_decide_eq_true b1;omega
  have hsn:effs (l.take (k + 1)) (durM n.jour).1 = effM (effs (l.take k) (durM n.jour).1) (l.getD k default):=by rw [take_snoc b1,effs_snoc]
  have hse:(E.take (k + 1)).map rem5 = (E.take k).map rem5 ++ [rem5 (E.getD k default)]:=by rw [take_snoc (by omega),List.map_append];rfl
  have cf:=rFind_ok (effs (l.take k) (durM n.jour).1) (l.getD k default).id (by omega)
  rw [hfk k b1] at cf
  have ceff:=rEffect_ok (effs (l.take k) (durM n.jour).1) (l.getD k default) hgk1.2.2.1 (hvr _ (by rw [getD_lt b1];exact List.getElem_mem _)) (by omega) (by omega)
  rw [<- hsn] at ceff
  repeat' (first | (refine zG zE (NS.chk (by kernel_rfl) ?_)) | (refine zG zE (NS.need (in_row b1) ?_)) | (refine zG zE (NS.need (in_row' b1) ?_)) | (refine zG zE (NS.call (cf) rfl ?_)) | (refine zG zE (NS.need (decide_eq_true (by simp only [maxRow];simp only [List.length_map,List.length_take];omega)) ?_)) | (refine zG zE (NS.call (ceff) rfl ?_)))
  refine zG zE (NS.next ⟨k + 1,b1⟩ (by show l.length - (k + 1) < l.length - k;omega) ?_)
  exact weak_hd [(63,91)] rfl ⟨rfl,rfl,rfl,rfl,ren_int rfl (add1N (a:=k) (by omega)),trivial⟩ ⟨⟨_,rfl,⟨_,_,rfl,trivial,_,_,rfl,trivial,_,_,rfl,trivial,_,_,rfl,trivial,_,_,rfl,trivial,_,_,rfl,trivial,_,_,rfl,trivial,_,_,rfl,trivial,rfl⟩⟩,⟨_,rfl,renNod _ _⟩,ren_row rfl (by rw [hse];simp only [List.length_append,List.length_cons,List.length_nil]) (fun q hq j hj=>by rw [hse] at hq ⊢;exact row_snoc (cells:=Mb.Act.cells) (x:=rem5 (E.getD k default)) rfl q (by simp only [List.length_append,List.length_cons,List.length_nil] at hq ⊢;omega) j hj),trivial⟩ trivial (by kernel_rfl)
 ·have b1:k = l.length:=by have b1:decide ((k:Int) < (l.length:Int)) = false:=b1;have b1:=of_decide_eq_false b1;omega
  have hD:effs (l.take k) (durM n.jour).1 = upD n t:=by rw [b1,List.take_length];exact hlw
  have hGD:Good (upD n t):=by rw [<- hD];exact hgk1
  have hE2:(E.take k).map rem5 = remsA t (durM n.jour).1.items:=by rw [hre,b1,hel2,List.take_length]
  rw [hD] at k1 k2
  have cap:=rAppend_ok (readN n).jour l (readN_sz j4) (by omega)
  have hlen2:(remsA t (durM n.jour).1.items).length <= 65536:=by rw [hre,List.length_map];omega
  refine zG zE (NS.leave rfl zE ?_)
  refine zG zE (NS.call (cap) rfl ?_)
  refine zG zE (NS.ite (fun a8=>?_) (fun a8=>?_))
  ·have e8:(appM (ls (readN n).jour) l).2 = 4:=by
    rcases appM_err (s:=ls (readN n).jour) hvr with h | h
    ·have a8:((appM (ls (readN n).jour) l).2 != 0) = true:=a8
     rw [h] at a8;cases a8
    ·exact h
   rw [if_pos a8] at hR
   exact zG zE (NS.ret rfl rfl (zero_ret2 hR rfl (LeA.sl rfl fun i hi=>absurd hi (Nat.not_lt_zero i)) (LeA.refl _)))
  rw [if_neg (by rw [show ((appM (ls (readN n).jour) l).2 != 0) = false from a8];decide)] at hR
  generalize hJ:bs (appM (ls (readN n).jour) l).1 = J at *
  rw [hD]
  refine zG zE (NS.call (rOrder_ok (upD n t) (by omega)) rfl ?_)
  generalize hU:upD n t = D at *
  have hol:=ordR_len (ltD D) D.items.length
  have hom:=ordR_mem (ltD D) D.items.length
  generalize hOo:ordR (ltD D) D.items.length = o at *
  have hwA:waitA D = o.map (wait4 D):=by unfold waitA;rw [hOo]
  generalize hRM:remsA t (durM n.jour).1.items = RM at *
  refine zG zE ?_
  refine NS.loop (σ:={ k:Nat // k <= D.items.length }) (fun k=>[(4,.ptr 4 0),(10,.ptr 10 0),(11,.own 63),(19,.own 115),(20,.int .i64 (k.1:Nat))]) (fun k=>[(4,.box [.junk,.junk,.junk,.junk,.junk,.junk,.junk,.junk]),(10,.box { readN n with jour:=J,dur:=D }.cells),(63,rowAct (RM ++ (o.take k.1).map (wait4 D))),(115,.row 3 1 D.items.length (rowL nC o))]) (fun k=>D.items.length - k.1) ⟨0,Nat.zero_le _⟩ ?_ ?_
  ·have e0:RM ++ (o.take 0).map (wait4 D) = RM:=by simp
   refine weak_hd [] rfl ⟨rfl,rfl,rfl,rfl,rfl,trivial⟩ ⟨⟨_,rfl,⟨_,_,rfl,trivial,_,_,rfl,trivial,_,_,rfl,trivial,_,_,rfl,trivial,_,_,rfl,trivial,_,_,rfl,trivial,_,_,rfl,trivial,_,_,rfl,trivial,rfl⟩⟩,⟨_,rfl,renNod _ _⟩,ren_row rfl ?_ (fun i hi j hj=>?_),ren_row rfl rfl (fun _ _ _ _=>rfl),trivial⟩ trivial (by kernel_rfl)
   ·show ((E.take k).map rem5).length = (RM ++ (o.take 0).map (wait4 D)).length
    rw [e0,hE2]
   ·show rowL Mb.Act.cells ((E.take k).map rem5) i j = rowL Mb.Act.cells (RM ++ (o.take 0).map (wait4 D)) i j
    rw [e0,hE2]
  rintro ⟨q,hq⟩
  have hq:q <= D.items.length:=hq
  refine zG zE (NS.ite (fun b4=>?_) (fun b4=>?_))
  ·have b4:q < D.items.length:=by have b4:decide ((q:Int) < (D.items.length:Int)) = true:=b4;have b4:=of_decide_eq_true b4;omega
   obtain ⟨m1,m2⟩:=hom (o.getD q default) (by rw [getD_lt (by omega)];exact List.getElem_mem _)
   have hsn:(o.take (q + 1)).map (wait4 D) = (o.take q).map (wait4 D) ++ [wait4 D (o.getD q default)]:=by rw [take_snoc (by omega),List.map_append];rfl
   repeat' (first | (refine zG zE (NS.chk (by kernel_rfl) ?_)) | (refine zG zE (NS.need (in_row b4) ?_)) | (refine zG zE (NS.need (in_row' b4) ?_)) | (refine zG zE (NS.need (decide_eq_true (by show 0 <= o.getD q default /\ o.getD q default < (D.items.length:Int);exact ⟨m1,m2⟩)) ?_)) | (refine zG zE (NS.need (decide_eq_true (by simp only [maxRow];simp only [List.length_append,List.length_map,List.length_take];omega)) ?_)))
   refine zG zE (NS.next ⟨q + 1,b4⟩ (by show D.items.length - (q + 1) < D.items.length - q;omega) ?_)
   exact weak_hd [(63,134)] rfl ⟨rfl,rfl,rfl,rfl,ren_int rfl (add1N (a:=q) (by omega)),trivial⟩ ⟨⟨_,rfl,⟨_,_,rfl,trivial,_,_,rfl,trivial,_,_,rfl,trivial,_,_,rfl,trivial,_,_,rfl,trivial,_,_,rfl,trivial,_,_,rfl,trivial,_,_,rfl,trivial,rfl⟩⟩,⟨_,rfl,renNod _ _⟩,ren_row rfl (by rw [hsn];simp only [List.length_append,List.length_cons,List.length_nil];omega) (fun i hi j hj=>by rw [hsn] at hi ⊢;rw [<- List.append_assoc] at hi ⊢;exact row_snoc (cells:=Mb.Act.cells) (x:=wait4 D (o.getD q default)) rfl i (by simp only [List.length_append,List.length_cons,List.length_nil] at hi ⊢;omega) j hj),ren_row rfl rfl (fun _ _ _ _=>rfl),trivial⟩ trivial (by kernel_rfl)
  ·have b4:q = D.items.length:=by have b4:decide ((q:Int) < (D.items.length:Int)) = false:=b4;have b4:=of_decide_eq_false b4;omega
   have hoe:(o.take q).map (wait4 D) = waitA D:=by rw [hwA,b4,<- hol,List.take_length]
   refine zG zE (NS.leave rfl zE ?_)
   rw [hR]
   exact zG zE (NS.ret rfl rfl (LeA.tup3 (LeA.refl _) (LeA.of (by show slAct (RM ++ (o.take q).map (wait4 D)) = slAct (RM ++ waitA D);rw [hoe])) (LeA.refl _)))
theorem refShrink_ok (n:Nod) (h1:n.dur.items.length <= 1000000) (h2:n.dur.inbox.length <= 1000000) (h3:n.ofs.length <= 1000000):FnOK Tryz.prog 60 [.agg n.cells] (nodE (shrM n),none):=by
 obtain ⟨R,hR⟩:∃ R,R = shrM n:=⟨_,rfl⟩
 rw [<- hR]
 unfold shrM at hR
 have cc:=rCheckN_ok n h1 h2
 rw [chk_eq n h1 h2 h3] at cc
 refine fn_ok CF rfl (by kernel_rfl) Tryz.func60 rfl ?_
 refine zG zE (NS.call (cc) rfl ?_)
 refine zG zE (NS.ite (fun a1=>?_) (fun a1=>?_))
 ·rw [if_pos a1] at hR
  exact zG zE (NS.ret rfl rfl (nodE_le hR (zeroN_le rfl) (LeA.refl _)))
 rw [if_neg (by rw [a1];decide)] at hR
 refine zG zE (NS.ite (fun a2=>?_) (fun a2=>?_))
 ·rw [if_pos a2] at hR
  exact zG zE (NS.ret rfl rfl (nodE_le hR (zeroN_le rfl) (LeA.refl _)))
 rw [if_neg (by rw [show (!n.up) = false from a2];decide)] at hR
 have hv:Val n:=(val_iff n).1 ⟨by have a1:(chkN n != 0) = false:=a1;simpa using a1,by have a2:(!n.up) = false:=a2;simpa using a2⟩
 obtain ⟨h6,h7⟩:=recsJ_ok hv
 obtain ⟨g1,g2,g3,g4⟩:=shr_facts hv
 have hs:=hv.j.sz
 have e1:rdJA (ls n.jour) = (recsJ n,(rdJA (ls n.jour)).2.1,0):=by
  obtain ⟨j1,_⟩:=jrn_ok (n:=n) (by omega)
  rw [<- j1]
  rfl
 have hrl:(recsJ n).length <= 65536:=rdJA_len (ls n.jour)
 have hcl:(compM (recsJ n)).length <= 65536:=by have:=comp_len (recsJ n) (recsJ n).length;show (compK _ _).length <= _;omega
 have cr:=rRead_ok n.jour
 rw [e1] at cr
 have ca:=rAppend_ok .empty (compM (recsJ n)) (by decide) (by omega)
 rw [show ls .empty = [] from rfl,app_rec g1 (by omega)] at ca
 refine zG zE (NS.call (cr) rfl ?_)
 refine zG zE (NS.call (rCompact_ok (recsJ n) h6.ok (by omega)) rfl ?_)
 refine zG zE (NS.call (ca) rfl ?_)
 exact zG zE (NS.ret rfl rfl (nodE_le hR (shr_le rfl (by rw [<- g3];rfl) rfl) (LeA.refl _)))
theorem crash_sz (n:Nod) (k:Int):(crashM n k).1.dur.items.length <= 1000000 /\ (crashM n k).1.dur.inbox.length <= 1000000 /\ (crashM n k).1.ofs.length <= 1000000:=by
 unfold crashM
 split
 ·exact ⟨by decide,by decide,by decide⟩
 ·split
  ·exact ⟨by decide,by decide,by decide⟩
  ·exact ⟨Nat.zero_le _,Nat.zero_le _,Nat.zero_le _⟩
theorem rest_sz (n:Nod) (t:Int):(restM n t).1.dur.items.length <= 1000000 /\ (restM n t).1.dur.inbox.length <= 1000000 /\ (restM n t).1.ofs.length <= 1000000 /\ (restM n t).2.1.length <= 1000000:=by
 unfold restM
 split
 ·exact ⟨by decide,by decide,by decide,by decide⟩
 rename_i hc
 have hc:chkN n = 0:=by simpa using hc
 obtain ⟨_,_,_,_,j5,j6⟩:=jd_of hc
 split
 ·exact ⟨by decide,by decide,by decide,by decide⟩
 split
 ·exact ⟨by decide,by decide,by decide,by decide⟩
 split
 ·exact ⟨by decide,by decide,by decide,by decide⟩
 split
 ·exact ⟨by decide,by decide,by decide,by decide⟩
 have hu:(upD n t).items.length <= 65536:=Nat.le_trans (List.length_filter_le _ _) j5
 refine ⟨?_,?_,Nat.zero_le _,?_⟩
 ·show (upD n t).items.length <= _
  omega
 ·show (durM n.jour).1.inbox.length <= _
  omega
 ·show (remsA t (durM n.jour).1.items ++ waitA (upD n t)).length <= _
  rw [List.length_append]
  unfold remsA waitA
  rw [List.length_map,List.length_map,ordR_len]
  have:=List.length_filter_le (expd t) (durM n.jour).1.items
  omega
theorem shrM_sz (n:Nod) (h1:n.dur.items.length <= 1000000) (h2:n.dur.inbox.length <= 1000000) (h3:n.ofs.length <= 1000000):(shrM n).1.dur.items.length <= 1000000 /\ (shrM n).1.dur.inbox.length <= 1000000 /\ (shrM n).1.ofs.length <= 1000000:=by
 unfold shrM
 split
 ·exact ⟨by decide,by decide,by decide⟩
 ·split
  ·exact ⟨by decide,by decide,by decide⟩
  ·exact ⟨h1,h2,h3⟩
theorem recNodes_ok (n:Nod) (keep now:Int):FnOK Tryz.prog 13 [.agg n.cells,.int .i64 keep,.int .i64 now] (.bool true,none):=by
 have c0:=great48_ok n
 cases hg:greatN n
 ·rw [hg] at c0
  obtain ⟨s1,s2,s3,s4⟩:=small_of hg
  obtain ⟨p1,p2,p3⟩:=crash_sz n keep
  obtain ⟨q1,q2,q3,q4⟩:=rest_sz n now
  obtain ⟨u1,u2,u3⟩:=shrM_sz n (by omega) (by omega) (by omega)
  have k1:=rSameN_ok (crashM n keep).1 p1 p2 p3
  have k2:=rSameN_ok (restM n now).1 q1 q2 q3
  have k3:=rSameN_ok (shrM n).1 u1 u2 u3
  have k4:=sameA_ok (restM n now).2.1 (restM n now).2.1 (by omega)
  rw [(sameBy_iff (fun _ _=>Mb.Act.eqv_iff)).2 rfl] at k4
  refine fn_ok CF rfl (by kernel_rfl) Tryz.func13 rfl ?_
  refine zG zE (NS.call (c0) rfl ?_)
  refine zG zE (NS.no (rfl) ?_)
  refine zG zE (NS.call (recCrash_ok n keep (by omega) (by omega) (by omega)) rfl ?_)
  refine zG zE (NS.call (refCrash_ok n keep (by omega) (by omega) (by omega)) rfl ?_)
  refine zG zE (NS.call (recRest_ok n now (by omega) (by omega) (by omega)) rfl ?_)
  refine zG zE (NS.call (refRest_ok n now (by omega) (by omega) (by omega)) rfl ?_)
  refine zG zE (NS.call (shrink_ok n (by omega) (by omega) (by omega)) rfl ?_)
  refine zG zE (NS.call (refShrink_ok n (by omega) (by omega) (by omega)) rfl ?_)
  repeat' (first | (refine zG zE (NS.chk (by kernel_rfl) ?_)) | (refine zG zE (NS.call (k1) rfl ?_)) | (refine zG zE (NS.call (k2) rfl ?_)) | (refine zG zE (NS.call (k3) rfl ?_)) | (refine zG zE (NS.call (k4) rfl ?_)) | (refine zG zE (NS.yes (rfl) ?_)) | (refine zG zE (NS.yes (by simp) ?_)) | (refine zG zE (NS.call (awakeR_ok) rfl ?_)) | (exact zG zE (NS.ret rfl rfl (LeA.refl _))))
 ·rw [hg] at c0
  refine fn_ok CF rfl (by kernel_rfl) Tryz.func13 rfl ?_
  repeat' (first | (refine zG zE (NS.chk (by kernel_rfl) ?_)) | (refine zG zE (NS.call (c0) rfl ?_)) | (refine zG zE (NS.yes (rfl) ?_)) | (refine zG zE (NS.call (awakeR_ok) rfl ?_)) | (exact zG zE (NS.ret rfl rfl (LeA.refl _))))
end Go.Proofs.YtggjngbighkdgaaGreat
namespace Go.Mb
open Go.Sy
set_option maxRecDepth 100000
def intA:A -> Int
 | .int _ n=>n
 | _=>0
def boolA:A -> Bool
 | .bool b=>b
 | _=>false
def strA:A -> ByteArray
 | .str s=>s
 | _=>.empty
theorem int_of {a:A} {k:IntKind} (h:ShA (.int k) a):a = .int k (intA a):=by obtain ⟨n,rfl,_⟩:=h;rfl
theorem bool_of {a:A} (h:ShA .bool a):a = .bool (boolA a):=by obtain ⟨n,rfl⟩:=h;rfl
theorem str_of {a:A} (h:ShA .str a):a = .str (strA a):=by obtain ⟨n,rfl,_⟩:=h;rfl
theorem LeL_get:∀ {l m:List A},l.length = m.length -> (∀ j,j < l.length -> LeA (getA l j) (getA m j)) -> LeL l m
 | [],[],_,_=>LeL.nil
 | [],b :: m,h,_=>by simp at h
 | a :: l,[],h,_=>by simp at h
 | a :: l,b :: m,h,hj=>LeL.cons (hj 0 (by simp)) (LeL_get (by simpa using h) fun j hlt=>hj (j + 1) (by simpa using hlt))
def shItm:List Sh:=[.int .i64,.int .i64,.int .i64,.int .i64,.int .i64,.int .i64,.int .i64,.int .i64,.int .i64,.bool,.str]
def ofItm (f:Nat -> A):Itm:=⟨intA (f 0),⟨intA (f 1),intA (f 2),intA (f 3),intA (f 4),intA (f 5)⟩,intA (f 6),intA (f 7),intA (f 8),boolA (f 9),strA (f 10)⟩
theorem cellsItm {f:Nat -> A} (h:ShAs shItm f 0):∀ j,j < 11 -> f j = getA (ofItm f).cells j:=by
 obtain ⟨h0,h1,h2,h3,h4,h5,h6,h7,h8,h9,h10,_⟩:=h
 intro j hj
 match j,hj with
 | 0,_=>exact int_of h0
 | 1,_=>exact int_of h1
 | 2,_=>exact int_of h2
 | 3,_=>exact int_of h3
 | 4,_=>exact int_of h4
 | 5,_=>exact int_of h5
 | 6,_=>exact int_of h6
 | 7,_=>exact int_of h7
 | 8,_=>exact int_of h8
 | 9,_=>exact bool_of h9
 | 10,_=>exact str_of h10
theorem listItm {n:Nat} {el:Nat -> Nat -> A} (h:∀ i,i < n -> ShAs shItm (el i) 0):∃ l:List Itm,l.length = n /\ LeA (.sl 11 n el) (slItm l):=by
 refine ⟨(List.range n).map fun i=>ofItm (el i),by simp,LeA.sl (by simp) fun i hi j hj=>?_⟩
 rw [cellsItm (h i hi) j hj]
 simp [rowL,hi]
def shOfr:List Sh:=[.int .i64,.int .i64,.int .i64,.int .i64,.int .i64,.int .i64,.int .i64,.int .i64]
def ofOfr (f:Nat -> A):Ofr:=⟨⟨intA (f 0),intA (f 1),intA (f 2),intA (f 3),intA (f 4)⟩,intA (f 5),intA (f 6),intA (f 7)⟩
theorem cellsOfr {f:Nat -> A} (h:ShAs shOfr f 0):∀ j,j < 8 -> f j = getA (ofOfr f).cells j:=by
 obtain ⟨h0,h1,h2,h3,h4,h5,h6,h7,_⟩:=h
 intro j hj
 match j,hj with
 | 0,_=>exact int_of h0
 | 1,_=>exact int_of h1
 | 2,_=>exact int_of h2
 | 3,_=>exact int_of h3
 | 4,_=>exact int_of h4
 | 5,_=>exact int_of h5
 | 6,_=>exact int_of h6
 | 7,_=>exact int_of h7
theorem listOfr {n:Nat} {el:Nat -> Nat -> A} (h:∀ i,i < n -> ShAs shOfr (el i) 0):∃ l:List Ofr,l.length = n /\ LeA (.sl 8 n el) (slOfr l):=by
 refine ⟨(List.range n).map fun i=>ofOfr (el i),by simp,LeA.sl (by simp) fun i hi j hj=>?_⟩
 rw [cellsOfr (h i hi) j hj]
 simp [rowL,hi]
def shNod:List Sh:=[.int .i64,.int .i64,.bool,.str,.int .i64,.sl 11 shItm,.sl 11 shItm,.sl 8 shOfr]
end Go.Mb
namespace Go.Proofs.YtggjngbighkdgaaGreat
open Go.Sy Go.Mb
set_option maxRecDepth 100000
section
variable {H:Type} {enc:TypeId × Value -> H} {W:World} {base:Nat} {spare:Nat -> Bool} {held:Bool} {v:Value} {dd:DataW H} {ps:List MemPlace} {r:Reach} {b0:Nat}
theorem argNod (hok:Value.okWide Tryz.prog W r b0 27 v) (h:DataW.Trod enc Tryz.prog W base spare held 27 v dd ps):∃ x:Nod,R W (fun _=>False) (.agg x.cells) virg v:=by
 obtain ⟨cs,hl,hr,hs⟩:=lift_arg (X:=fun _=>False) (fun _ h=>h) (show shOf Tryz.prog 6 27 = some shNod by kernel_rfl) hok h
 have harg:argA Tryz.prog 27 cs = .agg cs:=by unfold argA;rw [show isAggT Tryz.prog 27 = some true by kernel_rfl]
 rw [harg] at hr
 obtain ⟨h0,h1,h2,h3,h4,⟨n5,el5,e5,_,hel5⟩,⟨n6,el6,e6,_,hel6⟩,⟨n7,el7,e7,_,hel7⟩,_⟩:=hs
 obtain ⟨l5,_,hle5⟩:=listItm hel5
 obtain ⟨l6,_,hle6⟩:=listItm hel6
 obtain ⟨l7,_,hle7⟩:=listOfr hel7
 refine ⟨⟨intA (getA cs 0),intA (getA cs 1),boolA (getA cs 2),strA (getA cs 3),intA (getA cs 4),⟨l5,l6⟩,l7⟩,LeA.agg (LeL_get (by rw [hl];rfl) fun j hj=>?_) _ _ _ _ hr⟩
 rw [hl] at hj
 match j,hj with
 | 0,_=>exact LeA.of (int_of h0)
 | 1,_=>exact LeA.of (int_of h1)
 | 2,_=>exact LeA.of (bool_of h2)
 | 3,_=>exact LeA.of (str_of h3)
 | 4,_=>exact LeA.of (int_of h4)
 | 5,_=>rw [show getA cs 5 = _ from e5];exact hle5
 | 6,_=>rw [show getA cs 6 = _ from e6];exact hle6
 | 7,_=>rw [show getA cs 7 = _ from e7];exact hle7
theorem argInt (hok:Value.okWide Tryz.prog W r b0 3 v) (h:DataW.Trod enc Tryz.prog W base spare held 3 v dd ps):∃ x:Int,R W (fun _=>False) (.int .i64 x) virg v:=by
 obtain ⟨cs,hl,hr,hs⟩:=lift_arg (X:=fun _=>False) (fun _ h=>h) (show shOf Tryz.prog 6 3 = some [.int .i64] by kernel_rfl) hok h
 have harg:argA Tryz.prog 3 cs = getA cs 0:=by unfold argA;rw [show isAggT Tryz.prog 3 = some false by kernel_rfl]
 rw [harg] at hr
 obtain ⟨h0,_⟩:=hs
 rw [int_of h0] at hr
 exact ⟨_,hr⟩
end
end Go.Proofs.YtggjngbighkdgaaGreat
