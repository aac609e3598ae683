import Derived.Test.YtjhmdfofhnijeaaGreatDoorP1
import Derived.Test.YtjhmdfofhnijeaaGreatDoorProg
set_option linter.unusedSimpArgs false
set_option linter.unusedSectionVars false
set_option linter.unusedVariables false
namespace Go.Proofs.YtjhmdfofhnijeaaGreatDoor
open Go.Sy Go.Mb
set_option maxRecDepth 100000
set_option maxHeartbeats 4000000
noncomputable def EM:Env:={ P:=Tryz.prog,eqT:=lookE [] }
theorem EM_ok:EqOK EM:=eqOK_of (tab:=[]) (fun p hp=>by cases hp)
noncomputable def CM:Cx:={ E:=EM,inl:=[],ok:=EM_ok }
theorem cWithin_ok (n lo hi:Int):FnOK Tryz.prog 192 [.int .i64 n,.int .i64 lo,.int .i64 hi] (.bool (inR n lo hi),none):=by
 refine fn_ok CM rfl (by kernel_rfl) Tryz.func192 rfl ?_
 refine zG zE (NS.ite (fun h=>?_) (fun h=>?_))
 ·exact zG zE (NS.ret rfl rfl (LeA.of (congrArg A.bool (inR_t h))))
 ·exact zG zE (NS.ret rfl rfl (LeA.of (congrArg A.bool (inR_f h))))
theorem rCtc_ok (c:Ctc):FnOK Tryz.prog 161 [.agg c.cells] (.int .i64 (chkC c),none):=by
 refine fn_ok CM rfl (by kernel_rfl) Tryz.func161 rfl ?_
 repeat' (first | (refine zG zE (NS.ite (fun h=>?_) (fun h=>?_))) | (refine zG zE (NS.chk (by kernel_rfl) ?_)) | (exact zG zE (NS.ret rfl rfl (LeA.of (congrArg (A.int .i64) (by unfold chkC inR;simp only [decide_eq_true_eq,decide_eq_false_iff_not,beq_iff_eq,beq_eq_false_iff_ne] at *;simp only [Bool.or_eq_true,Bool.not_eq_true',decide_eq_true_eq,decide_eq_false_iff_not,beq_iff_eq];(repeat' split) <;> omega))))))
theorem cCheck_ok (c:Ctc):FnOK Tryz.prog 133 [.agg c.cells] (.int .i64 (chkC c),none):=by
 refine fn_ok CM rfl (by kernel_rfl) Tryz.func133 rfl ?_
 repeat' (first | (refine zG zE (NS.ite (fun h=>?_) (fun h=>?_))) | (refine zG zE (NS.chk (by kernel_rfl) ?_)) | (refine zG zE (NS.call (cWithin_ok c.fr 0 15) rfl ?_)) | (refine zG zE (NS.call (cWithin_ok c.to 0 15) rfl ?_)) | (refine zG zE (NS.call (cWithin_ok c.rate 1 1000) rfl ?_)) | (refine zG zE (NS.call (cWithin_ok c.rng 1 1048576) rfl ?_)) | (refine zG zE (NS.call (cWithin_ok c.loss 0 16) rfl ?_)) | (exact zG zE (NS.ret rfl rfl (LeA.of (congrArg (A.int .i64) (by unfold chkC;simp only [inR,decide_eq_true_eq,decide_eq_false_iff_not,beq_iff_eq,beq_eq_false_iff_ne,Bool.not_eq_true',Bool.not_eq_false'] at *;simp only [Bool.or_eq_true,Bool.not_eq_true',decide_eq_true_eq,decide_eq_false_iff_not,beq_iff_eq];(repeat' split) <;> omega))))))
theorem rOv_ok (a b:Ctc):FnOK Tryz.prog 162 [.agg a.cells,.agg b.cells] (.bool (ovC a b),none):=by
 refine fn_ok CM rfl (by kernel_rfl) Tryz.func162 rfl ?_
 repeat' (first | (refine zG zE (NS.ite (fun h=>?_) (fun h=>?_))) | (refine zG zE (NS.chk (by kernel_rfl) ?_)) | (refine zG zE (NS.call (rCtc_ok a) rfl ?_)) | (refine zG zE (NS.call (rCtc_ok b) rfl ?_)) | (exact zG zE (NS.ret rfl rfl (LeA.of (congrArg A.bool (by unfold ovC;simp only [*,Bool.true_and,Bool.false_and]))))))
theorem ovC_iff {a b:Ctc}:ovC a b = true ↔ chkC a = 0 /\ chkC b = 0 /\ a.fr = b.fr /\ a.to = b.to /\ a.start < b.stop /\ b.start < a.stop:=by
 unfold ovC
 simp only [Bool.and_eq_true,beq_iff_eq,decide_eq_true_eq]
theorem cOv_ok (a b:Ctc):FnOK Tryz.prog 136 [.agg a.cells,.agg b.cells] (.bool (ovC a b),none):=by
 have ha:=chkC_in (c:=a)
 have hb:=chkC_in (c:=b)
 refine fn_ok CM rfl (by kernel_rfl) Tryz.func136 rfl ?_
 repeat' (first | (refine zG zE (NS.ite (fun h=>?_) (fun h=>?_))) | (refine zG zE (NS.chk (by kernel_rfl) ?_)) | (refine zG zE (NS.call (cCheck_ok a) rfl ?_)) | (refine zG zE (NS.call (cCheck_ok b) rfl ?_)) | (exact zG zE (NS.ret rfl rfl (LeA.of (congrArg A.bool (by rw [Bool.eq_iff_iff,ovC_iff];simp only [decide_eq_true_eq,decide_eq_false_iff_not,beq_iff_eq,beq_eq_false_iff_ne,bne_iff_ne,bne_eq_false_iff_eq,Bool.false_eq_true,false_iff] at *;omega))))))
theorem ovC_comm (a b:Ctc):ovC a b = ovC b a:=by
 rw [Bool.eq_iff_iff,ovC_iff,ovC_iff]
 constructor <;> (rintro ⟨h1,h2,h3,h4,h5,h6⟩;exact ⟨h2,h1,h3.symm,h4.symm,h6,h5⟩)
theorem idx_any {α:Type} [Inhabited α] (p:α -> Bool) (l:List α):decide (idx p l >= 0) = l.any p:=by
 have:=idx_neg p l
 cases h:l.any p with
 | false=>rw [h] at this;simp only [iff_true] at this;simp;omega
 | true=>rw [h] at this;simp only [Bool.true_eq_false,iff_false] at this;simp;omega
theorem idxC_ok (l:List Ctc) (hl:l.length <= 1000000) (f c:Nat) (el:Nat -> A) (p:Ctc -> Bool) (hc:∀ x,x ∈ l -> FnOK Tryz.prog f [.agg (Ctc.cells x),.ip c el] (.bool (p x),none)):FnOK Tryz.prog 193 [slCtc l,.fn f [.ip c el]] (.int .i64 (idx p l),none):=by
 refine fn_ok CM rfl (by kernel_rfl) Tryz.func193 rfl ?_
 refine zG zE ?_
 refine NS.loop (σ:={ k:Nat // k <= l.length /\ ∀ i,i < k -> p (l.getD i default) = false }) (fun k=>[(0,slCtc l),(1,.fn f [.ip c el]),(7,.int .i64 l.length),(8,.int .i64 k.1)]) (fun _=>[]) (fun k=>l.length - k.1) ⟨0,Nat.zero_le _,fun i hi=>by omega⟩ ?_ ?_
 ·exact weak_hd [] rfl ⟨rfl,rfl,rfl,rfl,trivial⟩ trivial trivial (by kernel_rfl)
 rintro ⟨k,hk,hn⟩
 have hk:k <= l.length:=hk
 refine zG zE (NS.ite (fun a=>?_) (fun a=>?_))
 ·have a:k < l.length:=by have a:decide ((k:Int) < (l.length:Int)) = true:=a;have:=of_decide_eq_true a;omega
  refine zG zE (NS.need (by show decide (0 <= (k:Int) /\ (k:Int) < (l.length:Int)) = true;exact decide_eq_true (by omega)) ?_)
  refine zG zE (NS.call (hc (l.getD k default) (by rw [getD_lt a];exact List.getElem_mem _)) rfl ?_)
  refine zG zE (NS.ite (fun b=>?_) (fun b=>?_))
  ·exact zG zE (NS.leaveOut rfl zE (NS.ret rfl rfl (LeA.of (congrArg (A.int .i64) ((idx_found a b hn).symm)))))
  ·refine zG zE (NS.next ⟨k + 1,a,fun i hi=>by rcases Nat.lt_or_ge i k with h | h;exact hn i h;rw [show i = k by omega];exact b⟩ (by show l.length - (k + 1) < l.length - k;omega) ?_)
   exact weak_hd [] rfl ⟨rfl,rfl,rfl,ren_int rfl (i64_k (n:=l.length) a (by omega)),trivial⟩ trivial trivial (by kernel_rfl)
 ·have a:k = l.length:=by have a:decide ((k:Int) < (l.length:Int)) = false:=a;have:=of_decide_eq_false a;omega
  subst a
  refine zG zE (NS.leave rfl zE ?_)
  exact zG zE (NS.ret rfl rfl (LeA.of (congrArg (A.int .i64) ((idx_none fun i hi=>hn i hi).symm))))
theorem contC_ok (l:List Ctc) (hl:l.length <= 1000000) (f c:Nat) (el:Nat -> A) (p:Ctc -> Bool) (hc:∀ x,x ∈ l -> FnOK Tryz.prog f [.agg (Ctc.cells x),.ip c el] (.bool (p x),none)):FnOK Tryz.prog 134 [slCtc l,.fn f [.ip c el]] (.bool (l.any p),none):=by
 refine fn_ok CM rfl (by kernel_rfl) Tryz.func134 rfl ?_
 refine zG zE (NS.call (idxC_ok l hl f c el p hc) rfl ?_)
 exact zG zE (NS.ret rfl rfl (LeA.of (congrArg A.bool (idx_any p l))))
theorem idxS_ok (l:List Spn) (hl:l.length <= 1000000) (f c:Nat) (el:Nat -> A) (p:Spn -> Bool) (hc:∀ x,x ∈ l -> FnOK Tryz.prog f [.agg (Spn.cells x),.ip c el] (.bool (p x),none)):FnOK Tryz.prog 120 [slS l,.fn f [.ip c el]] (.int .i64 (idx p l),none):=by
 refine fn_ok CM rfl (by kernel_rfl) Tryz.func120 rfl ?_
 refine zG zE ?_
 refine NS.loop (σ:={ k:Nat // k <= l.length /\ ∀ i,i < k -> p (l.getD i default) = false }) (fun k=>[(0,slS l),(1,.fn f [.ip c el]),(7,.int .i64 l.length),(8,.int .i64 k.1)]) (fun _=>[]) (fun k=>l.length - k.1) ⟨0,Nat.zero_le _,fun i hi=>by omega⟩ ?_ ?_
 ·exact weak_hd [] rfl ⟨rfl,rfl,rfl,rfl,trivial⟩ trivial trivial (by kernel_rfl)
 rintro ⟨k,hk,hn⟩
 have hk:k <= l.length:=hk
 refine zG zE (NS.ite (fun a=>?_) (fun a=>?_))
 ·have a:k < l.length:=by have a:decide ((k:Int) < (l.length:Int)) = true:=a;have:=of_decide_eq_true a;omega
  refine zG zE (NS.need (by show decide (0 <= (k:Int) /\ (k:Int) < (l.length:Int)) = true;exact decide_eq_true (by omega)) ?_)
  refine zG zE (NS.call (hc (l.getD k default) (by rw [getD_lt a];exact List.getElem_mem _)) rfl ?_)
  refine zG zE (NS.ite (fun b=>?_) (fun b=>?_))
  ·exact zG zE (NS.leaveOut rfl zE (NS.ret rfl rfl (LeA.of (congrArg (A.int .i64) ((idx_found a b hn).symm)))))
  ·refine zG zE (NS.next ⟨k + 1,a,fun i hi=>by rcases Nat.lt_or_ge i k with h | h;exact hn i h;rw [show i = k by omega];exact b⟩ (by show l.length - (k + 1) < l.length - k;omega) ?_)
   exact weak_hd [] rfl ⟨rfl,rfl,rfl,ren_int rfl (i64_k (n:=l.length) a (by omega)),trivial⟩ trivial trivial (by kernel_rfl)
 ·have a:k = l.length:=by have a:decide ((k:Int) < (l.length:Int)) = false:=a;have:=of_decide_eq_false a;omega
  subst a
  refine zG zE (NS.leave rfl zE ?_)
  exact zG zE (NS.ret rfl rfl (LeA.of (congrArg (A.int .i64) ((idx_none fun i hi=>hn i hi).symm))))
theorem contS_ok (l:List Spn) (hl:l.length <= 1000000) (f c:Nat) (el:Nat -> A) (p:Spn -> Bool) (hc:∀ x,x ∈ l -> FnOK Tryz.prog f [.agg (Spn.cells x),.ip c el] (.bool (p x),none)):FnOK Tryz.prog 61 [slS l,.fn f [.ip c el]] (.bool (l.any p),none):=by
 refine fn_ok CM rfl (by kernel_rfl) Tryz.func61 rfl ?_
 refine zG zE (NS.call (idxS_ok l hl f c el p hc) rfl ?_)
 exact zG zE (NS.ret rfl rfl (LeA.of (congrArg A.bool (idx_any p l))))
theorem pc1_ok (c d:Ctc):FnOK Tryz.prog 135 [.agg d.cells,.ip 7 (getA c.cells)] (.bool (ovC d c),none):=by
 refine fn_ok CM rfl (by kernel_rfl) Tryz.func135 rfl ?_
 refine zG zE (NS.call (cOv_ok c d) rfl ?_)
 exact zG zE (NS.ret rfl rfl (LeA.of (congrArg A.bool (ovC_comm c d))))
theorem take_le (l:List Ctc) {k:Nat} (hk:k <= l.length):LeA (.sl 7 (((k:Int) - 0).toNat) (fun i=>rowL Ctc.cells l ((0:Int).toNat + i))) (slCtc (l.take k)):=by
 refine LeA.sl (by simp;omega) fun i hi j hj=>?_
 have hi:i < k:=by omega
 show rowL Ctc.cells l (0 + i) j = rowL Ctc.cells (l.take k) i j
 unfold rowL
 rw [Nat.zero_add,getD_lt (show i < l.length by omega),getD_lt (by simp;omega)]
 simp
theorem chkCts_at {n:Int} {l:List Ctc} {k:Nat} (h:k < l.length):chkCts n (l.take k) (l.drop k) = if chkC (l.getD k default) != 0 then chkC (l.getD k default) else if decide ((l.getD k default).fr >= n) || decide ((l.getD k default).to >= n) then 2 else if (l.take k).any (fun d=>ovC d (l.getD k default)) then 14 else chkCts n (l.take (k + 1)) (l.drop (k + 1)):=by
 rw [drop_cons h,chkCts,take_snoc h]
theorem chkQs_at {l:List Int} {k:Nat} (h:k < l.length):chkQs (l.drop k) = if decide (l.getD k default < 0) || decide (l.getD k default > 1073741824) then 2 else chkQs (l.drop (k + 1)):=by
 rw [drop_cons h,chkQs]
theorem in_row {n k:Nat} (h:k < n):decide (0 <= (k:Int) /\ (k:Int) < (n:Int)) = true:=decide_eq_true (by omega)
theorem planCheck_ok (p:Pln) (h1:p.qs.length <= 1000000) (h2:p.cts.length <= 1000000):FnOK Tryz.prog 83 [.agg p.cells] (.int .i64 (chkP p),none):=by
 obtain ⟨R,hR⟩:∃ R,R = chkP p:=⟨_,rfl⟩
 rw [<- hR]
 unfold chkP at hR
 refine fn_ok CM rfl (by kernel_rfl) Tryz.func83 rfl ?_
 refine zG zE (NS.ite (fun a=>?_) (fun a=>?_))
 ·rw [if_pos (by rw [show decide ((p.qs.length:Int) < 1) = true from a];rfl)] at hR
  exact zG zE (NS.ret rfl rfl (LeA.of (congrArg (A.int .i64) (hR.symm))))
 refine zG zE (NS.ite (fun b=>?_) (fun b=>?_))
 ·rw [if_pos (by rw [show decide ((p.qs.length:Int) > 16) = true from b];simp)] at hR
  exact zG zE (NS.ret rfl rfl (LeA.of (congrArg (A.int .i64) (hR.symm))))
 refine zG zE (NS.ite (fun c=>?_) (fun c=>?_))
 ·rw [if_pos (by rw [show decide ((p.cts.length:Int) > 64) = true from c];simp)] at hR
  exact zG zE (NS.ret rfl rfl (LeA.of (congrArg (A.int .i64) (hR.symm))))
 rw [if_neg (by rw [show decide ((p.qs.length:Int) < 1) = false from a,show decide ((p.qs.length:Int) > 16) = false from b,show decide ((p.cts.length:Int) > 64) = false from c];simp)] at hR
 have b:p.qs.length <= 16:=by have:=of_decide_eq_false b;omega
 have c:p.cts.length <= 64:=by have:=of_decide_eq_false c;omega
 refine zG zE ?_
 refine NS.loop (σ:={ k:Nat // k <= p.qs.length /\ chkQs (p.qs.drop k) = chkQs p.qs }) (fun k=>[(1,.ptr 1 0),(3,.int .i64 p.qs.length),(25,slN p.qs),(26,.int .i64 p.qs.length),(27,.int .i64 (k.1:Nat))]) (fun _=>[(1,.box p.cells)]) (fun k=>p.qs.length - k.1) ⟨0,Nat.zero_le _,rfl⟩ ?_ ?_
 ·exact weak_hd [] rfl ⟨rfl,rfl,rfl,rfl,rfl,trivial⟩ ⟨⟨_,rfl,renPln _ _⟩,trivial⟩ trivial (by kernel_rfl)
 rintro ⟨k,hk,hq⟩
 have hk:k <= p.qs.length:=hk
 refine zG zE (NS.ite (fun a=>?_) (fun a=>?_))
 ·have a:k < p.qs.length:=by have a:decide ((k:Int) < (p.qs.length:Int)) = true:=a;have:=of_decide_eq_true a;omega
  rw [chkQs_at a] at hq
  refine zG zE (NS.need (in_row a) ?_)
  refine zG zE (NS.ite (fun a1=>?_) (fun a1=>?_))
  ·rw [if_pos (by rw [show decide (p.qs.getD k default < 0) = true from a1];rfl)] at hq
   rw [<- hq,if_pos (by decide)] at hR
   exact zG zE (NS.leaveOut rfl zE (NS.ret rfl rfl (LeA.of (congrArg (A.int .i64) (hR.symm)))))
  refine zG zE (NS.ite (fun a2=>?_) (fun a2=>?_))
  ·rw [if_pos (by rw [show decide (p.qs.getD k default > 1073741824) = true from a2];simp)] at hq
   rw [<- hq,if_pos (by decide)] at hR
   exact zG zE (NS.leaveOut rfl zE (NS.ret rfl rfl (LeA.of (congrArg (A.int .i64) (hR.symm)))))
  rw [if_neg (by rw [show decide (p.qs.getD k default < 0) = false from a1,show decide (p.qs.getD k default > 1073741824) = false from a2];simp)] at hq
  refine zG zE (NS.next ⟨k + 1,a,hq⟩ (by show p.qs.length - (k + 1) < p.qs.length - k;omega) ?_)
  exact weak_hd [] rfl ⟨rfl,rfl,rfl,rfl,ren_int rfl (i64_k (n:=p.qs.length) a (by omega)),trivial⟩ ⟨⟨_,rfl,renPln _ _⟩,trivial⟩ trivial (by kernel_rfl)
 have a:k = p.qs.length:=by have a:decide ((k:Int) < (p.qs.length:Int)) = false:=a;have:=of_decide_eq_false a;omega
 subst a
 rw [List.drop_length] at hq
 rw [<- hq,if_neg (by decide)] at hR
 refine zG zE (NS.leave rfl zE ?_)
 refine zG zE ?_
 refine NS.loop (σ:={ k:Nat // k <= p.cts.length /\ R = chkCts p.qs.length (p.cts.take k) (p.cts.drop k) }) (fun k=>[(1,.ptr 1 0),(3,.int .i64 p.qs.length),(39,slCtc p.cts),(40,.int .i64 p.cts.length),(41,.int .i64 (k.1:Nat))]) (fun _=>[(1,.box p.cells)]) (fun k=>p.cts.length - k.1) ⟨0,Nat.zero_le _,hR⟩ ?_ ?_
 ·exact weak_hd [] rfl ⟨rfl,rfl,rfl,rfl,rfl,trivial⟩ ⟨⟨_,rfl,renPln _ _⟩,trivial⟩ trivial (by kernel_rfl)
 rintro ⟨k,hk,hR⟩
 have hk:k <= p.cts.length:=hk
 refine zG zE (NS.ite (fun a=>?_) (fun a=>?_))
 ·have a:k < p.cts.length:=by have a:decide ((k:Int) < (p.cts.length:Int)) = true:=a;have:=of_decide_eq_true a;omega
  rw [chkCts_at a] at hR
  repeat' (first | (refine zG zE (NS.need (in_row a) ?_)) | (refine zG zE (NS.chk (by kernel_rfl) ?_)) | (refine zG zE (NS.call (cCheck_ok (p.cts.getD k default)) rfl ?_)))
  refine zG zE (NS.ite (fun b1=>?_) (fun b1=>?_))
  ·rw [if_pos b1] at hR
   exact zG zE (NS.leaveOut rfl zE (NS.ret rfl rfl (LeA.of (congrArg (A.int .i64) (hR.symm)))))
  rw [if_neg (by rw [show (chkC (p.cts.getD k default) != 0) = false from b1];decide)] at hR
  refine zG zE (NS.ite (fun b2=>?_) (fun b2=>?_))
  ·rw [if_pos (by rw [show decide ((p.cts.getD k default).fr >= (p.qs.length:Int)) = true from b2];rfl)] at hR
   exact zG zE (NS.leaveOut rfl zE (NS.ret rfl rfl (LeA.of (congrArg (A.int .i64) (hR.symm)))))
  refine zG zE (NS.ite (fun b3=>?_) (fun b3=>?_))
  ·rw [if_pos (by rw [show decide ((p.cts.getD k default).to >= (p.qs.length:Int)) = true from b3];simp)] at hR
   exact zG zE (NS.leaveOut rfl zE (NS.ret rfl rfl (LeA.of (congrArg (A.int .i64) (hR.symm)))))
  rw [if_neg (by rw [show decide ((p.cts.getD k default).fr >= (p.qs.length:Int)) = false from b2,show decide ((p.cts.getD k default).to >= (p.qs.length:Int)) = false from b3];simp)] at hR
  repeat' (first | (refine zG zE (NS.need (by show decide ((0:Int) <= 0 /\ (0:Int) <= (k:Int) /\ (k:Int) <= (p.cts.length:Int)) = true;exact decide_eq_true (by omega)) ?_)) | (refine zG zE (NS.chk (by kernel_rfl) ?_)) | (refine zG zE (NS.call ((contC_ok (p.cts.take k) (by simp;omega) 135 7 (getA (p.cts.getD k default).cells) (fun d=>ovC d (p.cts.getD k default)) (fun x _=>pc1_ok (p.cts.getD k default) x)).le (LeL.cons (take_le _ (by omega)) (LeL.cons (LeA.refl _) LeL.nil))) rfl ?_)))
  refine zG zE (NS.ite (fun b4=>?_) (fun b4=>?_))
  ·rw [if_pos b4] at hR
   exact zG zE (NS.leaveOut rfl zE (NS.ret rfl rfl (LeA.of (congrArg (A.int .i64) (hR.symm)))))
  rw [if_neg (by rw [show ((p.cts.take k).any fun d=>ovC d (p.cts.getD k default)) = false from b4];decide)] at hR
  refine zG zE (NS.next ⟨k + 1,a,hR⟩ (by show p.cts.length - (k + 1) < p.cts.length - k;omega) ?_)
  exact weak_hd [] rfl ⟨rfl,rfl,rfl,rfl,ren_int rfl (i64_k (n:=p.cts.length) a (by omega)),trivial⟩ ⟨⟨_,rfl,renPln _ _⟩,trivial⟩ trivial (by kernel_rfl)
 have a:k = p.cts.length:=by have a:decide ((k:Int) < (p.cts.length:Int)) = false:=a;have:=of_decide_eq_false a;omega
 subst a
 rw [List.drop_length,chkCts] at hR
 refine zG zE (NS.leave rfl zE ?_)
 exact zG zE (NS.ret rfl rfl (LeA.of (congrArg (A.int .i64) (hR.symm))))
theorem rPlan_ok (p:Pln) (h1:p.qs.length <= 1000000) (h2:p.cts.length <= 1000000):FnOK Tryz.prog 102 [.agg p.cells] (.int .i64 (chkP p),none):=by
 obtain ⟨R,hR⟩:∃ R,R = chkP p:=⟨_,rfl⟩
 rw [<- hR]
 unfold chkP at hR
 refine fn_ok CM rfl (by kernel_rfl) Tryz.func102 rfl ?_
 refine zG zE (NS.ite (fun a=>?_) (fun a=>?_))
 ·rw [if_pos (by rw [show decide ((p.qs.length:Int) < 1) = true from a];rfl)] at hR
  exact zG zE (NS.ret rfl rfl (LeA.of (congrArg (A.int .i64) (hR.symm))))
 refine zG zE (NS.ite (fun b=>?_) (fun b=>?_))
 ·rw [if_pos (by rw [show decide ((p.qs.length:Int) > 16) = true from b];simp)] at hR
  exact zG zE (NS.ret rfl rfl (LeA.of (congrArg (A.int .i64) (hR.symm))))
 refine zG zE (NS.ite (fun c=>?_) (fun c=>?_))
 ·rw [if_pos (by rw [show decide ((p.cts.length:Int) > 64) = true from c];simp)] at hR
  exact zG zE (NS.ret rfl rfl (LeA.of (congrArg (A.int .i64) (hR.symm))))
 rw [if_neg (by rw [show decide ((p.qs.length:Int) < 1) = false from a,show decide ((p.qs.length:Int) > 16) = false from b,show decide ((p.cts.length:Int) > 64) = false from c];simp)] at hR
 have b:p.qs.length <= 16:=by have:=of_decide_eq_false b;omega
 have c:p.cts.length <= 64:=by have:=of_decide_eq_false c;omega
 refine zG zE ?_
 refine NS.loop (σ:={ k:Nat // k <= p.qs.length /\ chkQs (p.qs.drop k) = chkQs p.qs }) (fun k=>[(1,.ptr 1 0),(3,.int .i64 (k.1:Nat))]) (fun _=>[(1,.box p.cells)]) (fun k=>p.qs.length - k.1) ⟨0,Nat.zero_le _,rfl⟩ ?_ ?_
 ·exact weak_hd [] rfl ⟨rfl,rfl,trivial⟩ ⟨⟨_,rfl,renPln _ _⟩,trivial⟩ trivial (by kernel_rfl)
 rintro ⟨k,hk,hq⟩
 have hk:k <= p.qs.length:=hk
 refine zG zE (NS.ite (fun a=>?_) (fun a=>?_))
 ·have a:k < p.qs.length:=by have a:decide ((k:Int) < (p.qs.length:Int)) = true:=a;have:=of_decide_eq_true a;omega
  rw [chkQs_at a] at hq
  refine zG zE (NS.need (in_row a) ?_)
  refine zG zE (NS.ite (fun a1=>?_) (fun a1=>?_))
  ·rw [if_pos (by rw [show decide (p.qs.getD k default < 0) = true from a1];rfl)] at hq
   rw [<- hq,if_pos (by decide)] at hR
   exact zG zE (NS.leaveOut rfl zE (NS.ret rfl rfl (LeA.of (congrArg (A.int .i64) (hR.symm)))))
  refine zG zE (NS.need (in_row a) ?_)
  refine zG zE (NS.ite (fun a2=>?_) (fun a2=>?_))
  ·rw [if_pos (by rw [show decide (p.qs.getD k default > 1073741824) = true from a2];simp)] at hq
   rw [<- hq,if_pos (by decide)] at hR
   exact zG zE (NS.leaveOut rfl zE (NS.ret rfl rfl (LeA.of (congrArg (A.int .i64) (hR.symm)))))
  rw [if_neg (by rw [show decide (p.qs.getD k default < 0) = false from a1,show decide (p.qs.getD k default > 1073741824) = false from a2];simp)] at hq
  refine zG zE (NS.next ⟨k + 1,a,hq⟩ (by show p.qs.length - (k + 1) < p.qs.length - k;omega) ?_)
  exact weak_hd [] rfl ⟨rfl,ren_int rfl (i64_k (n:=p.qs.length) a (by omega)),trivial⟩ ⟨⟨_,rfl,renPln _ _⟩,trivial⟩ trivial (by kernel_rfl)
 have a:k = p.qs.length:=by have a:decide ((k:Int) < (p.qs.length:Int)) = false:=a;have:=of_decide_eq_false a;omega
 subst a
 rw [List.drop_length] at hq
 rw [<- hq,if_neg (by decide)] at hR
 refine zG zE (NS.leave rfl zE ?_)
 refine zG zE ?_
 refine NS.loop (σ:={ k:Nat // k <= p.cts.length /\ R = chkCts p.qs.length (p.cts.take k) (p.cts.drop k) }) (fun k=>[(1,.ptr 1 0),(4,.int .i64 (k.1:Nat))]) (fun _=>[(1,.box p.cells)]) (fun k=>p.cts.length - k.1) ⟨0,Nat.zero_le _,hR⟩ ?_ ?_
 ·exact weak_hd [] rfl ⟨rfl,rfl,trivial⟩ ⟨⟨_,rfl,renPln _ _⟩,trivial⟩ trivial (by kernel_rfl)
 rintro ⟨k,hk,hR⟩
 have hk:k <= p.cts.length:=hk
 refine zG zE (NS.ite (fun a=>?_) (fun a=>?_))
 ·have a:k < p.cts.length:=by have a:decide ((k:Int) < (p.cts.length:Int)) = true:=a;have:=of_decide_eq_true a;omega
  rw [chkCts_at a] at hR
  repeat' (first | (refine zG zE (NS.need (in_row a) ?_)) | (refine zG zE (NS.chk (by kernel_rfl) ?_)) | (refine zG zE (NS.call (rCtc_ok (p.cts.getD k default)) rfl ?_)))
  refine zG zE (NS.ite (fun b1=>?_) (fun b1=>?_))
  ·rw [if_pos b1] at hR
   exact zG zE (NS.leaveOut rfl zE (NS.ret rfl rfl (LeA.of (congrArg (A.int .i64) (hR.symm)))))
  rw [if_neg (by rw [show (chkC (p.cts.getD k default) != 0) = false from b1];decide)] at hR
  refine zG zE (NS.ite (fun b2=>?_) (fun b2=>?_))
  ·rw [if_pos (by rw [show decide ((p.cts.getD k default).fr >= (p.qs.length:Int)) = true from b2];rfl)] at hR
   exact zG zE (NS.leaveOut rfl zE (NS.ret rfl rfl (LeA.of (congrArg (A.int .i64) (hR.symm)))))
  refine zG zE (NS.ite (fun b3=>?_) (fun b3=>?_))
  ·rw [if_pos (by rw [show decide ((p.cts.getD k default).to >= (p.qs.length:Int)) = true from b3];simp)] at hR
   exact zG zE (NS.leaveOut rfl zE (NS.ret rfl rfl (LeA.of (congrArg (A.int .i64) (hR.symm)))))
  rw [if_neg (by rw [show decide ((p.cts.getD k default).fr >= (p.qs.length:Int)) = false from b2,show decide ((p.cts.getD k default).to >= (p.qs.length:Int)) = false from b3];simp)] at hR
  refine zG zE ?_
  refine NS.loop (σ:={ j:Nat // j <= k /\ ∀ i,i < j -> ovC (p.cts.getD i default) (p.cts.getD k default) = false }) (fun j=>[(1,.ptr 1 0),(4,.int .i64 (k:Nat)),(5,.ptr 5 0),(7,.int .i64 (j.1:Nat))]) (fun _=>[(1,.box p.cells),(5,.box (p.cts.getD k default).cells)]) (fun j=>k - j.1) ⟨0,Nat.zero_le _,fun i hi=>by omega⟩ ?_ ?_
  ·exact weak_hd [] rfl ⟨rfl,rfl,rfl,rfl,trivial⟩ ⟨⟨_,rfl,renPln _ _⟩,⟨_,rfl,renCtc _ _⟩,trivial⟩ trivial (by kernel_rfl)
  rintro ⟨j,hj,hn⟩
  have hj:j <= k:=hj
  refine zG zE (NS.ite (fun d=>?_) (fun d=>?_))
  ·have d:j < k:=by have d:decide ((j:Int) < (k:Int)) = true:=d;have:=of_decide_eq_true d;omega
   repeat' (first | (refine zG zE (NS.need (in_row (show j < p.cts.length by omega)) ?_)) | (refine zG zE (NS.chk (by kernel_rfl) ?_)) | (refine zG zE (NS.call (rOv_ok (p.cts.getD j default) (p.cts.getD k default)) rfl ?_)))
   refine zG zE (NS.ite (fun b4=>?_) (fun b4=>?_))
   ·rw [if_pos (List.any_eq_true.2 ⟨p.cts.getD j default,by rw [getD_lt (show j < p.cts.length by omega)];exact List.mem_take_iff_getElem.2 ⟨j,by omega,rfl⟩,b4⟩)] at hR
    exact zG zE (NS.leaveOut rfl zE (NS.ret rfl rfl (LeA.of (congrArg (A.int .i64) (hR.symm)))))
   ·refine zG zE (NS.next ⟨j + 1,d,fun i hi=>by rcases Nat.lt_or_ge i j with h | h;exact hn i h;rw [show i = j by omega];exact b4⟩ (by show k - (j + 1) < k - j;omega) ?_)
    exact weak_hd [] rfl ⟨rfl,rfl,rfl,ren_int rfl (i64_k (n:=k) d (by omega)),trivial⟩ ⟨⟨_,rfl,renPln _ _⟩,⟨_,rfl,renCtc _ _⟩,trivial⟩ trivial (by kernel_rfl)
  have d:j = k:=by have d:decide ((j:Int) < (k:Int)) = false:=d;have:=of_decide_eq_false d;omega
  subst d
  have hany:(p.cts.take j).any (fun d=>ovC d (p.cts.getD j default)) = false:=by
   rw [List.any_eq_false]
   intro x hx
   obtain ⟨i,hi,rfl⟩:=List.mem_take_iff_getElem.1 hx
   have:=hn i (by omega)
   rw [getD_lt (show i < p.cts.length by omega)] at this
   simpa using this
  rw [if_neg (by rw [hany];decide)] at hR
  refine zG zE (NS.leave rfl zE ?_)
  refine zG zE (NS.next ⟨j + 1,a,hR⟩ (by show p.cts.length - (j + 1) < p.cts.length - j;omega) ?_)
  exact weak_hd [] rfl ⟨rfl,ren_int rfl (i64_k (n:=p.cts.length) a (by omega)),trivial⟩ ⟨⟨_,rfl,renPln _ _⟩,trivial⟩ trivial (by kernel_rfl)
 have a:k = p.cts.length:=by have a:decide ((k:Int) < (p.cts.length:Int)) = false:=a;have:=of_decide_eq_false a;omega
 subst a
 rw [List.drop_length,chkCts] at hR
 refine zG zE (NS.leave rfl zE ?_)
 exact zG zE (NS.ret rfl rfl (LeA.of (congrArg (A.int .i64) (hR.symm))))
end Go.Proofs.YtjhmdfofhnijeaaGreatDoor
namespace Go.Mb
open Go.Sy
def noteT (ts:List Int) (t:Int):List Int:=if ts.contains t then ts else ts ++ [t]
def stepT (node:Int) (ts:List Int) (h:Hld):List Int:=if h.node == node then noteT (noteT ts h.fr) h.to else ts
def tmK (node:Int) (l:List Hld) (k:Nat):List Int:=(l.take k).foldl (stepT node) []
theorem tmK_succ {node:Int} {l:List Hld} {k:Nat} (h:k < l.length):tmK node l (k + 1) = stepT node (tmK node l k) (l.getD k default):=by
 unfold tmK
 rw [take_snoc h,List.foldl_append]
 rfl
def dH (node t:Int) (h:Hld):Int:=if h.node == node then (if h.fr = t then h.size else 0) - (if h.to = t then h.size else 0) else 0
def chM (node t:Int):List Hld -> Int
 | []=>0
 | h :: l=>dH node t h + chM node t l
theorem chM_snoc (node t:Int) (h:Hld):∀ l:List Hld,chM node t (l ++ [h]) = chM node t l + dH node t h
 | []=>by simp [chM]
 | x :: l=>by simp only [List.cons_append,chM,chM_snoc node t h l];omega
theorem noteT_mem {ts:List Int} {t x:Int}:x ∈ noteT ts t ↔ x ∈ ts \/ x = t:=by
 unfold noteT
 split
 ·rename_i h
  have h:t ∈ ts:=by simpa using h
  constructor
  ·exact .inl
  ·rintro (h1 | rfl)
   ·exact h1
   ·exact h
 ·simp
theorem noteT_nodup {ts:List Int} {t:Int} (h:ts.Nodup):(noteT ts t).Nodup:=by
 unfold noteT
 split
 ·exact h
 ·rename_i h1
  have h1:t ∉ ts:=by simpa using h1
  rw [List.nodup_append]
  refine ⟨h,by simp,fun a ha b hb=>?_⟩
  simp only [List.mem_singleton] at hb
  rintro rfl
  exact h1 (hb ▸ ha)
theorem noteT_len (ts:List Int) (t:Int):(noteT ts t).length <= ts.length + 1:=by
 unfold noteT
 split <;> simp
theorem stepT_len (node:Int) (ts:List Int) (h:Hld):(stepT node ts h).length <= ts.length + 2:=by
 unfold stepT
 split
 ·have:=noteT_len ts h.fr
  have:=noteT_len (noteT ts h.fr) h.to
  omega
 ·omega
theorem tmK_len (node:Int) (l:List Hld):∀ k,k <= l.length -> (tmK node l k).length <= 2 * k
 | 0,_=>by simp [tmK]
 | k + 1,h=>by
  have h1:=tmK_len node l k (by omega)
  have h2:=stepT_len node (tmK node l k) (l.getD k default)
  rw [tmK_succ (by omega)]
  omega
theorem tmK_nodup (node:Int) (l:List Hld):∀ k,k <= l.length -> (tmK node l k).Nodup
 | 0,_=>by simp [tmK]
 | k + 1,h=>by
  have h1:=tmK_nodup node l k (by omega)
  rw [tmK_succ (by omega)]
  unfold stepT
  split
  ·exact noteT_nodup (noteT_nodup h1)
  ·exact h1
theorem tmK_mem (node:Int) (l:List Hld):∀ k,k <= l.length -> ∀ x,x ∈ tmK node l k ↔ ∃ h ∈ l.take k,h.node = node /\ (h.fr = x \/ h.to = x)
 | 0,_,x=>by simp [tmK]
 | k + 1,h,x=>by
  have h1:=tmK_mem node l k (by omega) x
  rw [tmK_succ (by omega),take_snoc (by omega)]
  unfold stepT
  split
  ·rename_i h2
   have h2:(l.getD k default).node = node:=eq_of_beq h2
   rw [noteT_mem,noteT_mem,h1]
   constructor
   ·rintro ((⟨y,hy,h3⟩ | rfl) | rfl)
    ·exact ⟨y,List.mem_append_left _ hy,h3⟩
    ·exact ⟨_,by simp,h2,.inl rfl⟩
    ·exact ⟨_,by simp,h2,.inr rfl⟩
   ·rintro ⟨y,hy,h3,h4⟩
    rcases List.mem_append.1 hy with hy | hy
    ·exact .inl (.inl ⟨y,hy,h3,h4⟩)
    ·simp only [List.mem_singleton] at hy
     subst hy
     rcases h4 with h4 | h4
     ·exact .inl (.inr h4.symm)
     ·exact .inr h4.symm
  ·rename_i h2
   have h2:(l.getD k default).node ≠ node:=by simpa using h2
   rw [h1]
   constructor
   ·rintro ⟨y,hy,h3⟩;exact ⟨y,List.mem_append_left _ hy,h3⟩
   ·rintro ⟨y,hy,h3,h4⟩
    rcases List.mem_append.1 hy with hy | hy
    ·exact ⟨y,hy,h3,h4⟩
    ·simp only [List.mem_singleton] at hy
     subst hy
     exact (h2 h3).elim
theorem chM_none {node t:Int}:∀ {l:List Hld},(¬ ∃ h ∈ l,h.node = node /\ (h.fr = t \/ h.to = t)) -> chM node t l = 0
 | [],_=>rfl
 | h :: l,hn=>by
  have h1:=chM_none (l:=l) (node:=node) (t:=t) fun ⟨y,hy,h3⟩=>hn ⟨y,List.mem_cons_of_mem _ hy,h3⟩
  have h2:dH node t h = 0:=by
   unfold dH
   split
   ·rename_i h3
    have h3:h.node = node:=eq_of_beq h3
    rw [if_neg fun e=>hn ⟨h,List.mem_cons_self,h3,.inl e⟩,if_neg fun e=>hn ⟨h,List.mem_cons_self,h3,.inr e⟩]
    rfl
   ·rfl
  rw [chM,h1,h2];rfl
theorem chM_bound {node t:Int}:∀ {l:List Hld},(∀ h ∈ l,1 <= h.size /\ h.size <= 65536) -> -(65536 * (l.length:Int)) <= chM node t l /\ chM node t l <= 65536 * l.length
 | [],_=>by simp [chM]
 | h :: l,hh=>by
  have h1:=chM_bound (node:=node) (t:=t) (l:=l) fun x hx=>hh x (List.mem_cons_of_mem _ hx)
  have h2:=hh h List.mem_cons_self
  simp only [chM,List.length_cons,dH]
  split
  ·split <;> split <;> omega
  ·omega
def miH (f:Int -> Option Int) (q:List Int):Bool:=(f (q.getD 0 0)).isSome
def miV (f:Int -> Option Int) (q:List Int):A:=.int .i64 ((f (q.getD 0 0)).getD 0)
theorem mi_look (f:Int -> Option Int) (q:List Int):lookM (miH f) (miV f) [] q = (f (q.getD 0 0)).map fun n=>.int .i64 n:=by
 simp only [lookM,miH,miV]
 cases f (q.getD 0 0) <;> rfl
theorem mi_put {f g:Int -> Option Int} {u:List (List Int × Option A)} {t x:Int} {q:List Int} (hq:q.length = 1) (h:lookM (miH f) (miV f) u q = (g (q.getD 0 0)).map fun n=>.int .i64 n):
  lookM (miH f) (miV f) (([t],some (.int .i64 x)) :: u) q = ((if q.getD 0 0 = t then some x else g (q.getD 0 0)).map fun n=>.int .i64 n):=by
 match q,hq with
 | [a],_=>
  by_cases e:a = t
  ·subst e
   have:eqKs [a] [a] = true:=eqKs_iff.2 rfl
   simp only [lookM,this]
   simp
  ·have:eqKs [a] [t] = false:=eqKs_f (by simpa using e)
   simp only [lookM,this]
   rw [h]
   simp [e]
def fK (node:Int) (l:List Hld) (k:Nat) (t:Int):Option Int:=if (tmK node l k).contains t then some (chM node t (l.take k)) else none
theorem fK_val {node:Int} {l:List Hld} {k:Nat} (hk:k <= l.length) (t:Int):(fK node l k t).getD 0 = chM node t (l.take k):=by
 unfold fK
 split
 ·rfl
 ·rename_i h
  have h:t ∉ tmK node l k:=by simpa using h
  rw [tmK_mem node l k hk] at h
  rw [chM_none h];rfl
theorem lv_put {node:Int} {l:List Hld} {k:Nat} (a:k < l.length) (hb:(l.getD k default).node = node) (hlt:(l.getD k default).fr < (l.getD k default).to) (hl:l.length <= 1000) (hs:∀ h ∈ l,1 <= h.size /\ h.size <= 65536) {y1 y2:Int} (h1:y1 = chM node (l.getD k default).fr (l.take k)) (h2:y2 = chM node (l.getD k default).to (l.take k)) {q:List Int} (hq:q.length = 1):
  lookM (miH (fK node l k)) (miV (fK node l k)) [([(l.getD k default).to],some (.int .i64 (IntKind.i64.wrap (y2 + IntKind.i64.wrap (0 - (l.getD k default).size))))),([(l.getD k default).fr],some (.int .i64 (IntKind.i64.wrap (y1 + (l.getD k default).size))))] q = lookM (miH (fK node l (k + 1))) (miV (fK node l (k + 1))) [] q:=by
 have hsk:=hs (l.getD k default) (by rw [getD_lt a];exact List.getElem_mem _)
 have hst:∀ h ∈ l.take k,1 <= h.size /\ h.size <= 65536:=fun h hh=>hs h (List.mem_of_mem_take hh)
 have hb1:=chM_bound (node:=node) (t:=(l.getD k default).fr) hst
 have hb2:=chM_bound (node:=node) (t:=(l.getD k default).to) hst
 have htl:(l.take k).length = k:=by simp;omega
 rw [htl] at hb1 hb2
 rw [wrap_i64 (n:=0 - (l.getD k default).size) (by omega) (by omega),wrap_i64 (by omega) (by omega),wrap_i64 (by omega) (by omega),h1,h2]
 rw [mi_put hq (g:=fun z=>if z = (l.getD k default).fr then some (chM node (l.getD k default).fr (l.take k) + (l.getD k default).size) else fK node l k z) (mi_put hq (mi_look (fK node l k) q)),mi_look]
 congr 1
 have hc:∀ t,chM node t (l.take (k + 1)) = chM node t (l.take k) + dH node t (l.getD k default):=fun t=>by rw [take_snoc a,chM_snoc]
 have hn:((l.getD k default).node == node) = true:=by rw [hb];simp
 have hd:∀ t,dH node t (l.getD k default) = (if (l.getD k default).fr = t then (l.getD k default).size else 0) - (if (l.getD k default).to = t then (l.getD k default).size else 0):=fun t=>by unfold dH;rw [if_pos hn]
 have hmem:∀ t,(tmK node l (k + 1)).contains t = true ↔ t ∈ tmK node l k \/ t = (l.getD k default).fr \/ t = (l.getD k default).to:=fun t=>by
  rw [List.contains_iff_mem,tmK_succ a]
  unfold stepT
  rw [if_pos hn,noteT_mem,noteT_mem,or_assoc]
 generalize q.getD 0 0 = t
 unfold fK
 by_cases e1:t = (l.getD k default).to
 ·subst e1
  rw [if_pos rfl,if_pos ((hmem _).2 (.inr (.inr rfl))),hc,hd,if_pos rfl,if_neg (by omega)]
 ·rw [if_neg e1]
  by_cases e2:t = (l.getD k default).fr
  ·subst e2
   rw [if_pos rfl,if_pos ((hmem _).2 (.inr (.inl rfl))),hc,hd,if_pos rfl,if_neg (by omega)]
   congr 1;omega
  ·rw [if_neg e2,hc,hd,if_neg (Ne.symm e2),if_neg (Ne.symm e1)]
   by_cases e3:t ∈ tmK node l k
   ·rw [if_pos (by simpa using e3),if_pos ((hmem _).2 (.inl e3))]
    congr 1;omega
   ·rw [if_neg (by simpa using e3),if_neg fun h=>by rcases (hmem _).1 h with h | h | h;exact e3 h;exact e2 h;exact e1 h]
theorem fK_skip {node:Int} {l:List Hld} {k:Nat} (a:k < l.length) (hb:((l.getD k default).node == node) = false) (t:Int):fK node l (k + 1) t = fK node l k t:=by
 unfold fK
 rw [tmK_succ a,take_snoc a,chM_snoc]
 unfold stepT dH
 rw [hb]
 simp
theorem tm_st {node:Int} {l:List Hld} {k:Nat} (a:k < l.length) (hb:((l.getD k default).node == node) = true):tmK node l (k + 1) = noteT (noteT (tmK node l k) (l.getD k default).fr) (l.getD k default).to:=by
 rw [tmK_succ a];unfold stepT;rw [if_pos hb]
theorem tm_skip {node:Int} {l:List Hld} {k:Nat} (a:k < l.length) (hb:((l.getD k default).node == node) = false):tmK node l (k + 1) = tmK node l k:=by
 rw [tmK_succ a];unfold stepT;rw [if_neg (by rw [hb];decide)]
theorem noteT_in {ts:List Int} {t:Int} (h:ts.contains t = true):noteT ts t = ts:=by unfold noteT;rw [if_pos h]
theorem noteT_new {ts:List Int} {t:Int} (h:ts.contains t = false):noteT ts t = ts ++ [t]:=by unfold noteT;rw [if_neg (by rw [h];decide)]
theorem fK_c {node:Int} {l:List Hld} {k:Nat} {t:Int} {b:Bool} (h:miH (fK node l k) [t] = b):(tmK node l k).contains t = b:=by
 have h:(fK node l k t).isSome = b:=h
 rw [<- h]
 unfold fK
 split
 ·rename_i h1;rw [h1];rfl
 ·rename_i h1;simpa using h1
theorem fK_0 {node:Int} {l:List Hld} {k:Nat} (hk:k <= l.length) {t:Int} (h:miH (fK node l k) [t] = false):0 = chM node t (l.take k):=by
 rw [<- fK_val hk]
 have h:(fK node l k t).isSome = false:=h
 rw [Option.isSome_eq_false_iff,Option.isNone_iff_eq_none] at h
 rw [h];rfl
theorem cont_app {ts:List Int} {t x:Int} (h:ts.contains t = false) (hx:t ≠ x):(ts ++ [x]).contains t = false:=by
 simp at h ⊢
 exact ⟨h,hx⟩
theorem row_two (ts:List Int) (x y:Int) (q:Nat) (hq:q < ts.length + 2) (j:Nat) (hj:j < 1):(if q < ts.length + 1 then (if q < ts.length then rowL nC ts q j else getA (nC x) ((q - ts.length) * 1 + j)) else getA (nC y) ((q - (ts.length + 1)) * 1 + j)) = rowL nC (ts ++ [x] ++ [y]) q j:=by
 have h:=row_snoc (cells:=nC) (l:=ts ++ [x]) (x:=y) (c:=1) rfl q (by simpa using hq) j hj
 rw [<- h]
 have e:(ts ++ [x]).length = ts.length + 1:=by simp
 rw [e]
 by_cases h1:q < ts.length + 1
 ·rw [if_pos h1,if_pos h1,row_snoc (cells:=nC) (l:=ts) (x:=x) (c:=1) rfl q h1 j hj]
 ·rw [if_neg h1,if_neg h1]
end Go.Mb
namespace Go.Proofs.YtjhmdfofhnijeaaGreatDoor
open Go.Sy Go.Mb
set_option maxRecDepth 100000
set_option maxHeartbeats 4000000
theorem mapOK:MapTab Tryz.prog [(216,false,1)]:=by
 intro p hp
 obtain rfl:=List.mem_singleton.1 hp
 exact ⟨3,3,by kernel_rfl,mapLaw_int Tryz.underlying3⟩
noncomputable def ELv:Env:={ P:=Tryz.prog,eqT:=lookE [],mu:=[139],mps:=lookMp [(216,false,1)] }
theorem ELv_ok:EqOK ELv:=eqOK_mp (tab:=[]) (fun p hp=>by cases hp) mapOK
noncomputable def CLv:Cx:={ E:=ELv,inl:=[160],ok:=ELv_ok }
end Go.Proofs.YtjhmdfofhnijeaaGreatDoor
namespace Go.Mb
open Go.Sy
def busyM (l:List Bkg) (ct:Int):List Spn:=(l.filter fun b=>b.ct == ct).map fun b=>⟨b.fr,b.to⟩
def addS (out:List Spn) (lo hi:Int):List Spn:=if decide (lo < hi) then out ++ [⟨lo,hi⟩] else out
def freeL (stop:Int):Int -> List Spn -> List Spn -> List Spn
 | lo,[],out=>addS out lo stop
 | lo,x :: l,out=>freeL stop (if x.hi > lo then x.hi else lo) l (addS out lo x.lo)
def freeM (p:Pln) (l:List Bkg) (ct:Nat):List Spn:=freeL (p.cts.getD ct default).stop (p.cts.getD ct default).start (busyM l ct) []
theorem busyM_len (l:List Bkg) (ct:Int):(busyM l ct).length <= l.length:=by
 unfold busyM
 rw [List.length_map]
 exact List.length_filter_le _ _
theorem busyM_snoc {l:List Bkg} {ct:Int} {k:Nat} (h:k < l.length):busyM (l.take (k + 1)) ct = if (l.getD k default).ct == ct then busyM (l.take k) ct ++ [⟨(l.getD k default).fr,(l.getD k default).to⟩] else busyM (l.take k) ct:=by
 unfold busyM
 rw [take_snoc h,List.filter_append,List.map_append]
 generalize l.getD k default = b
 cases hb:b.ct == ct <;> simp [List.filter_cons,hb]
theorem addS_t {out:List Spn} {lo hi:Int} (h:decide (lo < hi) = true):addS out lo hi = out ++ [⟨lo,hi⟩]:=by unfold addS;rw [if_pos h]
theorem addS_f {out:List Spn} {lo hi:Int} (h:decide (lo < hi) = false):addS out lo hi = out:=by unfold addS;rw [if_neg (by rw [h];decide)]
theorem addS_len (out:List Spn) (lo hi:Int):(addS out lo hi).length <= out.length + 1:=by unfold addS;split <;> simp
theorem freeL_len (stop:Int):∀ (l:List Spn) (lo:Int) (out:List Spn),(freeL stop lo l out).length <= out.length + l.length + 1
 | [],lo,out=>addS_len _ _ _
 | x :: l,lo,out=>by
  have:=freeL_len stop l (if x.hi > lo then x.hi else lo) (addS out lo x.lo)
  have:=addS_len out lo x.lo
  simp only [freeL,List.length_cons]
  omega
def segS (lo hi:Int):List Spn:=if decide (lo < hi) then [⟨lo,hi⟩] else []
def freeG (stop:Int):Int -> List Spn -> List Spn
 | lo,[]=>segS lo stop
 | lo,x :: l=>segS lo x.lo ++ freeG stop (if x.hi > lo then x.hi else lo) l
theorem addS_eq (out:List Spn) (lo hi:Int):addS out lo hi = out ++ segS lo hi:=by
 unfold addS segS
 split <;> simp
theorem freeL_eq (stop:Int):∀ (l:List Spn) (lo:Int) (out:List Spn),freeL stop lo l out = out ++ freeG stop lo l
 | [],lo,out=>addS_eq out lo stop
 | x :: l,lo,out=>by rw [freeL,freeL_eq stop l,addS_eq,freeG,List.append_assoc]
theorem mem_segS {lo hi:Int} {s:Spn}:s ∈ segS lo hi ↔ lo < hi /\ s = ⟨lo,hi⟩:=by
 unfold segS
 by_cases h:lo < hi
 ·simp [h]
 ·simp [h]
def inS (t:Int) (x:Spn):Prop:=x.lo <= t /\ t < x.hi
structure FreeS (stop lo:Int) (l L:List Spn):Prop where
 all:∀ s ∈ L,lo <= s.lo /\ s.lo < s.hi /\ s.hi <= stop
 ord:L.Pairwise fun a b=>a.hi <= b.lo
 cov:∀ t,(∃ s ∈ L,inS t s) ↔ lo <= t /\ t < stop /\ ∀ x ∈ l,¬ inS t x
theorem freeG_spec {stop:Int}:∀ {l:List Spn} {lo:Int},(∀ x ∈ l,x.lo < x.hi /\ lo <= x.lo /\ x.hi <= stop) -> (l.Pairwise fun a b=>a.hi <= b.lo) -> FreeS stop lo l (freeG stop lo l)
 | [],lo,_,_=>by
  refine ⟨fun s hs=>?_,?_,fun t=>?_⟩
  ·obtain ⟨h1,rfl⟩:=mem_segS.1 hs
   exact ⟨Int.le_refl _,h1,Int.le_refl _⟩
  ·show (segS lo stop).Pairwise _
   unfold segS
   split
   ·exact List.pairwise_singleton _ _
   ·exact List.Pairwise.nil
  ·constructor
   ·rintro ⟨s,hs,h1⟩
    obtain ⟨h2,rfl⟩:=mem_segS.1 hs
    exact ⟨h1.1,h1.2,fun x hx=>by cases hx⟩
   ·rintro ⟨h1,h2,_⟩
    exact ⟨⟨lo,stop⟩,mem_segS.2 ⟨by omega,rfl⟩,h1,h2⟩
 | x :: l,lo,hl,hp=>by
  obtain ⟨p1,p2⟩:=List.pairwise_cons.1 hp
  obtain ⟨x1,x2,x3⟩:=hl x List.mem_cons_self
  have e:(if x.hi > lo then x.hi else lo) = x.hi:=if_pos (by omega)
  obtain ⟨g1,g2,g3⟩:=freeG_spec (stop:=stop) (l:=l) (lo:=x.hi) (fun y hy=>by have:=hl y (List.mem_cons_of_mem _ hy);have:=p1 y hy;exact ⟨by omega,by omega,by omega⟩) p2
  rw [freeG,e]
  refine ⟨fun s hs=>?_,?_,fun t=>?_⟩
  ·rcases List.mem_append.1 hs with hs | hs
   ·obtain ⟨h1,rfl⟩:=mem_segS.1 hs
    exact ⟨Int.le_refl _,h1,by show x.lo <= stop;omega⟩
   ·have:=g1 s hs
    exact ⟨by omega,by omega,by omega⟩
  ·rw [List.pairwise_append]
   refine ⟨?_,g2,fun a ha b hb=>?_⟩
   ·unfold segS
    split
    ·exact List.pairwise_singleton _ _
    ·exact List.Pairwise.nil
   ·obtain ⟨h1,rfl⟩:=mem_segS.1 ha
    have:=g1 b hb
    show x.lo <= b.lo
    omega
  ·constructor
   ·rintro ⟨s,hs,h1⟩
    rcases List.mem_append.1 hs with hs | hs
    ·obtain ⟨h2,rfl⟩:=mem_segS.1 hs
     have h3:lo <= t:=h1.1
     have h4:t < x.lo:=h1.2
     refine ⟨h3,by omega,fun y hy=>?_⟩
     rcases List.mem_cons.1 hy with rfl | hy
     ·unfold inS;omega
     ·have:=p1 y hy
      unfold inS;omega
    ·obtain ⟨h2,h3,h4⟩:=(g3 t).1 ⟨s,hs,h1⟩
     refine ⟨by omega,h3,fun y hy=>?_⟩
     rcases List.mem_cons.1 hy with rfl | hy
     ·unfold inS;omega
     ·exact h4 y hy
   ·rintro ⟨h1,h2,h3⟩
    have h4:=h3 x List.mem_cons_self
    unfold inS at h4
    by_cases h5:t < x.lo
    ·exact ⟨⟨lo,x.lo⟩,List.mem_append_left _ (mem_segS.2 ⟨by omega,rfl⟩),h1,h5⟩
    ·obtain ⟨s,hs,h6⟩:=(g3 t).2 ⟨by omega,h2,fun y hy=>h3 y (List.mem_cons_of_mem _ hy)⟩
     exact ⟨s,List.mem_append_right _ hs,h6⟩
theorem mem_busyM {l:List Bkg} {ct:Int} {x:Spn}:x ∈ busyM l ct ↔ ∃ b ∈ l,b.ct = ct /\ x = ⟨b.fr,b.to⟩:=by
 unfold busyM
 simp only [List.mem_map,List.mem_filter,beq_iff_eq]
 constructor
 ·rintro ⟨b,⟨h1,h2⟩,rfl⟩;exact ⟨b,h1,h2,rfl⟩
 ·rintro ⟨b,h1,h2,rfl⟩;exact ⟨b,⟨h1,h2⟩,rfl⟩
theorem busy_ord {p:Pln} {l:List Bkg} (h:OkB p l) (ct:Int):(busyM l ct).Pairwise fun a b=>a.hi <= b.lo:=by
 unfold busyM
 rw [List.pairwise_map,List.pairwise_filter]
 refine h.ord.imp fun {a b} hab ha hb=>?_
 have ha:=eq_of_beq ha
 have hb:=eq_of_beq hb
 unfold NxtB at hab
 show a.to <= b.fr
 omega
theorem free_spec {p:Pln} {l:List Bkg} (h:OkB p l) (ct:Nat):FreeS (p.cts.getD ct default).stop (p.cts.getD ct default).start (busyM l ct) (freeM p l ct):=by
 unfold freeM
 rw [freeL_eq,List.nil_append]
 refine freeG_spec (fun x hx=>?_) (busy_ord h ct)
 obtain ⟨b,h1,h2,rfl⟩:=mem_busyM.1 hx
 have hb:=h.all b h1
 have e:b.ct.toNat = ct:=by rw [h2];rfl
 have b1:=hb.lo
 have b2:=hb.hi
 rw [e] at b1 b2
 exact ⟨hb.lt,b1,b2⟩
def loT (d:Dem) (x:Spn):Int:=if d.ready > x.lo then d.ready else x.lo
def hiT (d:Dem) (rng:Int) (x:Spn):Int:=if d.dead - rng < x.hi then d.dead - rng else x.hi
def spanT (d:Dem) (rng:Int) (x:Spn):List Int:=(List.range (hiT d rng x - loT d x).toNat).map fun k=>loT d x + (k:Nat)
def tickM (t:Tbl) (d:Dem) (ct:Nat):List Int:=(freeM t.plan t.bks ct).flatMap (spanT d (t.plan.cts.getD ct default).rng)
theorem mem_spanT {d:Dem} {rng:Int} {x:Spn} {u:Int}:u ∈ spanT d rng x ↔ inS u x /\ d.ready <= u /\ u + 1 + rng <= d.dead:=by
 have key:(inS u x /\ d.ready <= u /\ u + 1 + rng <= d.dead) ↔ loT d x <= u /\ u < hiT d rng x:=by
  unfold inS loT hiT
  (repeat' split) <;> omega
 rw [key]
 unfold spanT
 simp only [List.mem_map,List.mem_range]
 constructor
 ·rintro ⟨k,h1,h2⟩;omega
 ·rintro ⟨h1,h2⟩;exact ⟨(u - loT d x).toNat,by omega,by omega⟩
theorem range_lt (n:Nat):(List.range n).Pairwise (· < ·):=List.pairwise_lt_range
theorem spanT_ord (d:Dem) (rng:Int) (x:Spn):(spanT d rng x).Pairwise (· < ·):=by
 unfold spanT
 rw [List.pairwise_map]
 exact (range_lt _).imp fun {a b} h=>by omega
theorem flatMap_ord {α:Type} {f:α -> List Int}:∀ {L:List α},(∀ x ∈ L,(f x).Pairwise (· < ·)) -> (L.Pairwise fun a b=>∀ u ∈ f a,∀ w ∈ f b,u < w) -> (L.flatMap f).Pairwise (· < ·)
 | [],_,_=>List.Pairwise.nil
 | x :: L,h,hp=>by
  obtain ⟨p1,p2⟩:=List.pairwise_cons.1 hp
  rw [List.flatMap_cons,List.pairwise_append]
  refine ⟨h x List.mem_cons_self,flatMap_ord (fun y hy=>h y (List.mem_cons_of_mem _ hy)) p2,fun a ha b hb=>?_⟩
  obtain ⟨y,hy,hby⟩:=List.mem_flatMap.1 hb
  exact p1 y hy a ha b hby
theorem tickM_ord {t:Tbl} (h:OkT t) (d:Dem) (ct:Nat):(tickM t d ct).Pairwise (· < ·):=by
 obtain ⟨h1,h2,h3⟩:=free_spec h.b ct
 refine flatMap_ord (fun x _=>spanT_ord _ _ _) (h2.imp fun {a b} hab u hu w hw=>?_)
 have hu:=(mem_spanT.1 hu).1.2
 have hw:=(mem_spanT.1 hw).1.1
 omega
def okT (t:Tbl) (d:Dem) (ct:Nat) (u:Int):Bool:=decide ((t.plan.cts.getD ct default).start <= u) && (decide (u < (t.plan.cts.getD ct default).stop) && (decide (d.ready <= u) && (decide (u + 1 + (t.plan.cts.getD ct default).rng <= d.dead) && !(busyM t.bks ct).any (has1 u))))
theorem okT_iff {t:Tbl} {d:Dem} {ct:Nat} {u:Int}:okT t d ct u = true ↔ (t.plan.cts.getD ct default).start <= u /\ u < (t.plan.cts.getD ct default).stop /\ d.ready <= u /\ u + 1 + (t.plan.cts.getD ct default).rng <= d.dead /\ ∀ x ∈ busyM t.bks ct,¬ inS u x:=by
 unfold okT
 simp only [Bool.and_eq_true,decide_eq_true_eq,Bool.not_eq_true',List.any_eq_false,has1,inS]
theorem mem_tickM {t:Tbl} (h:OkT t) {d:Dem} {ct:Nat} {u:Int}:u ∈ tickM t d ct ↔ okT t d ct u = true:=by
 have h3:=(free_spec h.b ct).cov u
 rw [okT_iff]
 unfold tickM
 simp only [List.mem_flatMap,mem_spanT]
 constructor
 ·rintro ⟨x,h4,h5,h6,h7⟩
  have:=h3.1 ⟨x,h4,h5⟩
  exact ⟨this.1,this.2.1,h6,h7,this.2.2⟩
 ·rintro ⟨h4,h5,h6,h7,h8⟩
  obtain ⟨x,h9,h10⟩:=h3.2 ⟨h4,h5,h8⟩
  exact ⟨x,h9,h10,h6,h7⟩
theorem ord_ext:∀ {l m:List Int},l.Pairwise (· < ·) -> m.Pairwise (· < ·) -> (∀ x,x ∈ l ↔ x ∈ m) -> l = m
 | [],[],_,_,_=>rfl
 | [],b :: m,_,_,h=>absurd ((h b).2 List.mem_cons_self) (by simp)
 | a :: l,[],_,_,h=>absurd ((h a).1 List.mem_cons_self) (by simp)
 | a :: l,b :: m,hl,hm,h=>by
  obtain ⟨l1,l2⟩:=List.pairwise_cons.1 hl
  obtain ⟨m1,m2⟩:=List.pairwise_cons.1 hm
  have hab:a = b:=by
   rcases List.mem_cons.1 ((h a).1 List.mem_cons_self) with e | e
   ·exact e
   ·rcases List.mem_cons.1 ((h b).2 List.mem_cons_self) with e' | e'
    ·exact e'.symm
    ·have:=l1 b e';have:=m1 a e;omega
  subst hab
  rw [ord_ext l2 m2 fun x=>?_]
  constructor
  ·intro hx
   rcases List.mem_cons.1 ((h x).1 (List.mem_cons_of_mem _ hx)) with e | e
   ·have:=l1 x hx;omega
   ·exact e
  ·intro hx
   rcases List.mem_cons.1 ((h x).2 (List.mem_cons_of_mem _ hx)) with e | e
   ·have:=m1 x hx;omega
   ·exact e
def tickF (t:Tbl) (d:Dem) (ct:Nat) (lo:Int) (k:Nat):List Int:=((List.range k).map fun i=>lo + (i:Nat)).filter (okT t d ct)
theorem tickF_succ (t:Tbl) (d:Dem) (ct:Nat) (lo:Int) (k:Nat):tickF t d ct lo (k + 1) = tickF t d ct lo k ++ if okT t d ct (lo + (k:Nat)) then [lo + (k:Nat)] else []:=by
 unfold tickF
 rw [List.range_succ,List.map_append,List.filter_append]
 congr 1
 simp only [List.map_cons,List.map_nil,List.filter_cons,List.filter_nil]
theorem tickF_all {t:Tbl} (h:OkT t) {d:Dem} {ct:Nat} {lo:Int} {k:Nat} (h1:∀ u,okT t d ct u = true -> lo <= u /\ u < lo + (k:Nat)):tickM t d ct = tickF t d ct lo k:=by
 refine ord_ext (tickM_ord h d ct) ?_ fun x=>?_
 ·unfold tickF
  refine List.Pairwise.filter _ ?_
  rw [List.pairwise_map]
  exact (range_lt _).imp fun {a b} h=>by omega
 ·rw [mem_tickM h]
  unfold tickF
  simp only [List.mem_filter,List.mem_map,List.mem_range]
  constructor
  ·intro hx
   have:=h1 x hx
   exact ⟨⟨(x - lo).toNat,by omega,by omega⟩,hx⟩
  ·exact fun hx=>hx.2
theorem rng_nn {t:Tbl} (h:OkT t) (ct:Nat):0 <= (t.plan.cts.getD ct default).rng:=by
 by_cases e:ct < t.plan.cts.length
 ·have:=(h.p.cts (t.plan.cts.getD ct default) (by rw [getD_lt e];exact List.getElem_mem _)).rng
  omega
 ·rw [List.getD_eq_getElem?_getD,List.getElem?_eq_none (by omega)]
  exact Int.le_refl _
theorem tickM_len {t:Tbl} (h:OkT t) (d:Dem) (ct:Nat):(tickM t d ct).length <= (d.dead - d.ready).toNat:=by
 rw [tickF_all h (lo:=d.ready) (k:=(d.dead - d.ready).toNat) (d:=d) (ct:=ct)]
 ·unfold tickF
  refine Nat.le_trans (List.length_filter_le _ _) ?_
  simp
 ·intro u hu
  obtain ⟨h1,h2,h3,h4,h5⟩:=okT_iff.1 hu
  have:=rng_nn h ct
  omega
end Go.Mb
namespace Go.Proofs.YtjhmdfofhnijeaaGreatDoor
def sumN (g:Nat -> Int):Nat -> Int
 | 0=>0
 | m + 1=>sumN g m + g m
theorem sumN_congr {g h:Nat -> Int}:∀ {m:Nat},(∀ k,k < m -> g k = h k) -> sumN g m = sumN h m
 | 0,_=>rfl
 | m + 1,H=>by simp only [sumN];rw [sumN_congr fun k hk=>H k (by omega),H m (by omega)]
theorem sumN_add (g h:Nat -> Int):∀ m:Nat,sumN (fun k=>g k + h k) m = sumN g m + sumN h m
 | 0=>rfl
 | m + 1=>by simp only [sumN];rw [sumN_add g h m];omega
theorem sumN_sub (g h:Nat -> Int):∀ m:Nat,sumN (fun k=>g k - h k) m = sumN g m - sumN h m
 | 0=>rfl
 | m + 1=>by simp only [sumN];rw [sumN_sub g h m];omega
theorem sumN_le {g h:Nat -> Int}:∀ {m:Nat},(∀ k,k < m -> g k <= h k) -> sumN g m <= sumN h m
 | 0,_=>Int.le_refl _
 | m + 1,H=>by
  simp only [sumN]
  have:=sumN_le (m:=m) fun k hk=>H k (by omega)
  have:=H m (by omega)
  omega
theorem sumN_zero:∀ m:Nat,sumN (fun _=>0) m = 0
 | 0=>rfl
 | m + 1=>by simp only [sumN];rw [sumN_zero m];rfl
theorem sumN_swap (g:Nat -> Nat -> Int) (n:Nat):∀ m:Nat,sumN (fun k=>sumN (fun v=>g k v) n) m = sumN (fun v=>sumN (fun k=>g k v) m) n
 | 0=>by simp only [sumN];rw [sumN_zero]
 | m + 1=>by simp only [sumN];rw [sumN_swap g n m,<- sumN_add]
theorem sumN_one (c:Nat -> Int) (u:Nat):∀ n:Nat,sumN (fun v=>if v = u then c v else 0) n = if u < n then c u else 0
 | 0=>rfl
 | n + 1=>by
  simp only [sumN]
  rw [sumN_one c u n]
  by_cases h1:u < n
  ·rw [if_pos h1,if_neg (by omega),if_pos (by omega)];omega
  ·by_cases h2:n = u
   ·subst h2;simp
   ·rw [if_neg h1,if_neg h2,if_neg (by omega)];rfl
theorem sumN_upd {g h:Nat -> Int} (i:Nat):∀ {m:Nat},i < m -> (∀ k,k < m -> k ≠ i -> g k = h k) -> sumN g m = sumN h m + (g i - h i)
 | 0,hi,_=>by omega
 | m + 1,hi,H=>by
  simp only [sumN]
  by_cases him:i = m
  ·subst him
   rw [sumN_congr (g:=g) (h:=h) fun k hk=>H k (by omega) (by omega)]
   omega
  ·rw [sumN_upd (m:=m) i (by omega) fun k hk=>H k (by omega),H m (by omega) (by omega)]
   omega
structure Net where
 m:Nat
 fr:Nat -> Nat
 to:Nat -> Nat
 cap:Nat -> Int
def gk (G:Net) (F:Nat -> Int) (v k:Nat):Int:=(if G.fr k = v then F k else 0) - (if G.to k = v then F k else 0)
def net (G:Net) (F:Nat -> Int) (v:Nat):Int:=sumN (gk G F v) G.m
structure IsFlow (G:Net) (n s t:Nat) (F:Nat -> Int):Prop where
 lo:∀ k,k < G.m -> 0 <= F k
 hi:∀ k,k < G.m -> F k <= G.cap k
 bal:∀ v,v < n -> v ≠ s -> v ≠ t -> net G F v = 0
structure NetOK (G:Net) (n s t:Nat):Prop where
 fr:∀ k,k < G.m -> G.fr k < n
 to:∀ k,k < G.m -> G.to k < n
 ne:∀ k,k < G.m -> G.fr k ≠ G.to k
 ls:s < n
 lt:t < n
 st:s ≠ t
def across (G:Net) (S:Nat -> Bool):Int:=sumN (fun k=>if S (G.fr k) = true /\ S (G.to k) = false then G.cap k else 0) G.m
theorem flow_across {G:Net} {n s t:Nat} {F:Nat -> Int} {S:Nat -> Bool} (hG:NetOK G n s t) (hF:∀ v,v < n -> v ≠ s -> v ≠ t -> net G F v = 0) (hs:S s = true) (ht:S t = false):
  net G F s = sumN (fun k=>(if S (G.fr k) = true /\ S (G.to k) = false then F k else 0) - (if S (G.fr k) = false /\ S (G.to k) = true then F k else 0)) G.m:=by
 have h1:sumN (fun v=>if v = s then net G F v else 0) n = net G F s:=by rw [sumN_one,if_pos hG.ls]
 have h2:sumN (fun v=>if v = s then net G F v else 0) n = sumN (fun v=>if S v = true then net G F v else 0) n:=by
  refine sumN_congr fun v hv=>?_
  by_cases hvs:v = s
  ·subst hvs;rw [if_pos rfl,if_pos hs]
  ·rw [if_neg hvs]
   by_cases hS:S v = true
   ·rw [if_pos hS,hF v hv hvs (by intro e;rw [e,ht] at hS;cases hS)]
   ·rw [if_neg hS]
 have h3:sumN (fun v=>if S v = true then net G F v else 0) n = sumN (fun v=>sumN (fun k=>if S v = true then gk G F v k else 0) G.m) n:=by
  refine sumN_congr fun v hv=>?_
  by_cases hS:S v = true
  ·rw [if_pos hS]
   exact sumN_congr fun k hk=>by rw [if_pos hS]
  ·rw [if_neg hS]
   rw [sumN_congr (h:=fun _=>0) fun k hk=>by rw [if_neg hS],sumN_zero]
 rw [<- h1,h2,h3,<- sumN_swap]
 refine sumN_congr fun k hk=>?_
 have e:∀ v,(if S v = true then gk G F v k else 0) = (if v = G.fr k then (if S v = true then F k else 0) else 0) - (if v = G.to k then (if S v = true then F k else 0) else 0):=by
  intro v
  unfold gk
  by_cases hS:S v = true
  ·rw [if_pos hS]
   by_cases ha:G.fr k = v <;> by_cases hb:G.to k = v <;> simp only [ha,hb,hS,if_true,if_false,eq_comm (a:=v)]
  ·rw [if_neg hS]
   by_cases ha:G.fr k = v <;> by_cases hb:G.to k = v <;> simp only [ha,hb,hS,if_true,if_false,eq_comm (a:=v)] <;> rfl
 rw [sumN_congr fun v _=>e v,sumN_sub,sumN_one,sumN_one,if_pos (hG.fr k hk),if_pos (hG.to k hk)]
 cases S (G.fr k) <;> cases S (G.to k) <;> simp
theorem flow_le {G:Net} {n s t:Nat} {F:Nat -> Int} {S:Nat -> Bool} (hG:NetOK G n s t) (hF:IsFlow G n s t F) (hs:S s = true) (ht:S t = false):net G F s <= across G S:=by
 rw [flow_across hG hF.bal hs ht]
 refine sumN_le fun k hk=>?_
 have h1:=hF.lo k hk
 have h2:=hF.hi k hk
 cases S (G.fr k) <;> cases S (G.to k) <;> simp <;> omega
theorem flow_eq {G:Net} {n s t:Nat} {F:Nat -> Int} {S:Nat -> Bool} (hG:NetOK G n s t) (hF:∀ v,v < n -> v ≠ s -> v ≠ t -> net G F v = 0) (hs:S s = true) (ht:S t = false)
  (ho:∀ k,k < G.m -> S (G.fr k) = true -> S (G.to k) = false -> F k = G.cap k) (hi:∀ k,k < G.m -> S (G.fr k) = false -> S (G.to k) = true -> F k = 0):net G F s = across G S:=by
 rw [flow_across hG hF hs ht]
 refine sumN_congr fun k hk=>?_
 have h1:=ho k hk
 have h2:=hi k hk
 cases ha:S (G.fr k) <;> cases hb:S (G.to k) <;> simp_all
def lf (G:Net) (j:Nat):Nat:=if j % 2 = 0 then G.fr (j / 2) else G.to (j / 2)
def lt (G:Net) (j:Nat):Nat:=if j % 2 = 0 then G.to (j / 2) else G.fr (j / 2)
def rm (G:Net) (F:Nat -> Int) (j:Nat):Int:=if j % 2 = 0 then G.cap (j / 2) - F (j / 2) else F (j / 2)
def push (r:Int) (F:Nat -> Int) (j:Nat):Nat -> Int:=fun k=>if k = j / 2 then (if j % 2 = 0 then F k + r else F k - r) else F k
def pushP (r:Int):(Nat -> Int) -> List Nat -> Nat -> Int
 | F,[]=>F
 | F,j :: P=>pushP r (push r F j) P
def Chain (G:Net):Nat -> List Nat -> Nat -> Prop
 | u,[],v=>u = v
 | u,j :: P,v=>lf G j = u /\ Chain G (lt G j) P v
def halves:List Nat -> List Nat
 | []=>[]
 | j :: P=>j / 2 :: halves P
theorem net_push {G:Net} {F:Nat -> Int} {r:Int} {j:Nat} (hj:j / 2 < G.m) (v:Nat):net G (push r F j) v = net G F v + (if lf G j = v then r else 0) - (if lt G j = v then r else 0):=by
 unfold net
 rw [sumN_upd (h:=gk G F v) (j / 2) hj (fun k hk hne=>by simp only [gk,push,if_neg hne])]
 simp only [gk,push,lf,lt,if_true]
 by_cases h2:j % 2 = 0
 ·simp only [if_pos h2]
  by_cases ha:G.fr (j / 2) = v <;> by_cases hb:G.to (j / 2) = v <;> simp only [ha,hb,if_true,if_false] <;> omega
 ·simp only [if_neg h2]
  by_cases ha:G.fr (j / 2) = v <;> by_cases hb:G.to (j / 2) = v <;> simp only [ha,hb,if_true,if_false] <;> omega
theorem net_pushP {G:Net} {r:Int}:∀ {P:List Nat} {F:Nat -> Int} {u w:Nat},Chain G u P w -> (∀ j ∈ P,j / 2 < G.m) -> ∀ v,net G (pushP r F P) v = net G F v + (if u = v then r else 0) - (if w = v then r else 0)
 | [],F,u,w,hc,_,v=>by
  simp only [Chain] at hc
  subst hc
  simp only [pushP]
  omega
 | j :: P,F,u,w,hc,hm,v=>by
  simp only [Chain] at hc
  simp only [pushP]
  rw [net_pushP hc.2 (fun k hk=>hm k (List.mem_cons_of_mem _ hk)) v,net_push (hm j List.mem_cons_self),hc.1]
  omega
theorem pushP_other {r:Int}:∀ {P:List Nat} {F:Nat -> Int} {k:Nat},k ∉ halves P -> pushP r F P k = F k
 | [],F,k,_=>rfl
 | j :: P,F,k,h=>by
  simp only [halves,List.mem_cons,not_or] at h
  simp only [pushP]
  rw [pushP_other h.2]
  simp only [push,if_neg h.1]
theorem halves_mem:∀ {P:List Nat} {j:Nat},j ∈ P -> j / 2 ∈ halves P
 | [],j,h=>by cases h
 | a :: P,j,h=>by
  rcases List.mem_cons.1 h with rfl | h
  ·exact List.mem_cons_self
  ·exact List.mem_cons_of_mem _ (halves_mem h)
theorem pushP_at {r:Int}:∀ {P:List Nat} {F:Nat -> Int} {j:Nat},(halves P).Nodup -> j ∈ P -> pushP r F P (j / 2) = if j % 2 = 0 then F (j / 2) + r else F (j / 2) - r
 | [],F,j,_,h=>by cases h
 | i :: P,F,j,hn,hm=>by
  simp only [halves,List.nodup_cons] at hn
  simp only [pushP]
  rcases List.mem_cons.1 hm with rfl | hm
  ·rw [pushP_other hn.1]
   simp only [push,if_true]
  ·have hne:j / 2 ≠ i / 2:=by
    intro e
    refine hn.1 ?_
    rw [<- e]
    exact halves_mem hm
   rw [pushP_at hn.2 hm]
   simp only [push,if_neg hne]
theorem mem_halves:∀ {P:List Nat} {k:Nat},k ∈ halves P -> ∃ j ∈ P,j / 2 = k
 | [],k,h=>by cases h
 | i :: P,k,h=>by
  rcases List.mem_cons.1 h with rfl | h
  ·exact ⟨i,List.mem_cons_self,rfl⟩
  ·obtain ⟨j,hj,e⟩:=mem_halves h
   exact ⟨j,List.mem_cons_of_mem _ hj,e⟩
theorem push_flow {G:Net} {n s t:Nat} {F:Nat -> Int} {P:List Nat} {r:Int} (hG:NetOK G n s t) (hF:IsFlow G n s t F) (hc:Chain G s P t) (hm:∀ j ∈ P,j / 2 < G.m) (hn:(halves P).Nodup) (hr0:0 <= r) (hr:∀ j ∈ P,r <= rm G F j):
  IsFlow G n s t (pushP r F P) /\ net G (pushP r F P) s = net G F s + r:=by
 refine ⟨⟨fun k hk=>?_,fun k hk=>?_,fun v hv hvs hvt=>?_⟩,?_⟩
 ·by_cases hm':k ∈ halves P
  ·obtain ⟨j,hj,rfl⟩:=mem_halves hm'
   rw [pushP_at hn hj]
   have h1:=hr j hj
   have h2:=hF.lo _ hk
   unfold rm at h1
   by_cases h3:j % 2 = 0
   ·rw [if_pos h3];omega
   ·rw [if_neg h3] at h1 ⊢;omega
  ·rw [pushP_other hm'];exact hF.lo k hk
 ·by_cases hm':k ∈ halves P
  ·obtain ⟨j,hj,rfl⟩:=mem_halves hm'
   rw [pushP_at hn hj]
   have h1:=hr j hj
   have h2:=hF.hi _ hk
   unfold rm at h1
   by_cases h3:j % 2 = 0
   ·rw [if_pos h3] at h1 ⊢;omega
   ·rw [if_neg h3];omega
  ·rw [pushP_other hm'];exact hF.hi k hk
 ·rw [net_pushP hc hm v,hF.bal v hv hvs hvt,if_neg (Ne.symm hvs),if_neg (Ne.symm hvt)]
  rfl
 ·rw [net_pushP hc hm s,if_pos rfl,if_neg (Ne.symm hG.st)]
  omega
theorem flow_max {G:Net} {n s t:Nat} {F:Nat -> Int} {S:Nat -> Bool} (hG:NetOK G n s t) (hF:IsFlow G n s t F) (hs:S s = true) (ht:S t = false)
  (hno:∀ j,j / 2 < G.m -> S (lf G j) = true -> S (lt G j) = false -> rm G F j <= 0):net G F s = across G S:=by
 refine flow_eq hG hF.bal hs ht (fun k hk h1 h2=>?_) (fun k hk h1 h2=>?_)
 ·have:=hno (2 * k) (by omega) (by unfold lf;rw [if_pos (by omega),show 2 * k / 2 = k by omega];exact h1) (by unfold lt;rw [if_pos (by omega),show 2 * k / 2 = k by omega];exact h2)
  unfold rm at this
  rw [if_pos (by omega),show 2 * k / 2 = k by omega] at this
  have:=hF.hi k hk
  omega
 ·have:=hno (2 * k + 1) (by omega) (by unfold lf;rw [if_neg (by omega),show (2 * k + 1) / 2 = k by omega];exact h2) (by unfold lt;rw [if_neg (by omega),show (2 * k + 1) / 2 = k by omega];exact h1)
  unfold rm at this
  rw [if_neg (by omega),show (2 * k + 1) / 2 = k by omega] at this
  have:=hF.lo k hk
  omega
end Go.Proofs.YtjhmdfofhnijeaaGreatDoor
namespace Go.Proofs.YtjhmdfofhnijeaaGreatDoor
def outJ (G:Net) (v:Nat):List Nat:=(List.range (2 * G.m)).filter fun j=>lf G j == v
def inJ (G:Net) (v:Nat):List Nat:=(List.range (2 * G.m)).filter fun j=>lt G j == v
theorem mem_outJ {G:Net} {v j:Nat}:j ∈ outJ G v ↔ j / 2 < G.m /\ lf G j = v:=by
 unfold outJ
 rw [List.mem_filter,List.mem_range,beq_iff_eq]
 constructor
 ·rintro ⟨h1,h2⟩;exact ⟨by omega,h2⟩
 ·rintro ⟨h1,h2⟩;exact ⟨by omega,h2⟩
theorem mem_inJ {G:Net} {v j:Nat}:j ∈ inJ G v ↔ j / 2 < G.m /\ lt G j = v:=by
 unfold inJ
 rw [List.mem_filter,List.mem_range,beq_iff_eq]
 constructor
 ·rintro ⟨h1,h2⟩;exact ⟨by omega,h2⟩
 ·rintro ⟨h1,h2⟩;exact ⟨by omega,h2⟩
def setI (D:Nat -> Int) (u:Nat) (x:Int):Nat -> Int:=fun k=>if k = u then x else D k
def relax (G:Net) (R:Nat -> Int) (v:Nat) (st:(Nat -> Int) × List Nat) (j:Nat):(Nat -> Int) × List Nat:=
 if 0 < R j /\ st.1 (lf G j) < 0 then (setI st.1 (lf G j) (st.1 v + 1),st.2 ++ [lf G j]) else st
def relaxL (G:Net) (R:Nat -> Int) (v:Nat):(Nat -> Int) × List Nat -> List Nat -> (Nat -> Int) × List Nat
 | st,[]=>st
 | st,j :: l=>relaxL G R v (relax G R v st j) l
def bfs (G:Net) (R:Nat -> Int):Nat -> (Nat -> Int) × List Nat -> Nat -> Int
 | 0,st=>st.1
 | f + 1,(D,[])=>D
 | f + 1,(D,v :: Q)=>bfs G R f (relaxL G R v (D,Q) (inJ G v))
def dist0 (t:Nat):Nat -> Int:=fun k=>if k = t then 0 else -1
def dist (G:Net) (R:Nat -> Int) (n t:Nat):Nat -> Int:=bfs G R n (dist0 t,[t])
def cntN (D:Nat -> Int):Nat -> Nat
 | 0=>0
 | n + 1=>cntN D n + (if D n < 0 then 1 else 0)
theorem cntN_congr {D D':Nat -> Int}:∀ {n:Nat},(∀ k,k < n -> (D k < 0 ↔ D' k < 0)) -> cntN D n = cntN D' n
 | 0,_=>rfl
 | n + 1,h=>by
  simp only [cntN]
  rw [cntN_congr fun k hk=>h k (by omega)]
  by_cases hd:D n < 0
  ·rw [if_pos hd,if_pos ((h n (by omega)).1 hd)]
  ·rw [if_neg hd,if_neg fun h'=>hd ((h n (by omega)).2 h')]
theorem cntN_set {D:Nat -> Int} {u:Nat} {x:Int} (hu:D u < 0) (hx:0 <= x):∀ {n:Nat},u < n -> cntN (setI D u x) n + 1 = cntN D n
 | 0,h=>by omega
 | n + 1,h=>by
  simp only [cntN]
  by_cases hn:n = u
  ·subst hn
   rw [cntN_congr (D:=setI D n x) (D':=D) fun k hk=>by simp only [setI];rw [if_neg (by omega)],if_pos hu,if_neg (by simp only [setI,if_true];omega)]
  ·have:=cntN_set (n:=n) hu hx (by omega)
   simp only [setI,if_neg hn] at this ⊢
   omega
theorem cntN_neg:∀ n:Nat,cntN (fun _=>-1) n = n
 | 0=>rfl
 | n + 1=>by
  simp only [cntN]
  rw [cntN_neg n,if_pos (by omega)]
theorem cntN_dist0 {t n:Nat} (h:t < n):cntN (dist0 t) n + 1 = n:=by
 have:=cntN_set (D:=fun _=>-1) (u:=t) (x:=0) (by omega) (by omega) h
 rw [cntN_neg] at this
 exact this
structure Bfs (G:Net) (R:Nat -> Int) (n t:Nat) (D:Nat -> Int) (Q:List Nat):Prop where
 d0:D t = 0
 ge:∀ v,-1 <= D v
 zero:∀ v,D v = 0 -> v = t
 dn:∀ v,0 <= D v -> v < n
 q:∀ v ∈ Q,0 <= D v
 next:∀ v,0 <= D v -> v ≠ t -> ∃ j,j / 2 < G.m /\ lf G j = v /\ 0 < R j /\ D (lt G j) = D v - 1
theorem relax_bfs {G:Net} {R:Nat -> Int} {n t v j:Nat} {D:Nat -> Int} {Q:List Nat} (hlf:∀ j,j / 2 < G.m -> lf G j < n) (h:Bfs G R n t D Q) (hv:0 <= D v) (hj:j / 2 < G.m) (hjv:lt G j = v):
  Bfs G R n t (relax G R v (D,Q) j).1 (relax G R v (D,Q) j).2 /\ cntN (relax G R v (D,Q) j).1 n + (relax G R v (D,Q) j).2.length = cntN D n + Q.length /\
   (∀ u,0 <= D u -> (relax G R v (D,Q) j).1 u = D u) /\ (0 < R j -> 0 <= (relax G R v (D,Q) j).1 (lf G j)) /\ (∀ u,0 <= (relax G R v (D,Q) j).1 u -> 0 <= D u \/ u ∈ (relax G R v (D,Q) j).2) /\ (∀ u ∈ Q,u ∈ (relax G R v (D,Q) j).2):=by
 unfold relax
 by_cases hc:0 < R j /\ D (lf G j) < 0
 ·rw [if_pos hc]
  have hu:=hlf j hj
  have hne:∀ w,0 <= D w -> w ≠ lf G j:=fun w hw e=>by rw [e] at hw;omega
  refine ⟨⟨?_,fun w=>?_,fun w hw=>?_,fun w hw=>?_,fun w hw=>?_,fun w hw hwt=>?_⟩,?_,fun w hw=>?_,fun _=>?_,fun w hw=>?_,fun w hw=>?_⟩
  ·simp only [setI];rw [if_neg (hne t (by rw [h.d0];exact Int.le_refl _))];exact h.d0
  ·simp only [setI]
   split
   ·omega
   ·exact h.ge w
  ·simp only [setI] at hw
   split at hw
   ·omega
   ·exact h.zero w hw
  ·simp only [setI] at hw
   split at hw
   ·rename_i e;rw [e];exact hu
   ·exact h.dn w hw
  ·simp only [setI]
   rcases List.mem_append.1 hw with hw | hw
   ·rw [if_neg (hne w (h.q w hw))];exact h.q w hw
   ·simp only [List.mem_singleton] at hw
    rw [if_pos hw];omega
  ·simp only [setI] at hw ⊢
   by_cases e:w = lf G j
   ·refine ⟨j,hj,e.symm,hc.1,?_⟩
    rw [hjv,if_neg (hne v hv),if_pos e]
    omega
   ·rw [if_neg e] at hw ⊢
    obtain ⟨i,h1,h2,h3,h4⟩:=h.next w hw hwt
    have h0:0 < D w:=by
     rcases Int.lt_or_eq_of_le hw with h5 | h5
     ·exact h5
     ·exact (hwt (h.zero w h5.symm)).elim
    refine ⟨i,h1,h2,h3,?_⟩
    rw [if_neg (hne _ (by omega))]
    exact h4
  ·have:=cntN_set (n:=n) (x:=D v + 1) hc.2 (by omega) hu
   simp only [List.length_append,List.length_cons,List.length_nil]
   omega
  ·simp only [setI];rw [if_neg (hne w hw)]
  ·simp only [setI,if_true];omega
  ·simp only [setI] at hw
   by_cases e:w = lf G j
   ·exact .inr (by simp [e])
   ·rw [if_neg e] at hw;exact .inl hw
  ·exact List.mem_append_left _ hw
 ·rw [if_neg hc]
  refine ⟨h,rfl,fun _ _=>rfl,fun h1=>?_,fun u hu=>.inl hu,fun u hu=>hu⟩
  have:¬ D (lf G j) < 0:=fun h2=>hc ⟨h1,h2⟩
  show 0 <= D (lf G j)
  omega
theorem relaxL_bfs {G:Net} {R:Nat -> Int} {n t v:Nat} (hlf:∀ j,j / 2 < G.m -> lf G j < n):∀ (l:List Nat) {D:Nat -> Int} {Q:List Nat},Bfs G R n t D Q -> 0 <= D v -> (∀ j ∈ l,j / 2 < G.m /\ lt G j = v) ->
  Bfs G R n t (relaxL G R v (D,Q) l).1 (relaxL G R v (D,Q) l).2 /\ cntN (relaxL G R v (D,Q) l).1 n + (relaxL G R v (D,Q) l).2.length = cntN D n + Q.length /\
   (∀ u,0 <= D u -> (relaxL G R v (D,Q) l).1 u = D u) /\ (∀ j ∈ l,0 < R j -> 0 <= (relaxL G R v (D,Q) l).1 (lf G j)) /\ (∀ u,0 <= (relaxL G R v (D,Q) l).1 u -> 0 <= D u \/ u ∈ (relaxL G R v (D,Q) l).2) /\ (∀ u ∈ Q,u ∈ (relaxL G R v (D,Q) l).2)
 | [],D,Q,h,hv,_=>⟨h,rfl,fun _ _=>rfl,(fun j hj=>by cases hj),fun u hu=>.inl hu,fun u hu=>hu⟩
 | j :: l,D,Q,h,hv,hl=>by
  obtain ⟨hj,hjv⟩:=hl j List.mem_cons_self
  obtain ⟨h1,h2,h3,h4,h5,h6⟩:=relax_bfs hlf h hv hj hjv
  simp only [relaxL]
  obtain ⟨g1,g2,g3,g4,g5,g6⟩:=relaxL_bfs hlf l (D:=(relax G R v (D,Q) j).1) (Q:=(relax G R v (D,Q) j).2) h1 (by rw [h3 v hv];exact hv) (fun i hi=>hl i (List.mem_cons_of_mem _ hi))
  refine ⟨g1,g2.trans h2,fun u hu=>?_,fun i hi hR=>?_,fun u hu=>?_,fun u hu=>g6 u (h6 u hu)⟩
  ·rw [g3 u (by rw [h3 u hu];exact hu),h3 u hu]
  ·rcases List.mem_cons.1 hi with rfl | hi
   ·have:=h4 hR
    rw [g3 _ this];exact this
   ·exact g4 i hi hR
  ·rcases g5 u hu with h7 | h7
   ·rcases h5 u h7 with h8 | h8
    ·exact .inl h8
    ·exact .inr (g6 u h8)
   ·exact .inr h7
theorem bfs_spec {G:Net} {R:Nat -> Int} {n t:Nat} (hlf:∀ j,j / 2 < G.m -> lf G j < n):∀ (f:Nat) {D:Nat -> Int} {Q:List Nat},Bfs G R n t D Q -> cntN D n + Q.length <= f ->
  (∀ v,0 <= D v -> v ∉ Q -> ∀ j,j / 2 < G.m -> lt G j = v -> 0 < R j -> 0 <= D (lf G j)) ->
  Bfs G R n t (bfs G R f (D,Q)) [] /\ ∀ j,j / 2 < G.m -> 0 <= bfs G R f (D,Q) (lt G j) -> 0 < R j -> 0 <= bfs G R f (D,Q) (lf G j)
 | 0,D,Q,h,hf,hp=>by
  have:Q = []:=List.eq_nil_of_length_eq_zero (by omega)
  subst this
  simp only [bfs]
  exact ⟨h,fun j hj h1 h2=>hp _ h1 (by simp) j hj rfl h2⟩
 | f + 1,D,[],h,hf,hp=>by
  simp only [bfs]
  exact ⟨h,fun j hj h1 h2=>hp _ h1 (by simp) j hj rfl h2⟩
 | f + 1,D,v :: Q,h,hf,hp=>by
  have hv:=h.q v List.mem_cons_self
  obtain ⟨g1,g2,g3,g4,g5,g6⟩:=relaxL_bfs (v:=v) hlf (inJ G v) (D:=D) (Q:=Q) ⟨h.d0,h.ge,h.zero,h.dn,fun u hu=>h.q u (List.mem_cons_of_mem _ hu),h.next⟩ hv (fun j hj=>mem_inJ.1 hj)
  simp only [bfs]
  simp only [List.length_cons] at hf
  refine bfs_spec hlf f g1 (by omega) fun u hu hq j hj hjt hR=>?_
  rcases g5 u hu with h7 | h7
  ·by_cases huv:u = v
   ·subst huv
    exact g4 j (mem_inJ.2 ⟨hj,hjt⟩) hR
   ·have:u ∉ v :: Q:=by
     rintro hm
     rcases List.mem_cons.1 hm with rfl | hm
     ·exact huv rfl
     ·exact hq (g6 u hm)
    have h8:=hp u h7 this j hj hjt hR
    rw [g3 _ h8];exact h8
  ·exact (hq h7).elim
theorem dist_spec {G:Net} {R:Nat -> Int} {n t:Nat} (hlf:∀ j,j / 2 < G.m -> lf G j < n) (ht:t < n):Bfs G R n t (dist G R n t) [] /\ ∀ j,j / 2 < G.m -> 0 <= dist G R n t (lt G j) -> 0 < R j -> 0 <= dist G R n t (lf G j):=by
 refine bfs_spec hlf n ⟨by simp [dist0],fun v=>?_,fun v hv=>?_,fun v hv=>?_,fun v hv=>?_,fun v hv hne=>?_⟩ ?_ fun v hv hq=>?_
 ·unfold dist0;split <;> omega
 ·unfold dist0 at hv;split at hv
  ·assumption
  ·omega
 ·unfold dist0 at hv;split at hv
  ·rename_i e;rw [e];exact ht
  ·omega
 ·simp only [List.mem_singleton] at hv;subst hv;simp [dist0]
 ·unfold dist0 at hv;rw [if_neg hne] at hv;omega
 ·have:=cntN_dist0 ht
  simp only [List.length_cons,List.length_nil]
  omega
 ·refine (hq ?_).elim
  unfold dist0 at hv
  split at hv
  ·rename_i e;simp [e]
  ·omega
end Go.Proofs.YtjhmdfofhnijeaaGreatDoor
namespace Go.Proofs.YtjhmdfofhnijeaaGreatDoor
def nextJ (G:Net) (R:Nat -> Int) (D:Nat -> Int) (v:Nat):Option Nat:=(outJ G v).find? fun j=>decide (0 < R j /\ D (lt G j) = D v - 1)
def pathM (G:Net) (R:Nat -> Int) (D:Nat -> Int) (t:Nat):Nat -> Nat -> List Nat
 | 0,_=>[]
 | f + 1,v=>if v = t then [] else match nextJ G R D v with
  | some j=>j :: pathM G R D t f (lt G j)
  | none=>[]
theorem nextJ_some {G:Net} {R D:Nat -> Int} {v j:Nat} (h:nextJ G R D v = some j):j / 2 < G.m /\ lf G j = v /\ 0 < R j /\ D (lt G j) = D v - 1:=by
 unfold nextJ at h
 have h1:=List.mem_of_find?_eq_some h
 have h2:=List.find?_some h
 simp only [decide_eq_true_eq] at h2
 obtain ⟨h3,h4⟩:=mem_outJ.1 h1
 exact ⟨h3,h4,h2.1,h2.2⟩
theorem nextJ_none {G:Net} {R D:Nat -> Int} {v:Nat} (h:nextJ G R D v = none):∀ j,j / 2 < G.m -> lf G j = v -> 0 < R j -> D (lt G j) ≠ D v - 1:=by
 intro j h1 h2 h3 h4
 unfold nextJ at h
 have:=List.find?_eq_none.1 h j (mem_outJ.2 ⟨h1,h2⟩)
 simp only [decide_eq_true_eq,not_and] at this
 exact this h3 h4
theorem Bfs.nextJ {G:Net} {R D:Nat -> Int} {n t v:Nat} {Q:List Nat} (h:Bfs G R n t D Q) (hv:0 <= D v) (hvt:v ≠ t):∃ j,Go.Proofs.YtjhmdfofhnijeaaGreatDoor.nextJ G R D v = some j:=by
 obtain ⟨j,h1,h2,h3,h4⟩:=h.next v hv hvt
 cases hn:Go.Proofs.YtjhmdfofhnijeaaGreatDoor.nextJ G R D v with
 | some i=>exact ⟨i,rfl⟩
 | none=>exact (nextJ_none hn j h1 h2 h3 h4).elim
theorem Bfs.pos {G:Net} {R D:Nat -> Int} {n t v:Nat} {Q:List Nat} (h:Bfs G R n t D Q) (hv:0 <= D v) (hvt:v ≠ t):0 < D v:=by
 rcases Int.lt_or_eq_of_le hv with h1 | h1
 ·exact h1
 ·exact (hvt (h.zero v h1.symm)).elim
theorem pathM_spec {G:Net} {R D:Nat -> Int} {n t:Nat} (h:Bfs G R n t D []):∀ (f v:Nat),0 <= D v -> D v = (f:Int) -> Chain G v (pathM G R D t f v) t /\ (halves (pathM G R D t f v)).Nodup /\
  ∀ j ∈ pathM G R D t f v,j / 2 < G.m /\ 0 < R j /\ D (lt G j) = D (lf G j) - 1 /\ D (lf G j) <= D v
 | 0,v,hv,hf=>by
  have:v = t:=h.zero v (by simpa using hf)
  simp only [pathM,Chain]
  exact ⟨this,List.nodup_nil,fun j hj=>by cases hj⟩
 | f + 1,v,hv,hf=>by
  simp only [pathM]
  by_cases hvt:v = t
  ·rw [if_pos hvt]
   exact ⟨hvt,List.nodup_nil,fun j hj=>by cases hj⟩
  ·rw [if_neg hvt]
   obtain ⟨j,hj⟩:=h.nextJ hv hvt
   obtain ⟨h1,h2,h3,h4⟩:=nextJ_some hj
   rw [hj]
   simp only
   have h5:D (lt G j) = (f:Int):=by rw [h4,hf];omega
   obtain ⟨g1,g2,g3⟩:=pathM_spec h f (lt G j) (by omega) h5
   refine ⟨⟨h2,g1⟩,?_,fun i hi=>?_⟩
   ·simp only [halves,List.nodup_cons]
    refine ⟨fun hm=>?_,g2⟩
    obtain ⟨i,hi,e⟩:=mem_halves hm
    obtain ⟨k1,k2,k3,k4⟩:=g3 i hi
    by_cases hp:i % 2 = j % 2
    ·have:i = j:=by omega
     rw [this,h2] at k4
     omega
    ·have e1:lf G i = lt G j:=by
      unfold lf lt
      rw [e]
      by_cases h6:j % 2 = 0
      ·rw [if_pos h6,if_neg (by omega)]
      ·rw [if_neg h6,if_pos (by omega)]
     have e2:lt G i = lf G j:=by
      unfold lf lt
      rw [e]
      by_cases h6:j % 2 = 0
      ·rw [if_pos h6,if_neg (by omega)]
      ·rw [if_neg h6,if_pos (by omega)]
     rw [e1,e2,h2] at k3
     omega
   ·rcases List.mem_cons.1 hi with rfl | hi
    ·exact ⟨h1,h3,by rw [h2,h4],by rw [h2];exact Int.le_refl _⟩
    ·obtain ⟨k1,k2,k3,k4⟩:=g3 i hi
     exact ⟨k1,k2,k3,by omega⟩
def leastM (R:Nat -> Int):List Nat -> Int -> Int
 | [],a=>a
 | j :: P,a=>leastM R P (if R j < a then R j else a)
theorem leastM_le (R:Nat -> Int):∀ (P:List Nat) (a:Int),leastM R P a <= a /\ ∀ j ∈ P,leastM R P a <= R j
 | [],a=>⟨Int.le_refl _,fun j hj=>by cases hj⟩
 | i :: P,a=>by
  obtain ⟨h1,h2⟩:=leastM_le R P (if R i < a then R i else a)
  have h3:(if R i < a then R i else a) <= a /\ (if R i < a then R i else a) <= R i:=by split <;> omega
  simp only [leastM]
  refine ⟨Int.le_trans h1 h3.1,fun j hj=>?_⟩
  rcases List.mem_cons.1 hj with rfl | hj
  ·exact Int.le_trans h1 h3.2
  ·exact h2 j hj
theorem leastM_pos {R:Nat -> Int}:∀ {P:List Nat} {a:Int},0 < a -> (∀ j ∈ P,0 < R j) -> 0 < leastM R P a
 | [],a,h,_=>h
 | i :: P,a,h,hp=>by
  simp only [leastM]
  refine leastM_pos ?_ fun j hj=>hp j (List.mem_cons_of_mem _ hj)
  have:=hp i List.mem_cons_self
  split <;> omega
def onceP (G:Net) (n s t:Nat) (F:Nat -> Int):List Nat:=pathM G (rm G F) (dist G (rm G F) n t) t (dist G (rm G F) n t s).toNat s
def once (G:Net) (n s t:Nat) (F:Nat -> Int):Nat -> Int:=pushP (leastM (rm G F) (onceP G n s t F) 1099511627776) F (onceP G n s t F)
def maxM (G:Net) (n s t:Nat):Nat -> (Nat -> Int) -> Nat -> Int
 | 0,F=>F
 | f + 1,F=>if dist G (rm G F) n t s < 0 then F else maxM G n s t f (once G n s t F)
theorem once_flow {G:Net} {n s t:Nat} {F:Nat -> Int} (hG:NetOK G n s t) (hF:IsFlow G n s t F) (hs:0 <= dist G (rm G F) n t s):IsFlow G n s t (once G n s t F) /\ net G F s < net G (once G n s t F) s:=by
 have hlf:∀ j,j / 2 < G.m -> lf G j < n:=fun j hj=>by
  unfold lf
  split
  ·exact hG.fr _ hj
  ·exact hG.to _ hj
 obtain ⟨hb,_⟩:=dist_spec (R:=rm G F) hlf hG.lt
 obtain ⟨h1,h2,h3⟩:=pathM_spec hb (dist G (rm G F) n t s).toNat s hs (by omega)
 have hl:=leastM_le (rm G F) (onceP G n s t F) 1099511627776
 have hpos:0 < leastM (rm G F) (onceP G n s t F) 1099511627776:=leastM_pos (by omega) fun j hj=>(h3 j hj).2.1
 obtain ⟨g1,g2⟩:=push_flow (r:=leastM (rm G F) (onceP G n s t F) 1099511627776) hG hF h1 (fun j hj=>(h3 j hj).1) h2 (by omega) (fun j hj=>hl.2 j hj)
 refine ⟨g1,?_⟩
 have:net G (once G n s t F) s = net G F s + leastM (rm G F) (onceP G n s t F) 1099511627776:=g2
 omega
def topV (G:Net) (s:Nat):Int:=across G fun v=>v == s
theorem flow_top {G:Net} {n s t:Nat} {F:Nat -> Int} (hG:NetOK G n s t) (hF:IsFlow G n s t F):net G F s <= topV G s:=
 flow_le hG hF (by simp) (by simpa using Ne.symm hG.st)
theorem maxM_flow {G:Net} {n s t:Nat} (hG:NetOK G n s t):∀ (f:Nat) {F:Nat -> Int},IsFlow G n s t F -> topV G s - net G F s < (f:Int) -> IsFlow G n s t (maxM G n s t f F) /\ dist G (rm G (maxM G n s t f F)) n t s < 0
 | 0,F,hF,h=>by
  have:=flow_top hG hF
  simp at h
  omega
 | f + 1,F,hF,h=>by
  simp only [maxM]
  by_cases hd:dist G (rm G F) n t s < 0
  ·rw [if_pos hd];exact ⟨hF,hd⟩
  ·rw [if_neg hd]
   obtain ⟨h1,h2⟩:=once_flow hG hF (by omega)
   exact maxM_flow hG f h1 (by push_cast at h;omega)
def zeroF:Nat -> Int:=fun _=>0
theorem net_zero (G:Net) (v:Nat):net G zeroF v = 0:=by
 unfold net
 rw [sumN_congr (h:=fun _=>0) fun k hk=>by unfold gk zeroF;split <;> split <;> rfl,sumN_zero]
def maxFl (G:Net) (n s t:Nat):Nat -> Int:=maxM G n s t ((topV G s).toNat + 1) zeroF
def maxVal (G:Net) (n s t:Nat):Int:=net G (maxFl G n s t) s
theorem zero_flow {G:Net} {n s t:Nat} (hc:∀ k,k < G.m -> 0 <= G.cap k):IsFlow G n s t zeroF:=⟨fun k hk=>Int.le_refl _,fun k hk=>hc k hk,fun v _ _ _=>net_zero G v⟩
theorem maxFl_spec {G:Net} {n s t:Nat} (hG:NetOK G n s t) (hc:∀ k,k < G.m -> 0 <= G.cap k):IsFlow G n s t (maxFl G n s t) /\ dist G (rm G (maxFl G n s t)) n t s < 0:=by
 refine maxM_flow hG _ (zero_flow hc) ?_
 rw [net_zero]
 omega
theorem maxVal_cut {G:Net} {n s t:Nat} (hG:NetOK G n s t) (hc:∀ k,k < G.m -> 0 <= G.cap k):∃ S:Nat -> Bool,S s = true /\ S t = false /\ maxVal G n s t = across G S:=by
 obtain ⟨h1,h2⟩:=maxFl_spec hG hc
 have hlf:∀ j,j / 2 < G.m -> lf G j < n:=fun j hj=>by
  unfold lf
  split
  ·exact hG.fr _ hj
  ·exact hG.to _ hj
 obtain ⟨hb,hcl⟩:=dist_spec (R:=rm G (maxFl G n s t)) hlf hG.lt
 refine ⟨fun v=>decide (dist G (rm G (maxFl G n s t)) n t v < 0),by simpa using h2,by simp [hb.d0],?_⟩
 refine flow_max hG h1 (by simpa using h2) (by simp [hb.d0]) fun j hj ha hb'=>?_
 simp only [decide_eq_true_eq,decide_eq_false_iff_not] at ha hb'
 rcases Int.lt_or_le 0 (rm G (maxFl G n s t) j) with h3 | h3
 ·have:=hcl j hj (by omega) h3
  omega
 ·exact h3
theorem maxVal_ge {G:Net} {n s t:Nat} (hG:NetOK G n s t) (hc:∀ k,k < G.m -> 0 <= G.cap k) {F:Nat -> Int} (hF:IsFlow G n s t F):net G F s <= maxVal G n s t:=by
 obtain ⟨S,h1,h2,h3⟩:=maxVal_cut hG hc
 rw [h3]
 exact flow_le hG hF h1 h2
theorem maxVal_le {G:Net} {n s t:Nat} (hG:NetOK G n s t) (hc:∀ k,k < G.m -> 0 <= G.cap k) {S:Nat -> Bool} (hs:S s = true) (ht:S t = false):maxVal G n s t <= across G S:=
 flow_le hG (maxFl_spec hG hc).1 hs ht
end Go.Proofs.YtjhmdfofhnijeaaGreatDoor
namespace Go.Proofs.YtjhmdfofhnijeaaGreatDoor
open Go.Sy Go.Mb
def sumL {α:Type} (f:α -> Int):List α -> Int
 | []=>0
 | a :: l=>f a + sumL f l
theorem sumL_append {α:Type} (f:α -> Int):∀ l m:List α,sumL f (l ++ m) = sumL f l + sumL f m
 | [],m=>by simp [sumL]
 | a :: l,m=>by simp only [List.cons_append,sumL,sumL_append f l m];omega
theorem sumL_congr {α:Type} {f g:α -> Int}:∀ {l:List α},(∀ a ∈ l,f a = g a) -> sumL f l = sumL g l
 | [],_=>rfl
 | a :: l,h=>by simp only [sumL];rw [h a List.mem_cons_self,sumL_congr fun x hx=>h x (List.mem_cons_of_mem _ hx)]
theorem sumL_le {α:Type} {f g:α -> Int}:∀ {l:List α},(∀ a ∈ l,f a <= g a) -> sumL f l <= sumL g l
 | [],_=>Int.le_refl _
 | a :: l,h=>by
  have h1:=h a List.mem_cons_self
  have h2:=sumL_le fun x hx=>h x (List.mem_cons_of_mem a hx)
  simp only [sumL];omega
theorem sumL_zero {α:Type}:∀ l:List α,sumL (fun _=>0) l = 0
 | []=>rfl
 | a :: l=>by simp only [sumL,sumL_zero l];rfl
theorem sumL_none {α:Type} {f:α -> Int} {l:List α} (h:∀ a ∈ l,f a = 0):sumL f l = 0:=by rw [sumL_congr h,sumL_zero]
theorem sumL_add {α:Type} (f g:α -> Int):∀ l:List α,sumL (fun a=>f a + g a) l = sumL f l + sumL g l
 | []=>rfl
 | a :: l=>by simp only [sumL,sumL_add f g l];omega
theorem sumL_sub {α:Type} (f g:α -> Int):∀ l:List α,sumL (fun a=>f a - g a) l = sumL f l - sumL g l
 | []=>rfl
 | a :: l=>by simp only [sumL,sumL_sub f g l];omega
theorem sumL_map {α β:Type} (f:β -> Int) (g:α -> β):∀ l:List α,sumL f (l.map g) = sumL (fun a=>f (g a)) l
 | []=>rfl
 | a :: l=>by simp only [List.map_cons,sumL,sumL_map f g l]
theorem sumL_filter {α:Type} (f:α -> Int) (p:α -> Bool):∀ l:List α,sumL f (l.filter p) = sumL (fun a=>if p a = true then f a else 0) l
 | []=>rfl
 | a :: l=>by
  by_cases h:p a = true
  ·rw [List.filter_cons_of_pos h];simp only [sumL,if_pos h,sumL_filter f p l]
  ·rw [List.filter_cons_of_neg h];simp only [sumL,if_neg h,sumL_filter f p l];omega
theorem sumL_flatMap {α β:Type} (f:β -> Int) (g:α -> List β):∀ l:List α,sumL f (l.flatMap g) = sumL (fun a=>sumL f (g a)) l
 | []=>rfl
 | a :: l=>by rw [List.flatMap_cons,sumL_append,sumL,sumL_flatMap f g l]
theorem sumL_swap {α β:Type} (g:α -> β -> Int) (m:List β):∀ l:List α,sumL (fun a=>sumL (fun b=>g a b) m) l = sumL (fun b=>sumL (fun a=>g a b) l) m
 | []=>by simp only [sumL];rw [sumL_zero]
 | a :: l=>by simp only [sumL];rw [sumL_swap g m l,<- sumL_add]
theorem sumL_range (f:Nat -> Int):∀ n:Nat,sumL f (List.range n) = sumN f n
 | 0=>rfl
 | n + 1=>by rw [List.range_succ,sumL_append,sumL_range f n];simp only [sumL,sumN];omega
theorem sumL_pick {α:Type} [DecidableEq α] (c:α -> Int) (u:α):∀ {l:List α},l.Nodup -> sumL (fun v=>if v = u then c v else 0) l = if u ∈ l then c u else 0
 | [],_=>by simp [sumL]
 | a :: l,h=>by
  obtain ⟨h1,h2⟩:=List.nodup_cons.1 h
  simp only [sumL]
  rw [sumL_pick c u h2]
  by_cases e:a = u
  ·subst e
   rw [if_pos rfl,if_neg h1,if_pos List.mem_cons_self];omega
  ·rw [if_neg e]
   by_cases hm:u ∈ l
   ·rw [if_pos hm,if_pos (List.mem_cons_of_mem _ hm)];omega
   ·rw [if_neg hm,if_neg (by simp only [List.mem_cons,not_or];exact ⟨fun q=>e q.symm,hm⟩)];omega
theorem sumL_take {α:Type} [Inhabited α] (g:α -> Int) {l:List α}:∀ {n:Nat},n <= l.length -> sumN (fun k=>g (l.getD k default)) n = sumL g (l.take n)
 | 0,_=>by simp [sumN,sumL]
 | n + 1,h=>by
  rw [take_snoc (by omega),sumL_append]
  simp only [sumN,sumL]
  rw [sumL_take g (by omega)];omega
theorem sumL_len {α:Type} [Inhabited α] (g:α -> Int) (l:List α):sumN (fun k=>g (l.getD k default)) l.length = sumL g l:=by rw [sumL_take g (Nat.le_refl _),List.take_length]
structure OkA (n:Nat) (a:Arc):Prop where
 fr:0 <= a.fr /\ a.fr < (n:Int)
 to:0 <= a.to /\ a.to < (n:Int)
 ne:a.fr ≠ a.to
 cap:0 <= a.cap /\ a.cap <= 1099511627776
def netA (l:List Arc):Net:=⟨l.length,fun k=>(l.getD k default).fr.toNat,fun k=>(l.getD k default).to.toNat,fun k=>(l.getD k default).cap⟩
theorem netA_ok {n s t:Nat} {l:List Arc} (h:∀ a ∈ l,OkA n a) (hs:s < n) (ht:t < n) (hst:s ≠ t):NetOK (netA l) n s t where
 fr k hk:=by have:=(h (l.getD k default) (by rw [getD_lt hk];exact List.getElem_mem _)).fr;show (l.getD k default).fr.toNat < n;omega
 to k hk:=by have:=(h (l.getD k default) (by rw [getD_lt hk];exact List.getElem_mem _)).to;show (l.getD k default).to.toNat < n;omega
 ne k hk:=by have h1:=(h (l.getD k default) (by rw [getD_lt hk];exact List.getElem_mem _));have:=h1.ne;have:=h1.fr;have:=h1.to;show (l.getD k default).fr.toNat ≠ (l.getD k default).to.toNat;omega
 ls:=hs
 lt:=ht
 st:=hst
def holdsM (node time:Int):List Hld -> Int -> Int
 | [],n=>n
 | x :: l,n=>holdsM node time l (if inH node time x then n - x.size else n)
def roomM (t:Tbl) (d:Dem) (node time:Int):Int:=if node = d.src \/ node = d.dst then 1099511627776 else holdsM node time t.hlds (t.plan.qs.getD node.toNat 0)
structure XA where
 arc:Arc
 ct:Int
 tm:Int
instance:Inhabited XA:=⟨⟨default,0,0⟩⟩
def timeN (d:Dem) (h i:Nat):Int:=d.ready + ((i % h:Nat):Int)
def wX (t:Tbl) (d:Dem) (h i:Nat):XA:=⟨⟨(i:Int),(i:Int) + 1,roomM t d ((i / h:Nat):Int) (timeN d h i)⟩,-1,timeN d h i⟩
def waitX (t:Tbl) (d:Dem) (h n:Nat):List XA:=((List.range n).filter fun i=>i % h != h - 1).map (wX t d h)
def numV (d:Dem) (h:Nat) (node time:Int):Int:=node * (h:Int) + (time - d.ready)
def cX (t:Tbl) (d:Dem) (h ct:Nat) (u:Int):XA:=⟨⟨numV d h (t.plan.cts.getD ct default).fr u,numV d h (t.plan.cts.getD ct default).to (u + 1 + (t.plan.cts.getD ct default).rng),(t.plan.cts.getD ct default).rate⟩,(ct:Int),u⟩
def conX (t:Tbl) (d:Dem) (h ct:Nat):List XA:=(tickM t d ct).map (cX t d h ct)
def xarcs (t:Tbl) (d:Dem) (h:Nat):List XA:=waitX t d h (t.plan.qs.length * h) ++ (List.range t.plan.cts.length).flatMap (conX t d h)
def arcsM (t:Tbl) (d:Dem) (h:Nat):List Arc:=(xarcs t d h).map XA.arc
theorem waitX_succ (t:Tbl) (d:Dem) (h n:Nat):waitX t d h (n + 1) = waitX t d h n ++ if n % h = h - 1 then [] else [wX t d h n]:=by
 unfold waitX
 rw [List.range_succ,List.filter_append,List.map_append]
 congr 1
 by_cases e:n % h = h - 1
 ·rw [if_pos e];simp [e]
 ·rw [if_neg e];simp [e]
theorem waitX_len (t:Tbl) (d:Dem) (h n:Nat):(waitX t d h n).length <= n:=by
 unfold waitX
 rw [List.length_map]
 exact Nat.le_trans (List.length_filter_le _ _) (by simp)
theorem arcs_at (t:Tbl) (d:Dem) (h k:Nat) (hk:k < (xarcs t d h).length):(arcsM t d h).getD k default = ((xarcs t d h).getD k default).arc:=by
 have h1:k < (arcsM t d h).length:=by unfold arcsM;rw [List.length_map];exact hk
 unfold arcsM at h1 ⊢
 rw [getD_lt hk,getD_lt h1,List.getElem_map]
theorem arcs_len (t:Tbl) (d:Dem) (h:Nat):(arcsM t d h).length = (xarcs t d h).length:=by unfold arcsM;rw [List.length_map]
theorem num_div {h a b:Nat} (hb:b < h):(a * h + b) / h = a:=by rw [Nat.mul_comm,Nat.mul_add_div (by omega),Nat.div_eq_of_lt hb];rfl
theorem num_mod {h a b:Nat} (hb:b < h):(a * h + b) % h = b:=by rw [Nat.mul_comm,Nat.mul_add_mod,Nat.mod_eq_of_lt hb]
theorem num_lt {h a b N:Nat} (hb:b < h) (ha:a < N):a * h + b < N * h:=by
 have:=Nat.mul_le_mul_right h (show a + 1 <= N from ha)
 rw [Nat.add_mul] at this
 omega
theorem num_eq {h a b a' b':Nat} (hb:b < h) (hb':b' < h):a * h + b = a' * h + b' ↔ a = a' /\ b = b':=by
 constructor
 ·intro e
  have e1:=num_div (a:=a) hb
  have e2:=num_mod (a:=a) hb
  rw [e] at e1 e2
  rw [num_div hb'] at e1
  rw [num_mod hb'] at e2
  exact ⟨e1.symm,e2.symm⟩
 ·rintro ⟨rfl,rfl⟩;rfl
theorem numV_nat {d:Dem} {h:Nat} {x u:Int} (hx:0 <= x) (hu:d.ready <= u):numV d h x u = ((x.toNat * h + (u - d.ready).toNat:Nat):Int):=by
 unfold numV
 rw [Int.natCast_add,Int.natCast_mul,Int.toNat_of_nonneg hx,Int.toNat_of_nonneg (by omega)]
theorem vtx_place {h N v:Nat} (h0:0 < h) (hv:v < N * h):v / h < N /\ v % h < h /\ v = v / h * h + v % h:=by
 refine ⟨Nat.div_lt_of_lt_mul (by rw [Nat.mul_comm];exact hv),Nat.mod_lt _ h0,?_⟩
 rw [Nat.mul_comm]
 exact (Nat.div_add_mod v h).symm
theorem mem_conX {t:Tbl} (ok:OkT t) {d:Dem} {h ct:Nat} {y:XA}:y ∈ conX t d h ct ↔ ∃ u,okT t d ct u = true /\ y = cX t d h ct u:=by
 unfold conX
 simp only [List.mem_map,mem_tickM ok]
 constructor
 ·rintro ⟨u,h1,rfl⟩;exact ⟨u,h1,rfl⟩
 ·rintro ⟨u,h1,rfl⟩;exact ⟨u,h1,rfl⟩
theorem mem_waitX {t:Tbl} {d:Dem} {h n:Nat} {y:XA}:y ∈ waitX t d h n ↔ ∃ i,i < n /\ i % h ≠ h - 1 /\ y = wX t d h i:=by
 unfold waitX
 simp only [List.mem_map,List.mem_filter,List.mem_range,bne_iff_ne]
 constructor
 ·rintro ⟨i,⟨h1,h2⟩,rfl⟩;exact ⟨i,h1,h2,rfl⟩
 ·rintro ⟨i,h1,h2,rfl⟩;exact ⟨i,⟨h1,h2⟩,rfl⟩
theorem mem_xarcs {t:Tbl} (ok:OkT t) {d:Dem} {h:Nat} {y:XA}:y ∈ xarcs t d h ↔ (∃ i,i < t.plan.qs.length * h /\ i % h ≠ h - 1 /\ y = wX t d h i) \/ ∃ ct u,ct < t.plan.cts.length /\ okT t d ct u = true /\ y = cX t d h ct u:=by
 unfold xarcs
 rw [List.mem_append,mem_waitX,List.mem_flatMap]
 simp only [List.mem_range,mem_conX ok]
 constructor
 ·rintro (h1 | ⟨ct,h1,u,h2,h3⟩)
  ·exact .inl h1
  ·exact .inr ⟨ct,u,h1,h2,h3⟩
 ·rintro (h1 | ⟨ct,u,h1,h2,h3⟩)
  ·exact .inl h1
  ·exact .inr ⟨ct,h1,u,h2,h3⟩
theorem cX_place {t:Tbl} (ok:OkT t) {d:Dem} {h ct:Nat} (hv:d.dead = d.ready + (h:Int) - 1) (hc:ct < t.plan.cts.length) {u:Int} (hu:okT t d ct u = true):
  ∃ a b k j:Nat,(t.plan.cts.getD ct default).fr = (a:Int) /\ (t.plan.cts.getD ct default).to = (b:Int) /\ a < t.plan.qs.length /\ b < t.plan.qs.length /\ a ≠ b /\ u = d.ready + (k:Int) /\ u + 1 + (t.plan.cts.getD ct default).rng = d.ready + (j:Int) /\ k < j /\ j < h /\
   (cX t d h ct u).arc.fr = ((a * h + k:Nat):Int) /\ (cX t d h ct u).arc.to = ((b * h + j:Nat):Int):=by
 obtain ⟨h1,h2,h3,h4,h5⟩:=okT_iff.1 hu
 have hok:=ok.p.cts (t.plan.cts.getD ct default) (by rw [getD_lt hc];exact List.getElem_mem _)
 have k1:=hok.fr
 have k2:=hok.to
 have k3:=hok.rng
 have k4:=hok.ne
 refine ⟨(t.plan.cts.getD ct default).fr.toNat,(t.plan.cts.getD ct default).to.toNat,(u - d.ready).toNat,(u + 1 + (t.plan.cts.getD ct default).rng - d.ready).toNat,by omega,by omega,by omega,by omega,by omega,by omega,by omega,by omega,by omega,?_,?_⟩
 ·exact numV_nat k1.1 h3
 ·exact numV_nat k2.1 (by omega)
theorem wX_place {t:Tbl} {h i:Nat} (h0:0 < h) (hi:i < t.plan.qs.length * h) (hm:i % h ≠ h - 1):
  i / h < t.plan.qs.length /\ i % h + 1 < h /\ i = i / h * h + i % h:=by
 obtain ⟨h1,h2,h3⟩:=vtx_place h0 hi
 exact ⟨h1,by omega,h3⟩
theorem arcs_vtx {t:Tbl} (ok:OkT t) {d:Dem} {h:Nat} (h2:2 <= h) (hv:d.dead = d.ready + (h:Int) - 1) {y:XA} (hy:y ∈ xarcs t d h):
  0 <= y.arc.fr /\ y.arc.fr < ((t.plan.qs.length * h:Nat):Int) /\ 0 <= y.arc.to /\ y.arc.to < ((t.plan.qs.length * h:Nat):Int) /\ y.arc.fr ≠ y.arc.to:=by
 rcases (mem_xarcs ok).1 hy with ⟨i,hi,hm,rfl⟩ | ⟨ct,u,hc,hu,rfl⟩
 ·obtain ⟨h3,h4,h5⟩:=wX_place (by omega) hi hm
  have:=num_lt (a:=i / h) (b:=i % h + 1) h4 h3
  simp only [wX]
  omega
 ·obtain ⟨a,b,k,j,_,_,ha,hb,hab,_,_,hkj,hj,e1,e2⟩:=cX_place ok hv hc hu
  rw [e1,e2]
  have h3:=num_lt (a:=a) (b:=k) (show k < h by omega) ha
  have h4:=num_lt (a:=b) (b:=j) hj hb
  have h5:=num_eq (h:=h) (a:=a) (b:=k) (a':=b) (b':=j) (by omega) hj
  have h6:¬ (a * h + k = b * h + j):=fun e=>hab (h5.1 e).1
  omega
theorem holdsM_eq (node time:Int):∀ (l:List Hld) (n:Int),holdsM node time l n = n - sto node time l
 | [],n=>by simp [holdsM,sto]
 | x :: l,n=>by
  simp only [holdsM,sto]
  rw [holdsM_eq node time l]
  by_cases e:inH node time x = true
  ·rw [if_pos e,if_pos e];omega
  ·rw [if_neg e,if_neg e];omega
def dlt (d:Dem) (nd a b node k:Int):Int:=if nd = node then (if node = d.src then (if k < a then -b else 0) else (if a <= k then b else 0)) else 0
def ctS (t:Tbl) (x:Shp):Ctc:=t.plan.cts.getD x.ct.toNat default
def arvS (t:Tbl) (x:Shp):Int:=x.tm + 1 + (ctS t x).rng
def stX (t:Tbl) (d:Dem) (node k:Int) (x:Shp):Int:=dlt d (ctS t x).fr (x.tm - d.ready) (-x.n) node k + dlt d (ctS t x).to (arvS t x - d.ready) x.n node k
def stM (t:Tbl) (d:Dem) (l:List Shp) (node k:Int):Int:=sumL (stX t d node k) l
def shN (l:List Shp) (ct tm:Int):Int:=sumL (fun x=>if x.ct = ct /\ x.tm = tm then x.n else 0) l
def flX (t:Tbl) (d:Dem) (h:Nat) (l:List Shp) (y:XA):Int:=if y.ct < 0 then stM t d l ((y.arc.fr.toNat / h:Nat):Int) ((y.arc.fr.toNat % h:Nat):Int) else shN l y.ct y.tm
def flF (t:Tbl) (d:Dem) (h:Nat) (l:List Shp) (k:Nat):Int:=flX t d h l ((xarcs t d h).getD k default)
structure OkS (t:Tbl) (d:Dem) (x:Shp):Prop where
 ct:0 <= x.ct /\ x.ct < (t.plan.cts.length:Int)
 n:1 <= x.n /\ x.n <= (ctS t x).rate
 tick:okT t d x.ct.toNat x.tm = true
def nxtS (a b:Shp):Prop:=¬ (a.ct = b.ct /\ a.tm = b.tm)
theorem net_list (t:Tbl) (d:Dem) (h:Nat) (f:XA -> Int) (v:Nat):net (netA (arcsM t d h)) (fun k=>f ((xarcs t d h).getD k default)) v = sumL (fun y=>(if y.arc.fr.toNat = v then f y else 0) - (if y.arc.to.toNat = v then f y else 0)) (xarcs t d h):=by
 rw [<- sumL_len]
 have e:(netA (arcsM t d h)).m = (xarcs t d h).length:=arcs_len t d h
 unfold net
 rw [e]
 refine sumN_congr fun k hk=>?_
 unfold gk netA
 simp only
 rw [arcs_at t d h k hk]
theorem across_list (t:Tbl) (d:Dem) (h:Nat) (S:Nat -> Bool):across (netA (arcsM t d h)) S = sumL (fun a:Arc=>if S a.fr.toNat = true /\ S a.to.toNat = false then a.cap else 0) (arcsM t d h):=by
 rw [<- sumL_len]
 rfl
theorem wX_fr (t:Tbl) (d:Dem) (h i:Nat):(wX t d h i).arc.fr.toNat = i:=rfl
theorem wX_to (t:Tbl) (d:Dem) (h i:Nat):(wX t d h i).arc.to.toNat = i + 1:=by show ((i:Int) + 1).toNat = i + 1;omega
theorem wait_fr (t:Tbl) (d:Dem) (h n a b:Nat) (g:Nat -> Nat -> Int) (hb:b < h) (ha:a * h + b < n):
  sumL (fun y=>if y.arc.fr.toNat = a * h + b then g (y.arc.fr.toNat / h) (y.arc.fr.toNat % h) else 0) (waitX t d h n) = if b = h - 1 then 0 else g a b:=by
 unfold waitX
 rw [sumL_map,sumL_filter,sumL_range]
 rw [sumN_congr (h:=fun i=>if i = a * h + b then (if b = h - 1 then 0 else g a b) else 0)]
 ·rw [sumN_one (fun _=>if b = h - 1 then 0 else g a b),if_pos ha]
 ·intro i hi
  rw [wX_fr]
  by_cases e:i = a * h + b
  ·subst e
   rw [if_pos rfl,if_pos rfl,num_div hb,num_mod hb]
   by_cases e:b = h - 1
   ·rw [if_neg (by simp [e]),if_pos e]
   ·rw [if_pos (by simp [e]),if_neg e]
  ·rw [if_neg e,if_neg e];split <;> rfl
theorem wait_to (t:Tbl) (d:Dem) (h n a b:Nat) (g:Nat -> Nat -> Int) (hb:b < h) (ha:a * h + b < n):
  sumL (fun y=>if y.arc.to.toNat = a * h + b then g (y.arc.fr.toNat / h) (y.arc.fr.toNat % h) else 0) (waitX t d h n) = if b = 0 then 0 else g a (b - 1):=by
 unfold waitX
 rw [sumL_map,sumL_filter,sumL_range]
 by_cases e:b = 0
 ·subst e
  rw [if_pos rfl,sumN_congr (h:=fun _=>0),sumN_zero]
  intro i hi
  rw [wX_to]
  by_cases e2:i + 1 = a * h + 0
  ·have:i % h = h - 1:=by
    obtain ⟨a,rfl⟩:∃ a',a = a' + 1:=⟨a - 1,by
     rcases a with _ | a
     ·simp at e2
     ·rfl⟩
    have:i = a * h + (h - 1):=by rw [Nat.add_mul] at e2;omega
    rw [this,num_mod (by omega)]
   rw [if_neg (by simp [this])]
  ·rw [if_neg e2];split <;> rfl
 ·obtain ⟨b,rfl⟩:∃ b',b = b' + 1:=⟨b - 1,by omega⟩
  rw [if_neg e,sumN_congr (h:=fun i=>if i = a * h + b then g a b else 0)]
  ·rw [sumN_one (fun _=>g a b),if_pos (by omega)];rfl
  ·intro i hi
   rw [wX_to,wX_fr]
   by_cases e2:i = a * h + b
   ·subst e2
    rw [if_pos (by omega:a * h + b + 1 = a * h + (b + 1)),if_pos rfl,num_div (by omega),num_mod (by omega),if_pos (by rw [bne_iff_ne];omega)]
   ·have e3:¬ (i + 1 = a * h + (b + 1)):=fun q=>e2 (by omega)
    rw [if_neg e3,if_neg e2];split <;> rfl
theorem con_sum {t:Tbl} (ok:OkT t) {d:Dem} {h:Nat} {l:List Shp} (hl:∀ x ∈ l,OkS t d x) (p:XA -> Prop) [DecidablePred p]:
  sumL (fun y=>if p y then shN l y.ct y.tm else 0) ((List.range t.plan.cts.length).flatMap (conX t d h)) = sumL (fun x=>if p (cX t d h x.ct.toNat x.tm) then x.n else 0) l:=by
 rw [sumL_flatMap,sumL_range]
 have e1:∀ ct,sumL (fun y=>if p y then shN l y.ct y.tm else 0) (conX t d h ct) = sumL (fun x=>if x.ct = (ct:Int) /\ p (cX t d h x.ct.toNat x.tm) then x.n else 0) l:=by
  intro ct
  unfold conX
  rw [sumL_map]
  have e2:∀ u ∈ tickM t d ct,(if p (cX t d h ct u) then shN l (cX t d h ct u).ct (cX t d h ct u).tm else 0) = sumL (fun x=>if u = x.tm then (if x.ct = (ct:Int) /\ p (cX t d h ct x.tm) then x.n else 0) else 0) l:=by
   intro u _
   unfold shN
   by_cases hp:p (cX t d h ct u)
   ·rw [if_pos hp]
    refine sumL_congr fun x _=>?_
    show (if x.ct = (ct:Int) /\ x.tm = u then x.n else 0) = _
    by_cases e:u = x.tm
    ·subst e
     rw [if_pos rfl]
     by_cases e':x.ct = (ct:Int)
     ·rw [if_pos ⟨e',rfl⟩,if_pos ⟨e',hp⟩]
     ·rw [if_neg (fun q=>e' q.1),if_neg (fun q=>e' q.1)]
    ·rw [if_neg e,if_neg (fun q=>e q.2.symm)]
   ·rw [if_neg hp,sumL_none]
    intro x _
    by_cases e:u = x.tm
    ·subst e
     rw [if_pos rfl,if_neg (fun q=>hp q.2)]
    ·rw [if_neg e]
  rw [sumL_congr e2,sumL_swap]
  refine sumL_congr fun x hx=>?_
  have hn:(tickM t d ct).Nodup:=(tickM_ord ok d ct).imp fun {a b} q=>by omega
  rw [sumL_pick (fun _=>if x.ct = (ct:Int) /\ p (cX t d h ct x.tm) then x.n else 0) x.tm hn]
  have hx:=hl x hx
  by_cases e:x.ct = (ct:Int)
  ·have e':x.ct.toNat = ct:=by rw [e];rfl
   rw [if_pos ((mem_tickM ok).2 (by rw [<- e'];exact hx.tick)),e']
  ·have e1:∀ p:Prop,¬ (x.ct = (ct:Int) /\ p):=fun p q=>e q.1
   rw [if_neg (e1 _),if_neg (e1 _)];split <;> rfl
 rw [sumN_congr fun ct _=>e1 ct,<- sumL_range,sumL_swap]
 refine sumL_congr fun x hx=>?_
 have hx:=hl x hx
 rw [sumL_range,sumN_congr (h:=fun ct=>if ct = x.ct.toNat then (if p (cX t d h x.ct.toNat x.tm) then x.n else 0) else 0),sumN_one (fun _=>if p (cX t d h x.ct.toNat x.tm) then x.n else 0),if_pos (by have:=hx.ct;omega)]
 intro ct _
 have:=hx.ct
 by_cases e:ct = x.ct.toNat
 ·rw [if_pos e]
  by_cases hp:p (cX t d h x.ct.toNat x.tm)
  ·rw [if_pos hp,if_pos ⟨by omega,hp⟩]
  ·rw [if_neg hp,if_neg (fun q=>hp q.2)]
 ·rw [if_neg e,if_neg (fun q=>e (by omega))]
theorem flX_wait {t:Tbl} {d:Dem} {h n:Nat} {l:List Shp} {y:XA} (hy:y ∈ waitX t d h n):flX t d h l y = stM t d l ((y.arc.fr.toNat / h:Nat):Int) ((y.arc.fr.toNat % h:Nat):Int):=by
 obtain ⟨i,_,_,rfl⟩:=mem_waitX.1 hy
 unfold flX
 rw [if_pos (show (wX t d h i).ct < 0 from by show (-1:Int) < 0;omega)]
theorem flX_con {t:Tbl} {d:Dem} {h:Nat} {l:List Shp} {y:XA} (hy:y ∈ (List.range t.plan.cts.length).flatMap (conX t d h)):flX t d h l y = shN l y.ct y.tm:=by
 obtain ⟨ct,_,hy⟩:=List.mem_flatMap.1 hy
 unfold conX at hy
 obtain ⟨u,_,rfl⟩:=List.mem_map.1 hy
 unfold flX
 rw [if_neg (show ¬ (cX t d h ct u).ct < 0 from by show ¬ (ct:Int) < 0;omega)]
theorem net_fl {t:Tbl} (ok:OkT t) {d:Dem} {h:Nat} {l:List Shp} (hl:∀ x ∈ l,OkS t d x) (a b:Nat) (ha:a < t.plan.qs.length) (hb:b < h):
  net (netA (arcsM t d h)) (flF t d h l) (a * h + b) = (if b = h - 1 then 0 else stM t d l a b) - (if b = 0 then 0 else stM t d l a ((b - 1:Nat):Int)) + sumL (fun x=>(if (cX t d h x.ct.toNat x.tm).arc.fr.toNat = a * h + b then x.n else 0) - (if (cX t d h x.ct.toNat x.tm).arc.to.toNat = a * h + b then x.n else 0)) l:=by
 have hlt:=num_lt hb ha
 rw [show flF t d h l = fun k=>flX t d h l ((xarcs t d h).getD k default) from rfl,net_list]
 unfold xarcs
 rw [sumL_append]
 congr 1
 ·rw [sumL_sub,sumL_congr (g:=fun y=>if y.arc.fr.toNat = a * h + b then (fun (x y:Nat)=>stM t d l x y) (y.arc.fr.toNat / h) (y.arc.fr.toNat % h) else 0) fun y hy=>by rw [flX_wait hy],wait_fr t d h _ a b (fun x y=>stM t d l x y) hb hlt]
  rw [sumL_congr (g:=fun y=>if y.arc.to.toNat = a * h + b then (fun (x y:Nat)=>stM t d l x y) (y.arc.fr.toNat / h) (y.arc.fr.toNat % h) else 0) fun y hy=>by rw [flX_wait hy],wait_to t d h _ a b (fun x y=>stM t d l x y) hb hlt]
 ·rw [sumL_sub,sumL_sub,sumL_congr (g:=fun y=>if y.arc.fr.toNat = a * h + b then shN l y.ct y.tm else 0) fun y hy=>by rw [flX_con hy],sumL_congr (f:=fun y=>if y.arc.to.toNat = a * h + b then flX t d h l y else 0) (g:=fun y=>if y.arc.to.toNat = a * h + b then shN l y.ct y.tm else 0) fun y hy=>by rw [flX_con hy]]
  rw [con_sum ok hl (fun y=>y.arc.fr.toNat = a * h + b),con_sum ok hl (fun y=>y.arc.to.toNat = a * h + b)]
def balX (d:Dem) (h:Nat) (nd β:Int) (a b:Nat):Int:=if nd = (a:Int) then (if (a:Int) = d.src then (if b = 0 then -β else 0) else (if b = h - 1 then -β else 0)) else 0
theorem chg_bal (d:Dem) {h K:Nat} (hK:K < h) (h2:2 <= h) (nd β:Int) (a b:Nat) (hb:b < h):
  (if b = h - 1 then 0 else dlt d nd (K:Int) β a b) - (if b = 0 then 0 else dlt d nd (K:Int) β a ((b - 1:Nat):Int)) - (if nd = (a:Int) /\ K = b then β else 0) = balX d h nd β a b:=by
 unfold balX dlt
 by_cases e:nd = (a:Int)
 ·simp only [e,true_and,if_true]
  by_cases e1:(a:Int) = d.src
  ·simp only [if_pos e1]
   (repeat' split) <;> omega
  ·simp only [if_neg e1]
   (repeat' split) <;> omega
 ·have e2:¬ (nd = (a:Int) /\ K = b):=fun q=>e q.1
  simp only [if_neg e,if_neg e2]
  (repeat' split) <;> omega
def totX (t:Tbl) (a:Int) (x:Shp):Int:=(if (ctS t x).fr = a then -x.n else 0) + (if (ctS t x).to = a then x.n else 0)
def totM (t:Tbl) (l:List Shp) (a:Int):Int:=sumL (totX t a) l
structure ShF (t:Tbl) (d:Dem) (h:Nat) (x:Shp) (A B K J:Nat):Prop where
 fr:(ctS t x).fr = (A:Int)
 to:(ctS t x).to = (B:Int)
 hA:A < t.plan.qs.length
 hB:B < t.plan.qs.length
 hK:x.tm - d.ready = (K:Int)
 hJ:arvS t x - d.ready = (J:Int)
 KJ:K < J
 Jh:J < h
 vf:(cX t d h x.ct.toNat x.tm).arc.fr.toNat = A * h + K
 vt:(cX t d h x.ct.toNat x.tm).arc.to.toNat = B * h + J
theorem shF {t:Tbl} (ok:OkT t) {d:Dem} {h:Nat} (hv:d.dead = d.ready + (h:Int) - 1) {x:Shp} (hx:OkS t d x):∃ A B K J,ShF t d h x A B K J:=by
 obtain ⟨A,B,K,J,h1,h2,h3,h4,h5,h6,h7,h8,h9,h10,h11⟩:=cX_place ok hv (by have:=hx.ct;omega) hx.tick
 exact ⟨A,B,K,J,h1,h2,h3,h4,by omega,by unfold arvS ctS;omega,h8,h9,by rw [h10];rfl,by rw [h11];rfl⟩
theorem net_bal {t:Tbl} (ok:OkT t) {d:Dem} {h:Nat} (h2:2 <= h) (hv:d.dead = d.ready + (h:Int) - 1) {l:List Shp} (hl:∀ x ∈ l,OkS t d x) (a b:Nat) (ha:a < t.plan.qs.length) (hb:b < h):
  net (netA (arcsM t d h)) (flF t d h l) (a * h + b) = sumL (fun x=>balX d h (ctS t x).fr (-x.n) a b + balX d h (ctS t x).to x.n a b) l:=by
 rw [net_fl ok hl a b ha hb]
 have e1:(if b = h - 1 then 0 else stM t d l a b) = sumL (fun x=>if b = h - 1 then 0 else stX t d a b x) l:=by
  split
  ·exact (sumL_zero l).symm
  ·rfl
 have e2:(if b = 0 then 0 else stM t d l a ((b - 1:Nat):Int)) = sumL (fun x=>if b = 0 then 0 else stX t d a ((b - 1:Nat):Int) x) l:=by
  split
  ·exact (sumL_zero l).symm
  ·rfl
 rw [e1,e2,<- sumL_sub,<- sumL_add]
 refine sumL_congr fun x hx=>?_
 obtain ⟨A,B,K,J,hs⟩:=shF (h:=h) ok hv (hl x hx)
 rw [hs.vf,hs.vt]
 have c1:=chg_bal d (h:=h) (K:=K) (by have:=hs.KJ;have:=hs.Jh;omega) h2 (ctS t x).fr (-x.n) a b hb
 have c2:=chg_bal d (h:=h) (K:=J) hs.Jh h2 (ctS t x).to x.n a b hb
 rw [<- c1,<- c2]
 unfold stX
 rw [hs.hK,hs.hJ]
 have f1:(A * h + K = a * h + b) ↔ ((ctS t x).fr = (a:Int) /\ K = b):=by
  rw [num_eq (by have:=hs.KJ;have:=hs.Jh;omega) hb,hs.fr];omega
 have f2:(B * h + J = a * h + b) ↔ ((ctS t x).to = (a:Int) /\ J = b):=by
  rw [num_eq hs.Jh hb,hs.to];omega
 by_cases g1:A * h + K = a * h + b
 ·rw [if_pos g1,if_pos (f1.1 g1)]
  by_cases g2:B * h + J = a * h + b
  ·rw [if_pos g2,if_pos (f2.1 g2)]
   by_cases b1:b = h - 1 <;> by_cases b0:b = 0 <;> simp only [b1,b0,if_true,if_false] <;> omega
  ·rw [if_neg g2,if_neg (fun q=>g2 (f2.2 q))]
   by_cases b1:b = h - 1 <;> by_cases b0:b = 0 <;> simp only [b1,b0,if_true,if_false] <;> omega
 ·rw [if_neg g1,if_neg (fun q=>g1 (f1.2 q))]
  by_cases g2:B * h + J = a * h + b
  ·rw [if_pos g2,if_pos (f2.1 g2)]
   by_cases b1:b = h - 1 <;> by_cases b0:b = 0 <;> simp only [b1,b0,if_true,if_false] <;> omega
  ·rw [if_neg g2,if_neg (fun q=>g2 (f2.2 q))]
   by_cases b1:b = h - 1 <;> by_cases b0:b = 0 <;> simp only [b1,b0,if_true,if_false] <;> omega
theorem st_tot {t:Tbl} (ok:OkT t) {d:Dem} {h:Nat} (hv:d.dead = d.ready + (h:Int) - 1) {l:List Shp} (hl:∀ x ∈ l,OkS t d x) (a:Nat) (hs:(a:Int) ≠ d.src):stM t d l a ((h - 1:Nat):Int) = totM t l a:=by
 unfold stM totM
 refine sumL_congr fun x hx=>?_
 obtain ⟨A,B,K,J,hf⟩:=shF (h:=h) ok hv (hl x hx)
 have:=hf.KJ
 have:=hf.Jh
 unfold stX totX dlt
 rw [hf.hK,hf.hJ,if_neg hs,if_neg hs]
 (repeat' split) <;> omega
theorem tot_all {t:Tbl} (ok:OkT t) {d:Dem} {h:Nat} (hv:d.dead = d.ready + (h:Int) - 1) {l:List Shp} (hl:∀ x ∈ l,OkS t d x):sumN (fun a=>totM t l (a:Nat)) t.plan.qs.length = 0:=by
 unfold totM
 rw [<- sumL_range,sumL_swap,sumL_none]
 intro x hx
 obtain ⟨A,B,K,J,hf⟩:=shF (h:=h) ok hv (hl x hx)
 rw [sumL_range]
 have e:∀ a:Nat,totX t (a:Int) x = (if a = A then (fun _=>-x.n) a else 0) + (if a = B then (fun _=>x.n) a else 0):=by
  intro a
  unfold totX
  rw [hf.fr,hf.to]
  by_cases e1:a = A <;> by_cases e2:a = B
  ·rw [if_pos (by omega),if_pos (by omega),if_pos e1,if_pos e2]
  ·rw [if_pos (by omega),if_neg (by omega),if_pos e1,if_neg e2]
  ·rw [if_neg (by omega),if_pos (by omega),if_neg e1,if_pos e2]
  ·rw [if_neg (by omega),if_neg (by omega),if_neg e1,if_neg e2]
 rw [sumN_congr fun a _=>e a,sumN_add,sumN_one,sumN_one,if_pos hf.hA,if_pos hf.hB]
 omega
theorem sumN_two {g:Nat -> Int} {i j:Nat}:∀ {n:Nat},i < n -> j < n -> i ≠ j -> (∀ k,k < n -> k ≠ i -> k ≠ j -> g k = 0) -> sumN g n = g i + g j:=by
 intro n hi hj hij H
 have e:∀ k,k < n -> g k = (if k = i then g k else 0) + (if k = j then g k else 0):=by
  intro k hk
  by_cases e1:k = i <;> by_cases e2:k = j
  ·omega
  ·rw [if_pos e1,if_neg e2];omega
  ·rw [if_neg e1,if_pos e2];omega
  ·rw [if_neg e1,if_neg e2,H k hk e1 e2];rfl
 rw [sumN_congr e,sumN_add,sumN_one,sumN_one,if_pos hi,if_pos hj]
theorem shN_cases:∀ {l:List Shp} (c u:Int),l.Pairwise nxtS -> (shN l c u = 0 /\ ∀ x ∈ l,¬ (x.ct = c /\ x.tm = u)) \/ ∃ x ∈ l,x.ct = c /\ x.tm = u /\ shN l c u = x.n
 | [],c,u,_=>.inl ⟨rfl,fun x hx=>by cases hx⟩
 | x :: l,c,u,hp=>by
  obtain ⟨p1,p2⟩:=List.pairwise_cons.1 hp
  have ih:=shN_cases c u p2
  unfold shN at ih ⊢
  simp only [sumL]
  by_cases e:x.ct = c /\ x.tm = u
  ·rw [if_pos e]
   refine .inr ⟨x,List.mem_cons_self,e.1,e.2,?_⟩
   rcases ih with ⟨h1,_⟩ | ⟨y,hy,h1,h2,_⟩
   ·rw [h1];omega
   ·exact (p1 y hy ⟨by rw [e.1,h1],by rw [e.2,h2]⟩).elim
  ·rw [if_neg e]
   rcases ih with ⟨h1,h2⟩ | ⟨y,hy,h1,h2,h3⟩
   ·refine .inl ⟨by omega,fun y hy=>?_⟩
    rcases List.mem_cons.1 hy with rfl | hy
    ·exact e
    ·exact h2 y hy
   ·exact .inr ⟨y,List.mem_cons_of_mem _ hy,h1,h2,by omega⟩
theorem rate_le {t:Tbl} (ok:OkT t) {d:Dem} {x:Shp} (hx:OkS t d x):(ctS t x).rate <= 1000:=by
 have h1:=hx.ct
 exact (ok.p.cts (ctS t x) (by unfold ctS;rw [getD_lt (show x.ct.toNat < _ by omega)];exact List.getElem_mem _)).rate.2
theorem st_bound {t:Tbl} (ok:OkT t) {d:Dem} {l:List Shp} (hl:∀ x ∈ l,OkS t d x) (a b:Int):stM t d l a b <= 2000 * l.length:=by
 unfold stM
 have:∀ x ∈ l,stX t d a b x <= (fun _=>2000) x:=by
  intro x hx
  have h1:=rate_le ok (hl x hx)
  have h2:=(hl x hx).n
  show stX t d a b x <= 2000
  unfold stX dlt
  (repeat' split) <;> omega
 refine Int.le_trans (sumL_le this) ?_
 clear this hl
 induction l with
 | nil=>simp [sumL]
 | cons x l ih=>simp only [sumL,List.length_cons];push_cast;omega
theorem ship_flow {t:Tbl} (ok:OkT t) {d:Dem} (hd:OkD t.plan.qs.length d) {h:Nat} (h2:2 <= h) (hv:d.dead = d.ready + (h:Int) - 1) {l:List Shp} (hl:∀ x ∈ l,OkS t d x) (hp:l.Pairwise nxtS) (hlen:l.length <= 60)
  (c1:∀ a b:Nat,a < t.plan.qs.length -> b < h -> 0 <= stM t d l a b) (c2:∀ a:Nat,a < t.plan.qs.length -> (a:Int) ≠ d.src -> (a:Int) ≠ d.dst -> stM t d l a ((h - 1:Nat):Int) = 0)
  (c3:∀ a b:Nat,a < t.plan.qs.length -> (a:Int) ≠ d.src -> (a:Int) ≠ d.dst -> b + 1 < h -> stM t d l a b <= roomM t d a (d.ready + (b:Int))):
  IsFlow (netA (arcsM t d h)) (t.plan.qs.length * h) (d.src.toNat * h) (d.dst.toNat * h + (h - 1)) (flF t d h l) /\ net (netA (arcsM t d h)) (flF t d h l) (d.src.toNat * h) = stM t d l d.dst ((h - 1:Nat):Int):=by
 have hs:=hd.src
 have ht:=hd.dst
 have hst:=hd.ne
 have hbal:∀ a b:Nat,a < t.plan.qs.length -> b < h -> net (netA (arcsM t d h)) (flF t d h l) (a * h + b) = if (a:Int) = d.src then (if b = 0 then -totM t l a else 0) else (if b = h - 1 then -totM t l a else 0):=by
  intro a b ha hb
  rw [net_bal ok h2 hv hl a b ha hb]
  have key:∀ c:Prop,[Decidable c] -> (∀ x ∈ l,balX d h (ctS t x).fr (-x.n) a b + balX d h (ctS t x).to x.n a b = if c then 0 - totX t a x else 0) -> sumL (fun x=>balX d h (ctS t x).fr (-x.n) a b + balX d h (ctS t x).to x.n a b) l = if c then -totM t l a else 0:=by
   intro c _ H
   rw [sumL_congr H]
   by_cases e:c
   ·simp only [if_pos e]
    rw [sumL_sub,sumL_zero];unfold totM;omega
   ·simp only [if_neg e]
    exact sumL_zero l
  by_cases e:(a:Int) = d.src
  ·rw [if_pos e]
   refine key (b = 0) fun x hx=>?_
   unfold balX totX
   by_cases e1:(ctS t x).fr = (a:Int) <;> by_cases e2:(ctS t x).to = (a:Int) <;> by_cases e3:b = 0 <;> simp only [e1,e2,e3,e,if_true,if_false] <;> omega
  ·rw [if_neg e]
   refine key (b = h - 1) fun x hx=>?_
   unfold balX totX
   by_cases e1:(ctS t x).fr = (a:Int) <;> by_cases e2:(ctS t x).to = (a:Int) <;> by_cases e3:b = h - 1 <;> simp only [e1,e2,e3,e,if_true,if_false] <;> omega
 have htot:totM t l d.src + totM t l d.dst = 0:=by
  have h3:=tot_all (h:=h) ok hv hl
  rw [sumN_two (i:=d.src.toNat) (j:=d.dst.toNat) (by omega) (by omega) (by omega)] at h3
  ·rw [Int.toNat_of_nonneg hs.1,Int.toNat_of_nonneg ht.1] at h3
   exact h3
  ·intro k hk k1 k2
   rw [<- st_tot (h:=h) ok hv hl k (by omega)]
   exact c2 k hk (by omega) (by omega)
 refine ⟨⟨fun k hk=>?_,fun k hk=>?_,fun v hvn hvs hvt=>?_⟩,?_⟩
 ·have hk:k < (xarcs t d h).length:=by rw [<- arcs_len];exact hk
  have hy:(xarcs t d h).getD k default ∈ xarcs t d h:=by rw [getD_lt hk];exact List.getElem_mem _
  unfold flF flX
  rcases (mem_xarcs ok).1 hy with ⟨i,hi,hm,e⟩ | ⟨ct,u,hc,hu,e⟩
  ·rw [e,if_pos (show (wX t d h i).ct < 0 from by show (-1:Int) < 0;omega),wX_fr]
   obtain ⟨g1,g2,g3⟩:=wX_place (by omega) hi hm
   exact c1 _ _ g1 (by omega)
  ·rw [e,if_neg (show ¬ (cX t d h ct u).ct < 0 from by show ¬ (ct:Int) < 0;omega)]
   rcases shN_cases (cX t d h ct u).ct (cX t d h ct u).tm hp with ⟨g1,_⟩ | ⟨x,hx,_,_,g1⟩
   ·omega
   ·have:=(hl x hx).n;omega
 ·have hk:k < (xarcs t d h).length:=by rw [<- arcs_len];exact hk
  have hy:(xarcs t d h).getD k default ∈ xarcs t d h:=by rw [getD_lt hk];exact List.getElem_mem _
  show flF t d h l k <= ((arcsM t d h).getD k default).cap
  rw [arcs_at t d h k hk]
  unfold flF flX
  rcases (mem_xarcs ok).1 hy with ⟨i,hi,hm,e⟩ | ⟨ct,u,hc,hu,e⟩
  ·rw [e,if_pos (show (wX t d h i).ct < 0 from by show (-1:Int) < 0;omega),wX_fr]
   obtain ⟨g1,g2,g3⟩:=wX_place (by omega) hi hm
   show stM t d l _ _ <= roomM t d ((i / h:Nat):Int) (timeN d h i)
   by_cases e1:((i / h:Nat):Int) = d.src \/ ((i / h:Nat):Int) = d.dst
   ·unfold roomM
    rw [if_pos e1]
    have:=st_bound ok hl ((i / h:Nat):Int) ((i % h:Nat):Int)
    omega
   ·exact c3 _ _ g1 (fun q=>e1 (.inl q)) (fun q=>e1 (.inr q)) g2
  ·rw [e,if_neg (show ¬ (cX t d h ct u).ct < 0 from by show ¬ (ct:Int) < 0;omega)]
   show shN l (ct:Int) u <= (t.plan.cts.getD ct default).rate
   rcases shN_cases (ct:Int) u hp with ⟨g1,_⟩ | ⟨x,hx,g2,_,g1⟩
   ·have:=(ok.p.cts (t.plan.cts.getD ct default) (by rw [getD_lt hc];exact List.getElem_mem _)).rate
    omega
   ·have h3:=(hl x hx).n
    unfold ctS at h3
    rw [g2] at h3
    rw [g1]
    exact h3.2
 ·obtain ⟨g1,g2,g3⟩:=vtx_place (by omega) hvn
  rw [g3,hbal _ _ g1 g2]
  by_cases e:((v / h:Nat):Int) = d.src
  ·rw [if_pos e,if_neg]
   intro e2
   rw [e2,show v / h = d.src.toNat by omega] at g3
   exact hvs (by omega)
  ·rw [if_neg e]
   by_cases e2:v % h = h - 1
   ·rw [if_pos e2,<- st_tot (h:=h) ok hv hl _ e,c2 _ g1 e]
    ·rfl
    ·intro e3
     rw [e2,show v / h = d.dst.toNat by omega] at g3
     exact hvt g3
   ·rw [if_neg e2]
 ·have h3:=hbal d.src.toNat 0 (by omega) (by omega)
  rw [Nat.add_zero,if_pos (by omega),if_pos rfl,Int.toNat_of_nonneg hs.1] at h3
  rw [h3]
  have h4:=st_tot (h:=h) ok hv hl d.dst.toNat (by omega)
  rw [Int.toNat_of_nonneg ht.1] at h4
  rw [h4]
  omega
end Go.Proofs.YtjhmdfofhnijeaaGreatDoor
