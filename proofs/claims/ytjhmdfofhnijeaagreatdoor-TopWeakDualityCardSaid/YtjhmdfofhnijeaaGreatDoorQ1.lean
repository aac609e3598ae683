import Derived.Test.YtjhmdfofhnijeaaGreatDoorP2
set_option linter.unusedSimpArgs false
set_option linter.unusedSectionVars false
set_option linter.unusedVariables false
namespace Go.Mb
open Go.Sy
def cmpI (a b:Int):Int:=if a < b then -1 else if a > b then 1 else 0
def orL:List Int -> Int
 | []=>0
 | a :: l=>if a != 0 then a else orL l
theorem cmpI_neg {a b:Int}:cmpI a b < 0 ↔ a < b:=by unfold cmpI;split <;> (try split) <;> omega
theorem cmpI_zero {a b:Int}:cmpI a b = 0 ↔ a = b:=by unfold cmpI;split <;> (try split) <;> omega
theorem orL_neg {a:Int} {l:List Int}:orL (a :: l) < 0 ↔ a < 0 \/ (a = 0 /\ orL l < 0):=by
 rw [orL]
 split
 ·rename_i h
  have h:a ≠ 0:=by simpa using h
  omega
 ·rename_i h
  have h:a = 0:=by simpa using h
  omega
theorem orL_zero {a:Int} {l:List Int}:orL (a :: l) = 0 ↔ a = 0 /\ orL l = 0:=by
 rw [orL]
 split
 ·rename_i h
  have h:a ≠ 0:=by simpa using h
  omega
 ·rename_i h
  have h:a = 0:=by simpa using h
  omega
theorem orL_nil:orL [] = 0:=rfl
def cmpB (a b:Bkg):Int:=orL [cmpI a.ct b.ct,cmpI a.fr b.fr]
theorem cmpB_neg {a b:Bkg}:cmpB a b < 0 ↔ a.ct < b.ct \/ (a.ct = b.ct /\ a.fr < b.fr):=by
 unfold cmpB
 simp only [orL_neg,orL_nil,cmpI_neg,cmpI_zero]
 omega
def optB (l:List Bkg):Nat -> Option Bkg
 | 0=>none
 | k + 1=>some (l.getD k default)
theorem chkBs_at {p:Pln} {l:List Bkg} {k:Nat} (h:k < l.length):chkBs p (optB l k) (l.drop k) = if !validB p (l.getD k default) then 2 else if folB (optB l k) (l.getD k default) != 0 then folB (optB l k) (l.getD k default) else chkBs p (optB l (k + 1)) (l.drop (k + 1)):=by
 rw [drop_cons h,chkBs]
 rfl
end Go.Mb
namespace Go.Proofs.YtjhmdfofhnijeaaGreatDoor
open Go.Sy Go.Mb
set_option maxRecDepth 100000
set_option maxHeartbeats 4000000
theorem isNaN_ok (n:Int):FnOK Tryz.prog 141 [.int .i64 n] (.bool false,none):=by
 refine fn_ok CM rfl (by kernel_rfl) Tryz.func141 rfl ?_
 exact zG zE (NS.ret rfl rfl (LeA.of (congrArg A.bool (bne_self_eq_false n))))
theorem compare_ok (a b:Int):FnOK Tryz.prog 92 [.int .i64 a,.int .i64 b] (.int .i64 (cmpI a b),none):=by
 refine fn_ok CM rfl (by kernel_rfl) Tryz.func92 rfl ?_
 refine zG zE (NS.call (isNaN_ok a) rfl ?_)
 refine zG zE (NS.call (isNaN_ok b) rfl ?_)
 refine zG zE (NS.no (rfl) ?_)
 refine zG zE (NS.no (rfl) ?_)
 refine zG zE (NS.ite (fun h=>?_) (fun h=>?_))
 ·exact zG zE (NS.ret rfl rfl (LeA.of (congrArg (A.int .i64) (by unfold cmpI;rw [if_pos (by simpa using h)]))))
 refine zG zE (NS.ite (fun h2=>?_) (fun h2=>?_))
 ·exact zG zE (NS.ret rfl rfl (LeA.of (congrArg (A.int .i64) (by unfold cmpI;rw [if_neg (by simpa using h),if_pos (by simpa using h2)]))))
 ·exact zG zE (NS.ret rfl rfl (LeA.of (congrArg (A.int .i64) (by unfold cmpI;rw [if_neg (by simpa using h),if_neg (by simpa using h2)]))))
theorem or_ok (l:List Int) (hl:l.length <= 1000):FnOK Tryz.prog 91 [slN l] (.int .i64 (orL l),none):=by
 refine fn_ok CM rfl (by kernel_rfl) Tryz.func91 rfl ?_
 refine zG zE ?_
 refine NS.loop (σ:={ k:Nat // k <= l.length /\ orL l = orL (l.drop k) }) (fun k=>[(3,.int .i64 0),(6,slN l),(7,.int .i64 l.length),(8,.int .i64 k.1)]) (fun _=>[]) (fun k=>l.length - k.1) ⟨0,Nat.zero_le _,rfl⟩ ?_ ?_
 ·exact weak_hd [] rfl ⟨rfl,rfl,rfl,rfl,trivial⟩ trivial trivial (by kernel_rfl)
 rintro ⟨k,hk,hs⟩
 refine zG zE (NS.ite (fun h=>?_) (fun h=>?_))
 ·have h:k < l.length:=by simpa using h
  rw [drop_cons h] at hs
  refine zG zE (NS.need (by simp;omega) ?_)
  refine zG zE (NS.ite (fun h2=>?_) (fun h2=>?_))
  ·have h2:(l.getD k default != 0) = true:=h2
   exact zG zE (NS.leaveOut rfl zE (NS.ret rfl rfl (LeA.of (congrArg (A.int .i64) (by show l.getD k default = orL l;rw [hs,orL,if_pos h2])))))
  ·have h2:(l.getD k default != 0) = false:=h2
   refine zG zE (NS.next ⟨k + 1,by omega,by rw [hs,orL,if_neg (by rw [h2];simp)]⟩ (by simp;omega) ?_)
   exact weak_hd [] rfl ⟨rfl,rfl,rfl,ren_int rfl (i64_k (by omega) (by omega)),trivial⟩ trivial trivial (by kernel_rfl)
 ·have h:l.length <= k:=by simpa using h
  rw [List.drop_eq_nil_of_le h,orL_nil] at hs
  refine zG zE (NS.leave rfl zE ?_)
  exact zG zE (NS.ret rfl rfl (LeA.of (congrArg (A.int .i64) (hs.symm))))
theorem lit_2 {el:Nat -> Nat -> A} {x y:Int} (h0:el 0 0 = .int .i64 x) (h1:el 1 0 = .int .i64 y):∀ i,i < 2 -> ∀ j,j < 1 -> el i j = rowL nC [x,y] i j:=by
 intro i hi j hj
 obtain rfl:j = 0:=by omega
 match i,hi with
 | 0,_=>exact h0
 | 1,_=>exact h1
theorem bValid_ok (p:Pln) (b:Bkg):FnOK Tryz.prog 137 [.agg p.cells,.agg b.cells] (.bool (validB p b),none):=by
 refine fn_ok CM rfl (by kernel_rfl) Tryz.func137 rfl ?_
 refine zG zE (NS.ite (fun a1=>?_) (fun a1=>?_))
 ·exact zG zE (NS.ret rfl rfl (LeA.of (congrArg A.bool (by unfold validB;rw [show decide (b.ct < 0) = true from a1];rfl))))
 refine zG zE (NS.ite (fun a2=>?_) (fun a2=>?_))
 ·exact zG zE (NS.ret rfl rfl (LeA.of (congrArg A.bool (by unfold validB;rw [show decide (b.ct >= (p.cts.length:Int)) = true from a2];simp))))
 refine zG zE (NS.ite (fun a3=>?_) (fun a3=>?_))
 ·exact zG zE (NS.ret rfl rfl (LeA.of (congrArg A.bool (by unfold validB;rw [show decide (b.tk < 0) = true from a3];simp))))
 refine zG zE (NS.ite (fun a4=>?_) (fun a4=>?_))
 ·exact zG zE (NS.ret rfl rfl (LeA.of (congrArg A.bool (by unfold validB;rw [show decide (b.tk > 1152921504606846976) = true from a4];simp))))
 have h1:¬ b.ct < 0:=of_decide_eq_false a1
 have h2:¬ b.ct >= (p.cts.length:Int):=of_decide_eq_false a2
 have hv:validB p b = (decide ((p.cts.getD b.ct.toNat default).start <= b.fr) && (decide (b.fr < b.to) && decide (b.to <= (p.cts.getD b.ct.toNat default).stop))):=by
  unfold validB;rw [show decide (b.ct < 0) = false from a1,show decide (b.ct >= (p.cts.length:Int)) = false from a2,show decide (b.tk < 0) = false from a3,show decide (b.tk > 1152921504606846976) = false from a4];rfl
 rw [hv]
 refine zG zE (NS.need (by show decide (0 <= b.ct /\ b.ct < (p.cts.length:Int)) = true;exact decide_eq_true (by omega)) ?_)
 refine zG zE (NS.ite (fun b1=>?_) (fun b1=>?_))
 ·rw [show decide ((p.cts.getD b.ct.toNat default).start <= b.fr) = true from b1]
  refine zG zE (NS.ite (fun b2=>?_) (fun b2=>?_))
  ·rw [show decide (b.fr < b.to) = true from b2]
   exact zG zE (NS.ret rfl rfl (LeA.of (congrArg A.bool (rfl))))
  ·rw [show decide (b.fr < b.to) = false from b2]
   exact zG zE (NS.ret rfl rfl (LeA.of (congrArg A.bool (rfl))))
 ·rw [show decide ((p.cts.getD b.ct.toNat default).start <= b.fr) = false from b1]
  exact zG zE (NS.ret rfl rfl (LeA.of (congrArg A.bool (rfl))))
theorem rBValid_ok (p:Pln) (b:Bkg):FnOK Tryz.prog 163 [.agg p.cells,.agg b.cells] (.bool (validB p b),none):=by
 refine fn_ok CM rfl (by kernel_rfl) Tryz.func163 rfl ?_
 refine zG zE (NS.ite (fun a1=>?_) (fun a1=>?_))
 ·exact zG zE (NS.ret rfl rfl (LeA.of (congrArg A.bool (by unfold validB;rw [show decide (b.ct < 0) = true from a1];rfl))))
 refine zG zE (NS.ite (fun a2=>?_) (fun a2=>?_))
 ·exact zG zE (NS.ret rfl rfl (LeA.of (congrArg A.bool (by unfold validB;rw [show decide (b.ct >= (p.cts.length:Int)) = true from a2];simp))))
 refine zG zE (NS.ite (fun a3=>?_) (fun a3=>?_))
 ·exact zG zE (NS.ret rfl rfl (LeA.of (congrArg A.bool (by unfold validB;rw [show decide (b.tk < 0) = true from a3];simp))))
 refine zG zE (NS.ite (fun a4=>?_) (fun a4=>?_))
 ·exact zG zE (NS.ret rfl rfl (LeA.of (congrArg A.bool (by unfold validB;rw [show decide (b.tk > 1152921504606846976) = true from a4];simp))))
 have h1:¬ b.ct < 0:=of_decide_eq_false a1
 have h2:¬ b.ct >= (p.cts.length:Int):=of_decide_eq_false a2
 have hv:validB p b = (decide ((p.cts.getD b.ct.toNat default).start <= b.fr) && (decide (b.fr < b.to) && decide (b.to <= (p.cts.getD b.ct.toNat default).stop))):=by
  unfold validB;rw [show decide (b.ct < 0) = false from a1,show decide (b.ct >= (p.cts.length:Int)) = false from a2,show decide (b.tk < 0) = false from a3,show decide (b.tk > 1152921504606846976) = false from a4];rfl
 rw [hv]
 refine zG zE (NS.need (by show decide (0 <= b.ct /\ b.ct < (p.cts.length:Int)) = true;exact decide_eq_true (by omega)) ?_)
 refine zG zE (NS.ite (fun b1=>?_) (fun b1=>?_))
 ·rw [show decide ((p.cts.getD b.ct.toNat default).start <= b.fr) = true from b1]
  refine zG zE (NS.ite (fun b2=>?_) (fun b2=>?_))
  ·rw [show decide (b.fr < b.to) = true from b2]
   exact zG zE (NS.ret rfl rfl (LeA.of (congrArg A.bool (rfl))))
  ·rw [show decide (b.fr < b.to) = false from b2]
   exact zG zE (NS.ret rfl rfl (LeA.of (congrArg A.bool (rfl))))
 ·rw [show decide ((p.cts.getD b.ct.toNat default).start <= b.fr) = false from b1]
  exact zG zE (NS.ret rfl rfl (LeA.of (congrArg A.bool (rfl))))
theorem bCompare_ok (a b:Bkg):FnOK Tryz.prog 138 [.agg a.cells,.agg b.cells] (.int .i64 (cmpB a b),none):=by
 refine fn_ok CM rfl (by kernel_rfl) Tryz.func138 rfl ?_
 refine zG zE (NS.chk (by kernel_rfl) ?_)
 refine zG zE (NS.call (compare_ok a.ct b.ct) rfl ?_)
 refine zG zE (NS.call (compare_ok a.fr b.fr) rfl ?_)
 refine zG zE (NS.call ((or_ok [cmpI a.ct b.ct,cmpI a.fr b.fr] (by simp)).le (LeL.cons (LeA.sl rfl (lit_2 rfl rfl)) LeL.nil)) rfl ?_)
 exact zG zE (NS.ret rfl rfl (LeA.refl _))
theorem bCheck_ok (p:Pln) (l:List Bkg) (h1:p.qs.length <= 1000000) (h2:p.cts.length <= 1000000) (h3:l.length <= 1000000):FnOK Tryz.prog 84 [.agg p.cells,slBkg l] (.int .i64 (chkB p l),none):=by
 obtain ⟨R,hR⟩:∃ R,R = chkB p l:=⟨_,rfl⟩
 rw [<- hR]
 unfold chkB at hR
 refine fn_ok CM rfl (by kernel_rfl) Tryz.func84 rfl ?_
 refine zG zE (NS.call (planCheck_ok p h1 h2) rfl ?_)
 refine zG zE (NS.ite (fun a1=>?_) (fun a1=>?_))
 ·rw [if_pos a1] at hR
  exact zG zE (NS.ret rfl rfl (LeA.of (congrArg (A.int .i64) (hR.symm))))
 rw [if_neg (by rw [show (chkP p != 0) = false from a1];decide)] at hR
 refine zG zE (NS.ite (fun a2=>?_) (fun a2=>?_))
 ·rw [if_pos a2] at hR
  exact zG zE (NS.ret rfl rfl (LeA.of (congrArg (A.int .i64) (hR.symm))))
 rw [if_neg (by rw [show decide ((l.length:Int) > 512) = false from a2];decide)] at hR
 refine zG zE ?_
 refine NS.loop (σ:={ k:Nat // k <= l.length /\ R = chkBs p (optB l k) (l.drop k) }) (fun k=>[(1,slBkg l),(2,.ptr 2 0),(13,slBkg l),(14,.int .i64 l.length),(15,.int .i64 (k.1:Nat))]) (fun _=>[(2,.box p.cells)]) (fun k=>l.length - k.1) ⟨0,Nat.zero_le _,hR⟩ ?_ ?_
 ·exact weak_hd [] rfl ⟨rfl,rfl,rfl,rfl,rfl,trivial⟩ ⟨⟨_,rfl,renPln _ _⟩,trivial⟩ trivial (by kernel_rfl)
 rintro ⟨k,hk,hR⟩
 have hk:k <= l.length:=hk
 refine zG zE (NS.ite (fun a=>?_) (fun a=>?_))
 ·have a:k < l.length:=by have a:decide ((k:Int) < (l.length:Int)) = true:=a;have:=of_decide_eq_true a;omega
  rw [chkBs_at a] at hR
  repeat' (first | (refine zG zE (NS.need (in_row a) ?_)) | (refine zG zE (NS.chk (by kernel_rfl) ?_)) | (refine zG zE (NS.call (bValid_ok p (l.getD k default)) rfl ?_)))
  refine zG zE (NS.ite (fun b1=>?_) (fun b1=>?_))
  ·rw [if_pos b1] at hR
   exact zG zE (NS.leaveOut rfl zE (NS.ret rfl rfl (LeA.of (congrArg (A.int .i64) (hR.symm)))))
  rw [if_neg (by rw [show (!validB p (l.getD k default)) = false from b1];decide)] at hR
  refine zG zE (NS.ite (fun b2=>?_) (fun b2=>?_))
  ·have b2:k = 0:=by have b2:((k:Int) == 0) = true:=b2;have:=eq_of_beq b2;omega
   subst b2
   rw [if_neg (by simp [optB,folB])] at hR
   refine zG zE (NS.next ⟨0 + 1,a,hR⟩ (by show l.length - (0 + 1) < l.length - 0;omega) ?_)
   exact weak_hd [] rfl ⟨rfl,rfl,rfl,rfl,ren_int rfl (i64_k (k:=0) (n:=l.length) a (by omega)),trivial⟩ ⟨⟨_,rfl,renPln _ _⟩,trivial⟩ trivial (by kernel_rfl)
  ·obtain ⟨j,rfl⟩:∃ j,k = j + 1:=⟨k - 1,by have b2:((k:Int) == 0) = false:=b2;have:=ne_of_beq_false b2;omega⟩
   have e1:IntKind.i64.wrap (((j + 1:Nat):Int) - 1) = (j:Int):=by rw [wrap_i64 (by omega) (by omega)];omega
   have hn:decide (0 <= IntKind.i64.wrap (((j + 1:Nat):Int) - 1) /\ IntKind.i64.wrap (((j + 1:Nat):Int) - 1) < (l.length:Int)) = true:=by rw [e1];exact decide_eq_true (by omega)
   have hg:l.getD (IntKind.i64.wrap (((j + 1:Nat):Int) - 1)).toNat default = l.getD j default:=by rw [e1];rfl
   have hb:folB (optB l (j + 1)) (l.getD (j + 1) default) = folB (some (l.getD j default)) (l.getD (j + 1) default):=rfl
   rw [hb] at hR
   repeat' (first | (refine zG zE (NS.chk (by kernel_rfl) ?_)) | (refine zG zE (NS.need (hn) ?_)) | (refine zG zE (NS.call ((bCompare_ok (l.getD j default) (l.getD (j + 1) default)).le (LeL.cons (LeA.of (by show A.agg (Bkg.cells (l.getD (IntKind.i64.wrap (((j + 1:Nat):Int) - 1)).toNat default)) = _;rw [hg])) (LeL.cons (LeA.refl _) LeL.nil))) rfl ?_)))
   refine zG zE (NS.ite (fun b3=>?_) (fun b3=>?_))
   ·have b3:¬ (cmpB (l.getD j default) (l.getD (j + 1) default) < 0):=by have b3:decide (cmpB (l.getD j default) (l.getD (j + 1) default) >= 0) = true:=b3;have:=of_decide_eq_true b3;omega
    rw [cmpB_neg] at b3
    have hf:folB (some (l.getD j default)) (l.getD (j + 1) default) = 9:=by
     unfold folB
     simp only [Bool.or_eq_true,decide_eq_true_eq]
     rw [if_neg (by omega),if_pos (by omega)]
    rw [hf,if_pos (by decide)] at hR
    exact zG zE (NS.leaveOut rfl zE (NS.ret rfl rfl (LeA.of (congrArg (A.int .i64) (hR.symm)))))
   have b3:cmpB (l.getD j default) (l.getD (j + 1) default) < 0:=by have b3:decide (cmpB (l.getD j default) (l.getD (j + 1) default) >= 0) = false:=b3;have:=of_decide_eq_false b3;omega
   rw [cmpB_neg] at b3
   repeat' (first | (refine zG zE (NS.chk (by kernel_rfl) ?_)) | (refine zG zE (NS.need (hn) ?_)))
   refine zG zE (NS.ite (fun b4=>?_) (fun b4=>?_))
   ·have b4:(l.getD j default).ct = (l.getD (j + 1) default).ct:=by have b4:((l.getD (IntKind.i64.wrap (((j + 1:Nat):Int) - 1)).toNat default).ct == (l.getD (j + 1) default).ct) = true:=b4;rw [hg] at b4;exact eq_of_beq b4
    repeat' (first | (refine zG zE (NS.chk (by kernel_rfl) ?_)) | (refine zG zE (NS.need (hn) ?_)))
    refine zG zE (NS.ite (fun b5=>?_) (fun b5=>?_))
    ·have b5:(l.getD (j + 1) default).fr < (l.getD j default).to:=by have b5:decide ((l.getD (j + 1) default).fr < (l.getD (IntKind.i64.wrap (((j + 1:Nat):Int) - 1)).toNat default).to) = true:=b5;rw [hg] at b5;exact of_decide_eq_true b5
     have hf:folB (some (l.getD j default)) (l.getD (j + 1) default) = 14:=by
      unfold folB
      simp only [Bool.or_eq_true,decide_eq_true_eq]
      rw [if_neg (by omega),if_neg (by omega),if_pos b5]
     rw [hf,if_pos (by decide)] at hR
     exact zG zE (NS.leaveOut rfl zE (NS.ret rfl rfl (LeA.of (congrArg (A.int .i64) (hR.symm)))))
    ·have b5:¬ (l.getD (j + 1) default).fr < (l.getD j default).to:=by have b5:decide ((l.getD (j + 1) default).fr < (l.getD (IntKind.i64.wrap (((j + 1:Nat):Int) - 1)).toNat default).to) = false:=b5;rw [hg] at b5;exact of_decide_eq_false b5
     have hf:folB (some (l.getD j default)) (l.getD (j + 1) default) = 0:=by
      unfold folB
      simp only [Bool.or_eq_true,decide_eq_true_eq]
      rw [if_neg (by omega),if_neg (by omega),if_neg b5]
     rw [hf,if_neg (by decide)] at hR
     refine zG zE (NS.next ⟨j + 1 + 1,a,hR⟩ (by show l.length - (j + 1 + 1) < l.length - (j + 1);omega) ?_)
     exact weak_hd [] rfl ⟨rfl,rfl,rfl,rfl,ren_int rfl (i64_k (k:=j + 1) (n:=l.length) a (by omega)),trivial⟩ ⟨⟨_,rfl,renPln _ _⟩,trivial⟩ trivial (by kernel_rfl)
   ·have b4:(l.getD j default).ct ≠ (l.getD (j + 1) default).ct:=by have b4:((l.getD (IntKind.i64.wrap (((j + 1:Nat):Int) - 1)).toNat default).ct == (l.getD (j + 1) default).ct) = false:=b4;rw [hg] at b4;exact ne_of_beq_false b4
    have hf:folB (some (l.getD j default)) (l.getD (j + 1) default) = 0:=by
     unfold folB
     simp only [Bool.or_eq_true,decide_eq_true_eq]
     rw [if_pos (by omega)]
    rw [hf,if_neg (by decide)] at hR
    refine zG zE (NS.next ⟨j + 1 + 1,a,hR⟩ (by show l.length - (j + 1 + 1) < l.length - (j + 1);omega) ?_)
    exact weak_hd [] rfl ⟨rfl,rfl,rfl,rfl,ren_int rfl (i64_k (k:=j + 1) (n:=l.length) a (by omega)),trivial⟩ ⟨⟨_,rfl,renPln _ _⟩,trivial⟩ trivial (by kernel_rfl)
 have a:k = l.length:=by have a:decide ((k:Int) < (l.length:Int)) = false:=a;have:=of_decide_eq_false a;omega
 subst a
 rw [List.drop_length,chkBs] at hR
 refine zG zE (NS.leave rfl zE ?_)
 exact zG zE (NS.ret rfl rfl (LeA.of (congrArg (A.int .i64) (hR.symm))))
theorem rBCheck_ok (p:Pln) (l:List Bkg) (h1:p.qs.length <= 1000000) (h2:p.cts.length <= 1000000) (h3:l.length <= 1000000):FnOK Tryz.prog 103 [.agg p.cells,slBkg l] (.int .i64 (chkB p l),none):=by
 obtain ⟨R,hR⟩:∃ R,R = chkB p l:=⟨_,rfl⟩
 rw [<- hR]
 unfold chkB at hR
 refine fn_ok CM rfl (by kernel_rfl) Tryz.func103 rfl ?_
 refine zG zE (NS.call (rPlan_ok p h1 h2) rfl ?_)
 refine zG zE (NS.ite (fun a1=>?_) (fun a1=>?_))
 ·rw [if_pos a1] at hR
  exact zG zE (NS.ret rfl rfl (LeA.of (congrArg (A.int .i64) (hR.symm))))
 rw [if_neg (by rw [show (chkP p != 0) = false from a1];decide)] at hR
 refine zG zE (NS.ite (fun a2=>?_) (fun a2=>?_))
 ·rw [if_pos a2] at hR
  exact zG zE (NS.ret rfl rfl (LeA.of (congrArg (A.int .i64) (hR.symm))))
 rw [if_neg (by rw [show decide ((l.length:Int) > 512) = false from a2];decide)] at hR
 refine zG zE ?_
 refine NS.loop (σ:={ k:Nat // k <= l.length /\ R = chkBs p (optB l k) (l.drop k) }) (fun k=>[(1,slBkg l),(2,.ptr 2 0),(5,.int .i64 (k.1:Nat))]) (fun _=>[(2,.box p.cells)]) (fun k=>l.length - k.1) ⟨0,Nat.zero_le _,hR⟩ ?_ ?_
 ·exact weak_hd [] rfl ⟨rfl,rfl,rfl,trivial⟩ ⟨⟨_,rfl,renPln _ _⟩,trivial⟩ trivial (by kernel_rfl)
 rintro ⟨k,hk,hR⟩
 have hk:k <= l.length:=hk
 refine zG zE (NS.ite (fun a=>?_) (fun a=>?_))
 ·have a:k < l.length:=by have a:decide ((k:Int) < (l.length:Int)) = true:=a;have:=of_decide_eq_true a;omega
  rw [chkBs_at a] at hR
  repeat' (first | (refine zG zE (NS.need (in_row a) ?_)) | (refine zG zE (NS.chk (by kernel_rfl) ?_)) | (refine zG zE (NS.call (rBValid_ok p (l.getD k default)) rfl ?_)))
  refine zG zE (NS.ite (fun b1=>?_) (fun b1=>?_))
  ·rw [if_pos b1] at hR
   exact zG zE (NS.leaveOut rfl zE (NS.ret rfl rfl (LeA.of (congrArg (A.int .i64) (hR.symm)))))
  rw [if_neg (by rw [show (!validB p (l.getD k default)) = false from b1];decide)] at hR
  repeat' (first | (refine zG zE (NS.chk (by kernel_rfl) ?_)))
  refine zG zE (NS.ite (fun b2=>?_) (fun b2=>?_))
  ·have b2:k = 0:=by have b2:((k:Int) == 0) = true:=b2;have:=eq_of_beq b2;omega
   subst b2
   rw [if_neg (by simp [optB,folB])] at hR
   refine zG zE (NS.next ⟨0 + 1,a,hR⟩ (by show l.length - (0 + 1) < l.length - 0;omega) ?_)
   exact weak_hd [] rfl ⟨rfl,rfl,ren_int rfl (i64_k (k:=0) (n:=l.length) a (by omega)),trivial⟩ ⟨⟨_,rfl,renPln _ _⟩,trivial⟩ trivial (by kernel_rfl)
  ·obtain ⟨j,rfl⟩:∃ j,k = j + 1:=⟨k - 1,by have b2:((k:Int) == 0) = false:=b2;have:=ne_of_beq_false b2;omega⟩
   have e1:IntKind.i64.wrap (((j + 1:Nat):Int) - 1) = (j:Int):=by rw [wrap_i64 (by omega) (by omega)];omega
   have hn:decide (0 <= IntKind.i64.wrap (((j + 1:Nat):Int) - 1) /\ IntKind.i64.wrap (((j + 1:Nat):Int) - 1) < (l.length:Int)) = true:=by rw [e1];exact decide_eq_true (by omega)
   have hg:l.getD (IntKind.i64.wrap (((j + 1:Nat):Int) - 1)).toNat default = l.getD j default:=by rw [e1];rfl
   have hb:folB (optB l (j + 1)) (l.getD (j + 1) default) = folB (some (l.getD j default)) (l.getD (j + 1) default):=rfl
   rw [hb] at hR
   repeat' (first | (refine zG zE (NS.chk (by kernel_rfl) ?_)) | (refine zG zE (NS.need (in_row a) ?_)) | (refine zG zE (NS.need (hn) ?_)))
   refine zG zE (NS.ite (fun b3=>?_) (fun b3=>?_))
   ·have b3:(l.getD (j + 1) default).ct > (l.getD j default).ct:=by have b3:decide ((l.getD (j + 1) default).ct > (l.getD (IntKind.i64.wrap (((j + 1:Nat):Int) - 1)).toNat default).ct) = true:=b3;rw [hg] at b3;exact of_decide_eq_true b3
    rw [show folB (some (l.getD j default)) (l.getD (j + 1) default) = 0 by unfold folB;simp only [Bool.or_eq_true,decide_eq_true_eq];(repeat' split) <;> omega,if_neg (by decide)] at hR
    refine zG zE (NS.next ⟨j + 1 + 1,a,hR⟩ (by show l.length - (j + 1 + 1) < l.length - (j + 1);omega) ?_)
    exact weak_hd [] rfl ⟨rfl,rfl,ren_int rfl (i64_k (k:=j + 1) (n:=l.length) a (by omega)),trivial⟩ ⟨⟨_,rfl,renPln _ _⟩,trivial⟩ trivial (by kernel_rfl)
   have b3:¬ (l.getD (j + 1) default).ct > (l.getD j default).ct:=by have b3:decide ((l.getD (j + 1) default).ct > (l.getD (IntKind.i64.wrap (((j + 1:Nat):Int) - 1)).toNat default).ct) = false:=b3;rw [hg] at b3;exact of_decide_eq_false b3
   repeat' (first | (refine zG zE (NS.chk (by kernel_rfl) ?_)) | (refine zG zE (NS.need (in_row a) ?_)) | (refine zG zE (NS.need (hn) ?_)))
   refine zG zE (NS.ite (fun b4=>?_) (fun b4=>?_))
   ·have b4:decide ((l.getD (j + 1) default).ct < (l.getD j default).ct) = true:=by have b4:decide ((l.getD (j + 1) default).ct < (l.getD (IntKind.i64.wrap (((j + 1:Nat):Int) - 1)).toNat default).ct) = true:=b4;rw [hg] at b4;exact b4
    have b4:=of_decide_eq_true b4
    rw [show folB (some (l.getD j default)) (l.getD (j + 1) default) = 9 by unfold folB;simp only [Bool.or_eq_true,decide_eq_true_eq];(repeat' split) <;> omega,if_pos (by decide)] at hR
    exact zG zE (NS.leaveOut rfl zE (NS.ret rfl rfl (LeA.of (congrArg (A.int .i64) (hR.symm)))))
   have b4:decide ((l.getD (j + 1) default).ct < (l.getD j default).ct) = false:=by have b4:decide ((l.getD (j + 1) default).ct < (l.getD (IntKind.i64.wrap (((j + 1:Nat):Int) - 1)).toNat default).ct) = false:=b4;rw [hg] at b4;exact b4
   have b4:=of_decide_eq_false b4
   repeat' (first | (refine zG zE (NS.chk (by kernel_rfl) ?_)) | (refine zG zE (NS.need (in_row a) ?_)) | (refine zG zE (NS.need (hn) ?_)))
   refine zG zE (NS.ite (fun b5=>?_) (fun b5=>?_))
   ·have b5:decide ((l.getD (j + 1) default).fr <= (l.getD j default).fr) = true:=by have b5:decide ((l.getD (j + 1) default).fr <= (l.getD (IntKind.i64.wrap (((j + 1:Nat):Int) - 1)).toNat default).fr) = true:=b5;rw [hg] at b5;exact b5
    have b5:=of_decide_eq_true b5
    rw [show folB (some (l.getD j default)) (l.getD (j + 1) default) = 9 by unfold folB;simp only [Bool.or_eq_true,decide_eq_true_eq];(repeat' split) <;> omega,if_pos (by decide)] at hR
    exact zG zE (NS.leaveOut rfl zE (NS.ret rfl rfl (LeA.of (congrArg (A.int .i64) (hR.symm)))))
   have b5:decide ((l.getD (j + 1) default).fr <= (l.getD j default).fr) = false:=by have b5:decide ((l.getD (j + 1) default).fr <= (l.getD (IntKind.i64.wrap (((j + 1:Nat):Int) - 1)).toNat default).fr) = false:=b5;rw [hg] at b5;exact b5
   have b5:=of_decide_eq_false b5
   repeat' (first | (refine zG zE (NS.chk (by kernel_rfl) ?_)) | (refine zG zE (NS.need (in_row a) ?_)) | (refine zG zE (NS.need (hn) ?_)))
   refine zG zE (NS.ite (fun b6=>?_) (fun b6=>?_))
   ·have b6:(l.getD (j + 1) default).fr < (l.getD j default).to:=by have b6:decide ((l.getD (j + 1) default).fr < (l.getD (IntKind.i64.wrap (((j + 1:Nat):Int) - 1)).toNat default).to) = true:=b6;rw [hg] at b6;exact of_decide_eq_true b6
    rw [show folB (some (l.getD j default)) (l.getD (j + 1) default) = 14 by unfold folB;simp only [Bool.or_eq_true,decide_eq_true_eq];(repeat' split) <;> omega,if_pos (by decide)] at hR
    exact zG zE (NS.leaveOut rfl zE (NS.ret rfl rfl (LeA.of (congrArg (A.int .i64) (hR.symm)))))
   have b6:¬ (l.getD (j + 1) default).fr < (l.getD j default).to:=by have b6:decide ((l.getD (j + 1) default).fr < (l.getD (IntKind.i64.wrap (((j + 1:Nat):Int) - 1)).toNat default).to) = false:=b6;rw [hg] at b6;exact of_decide_eq_false b6
   rw [show folB (some (l.getD j default)) (l.getD (j + 1) default) = 0 by unfold folB;simp only [Bool.or_eq_true,decide_eq_true_eq];(repeat' split) <;> omega,if_neg (by decide)] at hR
   refine zG zE (NS.next ⟨j + 1 + 1,a,hR⟩ (by show l.length - (j + 1 + 1) < l.length - (j + 1);omega) ?_)
   exact weak_hd [] rfl ⟨rfl,rfl,ren_int rfl (i64_k (k:=j + 1) (n:=l.length) a (by omega)),trivial⟩ ⟨⟨_,rfl,renPln _ _⟩,trivial⟩ trivial (by kernel_rfl)
 have a:k = l.length:=by have a:decide ((k:Int) < (l.length:Int)) = false:=a;have:=of_decide_eq_false a;omega
 subst a
 rw [List.drop_length,chkBs] at hR
 refine zG zE (NS.leave rfl zE ?_)
 exact zG zE (NS.ret rfl rfl (LeA.of (congrArg (A.int .i64) (hR.symm))))
end Go.Proofs.YtjhmdfofhnijeaaGreatDoor
namespace Go.Mb
open Go.Sy
def optH (l:List Hld):Nat -> Option Hld
 | 0=>none
 | k + 1=>some (l.getD k default)
theorem chkHs_at {p:Pln} {l:List Hld} {k:Nat} (h:k < l.length):chkHs p (optH l k) (l.drop k) = if !validH p (l.getD k default) then 2 else if lessO (optH l k) (l.getD k default) then 9 else chkHs p (optH l (k + 1)) (l.drop (k + 1)):=by
 rw [drop_cons h,chkHs]
 rfl
theorem sto_bound {node t:Int}:∀ {l:List Hld},(∀ h ∈ l,1 <= h.size /\ h.size <= 65536) -> 0 <= sto node t l /\ sto node t l <= 65536 * l.length
 | [],_=>by simp [sto]
 | h :: l,hh=>by
  have h1:=sto_bound (node:=node) (t:=t) (l:=l) fun x hx=>hh x (List.mem_cons_of_mem _ hx)
  have h2:=hh h List.mem_cons_self
  simp only [sto,List.length_cons]
  split <;> omega
theorem sto_drop {node t:Int} {l:List Hld} {k:Nat} (h:k < l.length):sto node t (l.drop k) = (if inH node t (l.getD k default) then (l.getD k default).size else 0) + sto node t (l.drop (k + 1)):=by
 rw [drop_cons h,sto]
end Go.Mb
namespace Go.Proofs.YtjhmdfofhnijeaaGreatDoor
open Go.Sy Go.Mb
set_option maxRecDepth 100000
set_option maxHeartbeats 4000000
theorem rHValid_ok (p:Pln) (h:Hld):FnOK Tryz.prog 164 [.agg p.cells,.agg h.cells] (.bool (validH p h),none):=by
 refine fn_ok CM rfl (by kernel_rfl) Tryz.func164 rfl ?_
 repeat' (first | (refine zG zE (NS.ite (fun h=>?_) (fun h=>?_))) | (refine zG zE (NS.chk (by kernel_rfl) ?_)) | (exact zG zE (NS.ret rfl rfl (LeA.of (congrArg A.bool (by unfold validH;simp only [*,Bool.true_and,Bool.false_and]))))))
theorem hValid_ok (p:Pln) (h:Hld):FnOK Tryz.prog 97 [.agg p.cells,.agg h.cells] (.bool (validH p h),none):=by
 refine fn_ok CM rfl (by kernel_rfl) Tryz.func97 rfl ?_
 repeat' (first | (refine zG zE (NS.ite (fun h=>?_) (fun h=>?_))) | (refine zG zE (NS.chk (by kernel_rfl) ?_)) | (exact zG zE (NS.ret rfl rfl (LeA.of (congrArg A.bool (by unfold validH;simp only [*,Bool.true_and,Bool.false_and]))))))
theorem rLess_ok (a b:Hld):FnOK Tryz.prog 165 [.agg a.cells,.agg b.cells] (.bool (lessH a b),none):=by
 refine fn_ok CM rfl (by kernel_rfl) Tryz.func165 rfl ?_
 repeat' (first | (refine zG zE (NS.ite (fun h=>?_) (fun h=>?_))) | (refine zG zE (NS.chk (by kernel_rfl) ?_)) | (exact zG zE (NS.ret rfl rfl (LeA.of (congrArg A.bool (by unfold lessH;simp only [*,if_true,if_false,Bool.false_eq_true]))))))
theorem rStored_ok (l:List Hld) (node t:Int) (hl:l.length <= 1000) (hs:∀ h ∈ l,1 <= h.size /\ h.size <= 65536):FnOK Tryz.prog 211 [slHld l,.int .i64 node,.int .i64 t] (.int .i64 (sto node t l),none):=by
 refine fn_ok CM rfl (by kernel_rfl) Tryz.func211 rfl ?_
 refine zG zE ?_
 refine NS.loop (σ:={ q:Nat × Int // q.1 <= l.length /\ q.2 + sto node t (l.drop q.1) = sto node t l /\ 0 <= q.2 }) (fun q=>[(0,slHld l),(1,.int .i64 node),(2,.int .i64 t),(7,.int .i64 q.1.2),(8,.int .i64 (q.1.1:Nat))]) (fun _=>[]) (fun q=>l.length - q.1.1) ⟨(0,0),Nat.zero_le _,by simp,Int.le_refl _⟩ ?_ ?_
 ·exact weak_hd [] rfl ⟨rfl,rfl,rfl,rfl,rfl,trivial⟩ trivial trivial (by kernel_rfl)
 rintro ⟨⟨k,n⟩,hk,hn,h0⟩
 have hk:k <= l.length:=hk
 have hn:n + sto node t (l.drop k) = sto node t l:=hn
 have h0:0 <= n:=h0
 have hb:=sto_bound (node:=node) (t:=t) hs
 refine zG zE (NS.ite (fun a=>?_) (fun a=>?_))
 ·have a:k < l.length:=by have a:decide ((k:Int) < (l.length:Int)) = true:=a;have:=of_decide_eq_true a;omega
  have hsk:=hs (l.getD k default) (by rw [getD_lt a];exact List.getElem_mem _)
  have hd:=sto_bound (node:=node) (t:=t) (l:=l.drop (k + 1)) (fun x hx=>hs x (List.mem_of_mem_drop hx))
  rw [sto_drop a] at hn
  refine zG zE (NS.need (in_row a) ?_)
  refine zG zE (NS.ite (fun b1=>?_) (fun b1=>?_))
  ·have b1:((l.getD k default).node == node) = true:=b1
   refine zG zE (NS.need (in_row a) ?_)
   refine zG zE (NS.ite (fun b2=>?_) (fun b2=>?_))
   ·have b2:decide ((l.getD k default).fr <= t) = true:=b2
    refine zG zE (NS.need (in_row a) ?_)
    refine zG zE (NS.ite (fun b3=>?_) (fun b3=>?_))
    ·have b3:decide (t < (l.getD k default).to) = true:=b3
     have hi:inH node t (l.getD k default) = true:=by unfold inH;rw [b1,b2,b3];rfl
     rw [if_pos hi] at hn
     have e1:IntKind.i64.wrap (n + (l.getD k default).size) = n + (l.getD k default).size:=wrap_i64 (by omega) (by omega)
     refine zG zE (NS.need (in_row a) ?_)
     refine zG zE (NS.next ⟨(k + 1,n + (l.getD k default).size),a,by show n + (l.getD k default).size + sto node t (l.drop (k + 1)) = _;omega,by show 0 <= n + (l.getD k default).size;omega⟩ (by show l.length - (k + 1) < l.length - k;omega) ?_)
     exact weak_hd [] rfl ⟨rfl,rfl,rfl,ren_int rfl e1,ren_int rfl (i64_k (n:=l.length) a (by omega)),trivial⟩ trivial trivial (by kernel_rfl)
    ·have b3:decide (t < (l.getD k default).to) = false:=b3
     have hi:inH node t (l.getD k default) = false:=by unfold inH;rw [b3];simp
     rw [hi,if_neg (by decide),Int.zero_add] at hn
     refine zG zE (NS.next ⟨(k + 1,n),a,hn,h0⟩ (by show l.length - (k + 1) < l.length - k;omega) ?_)
     exact weak_hd [] rfl ⟨rfl,rfl,rfl,rfl,ren_int rfl (i64_k (n:=l.length) a (by omega)),trivial⟩ trivial trivial (by kernel_rfl)
   ·have b2:decide ((l.getD k default).fr <= t) = false:=b2
    have hi:inH node t (l.getD k default) = false:=by unfold inH;rw [b2];simp
    rw [hi,if_neg (by decide),Int.zero_add] at hn
    refine zG zE (NS.next ⟨(k + 1,n),a,hn,h0⟩ (by show l.length - (k + 1) < l.length - k;omega) ?_)
    exact weak_hd [] rfl ⟨rfl,rfl,rfl,rfl,ren_int rfl (i64_k (n:=l.length) a (by omega)),trivial⟩ trivial trivial (by kernel_rfl)
  ·have b1:((l.getD k default).node == node) = false:=b1
   have hi:inH node t (l.getD k default) = false:=by unfold inH;rw [b1];simp
   rw [hi,if_neg (by decide),Int.zero_add] at hn
   refine zG zE (NS.next ⟨(k + 1,n),a,hn,h0⟩ (by show l.length - (k + 1) < l.length - k;omega) ?_)
   exact weak_hd [] rfl ⟨rfl,rfl,rfl,rfl,ren_int rfl (i64_k (n:=l.length) a (by omega)),trivial⟩ trivial trivial (by kernel_rfl)
 have a:k = l.length:=by have a:decide ((k:Int) < (l.length:Int)) = false:=a;have:=of_decide_eq_false a;omega
 subst a
 rw [List.drop_length,sto] at hn
 refine zG zE (NS.leave rfl zE ?_)
 exact zG zE (NS.ret rfl rfl (LeA.of (congrArg (A.int .i64) (by show n = _;omega))))
theorem rFits_ok (p:Pln) (l:List Hld) (hq:p.qs.length <= 1000000) (hl:l.length <= 1000) (hs:∀ h ∈ l,OkHd p h):FnOK Tryz.prog 166 [.agg p.cells,slHld l] (.bool (l.all (fitH p l)),none):=by
 refine fn_ok CM rfl (by kernel_rfl) Tryz.func166 rfl ?_
 refine zG zE ?_
 refine NS.loop (σ:={ k:Nat // k <= l.length /\ ∀ i,i < k -> fitH p l (l.getD i default) = true }) (fun k=>[(1,slHld l),(2,.ptr 2 0),(5,.int .i64 (k.1:Nat))]) (fun _=>[(2,.box p.cells)]) (fun k=>l.length - k.1) ⟨0,Nat.zero_le _,fun i hi=>by omega⟩ ?_ ?_
 ·exact weak_hd [] rfl ⟨rfl,rfl,rfl,trivial⟩ ⟨⟨_,rfl,renPln _ _⟩,trivial⟩ trivial (by kernel_rfl)
 rintro ⟨k,hk,hn⟩
 have hk:k <= l.length:=hk
 refine zG zE (NS.ite (fun a=>?_) (fun a=>?_))
 ·have a:k < l.length:=by have a:decide ((k:Int) < (l.length:Int)) = true:=a;have:=of_decide_eq_true a;omega
  have hsk:=hs (l.getD k default) (by rw [getD_lt a];exact List.getElem_mem _)
  have hno:=hsk.node
  repeat' (first | (refine zG zE (NS.chk (by kernel_rfl) ?_)) | (refine zG zE (NS.need (in_row a) ?_)) | (refine zG zE (NS.call (rStored_ok l (l.getD k default).node (l.getD k default).fr hl (fun h hh=>(hs h hh).size)) rfl ?_)) | (refine zG zE (NS.need (by show decide (0 <= (l.getD k default).node /\ (l.getD k default).node < (p.qs.length:Int)) = true;exact decide_eq_true hno) ?_)))
  refine zG zE (NS.ite (fun b=>?_) (fun b=>?_))
  ·have b:sto (l.getD k default).node (l.getD k default).fr l > p.qs.getD (l.getD k default).node.toNat default:=by have b:decide (sto (l.getD k default).node (l.getD k default).fr l > p.qs.getD (l.getD k default).node.toNat default) = true:=b;exact of_decide_eq_true b
   exact zG zE (NS.leaveOut rfl zE (NS.ret rfl rfl (LeA.of (congrArg A.bool (by symm;rw [List.all_eq_false];exact ⟨l.getD k default,by rw [getD_lt a];exact List.getElem_mem _,by unfold fitH;rw [decide_eq_true_eq];omega⟩)))))
  have b:¬ sto (l.getD k default).node (l.getD k default).fr l > p.qs.getD (l.getD k default).node.toNat default:=by have b:decide (sto (l.getD k default).node (l.getD k default).fr l > p.qs.getD (l.getD k default).node.toNat default) = false:=b;exact of_decide_eq_false b
  refine zG zE (NS.next ⟨k + 1,a,fun i hi=>by rcases Nat.lt_or_ge i k with h | h;exact hn i h;rw [show i = k by omega];unfold fitH;rw [decide_eq_true_eq];omega⟩ (by show l.length - (k + 1) < l.length - k;omega) ?_)
  exact weak_hd [] rfl ⟨rfl,rfl,ren_int rfl (i64_k (n:=l.length) a (by omega)),trivial⟩ ⟨⟨_,rfl,renPln _ _⟩,trivial⟩ trivial (by kernel_rfl)
 have a:k = l.length:=by have a:decide ((k:Int) < (l.length:Int)) = false:=a;have:=of_decide_eq_false a;omega
 subst a
 refine zG zE (NS.leave rfl zE ?_)
 exact zG zE (NS.ret rfl rfl (LeA.of (congrArg A.bool (by symm;rw [List.all_eq_true];intro x hx;obtain ⟨i,hi,rfl⟩:=List.getElem_of_mem hx;rw [<- getD_lt hi];exact hn i hi))))
theorem rHCheck_ok (p:Pln) (l:List Hld) (h1:p.qs.length <= 1000000) (h2:p.cts.length <= 1000000) (h3:l.length <= 1000000):FnOK Tryz.prog 104 [.agg p.cells,slHld l] (.int .i64 (chkHd p l),none):=by
 obtain ⟨R,hR⟩:∃ R,R = chkHd p l:=⟨_,rfl⟩
 rw [<- hR]
 unfold chkHd at hR
 refine fn_ok CM rfl (by kernel_rfl) Tryz.func104 rfl ?_
 refine zG zE (NS.call (rPlan_ok p h1 h2) rfl ?_)
 refine zG zE (NS.ite (fun a1=>?_) (fun a1=>?_))
 ·rw [if_pos a1] at hR
  exact zG zE (NS.ret rfl rfl (LeA.of (congrArg (A.int .i64) (hR.symm))))
 rw [if_neg (by rw [show (chkP p != 0) = false from a1];decide)] at hR
 refine zG zE (NS.ite (fun a2=>?_) (fun a2=>?_))
 ·rw [if_pos a2] at hR
  exact zG zE (NS.ret rfl rfl (LeA.of (congrArg (A.int .i64) (hR.symm))))
 rw [if_neg (by rw [show decide ((l.length:Int) > 512) = false from a2];decide)] at hR
 have a2:l.length <= 512:=by have a2:decide ((l.length:Int) > 512) = false:=a2;have:=of_decide_eq_false a2;omega
 refine zG zE ?_
 refine NS.loop (σ:={ k:Nat // k <= l.length /\ chkHs p none l = chkHs p (optH l k) (l.drop k) }) (fun k=>[(1,slHld l),(2,.ptr 2 0),(5,.int .i64 (k.1:Nat))]) (fun _=>[(2,.box p.cells)]) (fun k=>l.length - k.1) ⟨0,Nat.zero_le _,rfl⟩ ?_ ?_
 ·exact weak_hd [] rfl ⟨rfl,rfl,rfl,trivial⟩ ⟨⟨_,rfl,renPln _ _⟩,trivial⟩ trivial (by kernel_rfl)
 rintro ⟨k,hk,hc⟩
 have hk:k <= l.length:=hk
 refine zG zE (NS.ite (fun a=>?_) (fun a=>?_))
 ·have a:k < l.length:=by have a:decide ((k:Int) < (l.length:Int)) = true:=a;have:=of_decide_eq_true a;omega
  rw [chkHs_at a] at hc
  repeat' (first | (refine zG zE (NS.need (in_row a) ?_)) | (refine zG zE (NS.chk (by kernel_rfl) ?_)) | (refine zG zE (NS.call (rHValid_ok p (l.getD k default)) rfl ?_)))
  refine zG zE (NS.ite (fun b1=>?_) (fun b1=>?_))
  ·rw [if_pos b1] at hc
   rw [hc,if_pos (by decide)] at hR
   exact zG zE (NS.leaveOut rfl zE (NS.ret rfl rfl (LeA.of (congrArg (A.int .i64) (hR.symm)))))
  rw [if_neg (by rw [show (!validH p (l.getD k default)) = false from b1];decide)] at hc
  repeat' (first | (refine zG zE (NS.chk (by kernel_rfl) ?_)))
  refine zG zE (NS.ite (fun b2=>?_) (fun b2=>?_))
  ·obtain ⟨j,rfl⟩:∃ j,k = j + 1:=⟨k - 1,by have b2:decide ((k:Int) > 0) = true:=b2;have:=of_decide_eq_true b2;omega⟩
   have e1:IntKind.i64.wrap (((j + 1:Nat):Int) - 1) = (j:Int):=by rw [wrap_i64 (by omega) (by omega)];omega
   have hn:decide (0 <= IntKind.i64.wrap (((j + 1:Nat):Int) - 1) /\ IntKind.i64.wrap (((j + 1:Nat):Int) - 1) < (l.length:Int)) = true:=by rw [e1];exact decide_eq_true (by omega)
   have hg:l.getD (IntKind.i64.wrap (((j + 1:Nat):Int) - 1)).toNat default = l.getD j default:=by rw [e1];rfl
   rw [show lessO (optH l (j + 1)) (l.getD (j + 1) default) = lessH (l.getD (j + 1) default) (l.getD j default) from rfl] at hc
   repeat' (first | (refine zG zE (NS.chk (by kernel_rfl) ?_)) | (refine zG zE (NS.need (in_row a) ?_)) | (refine zG zE (NS.need (hn) ?_)) | (refine zG zE (NS.call ((rLess_ok (l.getD (j + 1) default) (l.getD j default)).le (LeL.cons (LeA.refl _) (LeL.cons (LeA.of (by show A.agg (Hld.cells (l.getD (IntKind.i64.wrap (((j + 1:Nat):Int) - 1)).toNat default)) = _;rw [hg])) LeL.nil))) rfl ?_)))
   refine zG zE (NS.ite (fun b3=>?_) (fun b3=>?_))
   ·rw [if_pos b3] at hc
    rw [hc,if_pos (by decide)] at hR
    exact zG zE (NS.leaveOut rfl zE (NS.ret rfl rfl (LeA.of (congrArg (A.int .i64) (hR.symm)))))
   rw [if_neg (by rw [show lessH (l.getD (j + 1) default) (l.getD j default) = false from b3];decide)] at hc
   refine zG zE (NS.next ⟨j + 1 + 1,a,hc⟩ (by show l.length - (j + 1 + 1) < l.length - (j + 1);omega) ?_)
   exact weak_hd [] rfl ⟨rfl,rfl,ren_int rfl (i64_k (k:=j + 1) (n:=l.length) a (by omega)),trivial⟩ ⟨⟨_,rfl,renPln _ _⟩,trivial⟩ trivial (by kernel_rfl)
  ·have b2:k = 0:=by have b2:decide ((k:Int) > 0) = false:=b2;have:=of_decide_eq_false b2;omega
   subst b2
   rw [if_neg (by simp [optH,lessO])] at hc
   refine zG zE (NS.next ⟨0 + 1,a,hc⟩ (by show l.length - (0 + 1) < l.length - 0;omega) ?_)
   exact weak_hd [] rfl ⟨rfl,rfl,ren_int rfl (i64_k (k:=0) (n:=l.length) a (by omega)),trivial⟩ ⟨⟨_,rfl,renPln _ _⟩,trivial⟩ trivial (by kernel_rfl)
 have a:k = l.length:=by have a:decide ((k:Int) < (l.length:Int)) = false:=a;have:=of_decide_eq_false a;omega
 subst a
 rw [List.drop_length,chkHs] at hc
 rw [hc,if_neg (by decide)] at hR
 refine zG zE (NS.leave rfl zE ?_)
 refine zG zE (NS.call (rFits_ok p l h1 (by omega) (chkHs_ok hc).1) rfl ?_)
 refine zG zE (NS.ite (fun b=>?_) (fun b=>?_))
 ·have b:(!l.all (fitH p l)) = true:=b
  rw [if_neg (by rw [show l.all (fitH p l) = false by simpa using b];decide)] at hR
  exact zG zE (NS.ret rfl rfl (LeA.of (congrArg (A.int .i64) (hR.symm))))
 ·have b:(!l.all (fitH p l)) = false:=b
  rw [if_pos (by simpa using b)] at hR
  exact zG zE (NS.ret rfl rfl (LeA.of (congrArg (A.int .i64) (hR.symm))))
end Go.Proofs.YtjhmdfofhnijeaaGreatDoor
