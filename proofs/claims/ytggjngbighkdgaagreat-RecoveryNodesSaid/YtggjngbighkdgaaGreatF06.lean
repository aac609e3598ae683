import Derived.Test.YtggjngbighkdgaaGreatF05
import Derived.Test.YtggjngbighkdgaaGreatProg
set_option linter.unusedSimpArgs false
set_option linter.unusedSectionVars false
set_option linter.unusedVariables false
namespace Go.Proofs.YtggjngbighkdgaaGreat
open Go.Sy Go.Mb
set_option maxRecDepth 100000
def i5:List CK:=[.i .i64,.i .i64,.i .i64,.i .i64,.i .i64]
def kItem:List CK:=[.i .i64,.i .i64,.i .i64,.i .i64,.i .i64,.i .i64,.i .i64,.i .i64,.i .i64,.b,.s]
def kRecord:List CK:=[.i .i64,.i .i64,.i .i64,.i .i64,.i .i64,.i .i64,.i .i64,.i .i64,.i .i64,.i .i64,.b,.s,.i .i64,.i .i64,.i .i64,.i .i64,.i .i64,.i .i64,.i .i64]
noncomputable def EN:Env:={ P:=Tryz.prog,eqT:=lookE [(39,i5),(41,kItem),(101,kRecord)] }
theorem kinds_id:kindsT Tryz.prog 6 39 = some i5:=by kernel_rfl
theorem kinds_item:kindsT Tryz.prog 6 41 = some kItem:=by kernel_rfl
theorem kinds_record:kindsT Tryz.prog 6 101 = some kRecord:=by kernel_rfl
theorem guard_id:Tryz.prog.eqGuardType Tryz.prog.depth 39 = false:=by kernel_rfl
theorem guard_item:Tryz.prog.eqGuardType Tryz.prog.depth 41 = false:=by kernel_rfl
theorem guard_record:Tryz.prog.eqGuardType Tryz.prog.depth 101 = false:=by kernel_rfl
theorem EN_ok:EqOK EN:=by
 refine eqOK_of ?_
 intro p hp
 simp only [List.mem_cons,List.not_mem_nil,or_false] at hp
 rcases hp with rfl | rfl | rfl
 ·exact ⟨kinds_id,guard_id,by rw [Tryz.underlying39];trivial⟩
 ·exact ⟨kinds_item,guard_item,by rw [Tryz.underlying41];trivial⟩
 ·exact ⟨kinds_record,guard_record,by rw [Tryz.underlying101];trivial⟩
noncomputable def CN:Cx:={ E:=EN,inl:=[],ok:=EN_ok }
theorem in_ok (n lo hi:Int):FnOK Tryz.prog 166 [.int .i64 n,.int .i64 lo,.int .i64 hi] (.bool (inR n lo hi),none):=by
 refine fn_ok CN rfl (by kernel_rfl) Tryz.func166 rfl ?_
 refine zG zE (NS.ite (fun h=>?_) (fun h=>?_))
 ·exact zG zE (NS.ret rfl rfl (LeA.of (congrArg A.bool (inR_t h))))
 ·exact zG zE (NS.ret rfl rfl (LeA.of (congrArg A.bool (inR_f h))))
theorem within_ok (n lo hi:Int):FnOK Tryz.prog 129 [.int .i64 n,.int .i64 lo,.int .i64 hi] (.bool (inR n lo hi),none):=by
 refine fn_ok CN rfl (by kernel_rfl) Tryz.func129 rfl ?_
 refine zG zE (NS.ite (fun h=>?_) (fun h=>?_))
 ·exact zG zE (NS.ret rfl rfl (LeA.of (congrArg A.bool (inR_t h))))
 ·exact zG zE (NS.ret rfl rfl (LeA.of (congrArg A.bool (inR_f h))))
theorem checkId_ok (x:Nid):FnOK Tryz.prog 131 [.agg x.cells] (.bool (validId x),none):=by
 refine fn_ok CN rfl (by kernel_rfl) Tryz.func131 rfl ?_
 repeat' (first
  | refine zG zE ?_
  | refine NS.call (within_ok _ _ _) rfl ?_
  | refine NS.ite (fun _=>?_) (fun _=>?_)
  | refine NS.ret rfl rfl (LeA.of (congrArg A.bool ?_)))
 all_goals (simp_all [validId])
theorem validId_ok (x:Nid):FnOK Tryz.prog 118 [.agg x.cells] (.bool (validId x),none):=by
 refine fn_ok CN rfl (by kernel_rfl) Tryz.func118 rfl ?_
 repeat' (first
  | refine zG zE ?_
  | refine NS.call (in_ok _ _ _) rfl ?_
  | refine NS.ite (fun _=>?_) (fun _=>?_)
  | refine NS.ret rfl rfl (LeA.of (congrArg A.bool ?_)))
 all_goals (simp_all [validId])
theorem jItem_ok (x:Itm):FnOK Tryz.prog 130 [.agg x.cells] (.int .i64 (itemErr x),none):=by
 refine fn_ok CN rfl (by kernel_rfl) Tryz.func130 rfl ?_
 repeat' (first
  | refine zG zE ?_
  | refine NS.call (checkId_ok x.id) rfl ?_
  | refine NS.call (within_ok _ _ _) rfl ?_
  | refine NS.ite (fun _=>?_) (fun _=>?_)
  | refine NS.ret rfl rfl (LeA.of (congrArg (A.int .i64) ?_)))
 all_goals (simp_all [itemErr])
theorem rItem_ok (x:Itm):FnOK Tryz.prog 168 [.agg x.cells] (.int .i64 (itemErr x),none):=by
 refine fn_ok CN rfl (by kernel_rfl) Tryz.func168 rfl ?_
 repeat' (first
  | refine zG zE ?_
  | refine NS.call (validId_ok x.id) rfl ?_
  | refine NS.call (in_ok _ _ _) rfl ?_
  | refine NS.ite (fun _=>?_) (fun _=>?_)
  | refine NS.ret rfl rfl (LeA.of (congrArg (A.int .i64) ?_)))
 all_goals (simp_all [itemErr])
 all_goals (simp [inR] at *;omega)
set_option maxHeartbeats 1000000
theorem jCheck_ok (r:Jrec):FnOK Tryz.prog 80 [.agg r.cells] (.int .i64 (recErr r),none):=by
 refine fn_ok CN rfl (by kernel_rfl) Tryz.func80 rfl ?_
 repeat' (first
  | refine zG zE ?_
  | refine NS.call (jItem_ok r.item) rfl ?_
  | refine NS.call (checkId_ok r.id) rfl ?_
  | refine NS.call (within_ok _ _ _) rfl ?_
  | refine NS.ite (fun _=>?_) (fun _=>?_)
  | refine NS.ret rfl rfl (LeA.of (congrArg (A.int .i64) ?_)))
 all_goals (simp_all [recErr,Nid.eqv,Itm.eqv,Nid.zero,Itm.zero])
theorem rCheck_ok (r:Jrec):FnOK Tryz.prog 105 [.agg r.cells] (.int .i64 (recErr r),none):=by
 refine fn_ok CN rfl (by kernel_rfl) Tryz.func105 rfl ?_
 repeat' (first
  | refine zG zE ?_
  | refine NS.call (rItem_ok r.item) rfl ?_
  | refine NS.call (validId_ok r.id) rfl ?_
  | refine NS.call (in_ok _ _ _) rfl ?_
  | refine NS.ite (fun _=>?_) (fun _=>?_)
  | refine NS.ret rfl rfl (LeA.of (congrArg (A.int .i64) ?_)))
 all_goals (simp_all [recErr,Nid.eqv,Itm.eqv,Nid.zero,Itm.zero])
theorem ren_cells (σ:Nat -> Nat) (x:Nid):RenL σ x.cells x.cells:=⟨_,_,rfl,rfl,_,_,rfl,rfl,_,_,rfl,rfl,_,_,rfl,rfl,_,_,rfl,rfl,rfl⟩
theorem index1_ok (x:Itm) (id:Nid):FnOK Tryz.prog 140 [.agg x.cells,.ip 5 (getA id.cells)] (.bool (hasId id x),none):=by
 refine fn_ok CN rfl (by kernel_rfl) Tryz.func140 rfl ?_
 exact zG zE (NS.ret rfl rfl (LeA.refl _))
theorem idxId_ok (l:List Itm) (id:Nid) (hl:l.length <= 1000000):FnOK Tryz.prog 84 [slI l,.fn 140 [.ip 5 (getA id.cells)]] (.int .i64 (idx (hasId id) l),none):=by
 refine fn_ok CN rfl (by kernel_rfl) Tryz.func84 rfl ?_
 refine zG zE ?_
 refine NS.loop (σ:={ k:Nat // k <= l.length /\ ∀ i,i < k -> hasId id (l.getD i default) = false }) (fun k=>[(0,slI l),(1,.fn 140 [.ip 5 (getA id.cells)]),(7,.int .i64 l.length),(8,.int .i64 k.1)]) (fun _=>[]) (fun k=>l.length - k.1) ⟨0,Nat.zero_le _,fun i hi=>by omega⟩ ?_ ?_
 ·exact weak_hd [] rfl ⟨rfl,rfl,rfl,rfl,trivial⟩ trivial trivial (by kernel_rfl)
 ·rintro ⟨k,hk,hn⟩
  refine zG zE (NS.ite (fun h=>?_) (fun h=>?_))
  ·simp at h
   refine zG zE (NS.need (by simp;omega) ?_)
   refine zG zE (NS.call (index1_ok (l.getD k default) id) rfl ?_)
   refine zG zE (NS.ite (fun h2=>?_) (fun h2=>?_))
   ·refine zG zE (NS.leaveOut rfl zE (NS.ret rfl rfl (LeA.of (congrArg (A.int .i64) ?_))))
    exact (idx_found (by omega) h2 hn).symm
   ·refine zG zE (NS.next ⟨k + 1,by omega,fun i hi=>?_⟩ (by simp;omega) ?_)
    ·by_cases hik:i = k
     ·subst hik;exact h2
     ·exact hn i (by omega)
    ·exact weak_hd [] rfl ⟨rfl,rfl,rfl,ren_int rfl (i64_k (by omega) (by omega)),trivial⟩ trivial trivial (by kernel_rfl)
  ·simp at h
   refine zG zE (NS.leave rfl zE ?_)
   refine zG zE (NS.ret rfl rfl (LeA.of (congrArg (A.int .i64) ?_)))
   exact (idx_none fun i hi=>hn i (by omega)).symm
theorem index_ok (l:List Itm) (id:Nid) (hl:l.length <= 1000000):FnOK Tryz.prog 85 [slI l,.agg id.cells] (.int .i64 (idx (hasId id) l),none):=by
 refine fn_ok CN rfl (by kernel_rfl) Tryz.func85 rfl ?_
 refine zG zE (NS.call (idxId_ok l id hl) rfl ?_)
 exact zG zE (NS.ret rfl rfl (LeA.refl _))
theorem rIndex_ok (l:List Itm) (id:Nid) (hl:l.length <= 1000000):FnOK Tryz.prog 108 [slI l,.agg id.cells] (.int .i64 (idx (hasId id) l),none):=by
 refine fn_ok CN rfl (by kernel_rfl) Tryz.func108 rfl ?_
 refine zG zE ?_
 refine NS.loop (σ:={ k:Nat // k <= l.length /\ ∀ i,i < k -> hasId id (l.getD i default) = false }) (fun k=>[(0,slI l),(3,.ptr 3 0),(5,.int .i64 k.1)]) (fun _=>[(3,.box id.cells)]) (fun k=>l.length - k.1) ⟨0,Nat.zero_le _,fun i hi=>by omega⟩ ?_ ?_
 ·exact weak_hd [] rfl ⟨rfl,rfl,rfl,trivial⟩ ⟨⟨_,rfl,ren_cells _ _⟩,trivial⟩ trivial (by kernel_rfl)
 ·rintro ⟨k,hk,hn⟩
  refine zG zE (NS.ite (fun h=>?_) (fun h=>?_))
  ·simp at h
   refine zG zE (NS.chk (by kernel_rfl) ?_)
   refine zG zE (NS.need (by simp;omega) ?_)
   refine zG zE (NS.ite (fun h2=>?_) (fun h2=>?_))
   ·refine zG zE (NS.leaveOut rfl zE (NS.ret rfl rfl (LeA.of (congrArg (A.int .i64) ?_))))
    exact (idx_found (by omega) h2 hn).symm
   ·refine zG zE (NS.next ⟨k + 1,by omega,fun i hi=>?_⟩ (by simp;omega) ?_)
    ·by_cases hik:i = k
     ·subst hik;exact h2
     ·exact hn i (by omega)
    ·exact weak_hd [] rfl ⟨rfl,rfl,ren_int rfl (i64_k (by omega) (by omega)),trivial⟩ ⟨⟨_,rfl,ren_cells _ _⟩,trivial⟩ trivial (by kernel_rfl)
  ·simp at h
   refine zG zE (NS.leave rfl zE ?_)
   refine zG zE (NS.ret rfl rfl (LeA.of (congrArg (A.int .i64) ?_)))
   exact (idx_none fun i hi=>hn i (by omega)).symm
theorem validItem_ok (x:Itm):FnOK Tryz.prog 193 [.agg x.cells] (.bool (okItem x),none):=by
 refine fn_ok CN rfl (by kernel_rfl) Tryz.func193 rfl ?_
 refine zG zE (NS.call (jCheck_ok ⟨1,x,.zero,0,0⟩) rfl ?_)
 exact zG zE (NS.ret rfl rfl (LeA.of (congrArg A.bool (recErr_store x))))
theorem rValidItem_ok (x:Itm):FnOK Tryz.prog 117 [.agg x.cells] (.bool (okItem x),none):=by
 refine fn_ok CN rfl (by kernel_rfl) Tryz.func117 rfl ?_
 refine zG zE (NS.call (rItem_ok x) rfl ?_)
 exact zG zE (NS.ret rfl rfl (LeA.refl _))
theorem bad_ok (x:Itm):FnOK Tryz.prog 192 [.agg x.cells] (.bool (badItem x),none):=by
 refine fn_ok CN rfl (by kernel_rfl) Tryz.func192 rfl ?_
 refine zG zE (NS.call (validItem_ok x) rfl ?_)
 exact zG zE (NS.ret rfl rfl (LeA.refl _))
theorem idxBad_ok (l:List Itm) (hl:l.length <= 1000000):FnOK Tryz.prog 84 [slI l,.fn 192 []] (.int .i64 (idx badItem l),none):=by
 refine fn_ok CN rfl (by kernel_rfl) Tryz.func84 rfl ?_
 refine zG zE ?_
 refine NS.loop (σ:={ k:Nat // k <= l.length /\ ∀ i,i < k -> badItem (l.getD i default) = false }) (fun k=>[(0,slI l),(1,.fn 192 []),(7,.int .i64 l.length),(8,.int .i64 k.1)]) (fun _=>[]) (fun k=>l.length - k.1) ⟨0,Nat.zero_le _,fun i hi=>by omega⟩ ?_ ?_
 ·exact weak_hd [] rfl ⟨rfl,rfl,rfl,rfl,trivial⟩ trivial trivial (by kernel_rfl)
 ·rintro ⟨k,hk,hn⟩
  refine zG zE (NS.ite (fun h=>?_) (fun h=>?_))
  ·simp at h
   refine zG zE (NS.need (by simp;omega) ?_)
   refine zG zE (NS.call (bad_ok (l.getD k default)) rfl ?_)
   refine zG zE (NS.ite (fun h2=>?_) (fun h2=>?_))
   ·refine zG zE (NS.leaveOut rfl zE (NS.ret rfl rfl (LeA.of (congrArg (A.int .i64) ?_))))
    exact (idx_found (by omega) h2 hn).symm
   ·refine zG zE (NS.next ⟨k + 1,by omega,fun i hi=>?_⟩ (by simp;omega) ?_)
    ·by_cases hik:i = k
     ·subst hik;exact h2
     ·exact hn i (by omega)
    ·exact weak_hd [] rfl ⟨rfl,rfl,rfl,ren_int rfl (i64_k (by omega) (by omega)),trivial⟩ trivial trivial (by kernel_rfl)
  ·simp at h
   refine zG zE (NS.leave rfl zE ?_)
   refine zG zE (NS.ret rfl rfl (LeA.of (congrArg (A.int .i64) ?_)))
   exact (idx_none fun i hi=>hn i (by omega)).symm
theorem idx_any {α:Type} [Inhabited α] (p:α -> Bool) (l:List α):decide (idx p l >= 0) = l.any p:=by
 have:=idx_neg p l
 cases h:l.any p with
 | false=>have:=this.2 h;simp;omega
 | true=>rw [h] at this;simp;simp at this;omega
theorem anyBad_ok (l:List Itm) (hl:l.length <= 1000000):FnOK Tryz.prog 42 [slI l,.fn 192 []] (.bool (l.any badItem),none):=by
 refine fn_ok CN rfl (by kernel_rfl) Tryz.func42 rfl ?_
 refine zG zE (NS.call (idxBad_ok l hl) rfl ?_)
 exact zG zE (NS.ret rfl rfl (LeA.of (congrArg A.bool (idx_any _ _))))
theorem twice_ok (l:List Itm) (hl:l.length <= 1000000):FnOK Tryz.prog 194 [slI l] (.bool (twiceM l),none):=by
 refine fn_ok CN rfl (by kernel_rfl) Tryz.func194 rfl ?_
 refine zG zE ?_
 refine NS.loop (σ:={ k:Nat // k <= l.length /\ ∀ i,i < k -> idx (hasId (l.getD i default).id) l = (i:Int) }) (fun k=>[(0,slI l),(5,slI l),(6,.int .i64 l.length),(7,.int .i64 k.1)]) (fun _=>[]) (fun k=>l.length - k.1) ⟨0,Nat.zero_le _,fun i hi=>by omega⟩ ?_ ?_
 ·exact weak_hd [] rfl ⟨rfl,rfl,rfl,rfl,trivial⟩ trivial trivial (by kernel_rfl)
 ·rintro ⟨k,hk,hn⟩
  refine zG zE (NS.ite (fun h=>?_) (fun h=>?_))
  ·simp at h
   refine zG zE (NS.need (by simp;omega) ?_)
   refine zG zE (NS.call (index_ok l (l.getD k default).id hl) rfl ?_)
   have hle:=idx_le (p:=hasId (l.getD k default).id) (l:=l) (k:=k) (by omega) (hasId_self _)
   refine zG zE (NS.ite (fun h2=>?_) (fun h2=>?_))
   ·simp only [decide_eq_true_eq] at h2
    refine zG zE (NS.leaveOut rfl zE (NS.ret rfl rfl (LeA.of (congrArg A.bool ?_))))
    exact (twice_t (k:=k) (by omega) (by omega)).symm
   ·simp only [decide_eq_false_iff_not] at h2
    refine zG zE (NS.next ⟨k + 1,by omega,fun i hi=>?_⟩ (by simp;omega) ?_)
    ·by_cases hik:i = k
     ·subst hik;omega
     ·exact hn i (by omega)
    ·exact weak_hd [] rfl ⟨rfl,rfl,rfl,ren_int rfl (i64_k (by omega) (by omega)),trivial⟩ trivial trivial (by kernel_rfl)
  ·simp at h
   refine zG zE (NS.leave rfl zE ?_)
   refine zG zE (NS.ret rfl rfl (LeA.of (congrArg A.bool ?_)))
   exact (twice_f fun i hi=>hn i (by omega)).symm
theorem rTwice_ok (l:List Itm) (hl:l.length <= 1000000):FnOK Tryz.prog 201 [slI l] (.bool (twiceM l),none):=by
 refine fn_ok CN rfl (by kernel_rfl) Tryz.func201 rfl ?_
 refine zG zE ?_
 refine NS.loop (σ:={ k:Nat // k <= l.length /\ ∀ i,i < k -> idx (hasId (l.getD i default).id) l = (i:Int) }) (fun k=>[(0,slI l),(3,.int .i64 k.1)]) (fun _=>[]) (fun k=>l.length - k.1) ⟨0,Nat.zero_le _,fun i hi=>by omega⟩ ?_ ?_
 ·exact weak_hd [] rfl ⟨rfl,rfl,trivial⟩ trivial trivial (by kernel_rfl)
 ·rintro ⟨k,hk,hn⟩
  refine zG zE (NS.ite (fun h=>?_) (fun h=>?_))
  ·simp at h
   refine zG zE (NS.need (by simp;omega) ?_)
   refine zG zE (NS.call (rIndex_ok l (l.getD k default).id hl) rfl ?_)
   refine zG zE (NS.ite (fun h2=>?_) (fun h2=>?_))
   ·simp only [bne_iff_ne,ne_eq] at h2
    refine zG zE (NS.leaveOut rfl zE (NS.ret rfl rfl (LeA.of (congrArg A.bool ?_))))
    exact (twice_t (k:=k) (by omega) h2).symm
   ·simp only [bne_eq_false_iff_eq] at h2
    refine zG zE (NS.next ⟨k + 1,by omega,fun i hi=>?_⟩ (by simp;omega) ?_)
    ·by_cases hik:i = k
     ·subst hik;exact h2
     ·exact hn i (by omega)
    ·exact weak_hd [] rfl ⟨rfl,ren_int rfl (i64_k (by omega) (by omega)),trivial⟩ trivial trivial (by kernel_rfl)
  ·simp at h
   refine zG zE (NS.leave rfl zE ?_)
   refine zG zE (NS.ret rfl rfl (LeA.of (congrArg A.bool ?_)))
   exact (twice_f fun i hi=>hn i (by omega)).symm
theorem all_f {α:Type} [Inhabited α] {p:α -> Bool} {l:List α} {k:Nat} (h:k < l.length) (hp:p (l.getD k default) = false):l.all p = false:=by
 rw [List.all_eq_false];exact ⟨l.getD k default,by rw [getD_lt h];exact List.getElem_mem h,by simp only [hp];simp⟩
theorem all_t {α:Type} [Inhabited α] {p:α -> Bool} {l:List α} (hn:∀ k,k < l.length -> p (l.getD k default) = true):l.all p = true:=by
 rw [List.all_eq_true]
 intro x hx
 obtain ⟨i,hi,rfl⟩:=List.getElem_of_mem hx
 have:=hn i hi
 rwa [getD_lt hi] at this
theorem rItems_ok (l:List Itm) (hl:l.length <= 1000000):FnOK Tryz.prog 200 [slI l] (.bool (l.all okItem),none):=by
 refine fn_ok CN rfl (by kernel_rfl) Tryz.func200 rfl ?_
 refine zG zE ?_
 refine NS.loop (σ:={ k:Nat // k <= l.length /\ ∀ i,i < k -> okItem (l.getD i default) = true }) (fun k=>[(0,slI l),(3,.int .i64 k.1)]) (fun _=>[]) (fun k=>l.length - k.1) ⟨0,Nat.zero_le _,fun i hi=>by omega⟩ ?_ ?_
 ·exact weak_hd [] rfl ⟨rfl,rfl,trivial⟩ trivial trivial (by kernel_rfl)
 ·rintro ⟨k,hk,hn⟩
  refine zG zE (NS.ite (fun h=>?_) (fun h=>?_))
  ·simp at h
   refine zG zE (NS.need (by simp;omega) ?_)
   refine zG zE (NS.call (rValidItem_ok (l.getD k default)) rfl ?_)
   refine zG zE (NS.ite (fun h2=>?_) (fun h2=>?_))
   ·simp only [Bool.not_eq_true'] at h2
    refine zG zE (NS.leaveOut rfl zE (NS.ret rfl rfl (LeA.of (congrArg A.bool ?_))))
    exact (all_f (k:=k) (by omega) h2).symm
   ·simp only [Bool.not_eq_false'] at h2
    refine zG zE (NS.next ⟨k + 1,by omega,fun i hi=>?_⟩ (by simp;omega) ?_)
    ·by_cases hik:i = k
     ·subst hik;exact h2
     ·exact hn i (by omega)
    ·exact weak_hd [] rfl ⟨rfl,ren_int rfl (i64_k (by omega) (by omega)),trivial⟩ trivial trivial (by kernel_rfl)
  ·simp at h
   refine zG zE (NS.leave rfl zE ?_)
   refine zG zE (NS.ret rfl rfl (LeA.of (congrArg A.bool ?_)))
   exact (all_t fun i hi=>hn i (by omega)).symm
theorem checkItems_ok (d:Dur) (h1:d.items.length <= 1000000) (h2:d.inbox.length <= 1000000):FnOK Tryz.prog 141 [.agg d.cells] (.int .i64 (checkM d),none):=by
 refine fn_ok CN rfl (by kernel_rfl) Tryz.func141 rfl ?_
 repeat' (first
  | refine zG zE ?_
  | refine NS.call (anyBad_ok d.items h1) rfl ?_
  | refine NS.call (anyBad_ok d.inbox h2) rfl ?_
  | refine NS.call (twice_ok d.items h1) rfl ?_
  | refine NS.call (twice_ok d.inbox h2) rfl ?_
  | refine NS.ite (fun _=>?_) (fun _=>?_)
  | refine NS.ret rfl rfl (LeA.of (congrArg (A.int .i64) ?_)))
 all_goals (simp only [checkM, *];simp)
theorem rValid_ok (d:Dur) (h1:d.items.length <= 1000000) (h2:d.inbox.length <= 1000000):FnOK Tryz.prog 146 [.agg d.cells] (.bool (validM d),none):=by
 refine fn_ok CN rfl (by kernel_rfl) Tryz.func146 rfl ?_
 repeat' (first
  | refine zG zE ?_
  | refine NS.call (rItems_ok d.items h1) rfl ?_
  | refine NS.call (rItems_ok d.inbox h2) rfl ?_
  | refine NS.call (rTwice_ok d.items h1) rfl ?_
  | refine NS.call (rTwice_ok d.inbox h2) rfl ?_
  | refine NS.ite (fun _=>?_) (fun _=>?_)
  | refine NS.ret rfl rfl (LeA.of (congrArg A.bool ?_)))
 all_goals (simp only [validM, *];simp)
theorem isQuota_ok (n:Int):FnOK Tryz.prog 156 [.int .i64 n] (.bool (inR n 0 1073741824),none):=by
 refine fn_ok CN rfl (by kernel_rfl) Tryz.func156 rfl ?_
 refine zG zE (NS.ite (fun h=>?_) (fun h=>?_))
 ·exact zG zE (NS.ret rfl rfl (LeA.of (congrArg A.bool (inR_t h))))
 ·exact zG zE (NS.ret rfl rfl (LeA.of (congrArg A.bool (inR_f h))))
theorem isTime_ok (n:Int):FnOK Tryz.prog 142 [.int .i64 n] (.bool (inR n 0 1099511627776),none):=by
 refine fn_ok CN rfl (by kernel_rfl) Tryz.func142 rfl ?_
 refine zG zE (NS.ite (fun h=>?_) (fun h=>?_))
 ·exact zG zE (NS.ret rfl rfl (LeA.of (congrArg A.bool (inR_t h))))
 ·exact zG zE (NS.ret rfl rfl (LeA.of (congrArg A.bool (inR_f h))))
theorem used_ok (d:Dur) (h1:d.items.length <= 1000000):FnOK Tryz.prog 33 [.agg d.cells] (.int .i64 (usedM d.items),none):=by
 refine fn_ok CN rfl (by kernel_rfl) Tryz.func33 rfl ?_
 refine zG zE ?_
 refine NS.loop (σ:={ k:Nat // k <= d.items.length }) (fun k=>[(3,.int .i64 (usedM (d.items.take k.1))),(7,slI d.items),(8,.int .i64 d.items.length),(9,.int .i64 k.1)]) (fun _=>[]) (fun k=>d.items.length - k.1) ⟨0,Nat.zero_le _⟩ ?_ ?_
 ·exact weak_hd [] rfl ⟨rfl,rfl,rfl,rfl,trivial⟩ trivial trivial (by kernel_rfl)
 ·rintro ⟨k,hk⟩
  refine zG zE (NS.ite (fun h=>?_) (fun h=>?_))
  ·simp at h
   refine zG zE (NS.need (by simp;omega) ?_)
   refine zG zE (NS.next ⟨k + 1,by omega⟩ (by simp;omega) ?_)
   refine weak_hd [] rfl ⟨ren_int rfl ?_,rfl,rfl,ren_int rfl (i64_k (by omega) (by omega)),trivial⟩ trivial trivial (by kernel_rfl)
   rw [take_snoc (by omega),used_snoc];rfl
  ·simp at h
   refine zG zE (NS.leave rfl zE ?_)
   refine zG zE (NS.ret rfl rfl (LeA.of (congrArg (A.int .i64) ?_)))
   rw [take_all (by omega)]
theorem rUsed_ok (d:Dur) (h1:d.items.length <= 1000000):FnOK Tryz.prog 70 [.agg d.cells] (.int .i64 (usedM d.items),none):=by
 refine fn_ok CN rfl (by kernel_rfl) Tryz.func70 rfl ?_
 refine zG zE ?_
 refine NS.loop (σ:={ k:Nat // k <= d.items.length }) (fun k=>[(1,.ptr 1 0),(3,.int .i64 (usedM (d.items.take k.1))),(4,.int .i64 k.1)]) (fun _=>[(1,.box d.cells)]) (fun k=>d.items.length - k.1) ⟨0,Nat.zero_le _⟩ ?_ ?_
 ·exact weak_hd [] rfl ⟨rfl,rfl,rfl,trivial⟩ ⟨⟨_,rfl,_,_,rfl,rfl,_,_,rfl,rfl,rfl⟩,trivial⟩ trivial (by kernel_rfl)
 ·rintro ⟨k,hk⟩
  refine zG zE (NS.ite (fun h=>?_) (fun h=>?_))
  ·simp at h
   refine zG zE (NS.need (by simp;omega) ?_)
   refine zG zE (NS.next ⟨k + 1,by omega⟩ (by simp;omega) ?_)
   refine weak_hd [] rfl ⟨rfl,ren_int rfl ?_,ren_int rfl (i64_k (by omega) (by omega)),trivial⟩ ⟨⟨_,rfl,_,_,rfl,rfl,_,_,rfl,rfl,rfl⟩,trivial⟩ trivial (by kernel_rfl)
   rw [take_snoc (by omega),used_snoc];rfl
  ·simp at h
   refine zG zE (NS.leave rfl zE ?_)
   refine zG zE (NS.ret rfl rfl (LeA.of (congrArg (A.int .i64) ?_)))
   rw [take_all (by omega)]
theorem row_one {α:Type} [Inhabited α] {cells:α -> List A} {x:α} {c:Nat} {cs:List A} (hcs:cs = cells x):∀ i,i < 1 -> ∀ j,j < c -> getA cs (i * c + j) = rowL cells [x] i j:=by
 intro i hi j hj
 have:i = 0:=by omega
 subst this
 rw [hcs];simp [rowL]
def putA (r:List Jrec × Int × Int):A:=.tup [slR r.1,.int .i64 r.2.1,.int .i64 r.2.2]
def remA (r:List Jrec × Int):A:=.tup [slR r.1,.int .i64 r.2]
theorem put_le {r:List Jrec × Int × Int} {l:List Jrec} {n e:Int} {x:A} (h:r = (l,n,e)) (hx:LeA x (slR l)):LeA (.tup [x,.int .i64 n,.int .i64 e]) (putA r):=by
 subst h;exact LeA.tup3 hx (LeA.refl _) (LeA.refl _)
theorem rem_le {r:List Jrec × Int} {l:List Jrec} {e:Int} {x:A} (h:r = (l,e)) (hx:LeA x (slR l)):LeA (.tup [x,.int .i64 e]) (remA r):=by
 subst h;exact LeA.tup2 hx (LeA.refl _)
theorem flat_getA {cs:List A} (h:allL (flat 3) cs = true) (j:Nat):flat 3 (getA cs j) = true:=by
 induction cs generalizing j with
 | nil=>rfl
 | cons a l ih=>
  simp only [allL,Bool.and_eq_true] at h
  cases j with
  | zero=>exact h.1
  | succ j=>exact ih h.2 j
theorem flatR (l:List Jrec) (i j:Nat):flat 3 (rowL Jrec.cells l i j) = true:=flat_getA rfl j
theorem flatI (l:List Itm) (i j:Nat):flat 3 (rowL Itm.cells l i j) = true:=flat_getA rfl j
theorem record_ok (kind:Int) (x:Itm) (now:Int):FnOK Tryz.prog 215 [.int .i64 kind,.ip 11 (getA x.cells),.ip 1 (getA [.int .i64 now])] (.own 0,some (.row 101 19 1 (rowL Jrec.cells [⟨kind,x,.zero,0,now⟩]))):=by
 refine fn_ok CN rfl (by kernel_rfl) Tryz.func215 rfl ?_
 exact zG zE (NS.retRow 9 rfl rfl (LeA.refl _) ⟨rfl,rfl,rfl,row_one rfl⟩ fun _ _ _ _=>flatR _ _ _)
theorem put_ok (d:Dur) (self quota:Int) (x:Itm) (now:Int) (h1:d.items.length <= 1000000) (h2:d.inbox.length <= 1000000):FnOK Tryz.prog 171 [.agg d.cells,.int .i64 self,.int .i64 quota,.agg x.cells,.int .i64 now] (putA (putM d self quota x now),none):=by
 refine fn_ok CN rfl (by kernel_rfl) Tryz.func171 rfl ?_
 repeat' (first
  | refine zG zE ?_
  | refine NS.call (checkItems_ok d h1 h2) rfl ?_
  | refine NS.call (validItem_ok x) rfl ?_
  | refine NS.call (isQuota_ok quota) rfl ?_
  | refine NS.call (isTime_ok now) rfl ?_
  | refine NS.call (index_ok d.items x.id h1) rfl ?_
  | refine NS.call (index_ok d.inbox x.id h2) rfl ?_
  | refine NS.call (used_ok d h1) rfl ?_
  | refine NS.call (record_ok _ x now) rfl ?_
  | refine NS.chk (by kernel_rfl) ?_
  | refine NS.ite (fun _=>?_) (fun _=>?_)
  | refine NS.ret rfl rfl (put_le (l:=[]) ?_ (LeA.nil' rfl))
  | refine NS.ret rfl rfl (put_le (l:=[⟨_,x,.zero,0,now⟩]) ?_ (LeA.refl _)))
 all_goals (simp_all [putM])
 all_goals ((repeat' split) <;> first | rfl | omega | (exfalso;omega))
theorem expire_ok (d:Dur) (now:Int) (h1:d.items.length <= 1000000) (h2:d.inbox.length <= 1000000):FnOK Tryz.prog 89 [.agg d.cells,.int .i64 now] (remA (expireM d now),none):=by
 refine fn_ok CN rfl (by kernel_rfl) Tryz.func89 rfl ?_
 refine zG zE (NS.call (checkItems_ok d h1 h2) rfl ?_)
 refine zG zE (NS.ite (fun a1=>?_) (fun a1=>?_))
 ·refine zG zE (NS.ret rfl rfl (rem_le (l:=[]) ?_ (LeA.nil' rfl)))
  simp_all [expireM]
 refine zG zE (NS.call (isTime_ok now) rfl ?_)
 refine zG zE (NS.ite (fun a2=>?_) (fun a2=>?_))
 ·refine zG zE (NS.ret rfl rfl (rem_le (l:=[]) ?_ (LeA.nil' rfl)))
  simp_all [expireM]
 have hres:expireM d now = (expRecs now d.items,0):=by simp_all [expireM]
 refine zG zE ?_
 refine NS.loop (σ:={ k:Nat // k <= d.items.length }) (fun k=>[(1,.int .i64 now),(6,.own 6),(16,slI d.items),(17,.int .i64 d.items.length),(18,.int .i64 k.1)]) (fun k=>[(6,.row 101 19 (expRecs now (d.items.take k.1)).length (rowL Jrec.cells (expRecs now (d.items.take k.1))))]) (fun k=>d.items.length - k.1) ⟨0,Nat.zero_le _⟩ ?_ ?_
 ·exact (weak_promote 6 6 101 19 (rowL Jrec.cells []) rfl rfl).trans (weak_hd [] rfl ⟨rfl,rfl,rfl,rfl,rfl,trivial⟩ ⟨ren_row rfl rfl fun _ _ _ _=>rfl,trivial⟩ trivial (by kernel_rfl))
 ·rintro ⟨k,hk⟩
  refine zG zE (NS.ite (fun h=>?_) (fun h=>?_))
  ·simp at h
   have hsn:expRecs now (d.items.take (k + 1)) = expRecs now (d.items.take k) ++ expRec now (d.items.getD k default):=by rw [take_snoc (by omega),expRecs_snoc]
   have hlen:=expRecs_len now (d.items.take k)
   simp only [List.length_take] at hlen
   refine zG zE (NS.need (by simp;omega) ?_)
   refine zG zE (NS.ite (fun h3=>?_) (fun h3=>?_))
   ·have hx:expRec now (d.items.getD k default) = [⟨2,.zero,(d.items.getD k default).id,0,now⟩]:=by
     unfold expRec;rw [if_pos (by simpa using h3)]
    rw [hx] at hsn
    refine zG zE (NS.need (decide_eq_true (by simp only [maxRow];omega)) ?_)
    refine zG zE (NS.next ⟨k + 1,by omega⟩ (by simp;omega) ?_)
    refine weak_hd [(6,32)] rfl ⟨rfl,rfl,rfl,rfl,ren_int rfl (i64_k (by omega) (by omega)),trivial⟩ ⟨?_,trivial⟩ trivial (by kernel_rfl)
    rw [hsn]
    exact ren_row rfl (by simp) (fun i hi j hj=>row_snoc (cells:=Jrec.cells) (x:=⟨2,.zero,(d.items.getD k default).id,0,now⟩) rfl i (by simpa using hi) j hj)
   ·have hx:expRec now (d.items.getD k default) = []:=by
     unfold expRec;rw [if_neg (by simpa using h3)]
    rw [hx,List.append_nil] at hsn
    refine zG zE (NS.next ⟨k + 1,by omega⟩ (by simp;omega) ?_)
    refine weak_hd [] rfl ⟨rfl,rfl,rfl,rfl,ren_int rfl (i64_k (by omega) (by omega)),trivial⟩ ⟨?_,trivial⟩ trivial (by kernel_rfl)
    rw [hsn]
    exact ren_row rfl rfl fun _ _ _ _=>rfl
  ·simp at h
   refine zG zE (NS.leave rfl zE ?_)
   refine zG zE (NS.ret rfl rfl (rem_le hres ?_))
   rw [take_all (by omega)]
   exact LeA.refl _
theorem not_t {b:Bool} (h:(!b) = true):b = false:=by cases b <;> first | rfl | cases h
theorem not_f {b:Bool} (h:(!b) = false):b = true:=by cases b <;> first | rfl | cases h
theorem rExpire_ok (d:Dur) (now:Int) (h1:d.items.length <= 1000000) (h2:d.inbox.length <= 1000000):FnOK Tryz.prog 92 [.agg d.cells,.int .i64 now] (remA (expireM d now),none):=by
 refine fn_ok CN rfl (by kernel_rfl) Tryz.func92 rfl ?_
 refine zG zE (NS.call (rValid_ok d h1 h2) rfl ?_)
 refine zG zE (NS.ite (fun a1=>?_) (fun a1=>?_))
 ·refine zG zE (NS.ret rfl rfl (rem_le (l:=[]) ?_ (LeA.nil' rfl)))
  simp_all [expireM,valid_check]
 refine zG zE (NS.ite (fun a2=>?_) (fun a2=>?_))
 ·refine zG zE (NS.ret rfl rfl (rem_le (l:=[]) ?_ (LeA.nil' rfl)))
  simp_all [expireM,valid_check,inR] <;> (intros;omega)
 refine zG zE (NS.ite (fun a3=>?_) (fun a3=>?_))
 ·refine zG zE (NS.ret rfl rfl (rem_le (l:=[]) ?_ (LeA.nil' rfl)))
  simp_all [expireM,valid_check,inR] <;> (intros;omega)
 have hres:expireM d now = (expRecs now d.items,0):=by simp_all [expireM,valid_check,inR] <;> (intros;omega)
 refine zG zE ?_
 refine NS.loop (σ:={ k:Nat // k <= d.items.length }) (fun k=>[(1,.int .i64 now),(2,.ptr 2 0),(6,.own 6),(7,.int .i64 k.1)]) (fun k=>[(2,.box d.cells),(6,.row 101 19 (expRecs now (d.items.take k.1)).length (rowL Jrec.cells (expRecs now (d.items.take k.1))))]) (fun k=>d.items.length - k.1) ⟨0,Nat.zero_le _⟩ ?_ ?_
 ·exact (weak_promote 6 6 101 19 (rowL Jrec.cells []) rfl rfl).trans (weak_hd [] rfl ⟨rfl,rfl,rfl,rfl,trivial⟩ ⟨⟨_,rfl,_,_,rfl,rfl,_,_,rfl,rfl,rfl⟩,ren_row rfl rfl fun _ _ _ _=>rfl,trivial⟩ trivial (by kernel_rfl))
 ·rintro ⟨k,hk⟩
  refine zG zE (NS.ite (fun h=>?_) (fun h=>?_))
  ·simp at h
   have hsn:expRecs now (d.items.take (k + 1)) = expRecs now (d.items.take k) ++ expRec now (d.items.getD k default):=by rw [take_snoc (by omega),expRecs_snoc]
   have hlen:=expRecs_len now (d.items.take k)
   simp only [List.length_take] at hlen
   refine zG zE (NS.need (by simp;omega) ?_)
   refine zG zE (NS.ite (fun h3=>?_) (fun h3=>?_))
   ·have hx:expRec now (d.items.getD k default) = [⟨2,.zero,(d.items.getD k default).id,0,now⟩]:=by
     unfold expRec;rw [if_pos (by simpa using h3)]
    rw [hx] at hsn
    refine zG zE (NS.need (by simp;omega) ?_)
    refine zG zE (NS.need (decide_eq_true (by simp only [maxRow];omega)) ?_)
    refine zG zE (NS.next ⟨k + 1,by omega⟩ (by simp;omega) ?_)
    refine weak_hd [(6,42)] rfl ⟨rfl,rfl,rfl,ren_int rfl (i64_k (by omega) (by omega)),trivial⟩ ⟨⟨_,rfl,_,_,rfl,rfl,_,_,rfl,rfl,rfl⟩,?_,trivial⟩ trivial (by kernel_rfl)
    rw [hsn]
    exact ren_row rfl (by simp) (fun i hi j hj=>row_snoc (cells:=Jrec.cells) (x:=⟨2,.zero,(d.items.getD k default).id,0,now⟩) rfl i (by simpa using hi) j hj)
   ·have hx:expRec now (d.items.getD k default) = []:=by
     unfold expRec;rw [if_neg (by simpa using h3)]
    rw [hx,List.append_nil] at hsn
    refine zG zE (NS.next ⟨k + 1,by omega⟩ (by simp;omega) ?_)
    refine weak_hd [] rfl ⟨rfl,rfl,rfl,ren_int rfl (i64_k (by omega) (by omega)),trivial⟩ ⟨⟨_,rfl,_,_,rfl,rfl,_,_,rfl,rfl,rfl⟩,?_,trivial⟩ trivial (by kernel_rfl)
    rw [hsn]
    exact ren_row rfl rfl fun _ _ _ _=>rfl
  ·simp at h
   refine zG zE (NS.leave rfl zE ?_)
   refine zG zE (NS.ret rfl rfl (rem_le hres ?_))
   rw [take_all (by omega)]
   exact LeA.refl _
theorem sameItems_ok (l m:List Itm) (hl:l.length <= 1000000):FnOK Tryz.prog 41 [slI l,slI m] (.bool (sameBy Itm.eqv l m),none):=by
 refine fn_ok CN rfl (by kernel_rfl) Tryz.func41 rfl ?_
 refine zG zE (NS.ite (fun h0=>?_) (fun h0=>?_))
 ·refine zG zE (NS.ret rfl rfl (LeA.of (congrArg A.bool ?_)))
  exact (sameBy_len (fun _ _=>Itm.eqv_iff) (by intro e;rw [e] at h0;simp at h0)).symm
 have hlm:l.length = m.length:=by simp only [bne_eq_false_iff_eq] at h0;omega
 refine zG zE ?_
 refine NS.loop (σ:={ k:Nat // k <= l.length /\ ∀ i,i < k -> Itm.eqv (l.getD i default) (m.getD i default) = true }) (fun k=>[(0,slI l),(1,slI m),(5,.int .i64 k.1)]) (fun _=>[]) (fun k=>l.length - k.1) ⟨0,Nat.zero_le _,fun i hi=>by omega⟩ ?_ ?_
 ·exact weak_hd [] rfl ⟨rfl,rfl,rfl,trivial⟩ trivial trivial (by kernel_rfl)
 ·rintro ⟨k,hk,hn⟩
  refine zG zE (NS.ite (fun h=>?_) (fun h=>?_))
  ·simp at h
   refine zG zE (NS.chk (by kernel_rfl) ?_)
   refine zG zE (NS.need (by simp;omega) ?_)
   refine zG zE (NS.need (by simp;omega) ?_)
   refine zG zE (NS.ite (fun h2=>?_) (fun h2=>?_))
   ·refine zG zE (NS.leaveOut rfl zE (NS.ret rfl rfl (LeA.of (congrArg A.bool ?_))))
    refine (sameBy_f (k:=k) (fun _ _=>Itm.eqv_iff) ?_).symm
    exact not_t h2
   ·refine zG zE (NS.next ⟨k + 1,by omega,fun i hi=>?_⟩ (by simp;omega) ?_)
    ·by_cases hik:i = k
     ·subst hik;exact not_f h2
     ·exact hn i (by omega)
    ·exact weak_hd [] rfl ⟨rfl,rfl,ren_int rfl (i64_k (by omega) (by omega)),trivial⟩ trivial trivial (by kernel_rfl)
  ·simp at h
   refine zG zE (NS.leave rfl zE ?_)
   refine zG zE (NS.ret rfl rfl (LeA.of (congrArg A.bool ?_)))
   exact (sameBy_t (fun _ _=>Itm.eqv_iff) hlm fun i hi=>hn i (by omega)).symm
def sameD (a b:Dur):Bool:=sameBy Itm.eqv a.items b.items && sameBy Itm.eqv a.inbox b.inbox
theorem sameD_iff {a b:Dur}:sameD a b = true ↔ a = b:=by
 obtain ⟨a1,a2⟩:=a;obtain ⟨b1,b2⟩:=b
 simp [sameD,sameBy_iff fun _ _=>Itm.eqv_iff]
theorem same_ok (a b:Dur) (h1:a.items.length <= 1000000) (h2:a.inbox.length <= 1000000):FnOK Tryz.prog 32 [.agg a.cells,.agg b.cells] (.bool (sameD a b),none):=by
 refine fn_ok CN rfl (by kernel_rfl) Tryz.func32 rfl ?_
 repeat' (first
  | refine zG zE ?_
  | refine NS.call (sameItems_ok a.items b.items h1) rfl ?_
  | refine NS.call (sameItems_ok a.inbox b.inbox h2) rfl ?_
  | refine NS.ite (fun _=>?_) (fun _=>?_)
  | refine NS.ret rfl rfl (LeA.of (congrArg A.bool ?_)))
 all_goals (simp only [sameD, *];simp)
def bigI (x:Itm):Bool:=decide ((x.data.size:Int) > 100)
def greatD (d:Dur):Bool:=decide ((d.items.length:Int) > 12) || decide ((d.inbox.length:Int) > 12) || d.items.any bigI || d.inbox.any bigI
theorem any_t {α:Type} [Inhabited α] {p:α -> Bool} {l:List α} {k:Nat} (h:k < l.length) (hp:p (l.getD k default) = true):l.any p = true:=by
 rw [List.any_eq_true];exact ⟨l.getD k default,by rw [getD_lt h];exact List.getElem_mem h,hp⟩
theorem any_f {α:Type} [Inhabited α] {p:α -> Bool} {l:List α} (hn:∀ k,k < l.length -> p (l.getD k default) = false):l.any p = false:=by
 rw [List.any_eq_false]
 intro x hx
 obtain ⟨i,hi,rfl⟩:=List.getElem_of_mem hx
 have:=hn i hi
 rw [getD_lt hi] at this
 simp [this]
theorem great_ok (d:Dur):FnOK Tryz.prog 63 [.agg d.cells] (.bool (greatD d),none):=by
 refine fn_ok CN rfl (by kernel_rfl) Tryz.func63 rfl ?_
 refine zG zE (NS.ite (fun h0=>?_) (fun h0=>?_))
 ·refine zG zE (NS.ret rfl rfl (LeA.of (congrArg A.bool ?_)))
  simp only [greatD,h0];simp
 refine zG zE (NS.ite (fun h1=>?_) (fun h1=>?_))
 ·refine zG zE (NS.ret rfl rfl (LeA.of (congrArg A.bool ?_)))
  simp only [greatD,h0,h1];simp
 have b1:d.items.length <= 12:=by simp at h0;omega
 have b2:d.inbox.length <= 12:=by simp at h1;omega
 refine zG zE ?_
 refine NS.loop (σ:={ k:Nat // k <= d.items.length /\ ∀ i,i < k -> bigI (d.items.getD i default) = false }) (fun k=>[(1,.ptr 1 0),(3,.int .i64 k.1)]) (fun _=>[(1,.box d.cells)]) (fun k=>d.items.length - k.1) ⟨0,Nat.zero_le _,fun i hi=>by omega⟩ ?_ ?_
 ·exact weak_hd [] rfl ⟨rfl,rfl,trivial⟩ ⟨⟨_,rfl,_,_,rfl,rfl,_,_,rfl,rfl,rfl⟩,trivial⟩ trivial (by kernel_rfl)
 ·rintro ⟨k,hk,hn⟩
  refine zG zE (NS.ite (fun h=>?_) (fun h=>?_))
  ·simp at h
   refine zG zE (NS.need (by simp;omega) ?_)
   refine zG zE (NS.ite (fun h2=>?_) (fun h2=>?_))
   ·refine zG zE (NS.leaveOut rfl zE (NS.ret rfl rfl (LeA.of (congrArg A.bool ?_))))
    simp only [greatD,h0,h1,any_t (p:=bigI) (l:=d.items) (k:=k) (by omega) h2];simp
   ·refine zG zE (NS.next ⟨k + 1,by omega,fun i hi=>?_⟩ (by simp;omega) ?_)
    ·by_cases hik:i = k
     ·subst hik;exact h2
     ·exact hn i (by omega)
    ·exact weak_hd [] rfl ⟨rfl,ren_int rfl (i64_k (by omega) (by omega)),trivial⟩ ⟨⟨_,rfl,_,_,rfl,rfl,_,_,rfl,rfl,rfl⟩,trivial⟩ trivial (by kernel_rfl)
  ·simp at h
   refine zG zE (NS.leave rfl zE ?_)
   have ha:d.items.any bigI = false:=any_f fun i hi=>hn i (by omega)
   refine zG zE ?_
   refine NS.loop (σ:={ k:Nat // k <= d.inbox.length /\ ∀ i,i < k -> bigI (d.inbox.getD i default) = false }) (fun k=>[(1,.ptr 1 0),(4,.int .i64 k.1)]) (fun _=>[(1,.box d.cells)]) (fun k=>d.inbox.length - k.1) ⟨0,Nat.zero_le _,fun i hi=>by omega⟩ ?_ ?_
   ·exact weak_hd [] rfl ⟨rfl,rfl,trivial⟩ ⟨⟨_,rfl,_,_,rfl,rfl,_,_,rfl,rfl,rfl⟩,trivial⟩ trivial (by kernel_rfl)
   ·rintro ⟨k',hk',hn'⟩
    refine zG zE (NS.ite (fun h=>?_) (fun h=>?_))
    ·simp at h
     refine zG zE (NS.need (by simp;omega) ?_)
     refine zG zE (NS.ite (fun h2=>?_) (fun h2=>?_))
     ·refine zG zE (NS.leaveOut rfl zE (NS.ret rfl rfl (LeA.of (congrArg A.bool ?_))))
      simp only [greatD,h0,h1,any_t (p:=bigI) (l:=d.inbox) (k:=k') (by omega) h2];simp
     ·refine zG zE (NS.next ⟨k' + 1,by omega,fun i hi=>?_⟩ (by simp;omega) ?_)
      ·by_cases hik:i = k'
       ·subst hik;exact h2
       ·exact hn' i (by omega)
      ·exact weak_hd [] rfl ⟨rfl,ren_int rfl (i64_k (by omega) (by omega)),trivial⟩ ⟨⟨_,rfl,_,_,rfl,rfl,_,_,rfl,rfl,rfl⟩,trivial⟩ trivial (by kernel_rfl)
    ·simp at h
     refine zG zE (NS.leave rfl zE ?_)
     refine zG zE (NS.ret rfl rfl (LeA.of (congrArg A.bool ?_)))
     have hb:d.inbox.any bigI = false:=any_f fun i hi=>hn' i (by omega)
     simp only [greatD,h0,h1,ha,hb];simp
theorem clone_ok (l:List Itm) (hl:l.length <= 1000000):FnOK Tryz.prog 139 [slI l] (.own 0,some (.row 41 11 l.length (rowL Itm.cells l))):=by
 refine fn_ok CN rfl (by kernel_rfl) Tryz.func139 rfl ?_
 have fin:∀ {t s fr nd},isV (nx CN t s fr) nd -> NS CN (RetP CN [ResultVar.tmp 2] (.own 0,some (.row 41 11 l.length (rowL Itm.cells l)))) nd -> Sat CN (RetP CN [ResultVar.tmp 2] (.own 0,some (.row 41 11 l.length (rowL Itm.cells l)))) t s fr:=fun h k=>Sat.go h k
 refine zG zE (NS.ite (fun h0=>?_) (fun h0=>?_))
 ·refine zG zE (NS.both ?_ ?_)
  ·exact zG zE (NS.retNil (by simpa using h0) rfl rfl)
  ·refine zG zE (NS.need (decide_eq_true (by simp only [maxRow];omega)) ?_)
   exact zG zE (NS.retRow 7 rfl rfl (LeA.refl _) ⟨rfl,rfl,by simp,fun i hi j hj=>by simp⟩ fun _ _ _ _=>flatI _ _ _)
 ·refine zG zE (NS.need (decide_eq_true (by simp only [maxRow];omega)) ?_)
  exact zG zE (NS.retRow 7 rfl rfl (LeA.refl _) ⟨rfl,rfl,by simp,fun i hi j hj=>by simp⟩ fun _ _ _ _=>flatI _ _ _)
theorem rClone_ok (l:List Itm) (hl:l.length <= 1000000):FnOK Tryz.prog 147 [slI l] (.own 0,some (.row 41 11 l.length (rowL Itm.cells l))):=by
 refine fn_ok CN rfl (by kernel_rfl) Tryz.func147 rfl ?_
 refine zG zE ?_
 refine NS.loop (σ:={ k:Nat // k <= l.length }) (fun k=>[(0,slI l),(3,.own 3),(4,.int .i64 k.1)]) (fun k=>[(3,.row 41 11 (l.take k.1).length (rowL Itm.cells (l.take k.1)))]) (fun k=>l.length - k.1) ⟨0,Nat.zero_le _⟩ ?_ ?_
 ·exact (weak_promote 3 3 41 11 (rowL Itm.cells []) rfl rfl).trans (weak_hd [] rfl ⟨rfl,rfl,rfl,trivial⟩ ⟨ren_row rfl rfl fun _ _ _ _=>rfl,trivial⟩ trivial (by kernel_rfl))
 ·rintro ⟨k,hk⟩
  refine zG zE (NS.ite (fun h=>?_) (fun h=>?_))
  ·simp at h
   have hsn:=take_snoc (l:=l) (k:=k) (by omega)
   have hlen:(l.take k).length = k:=by simp;omega
   refine zG zE (NS.need (by simp;omega) ?_)
   refine zG zE (NS.need (decide_eq_true (by simp only [maxRow];omega)) ?_)
   refine zG zE (NS.next ⟨k + 1,by omega⟩ (by simp;omega) ?_)
   refine weak_hd [(3,17)] rfl ⟨rfl,rfl,ren_int rfl (i64_k (by omega) (by omega)),trivial⟩ ⟨?_,trivial⟩ trivial (by kernel_rfl)
   rw [hsn]
   exact ren_row rfl (by simp) (fun i hi j hj=>row_snoc (cells:=Itm.cells) (x:=l.getD k default) rfl i (by simpa using hi) j hj)
  ·simp at h
   refine zG zE (NS.leave rfl zE ?_)
   refine zG zE (NS.retRow 3 rfl rfl (LeA.refl _) ⟨rfl,rfl,?_,fun i hi j hj=>?_⟩ fun _ _ _ _=>flatI _ _ _)
   ·rw [take_all (by omega)]
   ·rw [take_all (by omega)]
def withM (l:List Itm) (x:Itm):List Itm:=if idx (hasId x.id) l >= 0 then l else l ++ [x]
theorem with_ok (l:List Itm) (x:Itm) (hl:l.length <= 999999):FnOK Tryz.prog 133 [slI l,.agg x.cells] (slI (withM l x),none):=by
 refine fn_ok CN rfl (by kernel_rfl) Tryz.func133 rfl ?_
 refine zG zE (NS.call (index_ok l x.id (by omega)) rfl ?_)
 refine zG zE (NS.ite (fun h=>?_) (fun h=>?_))
 ·refine zG zE (NS.ret rfl rfl (LeA.of ?_))
  simp only [decide_eq_true_eq] at h
  unfold withM;rw [if_pos h];rfl
 ·simp only [decide_eq_false_iff_not] at h
  have hw:withM l x = l ++ [x]:=by unfold withM;rw [if_neg h]
  refine zG zE (NS.chk (by kernel_rfl) ?_)
  refine zG zE (NS.call (clone_ok l (by omega)) rfl ?_)
  refine zG zE (NS.need (decide_eq_true (by simp only [maxRow];omega)) ?_)
  rw [hw]
  exact zG zE (NS.ret rfl rfl (LeA.sl (by simp) (fun i hi j hj=>row_snoc (cells:=Itm.cells) (x:=x) rfl i hi j hj)))
def othersF (l:List Itm) (id:Nid):A:=.fn 191 [.ip 1 (getA [slI l]),.ip 5 (getA id.cells)]
theorem others_ok (l:List Itm) (id:Nid):FnOK Tryz.prog 136 [slI l,.agg id.cells] (othersF l id,none):=by
 refine fn_ok CN rfl (by kernel_rfl) Tryz.func136 rfl ?_
 exact zG zE (NS.ret rfl rfl (LeA.refl _))
def notId (id:Nid) (x:Itm):Bool:=!hasId id x
theorem filter_snoc {α:Type} [Inhabited α] {p:α -> Bool} {l:List α} {k:Nat} (h:k < l.length):(l.take (k + 1)).filter p = (l.take k).filter p ++ (if p (l.getD k default) then [l.getD k default] else []):=by
 rw [take_snoc h,List.filter_append,List.filter_cons]
 split <;> simp
noncomputable def CO:Cx:={ E:=EN,inl:=[191],ok:=EN_ok }
theorem appendSeq_ok (l:List Itm) (id:Nid) (hl:l.length <= 1000000):FnOK Tryz.prog 190 [.nils,othersF l id] (.own 0,some (.row 41 11 (l.filter (notId id)).length (rowL Itm.cells (l.filter (notId id))))):=by
 refine fn_ok CO rfl (by kernel_rfl) Tryz.func190 rfl ?_
 refine zG zE ?_
 refine NS.loop (σ:={ k:Nat // k <= l.length }) (fun k=>[(0,.yld 13),(2,.ip 5 (getA id.cells)),(6,slI l),(7,.int .i64 l.length),(8,.int .i64 k.1)]) (fun k=>[(2,.box [.own 14]),(14,.row 41 11 ((l.take k.1).filter (notId id)).length (rowL Itm.cells ((l.take k.1).filter (notId id))))]) (fun k=>l.length - k.1) ⟨0,Nat.zero_le _⟩ ?_ ?_
 ·exact (weak_promoteB 2 0 14 41 11 (rowL Itm.cells []) rfl rfl rfl).trans (weak_hd [] rfl ⟨rfl,rfl,rfl,rfl,rfl,trivial⟩ ⟨⟨_,rfl,_,_,rfl,rfl,rfl⟩,ren_row rfl rfl fun _ _ _ _=>rfl,trivial⟩ (by repeat' (first | exact trivial | refine ⟨.inr rfl,?_⟩ | refine ⟨.inl rfl,?_⟩)) (by kernel_rfl))
 ·rintro ⟨k,hk⟩
  have hlen:((l.take k).filter (notId id)).length <= 1000000:=Nat.le_trans (List.length_filter_le _ _) (by simp;omega)
  refine zG zE (NS.ite (fun h=>?_) (fun h=>?_))
  ·simp at h
   have hsn:=filter_snoc (p:=notId id) (l:=l) (k:=k) (by omega)
   refine zG zE (NS.need (by simp;omega) ?_)
   refine zG zE (NS.ite (fun h3=>?_) (fun h3=>?_))
   ·have hx:notId id (l.getD k default) = true:=h3
    rw [if_pos hx] at hsn
    refine zG zE (NS.need (decide_eq_true (by simp only [maxRow];omega)) ?_)
    refine zG zE (NS.next ⟨k + 1,by omega⟩ (by simp;omega) ?_)
    refine weak_hd [(14,48)] rfl ⟨rfl,rfl,rfl,rfl,ren_int rfl (i64_k (by omega) (by omega)),trivial⟩ ⟨⟨_,rfl,_,_,rfl,rfl,rfl⟩,?_,trivial⟩ (by repeat' (first | exact trivial | refine ⟨.inr rfl,?_⟩ | refine ⟨.inl rfl,?_⟩)) (by kernel_rfl)
    rw [hsn]
    exact ren_row rfl (by simp) (fun i hi j hj=>row_snoc (cells:=Itm.cells) (x:=l.getD k default) rfl i (by simpa using hi) j hj)
   ·have hx:¬ notId id (l.getD k default) = true:=by intro e;rw [show notId id (l.getD k default) = _ from rfl] at e;exact absurd e (by rw [Bool.not_eq_true];exact h3)
    rw [if_neg hx,List.append_nil] at hsn
    refine zG zE (NS.next ⟨k + 1,by omega⟩ (by simp;omega) ?_)
    refine weak_hd [] rfl ⟨rfl,rfl,rfl,rfl,ren_int rfl (i64_k (by omega) (by omega)),trivial⟩ ⟨⟨_,rfl,_,_,rfl,rfl,rfl⟩,?_,trivial⟩ (by repeat' (first | exact trivial | refine ⟨.inr rfl,?_⟩ | refine ⟨.inl rfl,?_⟩)) (by kernel_rfl)
    rw [hsn]
    exact ren_row rfl rfl fun _ _ _ _=>rfl
  ·simp at h
   refine zG zE (NS.leave rfl zE ?_)
   refine zG zE (NS.retRow 14 rfl rfl (LeA.refl _) ⟨rfl,rfl,?_,fun i hi j hj=>?_⟩ fun _ _ _ _=>flatI _ _ _)
   ·rw [take_all (by omega)]
   ·rw [take_all (by omega)]
theorem collect_ok (l:List Itm) (id:Nid) (hl:l.length <= 1000000):FnOK Tryz.prog 135 [othersF l id] (.own 0,some (.row 41 11 (l.filter (notId id)).length (rowL Itm.cells (l.filter (notId id))))):=by
 refine fn_ok CN rfl (by kernel_rfl) Tryz.func135 rfl ?_
 refine zG zE (NS.call (appendSeq_ok l id hl) rfl ?_)
 exact zG zE (NS.retRow 4 rfl rfl (LeA.refl _) ⟨rfl,rfl,rfl,fun _ _ _ _=>rfl⟩ fun _ _ _ _=>flatI _ _ _)
theorem agg2_le {a b:A} {d:Dur} (h1:LeA a (slI d.items)) (h2:LeA b (slI d.inbox)):LeA (.agg [a,b]) (.agg d.cells):=LeA.agg (.cons h1 (.cons h2 .nil))
theorem eff1_ok (d:Dur) (r:Jrec) (hl:d.items.length <= 999999):FnOK Tryz.prog 132 [.agg d.cells,.agg r.cells] (.agg (Dur.mk (withM d.items r.item) d.inbox).cells,none):=by
 refine fn_ok CN rfl (by kernel_rfl) Tryz.func132 rfl ?_
 refine zG zE (NS.call (with_ok d.items r.item hl) rfl ?_)
 exact zG zE (NS.ret rfl rfl (LeA.refl _))
theorem eff3_ok (d:Dur) (r:Jrec) (hl:d.inbox.length <= 999999):FnOK Tryz.prog 137 [.agg d.cells,.agg r.cells] (.agg (Dur.mk d.items (withM d.inbox r.item)).cells,none):=by
 refine fn_ok CN rfl (by kernel_rfl) Tryz.func137 rfl ?_
 refine zG zE (NS.call (with_ok d.inbox r.item hl) rfl ?_)
 exact zG zE (NS.ret rfl rfl (LeA.refl _))
theorem eff2_ok (d:Dur) (r:Jrec) (hl:d.items.length <= 999999):FnOK Tryz.prog 134 [.agg d.cells,.agg r.cells] (.agg (Dur.mk (d.items.filter (notId r.id)) d.inbox).cells,none):=by
 refine fn_ok CN rfl (by kernel_rfl) Tryz.func134 rfl ?_
 refine zG zE (NS.call (others_ok d.items r.id) rfl ?_)
 refine zG zE (NS.call (collect_ok d.items r.id (by omega)) rfl ?_)
 exact zG zE (NS.ret rfl rfl (LeA.refl _))
def setTick (l:List Itm) (id:Nid) (t:Int):List Itm:=if idx (hasId id) l >= 0 then l.modify (idx (hasId id) l).toNat (fun x=>{ x with ticket:=t }) else l
theorem getD_modify {α:Type} [Inhabited α] (l:List α) (k:Nat) (f:α -> α) (i:Nat) (hi:i < l.length):(l.modify k f).getD i default = if i = k then f (l.getD i default) else l.getD i default:=by
 simp only [List.getD,List.getElem?_modify]
 by_cases h:k = i
 ·subst h;simp [hi]
 ·have:i ≠ k:=fun e=>h e.symm
  simp [h,this]
theorem eff4_ok (d:Dur) (r:Jrec) (hl:d.items.length <= 999999):FnOK Tryz.prog 138 [.agg d.cells,.agg r.cells] (.agg (Dur.mk (setTick d.items r.id r.ticket) d.inbox).cells,none):=by
 have hx:=idx_lt (hasId r.id) d.items
 refine fn_ok CN rfl (by kernel_rfl) Tryz.func138 rfl ?_
 refine zG zE (NS.call (index_ok d.items r.id (by omega)) rfl ?_)
 refine zG zE (NS.ite (fun h=>?_) (fun h=>?_))
 ·simp only [decide_eq_true_eq] at h
  refine zG zE (NS.call (clone_ok d.items (by omega)) rfl ?_)
  refine zG zE (NS.need (decide_eq_true (by omega)) ?_)
  refine zG zE (NS.need (decide_eq_true (by omega)) ?_)
  refine zG zE (NS.ret rfl rfl (agg2_le ?_ (LeA.refl _)))
  have hs:setTick d.items r.id r.ticket = d.items.modify (idx (hasId r.id) d.items).toNat (fun x=>{ x with ticket:=r.ticket }):=by unfold setTick;rw [if_pos h]
  simp only [hs]
  refine LeA.sl (by simp) (fun i hi j hj=>?_)
  simp only [rowL,getD_modify _ _ _ _ hi]
  by_cases hik:i = (idx (hasId r.id) d.items).toNat
  ·rw [if_pos hik]
   by_cases hj0:j = 0
   ·subst hj0;rw [if_pos ⟨hik,by omega,by omega⟩];rfl
   ·rw [if_neg (by omega)]
    obtain ⟨j,rfl⟩:∃ q,j = q + 1:=⟨j - 1,by omega⟩
    rfl
  ·rw [if_neg hik,if_neg (by omega)]
 ·simp only [decide_eq_false_iff_not] at h
  refine zG zE (NS.ret rfl rfl (agg2_le (LeA.of ?_) (LeA.refl _)))
  have hs:setTick d.items r.id r.ticket = d.items:=by unfold setTick;rw [if_neg h]
  simp only [hs];rfl
def effM (d:Dur) (r:Jrec):Dur:=
 if r.kind = 1 then ⟨withM d.items r.item,d.inbox⟩
 else if r.kind = 2 then ⟨d.items.filter (notId r.id),d.inbox⟩
 else if r.kind = 3 then ⟨d.items,withM d.inbox r.item⟩
 else if r.kind = 4 then ⟨setTick d.items r.id r.ticket,d.inbox⟩
 else d
def effF:A:=.agg [.opq,.fn 132 [],.fn 134 [],.fn 137 [],.fn 138 []]
theorem effects_ok:FnOK Tryz.prog 81 [] (effF,none):=by
 refine fn_ok CN rfl (by kernel_rfl) Tryz.func81 rfl ?_
 exact zG zE (NS.ret rfl rfl (LeA.refl _))
theorem recErr_kind {r:Jrec} (h:recErr r = 0):r.kind = 1 \/ r.kind = 2 \/ r.kind = 3 \/ r.kind = 4:=by
 unfold recErr at h
 by_cases hk:inR r.kind 1 4 = true
 ·unfold inR at hk;simp at hk;omega
 ·rw [if_neg hk] at h;omega
theorem withM_len (l:List Itm) (x:Itm):(withM l x).length <= l.length + 1:=by unfold withM;split <;> simp
theorem setTick_len (l:List Itm) (id:Nid) (t:Int):(setTick l id t).length = l.length:=by unfold setTick;split <;> simp
theorem effM_len (d:Dur) (r:Jrec):(effM d r).items.length <= d.items.length + 1 /\ (effM d r).inbox.length <= d.inbox.length + 1:=by
 have h1:=withM_len d.items r.item
 have h2:=withM_len d.inbox r.item
 have h3:=setTick_len d.items r.id r.ticket
 have h4:=List.length_filter_le (notId r.id) d.items
 unfold effM
 repeat' split
 all_goals (first | omega | (simp only;omega))
def applyM (d:Dur) (r:Jrec):Dur × Int:=if checkM d != 0 || recErr r != 0 then (⟨[],[]⟩,1) else (effM d r,0)
def durA (r:Dur × Int):A:=.tup [.agg r.1.cells,.int .i64 r.2]
theorem dur_le {r:Dur × Int} {d:Dur} {e:Int} {x:A} (h:r = (d,e)) (hx:LeA x (.agg d.cells)):LeA (.tup [x,.int .i64 e]) (durA r):=by
 subst h;exact LeA.tup2 hx (LeA.refl _)
theorem nilD:LeA (.agg [.nils,.nils]) (.agg (Dur.mk [] []).cells):=agg2_le (LeA.nil' rfl) (LeA.nil' rfl)
theorem kinds {α:Prop} {k:Int} (h:k = 1 \/ k = 2 \/ k = 3 \/ k = 4) (h1:k = 1 -> α) (h2:k = 2 -> α) (h3:k = 3 -> α) (h4:k = 4 -> α):α:=by
 rcases h with h | h | h | h
 ·exact h1 h
 ·exact h2 h
 ·exact h3 h
 ·exact h4 h
theorem apply_ok (d:Dur) (r:Jrec) (h1:d.items.length <= 999999) (h2:d.inbox.length <= 999999):FnOK Tryz.prog 143 [.agg d.cells,.agg r.cells] (durA (applyM d r),none):=by
 refine fn_ok CN rfl (by kernel_rfl) Tryz.func143 rfl ?_
 refine zG zE (NS.call (checkItems_ok d (by omega) (by omega)) rfl ?_)
 refine zG zE (NS.ite (fun a1=>?_) (fun a1=>?_))
 ·refine zG zE (NS.ret rfl rfl (dur_le ?_ nilD))
  simp only [applyM,a1];rfl
 refine zG zE (NS.call (jCheck_ok r) rfl ?_)
 refine zG zE (NS.ite (fun a2=>?_) (fun a2=>?_))
 ·refine zG zE (NS.ret rfl rfl (dur_le ?_ nilD))
  simp only [applyM,a1,a2];rfl
 have hres:applyM d r = (effM d r,0):=by simp only [applyM,a1,a2];rfl
 have hk:=recErr_kind (by simpa using a2)
 obtain ⟨k,x,id,tk,tm⟩:=r
 refine zG zE (NS.chk (by kernel_rfl) ?_)
 refine zG zE (NS.call effects_ok rfl ?_)
 simp only at hk
 rcases hk with rfl | rfl | rfl | rfl
 ·refine zG zE (NS.no rfl ?_)
  refine zG zE (NS.yes rfl ?_)
  refine zG zE (NS.call (eff1_ok d ⟨1,x,id,tk,tm⟩ h1) rfl ?_)
  exact zG zE (NS.ret rfl rfl (dur_le hres (LeA.refl _)))
 ·refine zG zE (NS.no rfl ?_)
  refine zG zE (NS.no rfl ?_)
  refine zG zE (NS.yes rfl ?_)
  refine zG zE (NS.call (eff2_ok d ⟨2,x,id,tk,tm⟩ h1) rfl ?_)
  exact zG zE (NS.ret rfl rfl (dur_le hres (LeA.refl _)))
 ·refine zG zE (NS.no rfl ?_)
  refine zG zE (NS.no rfl ?_)
  refine zG zE (NS.no rfl ?_)
  refine zG zE (NS.yes rfl ?_)
  refine zG zE (NS.call (eff3_ok d ⟨3,x,id,tk,tm⟩ h2) rfl ?_)
  exact zG zE (NS.ret rfl rfl (dur_le hres (LeA.refl _)))
 ·refine zG zE (NS.no rfl ?_)
  refine zG zE (NS.no rfl ?_)
  refine zG zE (NS.no rfl ?_)
  refine zG zE (NS.no rfl ?_)
  refine zG zE (NS.yes rfl ?_)
  refine zG zE (NS.call (eff4_ok d ⟨4,x,id,tk,tm⟩ h1) rfl ?_)
  exact zG zE (NS.ret rfl rfl (dur_le hres (LeA.refl _)))
def badRec (r:Jrec):Bool:=recErr r != 0
theorem badRec_ok (r:Jrec):FnOK Tryz.prog 79 [.agg r.cells] (.bool (badRec r),none):=by
 refine fn_ok CN rfl (by kernel_rfl) Tryz.func79 rfl ?_
 refine zG zE (NS.call (jCheck_ok r) rfl ?_)
 exact zG zE (NS.ret rfl rfl (LeA.refl _))
theorem idxBadRec_ok (l:List Jrec) (hl:l.length <= 1000000):FnOK Tryz.prog 128 [slR l,.fn 79 []] (.int .i64 (idx badRec l),none):=by
 refine fn_ok CN rfl (by kernel_rfl) Tryz.func128 rfl ?_
 refine zG zE ?_
 refine NS.loop (σ:={ k:Nat // k <= l.length /\ ∀ i,i < k -> badRec (l.getD i default) = false }) (fun k=>[(0,slR l),(1,.fn 79 []),(7,.int .i64 l.length),(8,.int .i64 k.1)]) (fun _=>[]) (fun k=>l.length - k.1) ⟨0,Nat.zero_le _,fun i hi=>by omega⟩ ?_ ?_
 ·exact weak_hd [] rfl ⟨rfl,rfl,rfl,rfl,trivial⟩ trivial trivial (by kernel_rfl)
 ·rintro ⟨k,hk,hn⟩
  refine zG zE (NS.ite (fun h=>?_) (fun h=>?_))
  ·simp at h
   refine zG zE (NS.need (by simp;omega) ?_)
   refine zG zE (NS.call (badRec_ok (l.getD k default)) rfl ?_)
   refine zG zE (NS.ite (fun h2=>?_) (fun h2=>?_))
   ·refine zG zE (NS.leaveOut rfl zE (NS.ret rfl rfl (LeA.of (congrArg (A.int .i64) ?_))))
    exact (idx_found (by omega) h2 hn).symm
   ·refine zG zE (NS.next ⟨k + 1,by omega,fun i hi=>?_⟩ (by simp;omega) ?_)
    ·by_cases hik:i = k
     ·subst hik;exact h2
     ·exact hn i (by omega)
    ·exact weak_hd [] rfl ⟨rfl,rfl,rfl,ren_int rfl (i64_k (by omega) (by omega)),trivial⟩ trivial trivial (by kernel_rfl)
  ·simp at h
   refine zG zE (NS.leave rfl zE ?_)
   refine zG zE (NS.ret rfl rfl (LeA.of (congrArg (A.int .i64) ?_)))
   exact (idx_none fun i hi=>hn i (by omega)).symm
theorem anyBadRec_ok (l:List Jrec) (hl:l.length <= 1000000):FnOK Tryz.prog 78 [slR l,.fn 79 []] (.bool (l.any badRec),none):=by
 refine fn_ok CN rfl (by kernel_rfl) Tryz.func78 rfl ?_
 refine zG zE (NS.call (idxBadRec_ok l hl) rfl ?_)
 exact zG zE (NS.ret rfl rfl (LeA.of (congrArg A.bool (idx_any _ _))))
def effs (l:List Jrec) (d:Dur):Dur:=l.foldl effM d
theorem effs_snoc (l:List Jrec) (r:Jrec) (d:Dur):effs (l ++ [r]) d = effM (effs l d) r:=by simp [effs]
theorem effs_len (l:List Jrec) (d:Dur):(effs l d).items.length <= d.items.length + l.length /\ (effs l d).inbox.length <= d.inbox.length + l.length:=by
 induction l generalizing d with
 | nil=>simp [effs]
 | cons r l ih=>
  have h1:=ih (effM d r)
  have h2:=effM_len d r
  simp only [effs,List.foldl_cons,List.length_cons] at h1 ⊢
  omega
def foldM (l:List Jrec):Dur × Int:=if l.any badRec then (⟨[],[]⟩,1) else (effs l ⟨[],[]⟩,0)
theorem fold_ok (l:List Jrec) (hl:l.length <= 999998):FnOK Tryz.prog 31 [slR l] (durA (foldM l),none):=by
 refine fn_ok CN rfl (by kernel_rfl) Tryz.func31 rfl ?_
 refine zG zE (NS.call (anyBadRec_ok l (by omega)) rfl ?_)
 refine zG zE (NS.ite (fun a1=>?_) (fun a1=>?_))
 ·refine zG zE (NS.ret rfl rfl (dur_le ?_ nilD))
  simp only [foldM,a1];rfl
 have hres:foldM l = (effs l ⟨[],[]⟩,0):=by simp only [foldM,a1];rfl
 have hgood:∀ k,k < l.length -> recErr (l.getD k default) = 0:=by
  intro k hk
  rw [List.any_eq_false] at a1
  have:=a1 (l.getD k default) (by rw [getD_lt hk];exact List.getElem_mem hk)
  unfold badRec at this
  simpa using this
 refine zG zE (NS.call effects_ok rfl ?_)
 refine zG zE ?_
 refine NS.loop (σ:={ k:Nat // k <= l.length }) (fun k=>[(2,.ptr 2 0),(4,.ptr 4 0),(5,.ptr 5 0),(12,slR l),(13,.int .i64 l.length),(14,.int .i64 k.1)]) (fun k=>[(2,.box [.junk,.junk]),(4,.box (effs (l.take k.1) ⟨[],[]⟩).cells),(5,.box [.opq,.fn 132 [],.fn 134 [],.fn 137 [],.fn 138 []])]) (fun k=>l.length - k.1) ⟨0,Nat.zero_le _⟩ ?_ ?_
 ·refine Weak.trans (weak_box 4 (cells':=(effs (l.take 0) ⟨[],[]⟩).cells) rfl (.cons (LeA.nil' rfl) (.cons (LeA.nil' rfl) .nil))) ?_
  exact weak_hd [] rfl ⟨rfl,rfl,rfl,rfl,rfl,rfl,trivial⟩ ⟨⟨_,rfl,_,_,rfl,trivial,_,_,rfl,trivial,rfl⟩,⟨_,rfl,_,_,rfl,rfl,_,_,rfl,rfl,rfl⟩,⟨_,rfl,_,_,rfl,rfl,_,_,rfl,rfl,_,_,rfl,rfl,_,_,rfl,rfl,_,_,rfl,rfl,rfl⟩,trivial⟩ trivial (by kernel_rfl)
 ·rintro ⟨k,hk⟩
  have hlen:=effs_len (l.take k) ⟨[],[]⟩
  simp only [List.length_take,List.length_nil] at hlen
  refine zG zE (NS.ite (fun h=>?_) (fun h=>?_))
  ·simp at h
   have hsn:effs (l.take (k + 1)) ⟨[],[]⟩ = effM (effs (l.take k) ⟨[],[]⟩) (l.getD k default):=by rw [take_snoc (by omega),effs_snoc]
   refine zG zE (NS.need (by simp;omega) ?_)
   refine zG zE (NS.chk (by kernel_rfl) ?_)
   rcases recErr_kind (hgood k (by omega)) with hkd | hkd | hkd | hkd
   ·have he:effM (effs (l.take k) ⟨[],[]⟩) (l.getD k default) = ⟨withM (effs (l.take k) ⟨[],[]⟩).items (l.getD k default).item,(effs (l.take k) ⟨[],[]⟩).inbox⟩:=by simp only [effM,hkd];rfl
    rw [he] at hsn
    refine zG zE (NS.no (show ((l.getD k default).kind == 0) = false by rw [hkd];rfl) ?_)
    refine zG zE (NS.yes (show ((l.getD k default).kind == 1) = true by rw [hkd];rfl) ?_)
    refine zG zE (NS.call (eff1_ok (effs (l.take k) ⟨[],[]⟩) (l.getD k default) (by omega)) rfl ?_)
    refine zG zE (NS.next ⟨k + 1,by omega⟩ (by simp;omega) ?_)
    refine weak_hd [] rfl ⟨rfl,rfl,rfl,rfl,rfl,ren_int rfl (i64_k (by omega) (by omega)),trivial⟩ ⟨⟨_,rfl,_,_,rfl,trivial,_,_,rfl,trivial,rfl⟩,?_,⟨_,rfl,_,_,rfl,rfl,_,_,rfl,rfl,_,_,rfl,rfl,_,_,rfl,rfl,_,_,rfl,rfl,rfl⟩,trivial⟩ trivial (by kernel_rfl)
    rw [hsn]
    exact ⟨_,rfl,_,_,rfl,rfl,_,_,rfl,rfl,rfl⟩
   ·have he:effM (effs (l.take k) ⟨[],[]⟩) (l.getD k default) = ⟨(effs (l.take k) ⟨[],[]⟩).items.filter (notId (l.getD k default).id),(effs (l.take k) ⟨[],[]⟩).inbox⟩:=by simp only [effM,hkd];rfl
    rw [he] at hsn
    refine zG zE (NS.no (show ((l.getD k default).kind == 0) = false by rw [hkd];rfl) ?_)
    refine zG zE (NS.no (show ((l.getD k default).kind == 1) = false by rw [hkd];rfl) ?_)
    refine zG zE (NS.yes (show ((l.getD k default).kind == 2) = true by rw [hkd];rfl) ?_)
    refine zG zE (NS.call (eff2_ok (effs (l.take k) ⟨[],[]⟩) (l.getD k default) (by omega)) rfl ?_)
    refine zG zE (NS.next ⟨k + 1,by omega⟩ (by simp;omega) ?_)
    refine weak_hd [] rfl ⟨rfl,rfl,rfl,rfl,rfl,ren_int rfl (i64_k (by omega) (by omega)),trivial⟩ ⟨⟨_,rfl,_,_,rfl,trivial,_,_,rfl,trivial,rfl⟩,?_,⟨_,rfl,_,_,rfl,rfl,_,_,rfl,rfl,_,_,rfl,rfl,_,_,rfl,rfl,_,_,rfl,rfl,rfl⟩,trivial⟩ trivial (by kernel_rfl)
    rw [hsn]
    exact ⟨_,rfl,_,_,rfl,rfl,_,_,rfl,rfl,rfl⟩
   ·have he:effM (effs (l.take k) ⟨[],[]⟩) (l.getD k default) = ⟨(effs (l.take k) ⟨[],[]⟩).items,withM (effs (l.take k) ⟨[],[]⟩).inbox (l.getD k default).item⟩:=by simp only [effM,hkd];rfl
    rw [he] at hsn
    refine zG zE (NS.no (show ((l.getD k default).kind == 0) = false by rw [hkd];rfl) ?_)
    refine zG zE (NS.no (show ((l.getD k default).kind == 1) = false by rw [hkd];rfl) ?_)
    refine zG zE (NS.no (show ((l.getD k default).kind == 2) = false by rw [hkd];rfl) ?_)
    refine zG zE (NS.yes (show ((l.getD k default).kind == 3) = true by rw [hkd];rfl) ?_)
    refine zG zE (NS.call (eff3_ok (effs (l.take k) ⟨[],[]⟩) (l.getD k default) (by omega)) rfl ?_)
    refine zG zE (NS.next ⟨k + 1,by omega⟩ (by simp;omega) ?_)
    refine weak_hd [] rfl ⟨rfl,rfl,rfl,rfl,rfl,ren_int rfl (i64_k (by omega) (by omega)),trivial⟩ ⟨⟨_,rfl,_,_,rfl,trivial,_,_,rfl,trivial,rfl⟩,?_,⟨_,rfl,_,_,rfl,rfl,_,_,rfl,rfl,_,_,rfl,rfl,_,_,rfl,rfl,_,_,rfl,rfl,rfl⟩,trivial⟩ trivial (by kernel_rfl)
    rw [hsn]
    exact ⟨_,rfl,_,_,rfl,rfl,_,_,rfl,rfl,rfl⟩
   ·have he:effM (effs (l.take k) ⟨[],[]⟩) (l.getD k default) = ⟨setTick (effs (l.take k) ⟨[],[]⟩).items (l.getD k default).id (l.getD k default).ticket,(effs (l.take k) ⟨[],[]⟩).inbox⟩:=by simp only [effM,hkd];rfl
    rw [he] at hsn
    refine zG zE (NS.no (show ((l.getD k default).kind == 0) = false by rw [hkd];rfl) ?_)
    refine zG zE (NS.no (show ((l.getD k default).kind == 1) = false by rw [hkd];rfl) ?_)
    refine zG zE (NS.no (show ((l.getD k default).kind == 2) = false by rw [hkd];rfl) ?_)
    refine zG zE (NS.no (show ((l.getD k default).kind == 3) = false by rw [hkd];rfl) ?_)
    refine zG zE (NS.yes (show ((l.getD k default).kind == 4) = true by rw [hkd];rfl) ?_)
    refine zG zE (NS.call (eff4_ok (effs (l.take k) ⟨[],[]⟩) (l.getD k default) (by omega)) rfl ?_)
    refine zG zE (NS.next ⟨k + 1,by omega⟩ (by simp;omega) ?_)
    refine weak_hd [] rfl ⟨rfl,rfl,rfl,rfl,rfl,ren_int rfl (i64_k (by omega) (by omega)),trivial⟩ ⟨⟨_,rfl,_,_,rfl,trivial,_,_,rfl,trivial,rfl⟩,?_,⟨_,rfl,_,_,rfl,rfl,_,_,rfl,rfl,_,_,rfl,rfl,_,_,rfl,rfl,_,_,rfl,rfl,rfl⟩,trivial⟩ trivial (by kernel_rfl)
    rw [hsn]
    exact ⟨_,rfl,_,_,rfl,rfl,_,_,rfl,rfl,rfl⟩
  ·simp at h
   refine zG zE (NS.leave rfl zE ?_)
   refine zG zE (NS.ret rfl rfl (dur_le hres ?_))
   rw [take_all (by omega)]
   exact LeA.refl _
def zeros (n:Nat):ByteArray:=bytesOf (fun _ j=>getA [.int .u8 0] j) n
def mkItem (seq dest size:Int):Itm:=⟨1,⟨1,0,seq,0,0⟩,dest,100,0,false,zeros size.toNat⟩
def d1:Dur:=⟨[mkItem 1 3 6],[]⟩
structure Inp where
 d:Dur
 self:Int
 quota:Int
 now:Int
 x:Itm
def Inp.cells (i:Inp):List A:=[slI i.d.items,slI i.d.inbox,.int .i64 i.self,.int .i64 i.quota,.int .i64 i.now,.int .i64 i.x.ticket,.int .i64 i.x.id.source,.int .i64 i.x.id.created,.int .i64 i.x.id.seq,.int .i64 i.x.id.off,.int .i64 i.x.id.total,.int .i64 i.x.dest,.int .i64 i.x.expires,.int .i64 i.x.prio,.bool i.x.custody,.str i.x.data]
theorem not_great {d:Dur} (h:greatD d = false):d.items.length <= 12 /\ d.inbox.length <= 12 /\ d.items.any bigI = false /\ d.inbox.any bigI = false:=by
 unfold greatD at h
 simp only [Bool.or_eq_false_iff,decide_eq_false_iff_not] at h
 obtain ⟨⟨⟨h1,h2⟩,h3⟩,h4⟩:=h
 exact ⟨by omega,by omega,h3,h4⟩
theorem putM_len (d:Dur) (self quota:Int) (x:Itm) (now:Int):(putM d self quota x now).1.length <= 1:=by
 unfold putM;repeat' split
 all_goals simp
theorem expireM_len (d:Dur) (now:Int):(expireM d now).1.length <= d.items.length:=by
 unfold expireM;repeat' split
 ·simp
 ·simp
 ·exact expRecs_len _ _
theorem drop_cons {α:Type} [Inhabited α] {l:List α} {k:Nat} (h:k < l.length):l.drop k = l.getD k default :: l.drop (k + 1):=by
 rw [List.drop_eq_getElem_cons h,getD_lt h]
theorem any_idx {p:Itm -> Bool} {l:List Itm}:l.any p = true ↔ 0 <= idx p l:=by
 have:=idx_neg p l
 cases h:l.any p
 ·have:=this.2 h;simp;omega
 ·simp;rw [h] at this;simp at this;exact this
def rangesM (self quota now:Int):Bool:=decide (0 <= self) && decide (self < 16) && inR quota 0 1073741824 && inR now 0 1099511627776
inductive PutC (d:Dur) (self quota:Int) (x:Itm) (now:Int):List Jrec × Int × Int -> Prop
 | bad:(checkM d != 0 || !okItem x) = true -> PutC d self quota x now ([],0,1)
 | range:checkM d = 0 -> okItem x = true -> rangesM self quota now = false -> PutC d self quota x now ([],0,2)
 | expired:checkM d = 0 -> okItem x = true -> rangesM self quota now = true -> x.expires <= now -> PutC d self quota x now ([],5,0)
 | dup:checkM d = 0 -> okItem x = true -> rangesM self quota now = true -> now < x.expires -> (d.items.any (hasId x.id) || d.inbox.any (hasId x.id)) = true -> PutC d self quota x now ([],3,0)
 | deliver:checkM d = 0 -> okItem x = true -> rangesM self quota now = true -> now < x.expires -> d.items.any (hasId x.id) = false -> d.inbox.any (hasId x.id) = false -> PutC d self quota x now ([⟨3,x,.zero,0,now⟩],2,0)
 | full:checkM d = 0 -> okItem x = true -> rangesM self quota now = true -> now < x.expires -> d.items.any (hasId x.id) = false -> d.inbox.any (hasId x.id) = false -> PutC d self quota x now ([],4,0)
 | store:checkM d = 0 -> okItem x = true -> rangesM self quota now = true -> now < x.expires -> d.items.any (hasId x.id) = false -> d.inbox.any (hasId x.id) = false -> IntKind.i64.wrap (usedM d.items + (x.data.size:Int)) <= quota -> PutC d self quota x now ([⟨1,x,.zero,0,now⟩],1,0)
theorem withM_new {l:List Itm} {x:Itm} (h:l.any (hasId x.id) = false):withM l x = l ++ [x]:=by
 unfold withM;rw [if_neg];intro h2;rw [ge_iff_le,<- any_idx,h] at h2;cases h2
def Uniq (l:List Itm):Prop:=(l.map Itm.id).Pairwise (· ≠ ·)
theorem uniq_get {l:List Itm}:Uniq l ↔ ∀ i j,(hi:i < l.length) -> (hj:j < l.length) -> i < j -> l[i].id ≠ l[j].id:=by
 unfold Uniq
 rw [List.pairwise_map,List.pairwise_iff_getElem]
theorem twice_iff (l:List Itm):twiceM l = false ↔ Uniq l:=by
 rw [uniq_get]
 constructor
 ·intro h i j hi hj hij e
  have hp:hasId (l.getD j default).id (l.getD i default) = true:=by rw [getD_lt hi,getD_lt hj];exact Nid.eqv_iff.2 e
  have:=idx_le hi hp
  have ht:twiceM l = true:=twice_t hj (by omega)
  rw [ht] at h;cases h
 ·intro h
  refine twice_f fun k hk=>idx_found hk (hasId_self _) fun i hi=>?_
  rw [<- Bool.not_eq_true,getD_lt hk,getD_lt (by omega)]
  intro e
  exact h i k (by omega) hk hi (Nid.eqv_iff.1 e)
def Good (d:Dur):Prop:=(∀ x ∈ d.items,okItem x = true) /\ (∀ x ∈ d.inbox,okItem x = true) /\ Uniq d.items /\ Uniq d.inbox
theorem good_iff (d:Dur):checkM d = 0 ↔ Good d:=by
 have h:=valid_check d
 have h0:checkM d = 0 ↔ validM d = true:=by rw [h];simp
 rw [h0]
 unfold validM Good
 simp only [Bool.and_eq_true,List.all_eq_true,Bool.not_eq_true',twice_iff,and_assoc]
theorem any_hasId {l:List Itm} {id:Nid}:l.any (hasId id) = false ↔ ∀ x ∈ l,x.id ≠ id:=by
 rw [List.any_eq_false]
 constructor
 ·intro h x hx e;exact h x hx (Nid.eqv_iff.2 e)
 ·intro h x hx e;exact h x hx (Nid.eqv_iff.1 e)
theorem uniq_snoc {l:List Itm} {x:Itm} (h:Uniq l) (hx:l.any (hasId x.id) = false):Uniq (l ++ [x]):=by
 unfold Uniq at h ⊢
 rw [List.map_append,List.pairwise_append]
 refine ⟨h,by simp,fun a ha b hb=>?_⟩
 obtain ⟨y,hy,rfl⟩:=List.mem_map.1 ha
 obtain rfl:b = x.id:=by simpa using hb
 exact any_hasId.1 hx y hy
theorem uniq_with {l:List Itm} {x:Itm} (h:Uniq l):Uniq (withM l x):=by
 by_cases hx:l.any (hasId x.id) = false
 ·rw [withM_new hx];exact uniq_snoc h hx
 ·unfold withM;rw [if_pos]
  ·exact h
  ·rw [ge_iff_le,<- any_idx];simpa using hx
theorem mem_with {l:List Itm} {x y:Itm} (h:y ∈ withM l x):y ∈ l \/ y = x:=by
 unfold withM at h
 split at h
 ·exact .inl h
 ·simpa using h
theorem uniq_filter {l:List Itm} {p:Itm -> Bool} (h:Uniq l):Uniq (l.filter p):=by
 unfold Uniq at h ⊢
 exact List.Pairwise.sublist ((List.filter_sublist).map _) h
theorem map_modify_id (l:List Itm) (k:Nat) (t:Int):(l.modify k fun x=>{ x with ticket:=t }).map Itm.id = l.map Itm.id:=by
 refine List.ext_getElem (by simp) fun i h1 h2=>?_
 simp only [List.getElem_map,List.getElem_modify]
 split <;> rfl
theorem uniq_tick {l:List Itm} {id:Nid} {t:Int} (h:Uniq l):Uniq (setTick l id t):=by
 unfold setTick
 split
 ·unfold Uniq;rw [map_modify_id];exact h
 ·exact h
theorem mem_tick {l:List Itm} {id:Nid} {t:Int} {y:Itm} (h:y ∈ setTick l id t):y ∈ l \/ ∃ x ∈ l,y = { x with ticket:=t }:=by
 unfold setTick at h
 split at h
 ·obtain ⟨i,hi,rfl⟩:=List.getElem_of_mem h
  rw [List.getElem_modify]
  split
  ·exact .inr ⟨_,List.getElem_mem _,rfl⟩
  ·exact .inl (List.getElem_mem _)
 ·exact .inl h
theorem ok_tick {x:Itm} {t:Int} (h:okItem x = true) (ht:inR t 0 1152921504606846976 = true):okItem { x with ticket:=t } = true:=by
 unfold okItem itemErr at h ⊢
 simp only [beq_iff_eq] at h ⊢
 split at h
 ·rename_i hc
  simp only [Bool.and_eq_true] at hc
  obtain ⟨⟨⟨⟨h1,h2⟩,h3⟩,h4⟩,h5⟩:=hc
  simp only [h1,ht,h3,h4,h5,Bool.and_true,if_true]
  exact h
 ·cases h
theorem good_eff {d:Dur} {r:Jrec} (hd:Good d) (hr:recErr r = 0):Good (effM d r):=by
 obtain ⟨h1,h2,h3,h4⟩:=hd
 have hitem:(r.kind = 1 \/ r.kind = 3) -> okItem r.item = true:=by
  intro hk
  unfold recErr at hr
  have hb:(r.kind == 1 || r.kind == 3) = true:=by simpa using hk
  rw [hb] at hr
  simp only [if_true] at hr
  repeat' split at hr
  all_goals first
   | omega
   | (unfold okItem;rename_i hx _;simpa using hx)
   | (unfold okItem;rename_i hx _ ;simp_all)
 have htick:r.kind = 4 -> inR r.ticket 0 1152921504606846976 = true:=by
  intro hk
  unfold recErr at hr
  rw [hk] at hr
  have e1:inR 4 1 4 = true:=rfl
  have e2:((4:Int) == 1 || (4:Int) == 3) = false:=rfl
  have e3:((4:Int) == 4) = true:=rfl
  simp only [e1,e2,e3,if_true,Bool.true_and] at hr
  by_cases hx:inR r.ticket 0 1152921504606846976 = true
  ·exact hx
  ·simp only [Bool.not_eq_true] at hx
   rw [hx] at hr
   simp at hr
 unfold effM
 split
 ·rename_i hk
  exact ⟨fun y hy=>(mem_with hy).elim (h1 y) fun e=>e ▸ hitem (.inl hk),h2,uniq_with h3,h4⟩
 split
 ·exact ⟨fun y hy=>h1 y (List.mem_filter.1 hy).1,h2,uniq_filter h3,h4⟩
 split
 ·rename_i hk
  exact ⟨h1,fun y hy=>(mem_with hy).elim (h2 y) fun e=>e ▸ hitem (.inr hk),h3,uniq_with h4⟩
 split
 ·rename_i hk
  refine ⟨fun y hy=>?_,h2,uniq_tick h3,h4⟩
  rcases mem_tick hy with h | ⟨x,hx,rfl⟩
  ·exact h1 y h
  ·exact ok_tick (h1 x hx) (htick hk)
 ·exact ⟨h1,h2,h3,h4⟩
theorem check_ok (d:Dur) (quota:Int) (h1:d.items.length <= 1000000) (h2:d.inbox.length <= 1000000):FnOK Tryz.prog 100 [.agg d.cells,.int .i64 quota] (.int .i64 (checkQ d quota),none):=by
 refine fn_ok CN rfl (by kernel_rfl) Tryz.func100 rfl ?_
 repeat' (first
  | refine zG zE ?_
  | refine NS.call (checkItems_ok d h1 h2) rfl ?_
  | refine NS.call (isQuota_ok quota) rfl ?_
  | refine NS.call (used_ok d h1) rfl ?_
  | refine NS.ite (fun _=>?_) (fun _=>?_)
  | refine NS.ret rfl rfl (LeA.of (congrArg (A.int .i64) ?_)))
 all_goals (simp_all [checkQ])
theorem good_effs {l:List Jrec} {d:Dur} (hd:Good d) (hl:∀ r ∈ l,recErr r = 0):Good (effs l d):=by
 induction l generalizing d with
 | nil=>exact hd
 | cons r l ih=>exact ih (good_eff hd (hl r (by simp))) fun r' hr'=>hl r' (by simp [hr'])
theorem good_nil:Good ⟨[],[]⟩:=⟨by simp,by simp,by simp [Uniq],by simp [Uniq]⟩
theorem filter_cut {l:List Itm} {id:Nid} {k:Nat} (hu:Uniq l) (hk:k < l.length) (hp:hasId id (l.getD k default) = true):l.take k ++ l.drop (k + 1) = l.filter (notId id):=by
 have he:(l.getD k default).id = id:=Nid.eqv_iff.1 hp
 rw [getD_lt hk] at he hp
 rw [uniq_get] at hu
 have e:l = l.take k ++ l[k] :: l.drop (k + 1):=by rw [<- List.drop_eq_getElem_cons hk,List.take_append_drop]
 have h1:(l.take k).filter (notId id) = l.take k:=by
  rw [List.filter_eq_self]
  intro x hx
  obtain ⟨i,hi,rfl⟩:=List.getElem_of_mem hx
  have hi':i < k:=by simp at hi;omega
  rw [List.getElem_take]
  unfold notId
  rw [Bool.not_eq_true',<- Bool.not_eq_true]
  intro h
  exact hu i k (by omega) hk hi' ((Nid.eqv_iff.1 h).trans he.symm)
 have h2:(l.drop (k + 1)).filter (notId id) = l.drop (k + 1):=by
  rw [List.filter_eq_self]
  intro x hx
  obtain ⟨i,hi,rfl⟩:=List.getElem_of_mem hx
  simp at hi
  rw [List.getElem_drop]
  unfold notId
  rw [Bool.not_eq_true',<- Bool.not_eq_true]
  intro h
  exact hu k (k + 1 + i) hk (by omega) (by omega) (he.trans (Nid.eqv_iff.1 h).symm)
 conv=>rhs;rw [e,List.filter_append,List.filter_cons]
 have h3:notId id l[k] = false:=by unfold notId;rw [hp];rfl
 rw [h1,h2,h3];rfl
theorem filter_none {l:List Itm} {id:Nid} (h:idx (hasId id) l < 0):l.filter (notId id) = l:=by
 rw [idx_neg] at h
 rw [List.filter_eq_self]
 intro x hx
 unfold notId
 rw [List.any_eq_false] at h
 simpa using h x hx
theorem rEffect_ok (d:Dur) (r:Jrec) (hu:Uniq d.items) (hr:recErr r = 0) (h1:d.items.length <= 999990) (h2:d.inbox.length <= 999990):FnOK Tryz.prog 93 [.agg d.cells,.agg r.cells] (.agg (effM d r).cells,none):=by
 have hx:=idx_lt (hasId r.item.id) d.items
 have hy:=idx_lt (hasId r.item.id) d.inbox
 have hz:=idx_lt (hasId r.id) d.items
 have hk:=recErr_kind hr
 obtain ⟨kd,x,id,tk,tm⟩:=r
 simp only at hx hy hz hk
 refine fn_ok CN rfl (by kernel_rfl) Tryz.func93 rfl ?_
 rcases hk with rfl | rfl | rfl | rfl
 ·refine zG zE (NS.yes rfl ?_)
  refine zG zE (NS.call (rIndex_ok d.items x.id (by omega)) rfl ?_)
  refine zG zE (NS.ite (fun h=>?_) (fun h=>?_))
  ·simp only [beq_iff_eq] at h
   have hw:withM d.items x = d.items ++ [x]:=by unfold withM;rw [if_neg (by omega)]
   have he:effM d ⟨1,x,id,tk,tm⟩ = ⟨d.items ++ [x],d.inbox⟩:=by simp only [effM,hw];rfl
   rw [he]
   refine zG zE (NS.chk (by kernel_rfl) ?_)
   refine zG zE (NS.call (rClone_ok d.items (by omega)) rfl ?_)
   refine zG zE (NS.need (decide_eq_true (by simp only [maxRow];omega)) ?_)
   refine zG zE (NS.no rfl ?_)
   refine zG zE (NS.call ((rIndex_ok (d.items ++ [x]) id (by simp;omega)).le (LeL.cons (LeA.sl (by simp) (fun i' hi j hj=>row_snoc (cells:=Itm.cells) (x:=x) rfl i' hi j hj)) (LeL.refl _))) rfl ?_)
   refine zG zE (NS.no rfl ?_)
   refine zG zE (NS.no rfl ?_)
   exact zG zE (NS.ret rfl rfl (agg2_le (LeA.sl (by simp) (fun i' hi j hj=>row_snoc (cells:=Itm.cells) (x:=x) rfl i' hi j hj)) (LeA.refl _)))
  ·simp only [beq_eq_false_iff_ne,ne_eq] at h
   have hw:withM d.items x = d.items:=by unfold withM;rw [if_pos (by omega)]
   have he:effM d ⟨1,x,id,tk,tm⟩ = d:=by simp only [effM,hw];rfl
   rw [he]
   refine zG zE (NS.no rfl ?_)
   refine zG zE (NS.call (rIndex_ok d.items id (by omega)) rfl ?_)
   refine zG zE (NS.no rfl ?_)
   refine zG zE (NS.no rfl ?_)
   exact zG zE (NS.ret rfl rfl (LeA.refl _))
 ·refine zG zE (NS.no rfl ?_)
  refine zG zE (NS.no rfl ?_)
  refine zG zE (NS.call (rIndex_ok d.items id (by omega)) rfl ?_)
  refine zG zE (NS.yes rfl ?_)
  have he:effM d ⟨2,x,id,tk,tm⟩ = ⟨d.items.filter (notId id),d.inbox⟩:=by simp only [effM];rfl
  rw [he]
  refine zG zE (NS.ite (fun h=>?_) (fun h=>?_))
  ·simp only [decide_eq_true_eq] at h
   rcases idx_cases (hasId id) d.items with ⟨e,_⟩ | ⟨k,hkl,e,hp,_⟩
   ·omega
   have hf:=filter_cut hu hkl hp
   refine zG zE (NS.need (decide_eq_true (by omega)) ?_)
   refine zG zE (NS.call ((rClone_ok (d.items.take k) (by simp;omega)).le (LeL.cons ?_ LeL.nil)) rfl ?_)
   ·refine LeA.sl (by rw [e];simp;omega) (fun i hi j hj=>?_)
    rw [e] at hi
    have hi':i < k:=by simpa using hi
    show getA (Itm.cells (d.items.getD (0 + i) default)) j = getA (Itm.cells ((d.items.take k).getD i default)) j
    rw [Nat.zero_add,getD_lt (by omega),getD_lt (by simp;omega)]
    simp
   refine zG zE ?_
   refine NS.loop (σ:={ m:Nat // k + 1 + m <= d.items.length }) (fun m=>[(2,.ptr 2 0),(3,.ptr 3 0),(4,.ptr 4 0),(6,.own 64),(7,.int .i64 (k + 1 + m.1:Nat))]) (fun m=>[(2,.box d.cells),(3,.box [.int .i64 2,.junk,.junk,.junk,.junk,.junk,.junk,.junk,.junk,.junk,.junk,.junk,.junk,.junk,.junk,.junk,.junk,.junk,.junk]),(4,.box [.junk,.junk]),(64,.row 41 11 (d.items.take k ++ (d.items.drop (k + 1)).take m.1).length (rowL Itm.cells (d.items.take k ++ (d.items.drop (k + 1)).take m.1)))]) (fun m=>d.items.length - m.1) ⟨0,by omega⟩ ?_ ?_
   ·refine weak_hd [] rfl ⟨rfl,rfl,rfl,rfl,ren_int rfl ?_,trivial⟩ ⟨⟨_,rfl,_,_,rfl,rfl,_,_,rfl,rfl,rfl⟩,⟨_,rfl,_,_,rfl,rfl,_,_,rfl,trivial,_,_,rfl,trivial,_,_,rfl,trivial,_,_,rfl,trivial,_,_,rfl,trivial,_,_,rfl,trivial,_,_,rfl,trivial,_,_,rfl,trivial,_,_,rfl,trivial,_,_,rfl,trivial,_,_,rfl,trivial,_,_,rfl,trivial,_,_,rfl,trivial,_,_,rfl,trivial,_,_,rfl,trivial,_,_,rfl,trivial,_,_,rfl,trivial,_,_,rfl,trivial,rfl⟩,⟨_,rfl,_,_,rfl,trivial,_,_,rfl,trivial,rfl⟩,?_,trivial⟩ trivial (by kernel_rfl)
    ·rw [e,wrap_i64 (by omega) (by omega)]
     show ((k:Int) + 1) = ((k + 1 + 0:Nat):Int)
     omega
    ·refine ren_row rfl (by simp) fun _ _ _ _=>by simp
   ·rintro ⟨m,hm⟩
    refine zG zE (NS.ite (fun h=>?_) (fun h=>?_))
    ·simp at h
     have hlt:k + 1 + m < d.items.length:=by omega
     have hsn:d.items.take k ++ (d.items.drop (k + 1)).take (m + 1) = (d.items.take k ++ (d.items.drop (k + 1)).take m) ++ [d.items.getD (k + 1 + m) default]:=by
      rw [take_snoc (by simp;omega),List.append_assoc]
      rw [getD_lt (by simp;omega),getD_lt hlt]
      simp
     have hlen:(d.items.take k ++ (d.items.drop (k + 1)).take m).length <= 999990:=by simp;omega
     refine zG zE (NS.need (by simp;omega) ?_)
     refine zG zE (NS.need (decide_eq_true (by simp only [maxRow];omega)) ?_)
     refine zG zE (NS.next ⟨m + 1,by omega⟩ (by simp;omega) ?_)
     refine weak_hd [(64,81)] rfl ⟨rfl,rfl,rfl,rfl,ren_int rfl ?_,trivial⟩ ⟨⟨_,rfl,_,_,rfl,rfl,_,_,rfl,rfl,rfl⟩,⟨_,rfl,_,_,rfl,rfl,_,_,rfl,trivial,_,_,rfl,trivial,_,_,rfl,trivial,_,_,rfl,trivial,_,_,rfl,trivial,_,_,rfl,trivial,_,_,rfl,trivial,_,_,rfl,trivial,_,_,rfl,trivial,_,_,rfl,trivial,_,_,rfl,trivial,_,_,rfl,trivial,_,_,rfl,trivial,_,_,rfl,trivial,_,_,rfl,trivial,_,_,rfl,trivial,_,_,rfl,trivial,_,_,rfl,trivial,rfl⟩,⟨_,rfl,_,_,rfl,trivial,_,_,rfl,trivial,rfl⟩,?_,trivial⟩ trivial (by kernel_rfl)
     ·show IntKind.i64.wrap (((k + 1 + m:Nat):Int) + 1) = ((k + 1 + (m + 1):Nat):Int)
      rw [wrap_i64 (by omega) (by omega)];omega
     ·simp only [hsn]
      exact ren_row rfl (by simp only [List.length_append,List.length_cons,List.length_nil]) (fun i hi j hj=>row_snoc (cells:=Itm.cells) (x:=d.items.getD (k + 1 + m) default) rfl i (by simp only [List.length_append,List.length_cons,List.length_nil] at hi ⊢;omega) j hj)
    ·simp at h
     have hm':k + 1 + m = d.items.length:=by omega
     refine zG zE (NS.leave rfl zE ?_)
     refine zG zE (NS.no rfl ?_)
     refine zG zE (NS.ret rfl rfl (agg2_le ?_ (LeA.refl _)))
     have hd:(d.items.drop (k + 1)).take m = d.items.drop (k + 1):=List.take_of_length_le (by simp;omega)
     simp only [hd,hf]
     exact LeA.refl _
  ·simp only [decide_eq_false_iff_not] at h
   refine zG zE (NS.no rfl ?_)
   refine zG zE (NS.ret rfl rfl ?_)
   rw [filter_none (by omega)]
   exact LeA.refl _
 ·refine zG zE (NS.no rfl ?_)
  refine zG zE (NS.yes rfl ?_)
  refine zG zE (NS.call (rIndex_ok d.inbox x.id (by omega)) rfl ?_)
  refine zG zE (NS.ite (fun h=>?_) (fun h=>?_))
  ·simp only [beq_iff_eq] at h
   have hw:withM d.inbox x = d.inbox ++ [x]:=by unfold withM;rw [if_neg (by omega)]
   have he:effM d ⟨3,x,id,tk,tm⟩ = ⟨d.items,d.inbox ++ [x]⟩:=by simp only [effM,hw];rfl
   rw [he]
   refine zG zE (NS.chk (by kernel_rfl) ?_)
   refine zG zE (NS.call (rClone_ok d.inbox (by omega)) rfl ?_)
   refine zG zE (NS.need (decide_eq_true (by simp only [maxRow];omega)) ?_)
   refine zG zE (NS.call (rIndex_ok d.items id (by omega)) rfl ?_)
   refine zG zE (NS.no rfl ?_)
   refine zG zE (NS.no rfl ?_)
   exact zG zE (NS.ret rfl rfl (agg2_le (LeA.refl _) (LeA.sl (by simp) (fun i' hi j hj=>row_snoc (cells:=Itm.cells) (x:=x) rfl i' hi j hj))))
  ·simp only [beq_eq_false_iff_ne,ne_eq] at h
   have hw:withM d.inbox x = d.inbox:=by unfold withM;rw [if_pos (by omega)]
   have he:effM d ⟨3,x,id,tk,tm⟩ = d:=by simp only [effM,hw];rfl
   rw [he]
   refine zG zE (NS.call (rIndex_ok d.items id (by omega)) rfl ?_)
   refine zG zE (NS.no rfl ?_)
   refine zG zE (NS.no rfl ?_)
   exact zG zE (NS.ret rfl rfl (LeA.refl _))
 ·refine zG zE (NS.no rfl ?_)
  refine zG zE (NS.no rfl ?_)
  refine zG zE (NS.call (rIndex_ok d.items id (by omega)) rfl ?_)
  refine zG zE (NS.no rfl ?_)
  refine zG zE (NS.yes rfl ?_)
  have he:effM d ⟨4,x,id,tk,tm⟩ = ⟨setTick d.items id tk,d.inbox⟩:=by simp only [effM];rfl
  rw [he]
  refine zG zE (NS.ite (fun h=>?_) (fun h=>?_))
  ·simp only [decide_eq_true_eq] at h
   refine zG zE (NS.call (rClone_ok d.items (by omega)) rfl ?_)
   refine zG zE (NS.need (decide_eq_true (by omega)) ?_)
   refine zG zE (NS.need (decide_eq_true (by omega)) ?_)
   refine zG zE (NS.ret rfl rfl (agg2_le ?_ (LeA.refl _)))
   have hs:setTick d.items id tk = d.items.modify (idx (hasId id) d.items).toNat (fun x=>{ x with ticket:=tk }):=by unfold setTick;rw [if_pos h]
   simp only [hs]
   refine LeA.sl (by simp) (fun i hi j hj=>?_)
   simp only [rowL,getD_modify _ _ _ _ hi]
   by_cases hik:i = (idx (hasId id) d.items).toNat
   ·rw [if_pos hik]
    by_cases hj0:j = 0
    ·subst hj0;rw [if_pos ⟨hik,by omega,by omega⟩];rfl
    ·rw [if_neg (by omega)]
     obtain ⟨j,rfl⟩:∃ q,j = q + 1:=⟨j - 1,by omega⟩
     rfl
   ·rw [if_neg hik,if_neg (by omega)]
  ·simp only [decide_eq_false_iff_not] at h
   refine zG zE (NS.ret rfl rfl (agg2_le (LeA.of ?_) (LeA.refl _)))
   have hs:setTick d.items id tk = d.items:=by unfold setTick;rw [if_neg h]
   simp only [hs];rfl
theorem rFold_ok (l:List Jrec) (hl:l.length <= 999980):FnOK Tryz.prog 69 [slR l] (durA (foldM l),none):=by
 refine fn_ok CN rfl (by kernel_rfl) Tryz.func69 rfl ?_
 refine zG zE ?_
 refine NS.loop (σ:={ k:Nat // k <= l.length /\ ∀ i,i < k -> badRec (l.getD i default) = false }) (fun k=>[(0,slR l),(2,.ptr 2 0),(4,.ptr 4 0),(5,.int .i64 k.1)]) (fun k=>[(2,.box [.junk,.junk]),(4,.box (effs (l.take k.1) ⟨[],[]⟩).cells)]) (fun k=>l.length - k.1) ⟨0,Nat.zero_le _,fun i hi=>by omega⟩ ?_ ?_
 ·refine Weak.trans (weak_box 4 (cells':=(effs (l.take 0) ⟨[],[]⟩).cells) rfl (.cons (LeA.nil' rfl) (.cons (LeA.nil' rfl) .nil))) ?_
  exact weak_hd [] rfl ⟨rfl,rfl,rfl,rfl,trivial⟩ ⟨⟨_,rfl,_,_,rfl,trivial,_,_,rfl,trivial,rfl⟩,⟨_,rfl,_,_,rfl,rfl,_,_,rfl,rfl,rfl⟩,trivial⟩ trivial (by kernel_rfl)
 ·rintro ⟨k,hk,hn⟩
  have hlen:=effs_len (l.take k) ⟨[],[]⟩
  simp only [List.length_take,List.length_nil] at hlen
  refine zG zE (NS.ite (fun h=>?_) (fun h=>?_))
  ·simp at h
   have hsn:effs (l.take (k + 1)) ⟨[],[]⟩ = effM (effs (l.take k) ⟨[],[]⟩) (l.getD k default):=by rw [take_snoc (by omega),effs_snoc]
   refine zG zE (NS.need (by simp;omega) ?_)
   refine zG zE (NS.call (rCheck_ok (l.getD k default)) rfl ?_)
   refine zG zE (NS.ite (fun h2=>?_) (fun h2=>?_))
   ·refine zG zE (NS.leaveOut rfl zE (NS.ret rfl rfl (dur_le ?_ nilD)))
    have:l.any badRec = true:=any_t (k:=k) (by omega) h2
    simp only [foldM,this];rfl
   ·have hgd:Good (effs (l.take k) ⟨[],[]⟩):=good_effs good_nil (by
     intro r hr
     obtain ⟨i,hi,rfl⟩:=List.getElem_of_mem hr
     have hik:i < k:=by simp at hi;omega
     have:=hn i hik
     rw [getD_lt (by omega)] at this
     rw [List.getElem_take]
     unfold badRec at this
     simpa using this)
    refine zG zE (NS.chk (by kernel_rfl) ?_)
    refine zG zE (NS.need (by simp;omega) ?_)
    refine zG zE (NS.call (rEffect_ok (effs (l.take k) ⟨[],[]⟩) (l.getD k default) hgd.2.2.1 (by simpa using h2) (by omega) (by omega)) rfl ?_)
    refine zG zE (NS.next ⟨k + 1,by omega,fun i hi=>?_⟩ (by simp;omega) ?_)
    ·by_cases hik:i = k
     ·subst hik;exact h2
     ·exact hn i (by omega)
    ·refine weak_hd [] rfl ⟨rfl,rfl,rfl,ren_int rfl (i64_k (by omega) (by omega)),trivial⟩ ⟨⟨_,rfl,_,_,rfl,trivial,_,_,rfl,trivial,rfl⟩,?_,trivial⟩ trivial (by kernel_rfl)
     rw [hsn]
     exact ⟨_,rfl,_,_,rfl,rfl,_,_,rfl,rfl,rfl⟩
  ·simp at h
   refine zG zE (NS.leave rfl zE ?_)
   have ha:l.any badRec = false:=any_f fun i hi=>hn i (by omega)
   have hres:foldM l = (effs l ⟨[],[]⟩,0):=by simp only [foldM,ha];rfl
   refine zG zE (NS.ret rfl rfl (dur_le hres ?_))
   rw [take_all (by omega)]
   exact LeA.refl _
theorem foldM_len (l:List Jrec):(foldM l).1.items.length <= l.length /\ (foldM l).1.inbox.length <= l.length:=by
 unfold foldM
 split
 ·simp
 ·have:=effs_len l ⟨[],[]⟩;simpa using this
def keep (p:Itm -> Bool) (l:List Itm):List Itm:=l.filter fun x=>!p x
def expd (now:Int) (x:Itm):Bool:=decide (x.expires <= now)
theorem ok_id {x:Itm} (h:okItem x = true):validId x.id = true:=by
 unfold okItem itemErr at h
 simp only [beq_iff_eq] at h
 split at h
 ·rename_i hc
  simp only [Bool.and_eq_true] at hc
  exact hc.1.1.1.1
 ·cases h
theorem recErr2 {id:Nid} {now:Int} (h:validId id = true) (hn:inR now 0 1099511627776 = true):recErr ⟨2,.zero,id,0,now⟩ = 0:=by
 have h1:inR 2 1 4 = true:=rfl
 have h3:Itm.zero.eqv Itm.zero = true:=Itm.eqv_iff.2 rfl
 simp only [recErr,h,hn,h1,h3];rfl
theorem effs_remove (ids:List Nid) (now:Int) (d:Dur):effs (ids.map fun i=>⟨2,.zero,i,0,now⟩) d = ⟨d.items.filter (fun x=>ids.all fun i=>notId i x),d.inbox⟩:=by
 induction ids generalizing d with
 | nil=>
  have:d.items.filter (fun x=>([]:List Nid).all fun i=>notId i x) = d.items:=List.filter_eq_self.2 fun _ _=>rfl
  rw [this];rfl
 | cons i ids ih=>
  have he:effM d ⟨2,.zero,i,0,now⟩ = ⟨d.items.filter (notId i),d.inbox⟩:=by simp only [effM];rfl
  have hc:effs ((i :: ids).map fun i=>(⟨2,.zero,i,0,now⟩:Jrec)) d = effs (ids.map fun i=>⟨2,.zero,i,0,now⟩) (effM d ⟨2,.zero,i,0,now⟩):=rfl
  rw [hc,he,ih,List.filter_filter]
  congr 1
  refine List.filter_congr fun x _=>?_
  simp only [List.all_cons]
  rw [Bool.and_comm]
theorem expRecs_map (now:Int) (l:List Itm):expRecs now l = ((l.filter (expd now)).map Itm.id).map fun i=>⟨2,.zero,i,0,now⟩:=by
 induction l with
 | nil=>rfl
 | cons x l ih=>
  have hc:expRecs now (x :: l) = expRec now x ++ expRecs now l:=rfl
  rw [hc,ih,List.filter_cons]
  unfold expRec expd
  by_cases h:x.expires <= now
  ·simp [h]
  ·simp [h]
theorem mem_uniq {l:List Itm} (hu:Uniq l) {x y:Itm} (hx:x ∈ l) (hy:y ∈ l) (h:x.id = y.id):x = y:=by
 rw [uniq_get] at hu
 obtain ⟨i,hi,rfl⟩:=List.getElem_of_mem hx
 obtain ⟨j,hj,rfl⟩:=List.getElem_of_mem hy
 rcases Nat.lt_trichotomy i j with hlt | heq | hgt
 ·exact absurd h (hu i j hi hj hlt)
 ·subst heq;rfl
 ·exact absurd h.symm (hu j i hj hi hgt)
theorem expired_law {d:Dur} {now:Int} (hd:Good d):effs (expRecs now d.items) d = ⟨keep (expd now) d.items,d.inbox⟩:=by
 rw [expRecs_map,effs_remove]
 congr 1
 unfold keep
 refine List.filter_congr fun x hx=>?_
 rw [Bool.eq_iff_iff]
 simp only [List.all_eq_true,List.mem_map,List.mem_filter,Bool.not_eq_true']
 constructor
 ·intro h
  rw [<- Bool.not_eq_true]
  intro he
  have:=h x.id ⟨x,⟨hx,he⟩,rfl⟩
  unfold notId at this
  rw [hasId_self] at this;cases this
 ·rintro he i ⟨y,⟨hy,hye⟩,rfl⟩
  unfold notId
  rw [Bool.not_eq_true',<- Bool.not_eq_true]
  intro h
  have:=mem_uniq hd.2.2.1 hx hy (Nid.eqv_iff.1 h)
  subst this
  rw [he] at hye;cases hye
theorem expRecs_ok {d:Dur} {now:Int} (hd:Good d) (hn:inR now 0 1099511627776 = true):∀ r ∈ expRecs now d.items,recErr r = 0:=by
 intro r hr
 rw [expRecs_map] at hr
 simp only [List.mem_map,List.mem_filter] at hr
 obtain ⟨i,⟨x,⟨hx,_⟩,rfl⟩,rfl⟩:=hr
 exact recErr2 (ok_id (hd.1 x hx)) hn
def findM (d:Dur) (id:Nid):Itm × Bool:=if idx (hasId id) d.items >= 0 then (d.items.getD (idx (hasId id) d.items).toNat default,true) else (.zero,false)
theorem find_ok (d:Dur) (id:Nid) (h1:d.items.length <= 1000000):FnOK Tryz.prog 44 [.agg d.cells,.agg id.cells] (.tup [.agg (findM d id).1.cells,.bool (findM d id).2],none):=by
 have hx:=idx_lt (hasId id) d.items
 refine fn_ok CN rfl (by kernel_rfl) Tryz.func44 rfl ?_
 refine zG zE (NS.call (index_ok d.items id h1) rfl ?_)
 refine zG zE (NS.ite (fun h=>?_) (fun h=>?_))
 ·have hf:findM d id = (d.items.getD (idx (hasId id) d.items).toNat default,true):=by unfold findM;rw [if_pos (by simpa using h)]
  simp only [decide_eq_true_eq] at h
  rw [hf]
  refine zG zE (NS.need (decide_eq_true (by omega)) ?_)
  exact zG zE (NS.ret rfl rfl (LeA.tup2 (LeA.of rfl) (LeA.of rfl)))
 ·have hf:findM d id = (.zero,false):=by unfold findM;rw [if_neg (by simpa using h)]
  rw [hf]
  exact zG zE (NS.ret rfl rfl (LeA.tup2 (LeA.of rfl) (LeA.of rfl)))
def nC (n:Int):List A:=[.int .i64 n]
def slN (l:List Int):A:=.sl 1 l.length (rowL nC l)
def cmpI (a b:Int):Int:=if a < b then -1 else if a > b then 1 else 0
theorem isNaN_ok (n:Int):FnOK Tryz.prog 234 [.int .i64 n] (.bool false,none):=by
 refine fn_ok CN rfl (by kernel_rfl) Tryz.func234 rfl ?_
 exact zG zE (NS.ret rfl rfl (LeA.of (congrArg A.bool (bne_self_eq_false n))))
theorem compare_ok (a b:Int):FnOK Tryz.prog 198 [.int .i64 a,.int .i64 b] (.int .i64 (cmpI a b),none):=by
 refine fn_ok CN rfl (by kernel_rfl) Tryz.func198 rfl ?_
 refine zG zE (NS.call (isNaN_ok a) rfl ?_)
 refine zG zE (NS.call (isNaN_ok b) rfl ?_)
 refine zG zE (NS.no rfl ?_)
 refine zG zE (NS.no rfl ?_)
 refine zG zE (NS.ite (fun h=>?_) (fun h=>?_))
 ·refine zG zE (NS.ret rfl rfl (LeA.of (congrArg (A.int .i64) ?_)))
  unfold cmpI;rw [if_pos (by simpa using h)]
 refine zG zE (NS.ite (fun h2=>?_) (fun h2=>?_))
 ·refine zG zE (NS.ret rfl rfl (LeA.of (congrArg (A.int .i64) ?_)))
  unfold cmpI;rw [if_neg (by simpa using h),if_pos (by simpa using h2)]
 ·refine zG zE (NS.ret rfl rfl (LeA.of (congrArg (A.int .i64) ?_)))
  unfold cmpI;rw [if_neg (by simpa using h),if_neg (by simpa using h2)]
def cmpL:List Int -> List Int -> Int
 | [],[]=>0
 | [],_ :: _=>-1
 | _ :: _,[]=>1
 | a :: l,b :: m=>if cmpI a b != 0 then cmpI a b else cmpL l m
theorem drop_end {α:Type} {l:List α} {k:Nat} (h:l.length <= k):l.drop k = []:=List.drop_eq_nil_of_le h
theorem compareL_ok (l m:List Int) (hl:l.length <= 1000000):FnOK Tryz.prog 246 [slN l,slN m] (.int .i64 (cmpL l m),none):=by
 refine fn_ok CN rfl (by kernel_rfl) Tryz.func246 rfl ?_
 refine zG zE ?_
 refine NS.loop (σ:={ k:Nat // k <= l.length /\ k <= m.length /\ cmpL l m = cmpL (l.drop k) (m.drop k) }) (fun k=>[(0,slN l),(1,slN m),(9,slN l),(10,.int .i64 l.length),(11,.int .i64 k.1)]) (fun _=>[]) (fun k=>l.length - k.1) ⟨0,Nat.zero_le _,Nat.zero_le _,rfl⟩ ?_ ?_
 ·exact weak_hd [] rfl ⟨rfl,rfl,rfl,rfl,rfl,trivial⟩ trivial trivial (by kernel_rfl)
 ·rintro ⟨k,hk,hk2,hs⟩
  refine zG zE (NS.ite (fun h=>?_) (fun h=>?_))
  ·simp at h
   rw [drop_cons (by omega)] at hs
   refine zG zE (NS.need (by simp;omega) ?_)
   refine zG zE (NS.ite (fun h2=>?_) (fun h2=>?_))
   ·simp at h2
    refine zG zE (NS.leaveOut rfl zE (NS.ret rfl rfl (LeA.of (congrArg (A.int .i64) ?_))))
    rw [hs,drop_end (l:=m) (by omega)];rfl
   ·simp at h2
    rw [drop_cons (l:=m) (by omega)] at hs
    refine zG zE (NS.need (by simp;omega) ?_)
    refine zG zE (NS.call (compare_ok (l.getD k default) (m.getD k default)) rfl ?_)
    refine zG zE (NS.ite (fun h3=>?_) (fun h3=>?_))
    ·refine zG zE (NS.leaveOut rfl zE (NS.ret rfl rfl (LeA.of (congrArg (A.int .i64) ?_))))
     rw [hs,cmpL,if_pos h3]
    ·refine zG zE (NS.next ⟨k + 1,by omega,by omega,?_⟩ (by simp;omega) ?_)
     ·rw [hs,cmpL,if_neg (by rw [Bool.not_eq_true];exact h3)]
     ·exact weak_hd [] rfl ⟨rfl,rfl,rfl,rfl,ren_int rfl (i64_k (k:=k) (n:=l.length) (by omega) (by omega)),trivial⟩ trivial trivial (by kernel_rfl)
  ·simp at h
   refine zG zE (NS.leave rfl zE ?_)
   rw [drop_end (l:=l) (by omega)] at hs
   refine zG zE (NS.ite (fun h2=>?_) (fun h2=>?_))
   ·simp at h2
    refine zG zE (NS.ret rfl rfl (LeA.of (congrArg (A.int .i64) ?_)))
    rw [hs,drop_cons (l:=m) (by omega)];rfl
   ·simp at h2
    refine zG zE (NS.ret rfl rfl (LeA.of (congrArg (A.int .i64) ?_)))
    rw [hs,drop_end (by omega)];rfl
def orL:List Int -> Int
 | []=>0
 | a :: l=>if a != 0 then a else orL l
theorem or_ok (l:List Int) (hl:l.length <= 1000000):FnOK Tryz.prog 197 [slN l] (.int .i64 (orL l),none):=by
 refine fn_ok CN rfl (by kernel_rfl) Tryz.func197 rfl ?_
 refine zG zE ?_
 refine NS.loop (σ:={ k:Nat // k <= l.length /\ orL l = orL (l.drop k) }) (fun k=>[(3,.int .i64 0),(6,slN l),(7,.int .i64 l.length),(8,.int .i64 k.1)]) (fun _=>[]) (fun k=>l.length - k.1) ⟨0,Nat.zero_le _,rfl⟩ ?_ ?_
 ·exact weak_hd [] rfl ⟨rfl,rfl,rfl,rfl,trivial⟩ trivial trivial (by kernel_rfl)
 ·rintro ⟨k,hk,hs⟩
  refine zG zE (NS.ite (fun h=>?_) (fun h=>?_))
  ·simp at h
   rw [drop_cons (by omega)] at hs
   refine zG zE (NS.need (by simp;omega) ?_)
   refine zG zE (NS.ite (fun h3=>?_) (fun h3=>?_))
   ·refine zG zE (NS.leaveOut rfl zE (NS.ret rfl rfl (LeA.of (congrArg (A.int .i64) ?_))))
    show l.getD k default = orL l
    have h3':(l.getD k default != 0) = true:=h3
    rw [hs,orL,if_pos h3']
   ·refine zG zE (NS.next ⟨k + 1,by omega,?_⟩ (by simp;omega) ?_)
    ·have h3':(l.getD k default != 0) = false:=h3
     rw [hs,orL,if_neg (by rw [h3'];simp)]
    ·exact weak_hd [] rfl ⟨rfl,rfl,rfl,ren_int rfl (i64_k (k:=k) (n:=l.length) (by omega) (by omega)),trivial⟩ trivial trivial (by kernel_rfl)
  ·simp at h
   refine zG zE (NS.leave rfl zE ?_)
   refine zG zE (NS.ret rfl rfl (LeA.of (congrArg (A.int .i64) ?_)))
   rw [hs,drop_end (by omega)];rfl
def idL (x:Nid):List Int:=[x.source,x.created,x.seq,x.off,x.total]
theorem row5 (a b c d e:Int):∀ i,i < 5 -> ∀ j,j < 1 -> getA [.int .i64 a,.int .i64 b,.int .i64 c,.int .i64 d,.int .i64 e] (i * 1 + j) = rowL nC [a,b,c,d,e] i j:=by
 intro i hi j hj
 obtain rfl:j = 0:=by omega
 match i,hi with
 | 0,_=>rfl
 | 1,_=>rfl
 | 2,_=>rfl
 | 3,_=>rfl
 | 4,_=>rfl
 | i + 5,h=>omega
theorem row3 (a b c:Int):∀ i,i < 3 -> ∀ j,j < 1 -> getA [.int .i64 a,.int .i64 b,.int .i64 c] (i * 1 + j) = rowL nC [a,b,c] i j:=by
 intro i hi j hj
 obtain rfl:j = 0:=by omega
 match i,hi with
 | 0,_=>rfl
 | 1,_=>rfl
 | 2,_=>rfl
 | i + 3,h=>omega
theorem bCompareIds_ok (a b:Nid):FnOK Tryz.prog 238 [.agg a.cells,.agg b.cells] (.int .i64 (cmpL (idL a) (idL b)),none):=by
 refine fn_ok CN rfl (by kernel_rfl) Tryz.func238 rfl ?_
 refine zG zE (NS.call ((compareL_ok (idL a) (idL b) (by simp [idL])).le (LeL.cons (LeA.sl rfl (row5 _ _ _ _ _)) (LeL.cons (LeA.sl rfl (row5 _ _ _ _ _)) LeL.nil))) rfl ?_)
 exact zG zE (NS.ret rfl rfl (LeA.of rfl))
def lessId (a b:Nid):Bool:=decide (cmpL (idL a) (idL b) < 0)
theorem bLess_ok (a b:Nid):FnOK Tryz.prog 212 [.agg a.cells,.agg b.cells] (.bool (lessId a b),none):=by
 refine fn_ok CN rfl (by kernel_rfl) Tryz.func212 rfl ?_
 refine zG zE (NS.call (bCompareIds_ok a b) rfl ?_)
 exact zG zE (NS.ret rfl rfl (LeA.of rfl))
def cmpId (a b:Nid):Int:=if lessId a b then -1 else if lessId b a then 1 else 0
theorem compareIds_ok (a b:Nid):FnOK Tryz.prog 199 [.agg a.cells,.agg b.cells] (.int .i64 (cmpId a b),none):=by
 refine fn_ok CN rfl (by kernel_rfl) Tryz.func199 rfl ?_
 refine zG zE (NS.call (bLess_ok a b) rfl ?_)
 refine zG zE (NS.ite (fun h=>?_) (fun h=>?_))
 ·refine zG zE (NS.ret rfl rfl (LeA.of (congrArg (A.int .i64) ?_)))
  unfold cmpId;rw [if_pos h]
 refine zG zE (NS.call (bLess_ok b a) rfl ?_)
 refine zG zE (NS.ite (fun h2=>?_) (fun h2=>?_))
 ·refine zG zE (NS.ret rfl rfl (LeA.of (congrArg (A.int .i64) ?_)))
  unfold cmpId;rw [if_neg (by rw [h];simp),if_pos h2]
 ·refine zG zE (NS.ret rfl rfl (LeA.of (congrArg (A.int .i64) ?_)))
  unfold cmpId;rw [if_neg (by rw [h];simp),if_neg (by rw [h2];simp)]
def cmpItm (a b:Itm):Int:=orL [cmpI b.prio a.prio,cmpI a.expires b.expires,cmpId a.id b.id]
theorem order1_ok (d:Dur) (i k:Nat) (hi:i < d.items.length) (hk:k < d.items.length):FnOK Tryz.prog 196 [.int .i64 i,.int .i64 k,.ip 2 (getA d.cells)] (.int .i64 (cmpItm (d.items.getD i default) (d.items.getD k default)),none):=by
 refine fn_ok CN rfl (by kernel_rfl) Tryz.func196 rfl ?_
 refine zG zE (NS.chk (by kernel_rfl) ?_)
 refine zG zE (NS.need (by simp;omega) ?_)
 refine zG zE (NS.need (by simp;omega) ?_)
 refine zG zE (NS.chk (by kernel_rfl) ?_)
 refine zG zE (NS.call (compare_ok (d.items.getD k default).prio (d.items.getD i default).prio) rfl ?_)
 refine zG zE (NS.call (compare_ok (d.items.getD i default).expires (d.items.getD k default).expires) rfl ?_)
 refine zG zE (NS.call (compareIds_ok (d.items.getD i default).id (d.items.getD k default).id) rfl ?_)
 refine zG zE (NS.call ((or_ok [cmpI (d.items.getD k default).prio (d.items.getD i default).prio,cmpI (d.items.getD i default).expires (d.items.getD k default).expires,cmpId (d.items.getD i default).id (d.items.getD k default).id] (by simp)).le (LeL.cons (LeA.sl rfl (row3 _ _ _)) LeL.nil)) rfl ?_)
 exact zG zE (NS.ret rfl rfl (LeA.of rfl))
def swp (L:List Int) (j:Nat):List Int:=(L.set (j + 1) (L.getD j default)).set j (L.getD (j + 1) default)
def sink (lt:Int -> Int -> Bool):Nat -> List Int -> List Int
 | 0,L=>L
 | j + 1,L=>if lt (L.getD (j + 1) default) (L.getD j default) then sink lt j (swp L j) else L
theorem swp_len (L:List Int) (j:Nat):(swp L j).length = L.length:=by simp [swp]
theorem sink_len (lt:Int -> Int -> Bool):∀ (j:Nat) (L:List Int),(sink lt j L).length = L.length
 | 0,L=>rfl
 | j + 1,L=>by
  unfold sink
  split
  ·rw [sink_len lt j,swp_len]
  ·rfl
theorem swp_append {A B:List Int} {j:Nat} (h:j + 1 < A.length):swp (A ++ B) j = swp A j ++ B:=by
 unfold swp
 rw [getD_append_left (by omega),getD_append_left h,List.set_append_left _ _ h,List.set_append_left _ _ (by simp;omega)]
theorem sink_append (lt:Int -> Int -> Bool):∀ (j:Nat) (A B:List Int),j < A.length -> sink lt j (A ++ B) = sink lt j A ++ B
 | 0,A,B,h=>rfl
 | j + 1,A,B,h=>by
  unfold sink
  rw [getD_append_left h,getD_append_left (by omega)]
  split
  ·rw [swp_append h,sink_append lt j _ _ (by rw [swp_len];omega)]
  ·rfl
theorem swp_mem {p:Int -> Prop} {L:List Int} {j:Nat} (h:j + 1 < L.length) (hp:∀ x ∈ L,p x):∀ x ∈ swp L j,p x:=by
 intro x hx
 unfold swp at hx
 have h1:L.getD j default ∈ L:=by rw [getD_lt (by omega)];exact List.getElem_mem _
 have h2:L.getD (j + 1) default ∈ L:=by rw [getD_lt h];exact List.getElem_mem _
 rcases List.mem_or_eq_of_mem_set hx with hx | rfl
 ·rcases List.mem_or_eq_of_mem_set hx with hx | rfl
  ·exact hp x hx
  ·exact hp _ h1
 ·exact hp _ h2
theorem sink_mem {p:Int -> Prop} (lt:Int -> Int -> Bool):∀ (j:Nat) (L:List Int),j < L.length -> (∀ x ∈ L,p x) -> ∀ x ∈ sink lt j L,p x
 | 0,L,h,hp=>hp
 | j + 1,L,h,hp=>by
  unfold sink
  split
  ·exact sink_mem lt j _ (by rw [swp_len];omega) (swp_mem h hp)
  ·exact hp
def upto (k n:Nat):List Int:=(List.range (n - k)).map fun i=>((k + i:Nat):Int)
theorem upto_end {k n:Nat} (h:n <= k):upto k n = []:=by unfold upto;rw [show n - k = 0 by omega];rfl
theorem upto_len (k n:Nat):(upto k n).length = n - k:=by simp [upto]
def ordR (lt:Int -> Int -> Bool):Nat -> List Int
 | 0=>[]
 | n + 1=>sink lt n (ordR lt n ++ [(n:Int)])
theorem ordR_len (lt:Int -> Int -> Bool):∀ n,(ordR lt n).length = n
 | 0=>rfl
 | n + 1=>by rw [ordR,sink_len];simp [ordR_len lt n]
theorem ordR_mem (lt:Int -> Int -> Bool):∀ n,∀ x ∈ ordR lt n,0 <= x /\ x < n
 | 0,x,h=>by cases h
 | n + 1,x,h=>by
  refine sink_mem (p:=fun x=>0 <= x /\ x < ((n + 1:Nat):Int)) lt n _ (by simp [ordR_len]) (fun y hy=>?_) x h
  rcases List.mem_append.1 hy with hy | hy
  ·have:=ordR_mem lt n y hy;omega
  ·obtain rfl:=List.mem_singleton.1 hy;omega
def ltD (d:Dur) (a b:Int):Bool:=decide (cmpItm (d.items.getD a.toNat default) (d.items.getD b.toNat default) < 0)
def fillL (k n:Nat):List Int:=upto 0 k ++ List.replicate (n - k) 0
theorem fillL_len {k n:Nat} (h:k <= n):(fillL k n).length = n:=by simp [fillL,upto_len];omega
theorem fillL_step {k n:Nat} (h:k < n):(fillL k n).set k (k:Int) = fillL (k + 1) n:=by
 have hu:upto 0 (k + 1) = upto 0 k ++ [(k:Int)]:=by
  unfold upto
  rw [show k + 1 - 0 = (k - 0) + 1 by omega,List.range_succ]
  simp
 unfold fillL
 rw [hu,show n - k = (n - (k + 1)) + 1 by omega,List.replicate_succ]
 rw [List.set_append_right _ _ (by rw [upto_len];omega),upto_len]
 simp
theorem fillL_all (n:Nat):fillL n n = upto 0 n:=by simp [fillL]
theorem upto_mem {k n:Nat} {x:Int} (h:x ∈ upto k n):0 <= x /\ x < n:=by
 unfold upto at h
 simp only [List.mem_map,List.mem_range] at h
 obtain ⟨i,hi,rfl⟩:=h
 omega
theorem memI {L:List Int} {p:Int -> Prop} (h:∀ x ∈ L,p x) {j:Nat} (hj:j < L.length):p (L.getD j default):=by
 rw [getD_lt hj];exact h _ (List.getElem_mem _)
theorem getD_setN (L:List Int) (i:Nat) (x:Int) (q:Nat) (hi:i < L.length):(L.set i x).getD q default = if q = i then x else L.getD q default:=by
 simp only [List.getD,List.getElem?_set]
 by_cases h:q = i
 ·subst h;simp [hi]
 ·rw [if_neg h,if_neg (fun e=>h e.symm)]
theorem rowN_set (L:List Int) (i:Nat) (x:Int) (hi:i < L.length) (q j:Nat) (hj:j < 1):(if q = i /\ 0 <= j /\ j < 0 + 1 then getA [A.int .i64 x] (j - 0) else rowL nC L q j) = rowL nC (L.set i x) q j:=by
 unfold rowL
 rw [getD_setN _ _ _ _ hi]
 by_cases h:q = i
 ·rw [if_pos ⟨h,by omega,by omega⟩,if_pos h];rfl
 ·rw [if_neg (by omega),if_neg h]
theorem flatN (l:List Int) (i j:Nat):flat 3 (rowL nC l i j) = true:=flat_getA rfl j
theorem order1_okI (d:Dur) (x y:Int) (hx:0 <= x /\ x < d.items.length) (hy:0 <= y /\ y < d.items.length):FnOK Tryz.prog 196 [.int .i64 x,.int .i64 y,.ip 2 (getA d.cells)] (.int .i64 (cmpItm (d.items.getD x.toNat default) (d.items.getD y.toNat default)),none):=by
 have h:=order1_ok d x.toNat y.toNat (by omega) (by omega)
 rw [Int.toNat_of_nonneg hx.1,Int.toNat_of_nonneg hy.1] at h
 exact h
theorem cmpI_lt (a b:Int):cmpI a b < 0 ↔ a < b:=by
 unfold cmpI
 by_cases h:a < b
 ·rw [if_pos h];simp [h]
 ·rw [if_neg h]
  split <;> simp [h]
theorem cmpI_zero (a b:Int):cmpI a b = 0 ↔ a = b:=by
 unfold cmpI
 by_cases h:a < b
 ·rw [if_pos h];simp;omega
 ·rw [if_neg h]
  split
  ·simp;omega
  ·simp;omega
theorem rLess_ok (a b:Nid):FnOK Tryz.prog 170 [.agg a.cells,.agg b.cells] (.bool (lessId a b),none):=by
 have hla:(idL a).length = 5:=rfl
 have hlb:(idL b).length = 5:=rfl
 refine fn_ok CN rfl (by kernel_rfl) Tryz.func170 rfl ?_
 refine zG zE ?_
 refine NS.loop (σ:={ k:Nat // k <= 5 /\ cmpL (idL a) (idL b) = cmpL ((idL a).drop k) ((idL b).drop k) }) (fun k=>[(4,.kb false),(5,.own 18),(6,.own 29),(7,.int .i64 k.1)]) (fun _=>[(18,.row 3 1 5 (rowL nC (idL a))),(29,.row 3 1 5 (rowL nC (idL b)))]) (fun k=>5 - k.1) ⟨0,Nat.zero_le _,rfl⟩ ?_ ?_
 ·exact weak_hd [] rfl ⟨rfl,rfl,rfl,rfl,trivial⟩ ⟨ren_row rfl rfl (row5 _ _ _ _ _),ren_row rfl rfl (row5 _ _ _ _ _),trivial⟩ trivial (by kernel_rfl)
 ·rintro ⟨k,hk,hs⟩
  refine zG zE (NS.ite (fun h=>?_) (fun h=>?_))
  ·simp at h
   rw [drop_cons (l:=idL a) (by omega),drop_cons (l:=idL b) (by omega)] at hs
   refine zG zE (NS.chk (by kernel_rfl) ?_)
   refine zG zE (NS.need (by simp;omega) ?_)
   refine zG zE (NS.need (by simp;omega) ?_)
   refine zG zE (NS.need (by simp;omega) ?_)
   refine zG zE (NS.need (by simp;omega) ?_)
   refine zG zE (NS.ite (fun h2=>?_) (fun h2=>?_))
   ·have h2':((idL a).getD k default != (idL b).getD k default) = true:=h2
    have hc:cmpL (idL a) (idL b) = cmpI ((idL a).getD k default) ((idL b).getD k default):=by
     rw [hs,cmpL,if_pos]
     rw [bne_iff_ne,ne_eq,cmpI_zero]
     rw [bne_iff_ne] at h2'
     exact h2'
    refine zG zE (NS.chk (by kernel_rfl) ?_)
    refine zG zE (NS.need (by simp;omega) ?_)
    refine zG zE (NS.need (by simp;omega) ?_)
    refine zG zE (NS.need (by simp;omega) ?_)
    refine zG zE (NS.need (by simp;omega) ?_)
    refine zG zE (NS.leaveOut rfl zE (NS.ret rfl rfl (LeA.of (congrArg A.bool ?_))))
    show decide ((idL a).getD k default < (idL b).getD k default) = lessId a b
    unfold lessId
    rw [hc]
    exact decide_eq_decide.2 (cmpI_lt _ _).symm
   ·have h2':((idL a).getD k default != (idL b).getD k default) = false:=h2
    have he:(idL a).getD k default = (idL b).getD k default:=by simpa using h2'
    refine zG zE (NS.next ⟨k + 1,by omega,?_⟩ (by simp;omega) ?_)
    ·rw [hs,cmpL,if_neg]
     simp only [bne_iff_ne,ne_eq,Classical.not_not]
     rw [cmpI_zero];exact he
    ·exact weak_hd [] rfl ⟨rfl,rfl,rfl,ren_int rfl (i64_k (k:=k) (n:=5) (by omega) (by omega)),trivial⟩ ⟨ren_row rfl rfl fun _ _ _ _=>rfl,ren_row rfl rfl fun _ _ _ _=>rfl,trivial⟩ trivial (by kernel_rfl)
  ·simp at h
   refine zG zE (NS.leave rfl zE ?_)
   refine zG zE (NS.ret rfl rfl ?_)
   have:lessId a b = false:=by
    unfold lessId
    rw [hs,drop_end (by omega),drop_end (by omega)];rfl
   rw [this]
   exact LeA.of rfl
theorem rBefore_ok (a b:Itm):FnOK Tryz.prog 149 [.agg a.cells,.agg b.cells] (.bool (decide (cmpItm a b < 0)),none):=by
 refine fn_ok CN rfl (by kernel_rfl) Tryz.func149 rfl ?_
 refine zG zE (NS.ite (fun h=>?_) (fun h=>?_))
 ·have h':a.prio ≠ b.prio:=by simpa using h
  refine zG zE (NS.ret rfl rfl (LeA.of (congrArg A.bool (decide_eq_decide.2 ?_))))
  unfold cmpItm
  rw [orL,if_pos (by rw [bne_iff_ne,ne_eq,cmpI_zero];exact fun e=>h' e.symm),cmpI_lt]
 have h':a.prio = b.prio:=by simpa using h
 have e1:orL [cmpI b.prio a.prio,cmpI a.expires b.expires,cmpId a.id b.id] = orL [cmpI a.expires b.expires,cmpId a.id b.id]:=by
  rw [orL,if_neg]
  simp only [bne_iff_ne,ne_eq,Classical.not_not]
  rw [cmpI_zero,h']
 refine zG zE (NS.ite (fun h2=>?_) (fun h2=>?_))
 ·have h2':a.expires ≠ b.expires:=by simpa using h2
  refine zG zE (NS.ret rfl rfl (LeA.of (congrArg A.bool (decide_eq_decide.2 ?_))))
  unfold cmpItm
  rw [e1,orL,if_pos (by rw [bne_iff_ne,ne_eq,cmpI_zero];exact h2'),cmpI_lt]
 have h2':a.expires = b.expires:=by simpa using h2
 have e2:orL [cmpI a.expires b.expires,cmpId a.id b.id] = cmpId a.id b.id:=by
  rw [orL,if_neg]
  ·simp only [orL]
   split
   ·rfl
   ·rename_i hz
    have hz':cmpId a.id b.id = 0:=by simpa using hz
    exact hz'.symm
  ·simp only [bne_iff_ne,ne_eq,Classical.not_not]
   rw [cmpI_zero,h2']
 refine zG zE (NS.call (rLess_ok a.id b.id) rfl ?_)
 refine zG zE (NS.ret rfl rfl (LeA.of (congrArg A.bool ?_)))
 unfold cmpItm
 rw [e1,e2]
 unfold cmpId
 by_cases hl:lessId a.id b.id = true
 ·rw [if_pos hl,hl];rfl
 ·rw [if_neg hl]
  rw [Bool.not_eq_true] at hl
  rw [hl]
  split <;> rfl
theorem rFind_ok (d:Dur) (id:Nid) (h1:d.items.length <= 1000000):FnOK Tryz.prog 72 [.agg d.cells,.agg id.cells] (.tup [.agg (findM d id).1.cells,.bool (findM d id).2],none):=by
 have hx:=idx_lt (hasId id) d.items
 refine fn_ok CN rfl (by kernel_rfl) Tryz.func72 rfl ?_
 refine zG zE (NS.call (rIndex_ok d.items id h1) rfl ?_)
 refine zG zE (NS.ite (fun h=>?_) (fun h=>?_))
 ·have h':idx (hasId id) d.items = -1:=by simpa using h
  have hf:findM d id = (.zero,false):=by unfold findM;rw [if_neg (by omega)]
  rw [hf]
  exact zG zE (NS.ret rfl rfl (LeA.tup2 (LeA.of rfl) (LeA.of rfl)))
 ·have h':idx (hasId id) d.items ≠ -1:=by simpa using h
  have hf:findM d id = (d.items.getD (idx (hasId id) d.items).toNat default,true):=by unfold findM;rw [if_pos (by omega)]
  rw [hf]
  refine zG zE (NS.need (decide_eq_true (by omega)) ?_)
  exact zG zE (NS.ret rfl rfl (LeA.tup2 (LeA.of rfl) (LeA.of rfl)))
theorem sameItem_ok (a b:Itm):FnOK Tryz.prog 36 [.agg a.cells,.agg b.cells] (.bool (a.eqv b),none):=by
 refine fn_ok CN rfl (by kernel_rfl) Tryz.func36 rfl ?_
 exact zG zE (NS.ret rfl rfl (LeA.of rfl))
theorem rOrder_ok (d:Dur) (h1:d.items.length <= 900000):FnOK Tryz.prog 95 [.agg d.cells] (.own 0,some (.row 3 1 d.items.length (rowL nC (ordR (ltD d) d.items.length)))):=by
 generalize hlt:ltD d = lt
 refine fn_ok CN rfl (by kernel_rfl) Tryz.func95 rfl ?_
 refine zG zE ?_
 refine NS.loop (σ:={ k:Nat // k <= d.items.length }) (fun k=>[(1,.ptr 1 0),(2,.nils),(3,.own 3),(4,.int .i64 k.1)]) (fun k=>[(1,.box d.cells),(3,.row 3 1 (ordR lt k.1).length (rowL nC (ordR lt k.1)))]) (fun k=>d.items.length - k.1) ⟨0,Nat.zero_le _⟩ ?_ ?_
 ·exact (weak_promote 3 3 3 1 (rowL nC []) rfl rfl).trans (weak_hd [] rfl ⟨rfl,rfl,rfl,rfl,trivial⟩ ⟨⟨_,rfl,_,_,rfl,rfl,_,_,rfl,rfl,rfl⟩,ren_row rfl rfl fun _ _ _ _=>rfl,trivial⟩ trivial (by kernel_rfl))
 rintro ⟨k,hk⟩
 have hlen:=ordR_len lt k
 refine zG zE (NS.ite (fun h=>?_) (fun h=>?_))
 ·simp at h
  refine zG zE (NS.need (decide_eq_true (by simp only [maxRow];omega)) ?_)
  refine zG zE ?_
  refine NS.loop (σ:={ p:Nat × List Int // p.1 <= k /\ p.2.length = k + 1 /\ (∀ x ∈ p.2,0 <= x /\ x < ((k + 1:Nat):Int)) /\ sink lt p.1 p.2 = ordR lt (k + 1) }) (fun p=>[(1,.ptr 1 0),(2,.nils),(3,.own 16),(4,.int .i64 k),(5,.int .i64 p.1.1)]) (fun p=>[(1,.box d.cells),(16,.row 3 1 (k + 1) (rowL nC p.1.2))]) (fun p=>p.1.1) ⟨(k,ordR lt k ++ [(k:Int)]),Nat.le_refl _,by simp [hlen],?_,rfl⟩ ?_ ?_
  ·intro x hx
   rcases List.mem_append.1 hx with hx | hx
   ·have:=ordR_mem lt k x hx;omega
   ·obtain rfl:=List.mem_singleton.1 hx;omega
  ·refine weak_hd [] rfl ⟨rfl,rfl,rfl,rfl,rfl,trivial⟩ ⟨⟨_,rfl,_,_,rfl,rfl,_,_,rfl,rfl,rfl⟩,?_,trivial⟩ trivial (by kernel_rfl)
   exact ren_row rfl (by simp [hlen]) (fun i hi j hj=>row_snoc (cells:=nC) (x:=(k:Int)) rfl i (by simp [hlen];omega) j hj)
  rintro ⟨⟨j,L⟩,hj,hL,hm,hs⟩
  simp only at hj hL hm hs
  refine zG zE (NS.chk (by kernel_rfl) ?_)
  refine zG zE (NS.ite (fun h2=>?_) (fun h2=>?_))
  ·obtain ⟨m,rfl⟩:∃ m,j = m + 1:=by
    simp at h2
    exact ⟨j - 1,by omega⟩
   have e1:IntKind.i64.wrap (((m + 1:Nat):Int) - 1) = (m:Int):=by rw [wrap_i64 (by omega) (by omega)];omega
   have hx:=memI hm (j:=m + 1) (by omega)
   have hy:=memI hm (j:=m) (by omega)
   refine zG zE (NS.need (by simp;omega) ?_)
   refine zG zE (NS.need (by simp;omega) ?_)
   refine zG zE (NS.need (decide_eq_true (show 0 <= L.getD (m + 1) default /\ L.getD (m + 1) default < (d.items.length:Int) from ⟨hx.1,by omega⟩)) ?_)
   refine zG zE (NS.need (by rw [e1];simp;omega) ?_)
   rw [e1]
   refine zG zE (NS.need (by simp;omega) ?_)
   refine zG zE (NS.need (decide_eq_true (show 0 <= L.getD m default /\ L.getD m default < (d.items.length:Int) from ⟨hy.1,by omega⟩)) ?_)
   refine zG zE (NS.call (rBefore_ok (d.items.getD (L.getD (m + 1) default).toNat default) (d.items.getD (L.getD m default).toNat default)) rfl ?_)
   refine zG zE (NS.ite (fun h3=>?_) (fun h3=>?_))
   ·have h3':lt (L.getD (m + 1) default) (L.getD m default) = true:=by rw [<- hlt];exact h3
    refine zG zE (NS.chk (by kernel_rfl) ?_)
    refine zG zE (NS.need (by rw [e1];simp;omega) ?_)
    rw [e1]
    refine zG zE (NS.need (by simp;omega) ?_)
    refine zG zE (NS.need (by simp;omega) ?_)
    refine zG zE (NS.need (by simp;omega) ?_)
    refine zG zE (NS.need (by simp;omega) ?_)
    refine zG zE (NS.need (by simp;omega) ?_)
    refine zG zE (NS.need (by simp;omega) ?_)
    refine zG zE (NS.need (by simp;omega) ?_)
    refine zG zE (NS.next ⟨(m,swp L m),by simp only;omega,by simp only;rw [swp_len];exact hL,swp_mem (by omega) hm,?_⟩ (by simp) ?_)
    ·rw [<- hs,sink,if_pos h3']
    ·refine weak_hd [] rfl ⟨rfl,rfl,rfl,rfl,ren_int rfl e1,trivial⟩ ⟨⟨_,rfl,_,_,rfl,rfl,_,_,rfl,rfl,rfl⟩,ren_row rfl rfl fun q hq jj hjj=>?_,trivial⟩ trivial (by kernel_rfl)
     have r1:=rowN_set L (m + 1) (L.getD m default) (by omega) q jj hjj
     have r2:=rowN_set (L.set (m + 1) (L.getD m default)) m (L.getD (m + 1) default) (by simp;omega) q jj hjj
     show _ = rowL nC (swp L m) q jj
     unfold swp
     rw [<- r2,<- r1]
     rfl
   ·have h3':lt (L.getD (m + 1) default) (L.getD m default) = false:=by rw [<- hlt];exact h3
    have hs2:L = ordR lt (k + 1):=by rw [<- hs,sink,if_neg (by rw [h3'];simp)]
    subst hs2
    refine zG zE (NS.leave rfl zE ?_)
    refine zG zE (NS.next ⟨k + 1,by omega⟩ (by simp;omega) ?_)
    exact weak_hd [(3,16)] rfl ⟨rfl,rfl,rfl,ren_int rfl (i64_k (k:=k) (n:=d.items.length) (by omega) (by omega)),trivial⟩ ⟨⟨_,rfl,_,_,rfl,rfl,_,_,rfl,rfl,rfl⟩,ren_row rfl (by simp [ordR_len]) fun q hq jj hjj=>rfl,trivial⟩ trivial (by kernel_rfl)
  ·obtain rfl:j = 0:=by simp at h2;exact h2
   have hs2:L = ordR lt (k + 1):=hs
   subst hs2
   refine zG zE (NS.leave rfl zE ?_)
   refine zG zE (NS.next ⟨k + 1,by omega⟩ (by simp;omega) ?_)
   exact weak_hd [(3,16)] rfl ⟨rfl,rfl,rfl,ren_int rfl (i64_k (k:=k) (n:=d.items.length) (by omega) (by omega)),trivial⟩ ⟨⟨_,rfl,_,_,rfl,rfl,_,_,rfl,rfl,rfl⟩,ren_row rfl (by simp [ordR_len]) fun q hq jj hjj=>rfl,trivial⟩ trivial (by kernel_rfl)
 ·simp at h
  obtain rfl:k = d.items.length:=by omega
  refine zG zE (NS.leave rfl zE ?_)
  exact zG zE (NS.retRow 3 rfl rfl (LeA.refl _) ⟨rfl,rfl,ordR_len lt _,fun _ _ _ _=>rfl⟩ fun _ _ _ _=>flatN _ _ _)
end Go.Proofs.YtggjngbighkdgaaGreat
namespace Go.Mb
open Go.Sy
def vId (x:Nid):Bool:=decide (0 <= x.source /\ x.source < 16 /\ 0 <= x.created /\ x.created <= 1099511627776 /\ 0 <= x.seq /\ x.seq <= 1099511627776 /\ (x.off = 0 /\ x.total = 0 \/ 1 <= x.total /\ x.total <= 4096 /\ 0 <= x.off /\ x.off < x.total))
def vOf (o:Ofr):Bool:=vId o.id && decide (0 <= o.contact /\ o.contact < 64 /\ 0 <= o.due /\ o.due <= 1099511627777 /\ 0 <= o.tries /\ o.tries <= 1152921504606846976)
def Ofr.key (o:Ofr):List A:=[.int .i64 o.id.source,.int .i64 o.id.created,.int .i64 o.id.seq,.int .i64 o.id.off,.int .i64 o.id.total,.int .i64 o.contact]
theorem vId_valid (x:Nid):vId x = validId x:=by
 rw [Bool.eq_iff_iff]
 unfold vId validId inR
 simp only [decide_eq_true_eq,Bool.and_eq_true,Bool.or_eq_true,beq_iff_eq]
 by_cases h:1 <= x.total /\ x.total <= 4096
 ·rw [wrap_i64 (by omega) (by omega)];omega
 ·constructor
  ·intro q;refine ⟨⟨⟨by omega,by omega⟩,by omega⟩,.inl (by omega)⟩
  ·rintro ⟨⟨⟨a,b⟩,c⟩,d | d⟩
   ·omega
   ·exact absurd d.1 h
end Go.Mb
namespace Go.Proofs.YtggjngbighkdgaaGreat
open Go.Sy Go.Mb
set_option maxRecDepth 100000
set_option maxHeartbeats 4000000
def eqTab:List (TypeId × List Go.Sy.CK):=[(39,i5),(41,kItem),(101,kRecord),(174,[.i .i64,.i .i64,.i .i64,.i .i64,.i .i64,.i .i64]),(67,[.i .i64,.i .i64,.i .i64,.i .i64,.i .i64,.i .i64,.i .i64,.i .i64])]
theorem eqTab_ok:EqTab Tryz.prog eqTab:=by
 intro p hp
 simp only [eqTab,List.mem_cons,List.not_mem_nil,or_false] at hp
 rcases hp with rfl | rfl | rfl | rfl | rfl
 ·exact ⟨kinds_id,guard_id,by rw [Tryz.underlying39];trivial⟩
 ·exact ⟨kinds_item,guard_item,by rw [Tryz.underlying41];trivial⟩
 ·exact ⟨kinds_record,guard_record,by rw [Tryz.underlying101];trivial⟩
 ·exact ⟨by kernel_rfl,by kernel_rfl,by rw [Tryz.underlying174];trivial⟩
 ·exact ⟨by kernel_rfl,by kernel_rfl,by rw [Tryz.underlying67];trivial⟩
noncomputable def EF:Env:={ P:=Tryz.prog,eqT:=lookE eqTab }
theorem EF_ok:EqOK EF:=eqOK_of eqTab_ok
noncomputable def CF:Cx:={ E:=EF,inl:=[],ok:=EF_ok }
theorem cId_ok (x:Nid):FnOK Tryz.prog 211 [.agg x.cells] (.bool (vId x),none):=by
 unfold vId
 refine fn_ok CF rfl (by kernel_rfl) Tryz.func211 rfl ?_
 repeat' (first | (refine zG zE (NS.ite (fun h=>?_) (fun h=>?_))) | (refine zG zE (NS.chk (by kernel_rfl) ?_)) | (exact zG zE (NS.ret rfl rfl (LeA.of (congrArg A.bool (by simp only [decide_eq_true_eq,decide_eq_false_iff_not,beq_iff_eq,beq_eq_false_iff_ne] at *;first | (symm;rw [decide_eq_true_eq];omega) | (symm;rw [decide_eq_false_iff_not];omega) | (rw [decide_eq_decide];omega)))))))
theorem rcId_ok (x:Nid):FnOK Tryz.prog 169 [.agg x.cells] (.bool (vId x),none):=by
 unfold vId
 refine fn_ok CF rfl (by kernel_rfl) Tryz.func169 rfl ?_
 repeat' (first | (refine zG zE (NS.ite (fun h=>?_) (fun h=>?_))) | (refine zG zE (NS.chk (by kernel_rfl) ?_)) | (exact zG zE (NS.ret rfl rfl (LeA.of (congrArg A.bool (by simp only [decide_eq_true_eq,decide_eq_false_iff_not,beq_iff_eq,beq_eq_false_iff_ne] at *;first | (symm;rw [decide_eq_true_eq];omega) | (symm;rw [decide_eq_false_iff_not];omega) | (rw [decide_eq_decide];omega)))))))
theorem cValid_ok (o:Ofr):FnOK Tryz.prog 157 [.agg o.cells] (.bool (vOf o),none):=by
 unfold vOf
 cases h:vId o.id
 ·have c:=cId_ok o.id
  rw [h] at c
  refine fn_ok CF rfl (by kernel_rfl) Tryz.func157 rfl ?_
  refine zG zE (NS.call (c) rfl ?_)
  repeat' (first | (refine zG zE (NS.chk (by kernel_rfl) ?_)) | (refine zG zE (NS.no (rfl) ?_)))
  exact zG zE (NS.ret rfl rfl (LeA.refl _))
 ·have c:=cId_ok o.id
  rw [h] at c
  rw [Bool.true_and]
  refine fn_ok CF rfl (by kernel_rfl) Tryz.func157 rfl ?_
  refine zG zE (NS.call (c) rfl ?_)
  refine zG zE (NS.yes (rfl) ?_)
  repeat' (first | (refine zG zE (NS.ite (fun h=>?_) (fun h=>?_))) | (refine zG zE (NS.chk (by kernel_rfl) ?_)) | (exact zG zE (NS.ret rfl rfl (LeA.of (congrArg A.bool (by simp only [decide_eq_true_eq,decide_eq_false_iff_not,beq_iff_eq,beq_eq_false_iff_ne] at *;first | (symm;rw [decide_eq_true_eq];omega) | (symm;rw [decide_eq_false_iff_not];omega) | (rw [decide_eq_decide];omega)))))))
theorem rcValid_ok (o:Ofr):FnOK Tryz.prog 106 [.agg o.cells] (.bool (vOf o),none):=by
 unfold vOf
 cases h:vId o.id
 ·have c:=rcId_ok o.id
  rw [h] at c
  refine fn_ok CF rfl (by kernel_rfl) Tryz.func106 rfl ?_
  refine zG zE (NS.call (c) rfl ?_)
  repeat' (first | (refine zG zE (NS.chk (by kernel_rfl) ?_)) | (refine zG zE (NS.no (rfl) ?_)))
  exact zG zE (NS.ret rfl rfl (LeA.refl _))
 ·have c:=rcId_ok o.id
  rw [h] at c
  rw [Bool.true_and]
  refine fn_ok CF rfl (by kernel_rfl) Tryz.func106 rfl ?_
  refine zG zE (NS.call (c) rfl ?_)
  refine zG zE (NS.yes (rfl) ?_)
  repeat' (first | (refine zG zE (NS.ite (fun h=>?_) (fun h=>?_))) | (refine zG zE (NS.chk (by kernel_rfl) ?_)) | (exact zG zE (NS.ret rfl rfl (LeA.of (congrArg A.bool (by simp only [decide_eq_true_eq,decide_eq_false_iff_not,beq_iff_eq,beq_eq_false_iff_ne] at *;first | (symm;rw [decide_eq_true_eq];omega) | (symm;rw [decide_eq_false_iff_not];omega) | (rw [decide_eq_decide];omega)))))))
theorem keyOf_ok (o:Ofr):FnOK Tryz.prog 159 [.agg o.cells] (.agg o.key,none):=by
 refine fn_ok CF rfl (by kernel_rfl) Tryz.func159 rfl ?_
 exact zG zE (NS.ret rfl rfl (LeA.refl _))
theorem cmpL_cons {a b:Int} {l m:List Int}:cmpL (a :: l) (b :: m) < 0 ↔ a < b \/ (a = b /\ cmpL l m < 0):=by
 rw [cmpL]
 split
 ·rename_i h
  have hz:cmpI a b ≠ 0:=by simpa using h
  rw [cmpI_lt]
  have:a ≠ b:=fun e=>hz ((cmpI_zero a b).2 e)
  omega
 ·rename_i h
  have hz:cmpI a b = 0:=by simpa using h
  have:=(cmpI_zero a b).1 hz
  constructor
  ·intro q;exact .inr ⟨this,q⟩
  ·rintro (q | q)
   ·omega
   ·exact q.2
def idLt (a b:Nid):Prop:=a.source < b.source \/ (a.source = b.source /\ (a.created < b.created \/ (a.created = b.created /\ (a.seq < b.seq \/ (a.seq = b.seq /\ (a.off < b.off \/ (a.off = b.off /\ a.total < b.total)))))))
theorem lessId_iff (a b:Nid):lessId a b = true ↔ idLt a b:=by
 unfold lessId idLt idL
 rw [decide_eq_true_eq,cmpL_cons,cmpL_cons,cmpL_cons,cmpL_cons,cmpL_cons]
 have:¬ cmpL [] [] < 0:=by decide
 omega
theorem Nid.ext' {a b:Nid} (h1:a.source = b.source) (h2:a.created = b.created) (h3:a.seq = b.seq) (h4:a.off = b.off) (h5:a.total = b.total):a = b:=by
 obtain ⟨_,_,_,_,_⟩:=a
 obtain ⟨_,_,_,_,_⟩:=b
 simp only at h1 h2 h3 h4 h5
 subst h1 h2 h3 h4 h5
 rfl
def ofLt (a b:Ofr):Prop:=idLt a.id b.id \/ (a.id = b.id /\ a.contact < b.contact)
def cmpO (a b:Ofr):Int:=if lessId a.id b.id then -1 else if lessId b.id a.id then 1 else cmpI a.contact b.contact
theorem idLt_tri (a b:Nid):idLt a b \/ idLt b a \/ a = b:=by
 by_cases h:idLt a b
 ·exact .inl h
 by_cases h2:idLt b a
 ·exact .inr (.inl h2)
 unfold idLt at h h2
 exact .inr (.inr (Nid.ext' (by omega) (by omega) (by omega) (by omega) (by omega)))
theorem idLt_irr (a:Nid):¬ idLt a a:=by unfold idLt;omega
theorem idLt_trans {a b c:Nid} (h:idLt a b) (h2:idLt b c):idLt a c:=by unfold idLt at *;omega
theorem ofLt_trans {a b c:Ofr} (h:ofLt a b) (h2:ofLt b c):ofLt a c:=by
 rcases h with h | ⟨h,h'⟩
 ·rcases h2 with k | ⟨k,_⟩
  ·exact .inl (idLt_trans h k)
  ·exact .inl (by rw [<- k];exact h)
 ·rcases h2 with k | ⟨k,k'⟩
  ·exact .inl (by rw [h];exact k)
  ·exact .inr ⟨h.trans k,by omega⟩
theorem cmpO_lt (a b:Ofr):cmpO a b < 0 ↔ ofLt a b:=by
 unfold cmpO ofLt
 split
 ·rename_i h
  simp [(lessId_iff _ _).1 h]
 ·rename_i h
  have h1:¬ idLt a.id b.id:=fun q=>h ((lessId_iff _ _).2 q)
  split
  ·rename_i h2
   have h2:=(lessId_iff _ _).1 h2
   constructor
   ·intro q;exact absurd q (by decide)
   ·rintro (q | ⟨q,_⟩)
    ·exact absurd q h1
    ·rw [q] at h2;exact absurd h2 (idLt_irr _)
  ·rename_i h2
   have h2:¬ idLt b.id a.id:=fun q=>h2 ((lessId_iff _ _).2 q)
   have e:a.id = b.id:=by rcases idLt_tri a.id b.id with q | q | q;exact absurd q h1;exact absurd q h2;exact q
   rw [cmpI_lt]
   simp [e,idLt_irr]
def ltO (a b:Ofr):Bool:=decide (cmpO a b < 0)
theorem ltO_iff {a b:Ofr}:ltO a b = true ↔ ofLt a b:=by unfold ltO;rw [decide_eq_true_eq,cmpO_lt]
theorem compareK_ok (a b:Ofr):FnOK Tryz.prog 158 [.agg a.key,.agg b.key] (.int .i64 (cmpO a b),none):=by
 unfold cmpO
 refine fn_ok CF rfl (by kernel_rfl) Tryz.func158 rfl ?_
 refine zG zE (NS.call (bLess_ok a.id b.id) rfl ?_)
 refine zG zE (NS.ite (fun h=>?_) (fun h=>?_))
 ·rw [if_pos h]
  exact zG zE (NS.ret rfl rfl (LeA.refl _))
 rw [if_neg (by rw [h];decide)]
 refine zG zE (NS.call (bLess_ok b.id a.id) rfl ?_)
 refine zG zE (NS.ite (fun h2=>?_) (fun h2=>?_))
 ·rw [if_pos h2]
  exact zG zE (NS.ret rfl rfl (LeA.refl _))
 rw [if_neg (by rw [h2];decide)]
 refine zG zE (NS.call (compare_ok a.contact b.contact) rfl ?_)
 exact zG zE (NS.ret rfl rfl (LeA.refl _))
theorem rLessO_ok (a b:Ofr):FnOK Tryz.prog 107 [.agg a.cells,.agg b.cells] (.bool (ltO a b),none):=by
 by_cases h:a.id = b.id
 ·have e:ltO a b = decide (a.contact < b.contact):=by rw [Bool.eq_iff_iff,ltO_iff,decide_eq_true_eq];unfold ofLt;simp [h,idLt_irr]
  rw [e]
  refine fn_ok CF rfl (by kernel_rfl) Tryz.func107 rfl ?_
  refine zG zE (NS.no (by show (!(Nid.eqv a.id b.id)) = false;rw [Nid.eqv_iff.2 h];rfl) ?_)
  exact zG zE (NS.ret rfl rfl (LeA.refl _))
 ·have e:ltO a b = lessId a.id b.id:=by rw [Bool.eq_iff_iff,ltO_iff,lessId_iff];unfold ofLt;simp [h]
  rw [e]
  refine fn_ok CF rfl (by kernel_rfl) Tryz.func107 rfl ?_
  refine zG zE (NS.yes (by show (!(Nid.eqv a.id b.id)) = true;rw [Bool.not_eq_true',<- Bool.not_eq_true,Nid.eqv_iff];exact h) ?_)
  refine zG zE (NS.call (rLess_ok a.id b.id) rfl ?_)
  exact zG zE (NS.ret rfl rfl (LeA.refl _))
def chkS (l:List Ofr):Nat -> Nat -> Int
 | 0,_=>0
 | n + 1,k=>if !vOf (l.getD k default) then 2 else if decide (0 < k) && !ltO (l.getD (k - 1) default) (l.getD k default) then 9 else chkS l n (k + 1)
def chkO (l:List Ofr):Int:=if decide ((l.length:Int) > 64) then 4 else chkS l l.length 0
theorem cCheck_ok (l:List Ofr):FnOK Tryz.prog 101 [slOfr l] (.int .i64 (chkO l),none):=by
  unfold chkO
  refine fn_ok CF rfl (by kernel_rfl) Tryz.func101 rfl ?_
  refine zG zE (NS.ite (fun h0=>?_) (fun h0=>?_))
  · rw [if_pos h0]
    exact zG zE (NS.ret rfl rfl (LeA.refl _))
  rw [if_neg (by rw [h0];decide)]
  have hl : l.length ≤ 64 := by have h0 : ¬ (l.length : Int) > 64 := of_decide_eq_false h0
                                omega
  refine zG zE ?_
  refine NS.loop (σ:={ k:Nat // k <= l.length /\ chkS l l.length 0 = chkS l (l.length - k) k }) (fun k=>[(0,slOfr l),(8,slOfr l),(9,.int .i64 l.length),(10,.int .i64 k.1)]) (fun _=>[]) (fun k=>l.length - k.1) ⟨0,Nat.zero_le _,rfl⟩ ?_ ?_
  · exact weak_hd [] rfl ⟨rfl,rfl,rfl,rfl,trivial⟩ trivial trivial (by kernel_rfl)
  rintro ⟨k,hk,hn⟩
  refine zG zE (NS.ite (fun h=>?_) (fun h=>?_))
  · have h:k < l.length:=by simpa using h
    rw [show l.length - k = (l.length - (k + 1)) + 1 by omega,chkS] at hn
    refine zG zE (NS.need (by simp;omega) ?_)
    refine zG zE (NS.call (cValid_ok (l.getD k default)) rfl ?_)
    refine zG zE (NS.ite (fun hv=>?_) (fun hv=>?_))
    · exact zG zE (NS.leaveOut rfl zE (NS.ret rfl rfl (LeA.of (congrArg (A.int .i64) (by rw [hn,if_pos hv])))))
    rw [if_neg (by rw [hv];decide)] at hn
    refine zG zE (NS.chk (by kernel_rfl) ?_)
    rcases Nat.eq_zero_or_pos k with hz | hz
    · have hp:decide (0 < k) = false:=decide_eq_false (by omega)
      rw [hp] at hn
      refine zG zE (NS.no (decide_eq_false (by show ¬ ((k:Nat):Int) > 0;omega)) ?_)
      refine zG zE (NS.next ⟨k + 1,by omega,hn⟩ (by simp;omega) ?_)
      exact weak_hd [] rfl ⟨rfl,rfl,rfl,ren_int rfl (i64_k (by omega) (by omega)),trivial⟩ trivial trivial (by kernel_rfl)
    · obtain ⟨j,rfl⟩:∃ j,k = j + 1:=⟨k - 1,by omega⟩
      have e1:IntKind.i64.wrap (((j + 1:Nat):Int) - 1) = (j:Int):=by rw [wrap_i64 (by omega) (by omega)];omega
      have hp:decide (0 < j + 1) = true:=decide_eq_true (by omega)
      rw [hp,Bool.true_and,show j + 1 - 1 = j from rfl] at hn
      refine zG zE (NS.yes (decide_eq_true (by show ((j + 1:Nat):Int) > 0;omega)) ?_)
      refine zG zE (NS.need (by rw [e1];simp;omega) ?_)
      have eJ:A.agg (l.getD (Int.toNat (IntKind.i64.wrap (((j + 1:Nat):Int) - 1))) default).cells = A.agg (l.getD j default).cells:=by rw [e1];rfl
      refine zG zE (NS.call ((keyOf_ok (l.getD j default)).le (LeL.cons (LeA.of eJ) LeL.nil)) rfl ?_)
      refine zG zE (NS.call (keyOf_ok (l.getD (j + 1) default)) rfl ?_)
      refine zG zE (NS.call (compareK_ok (l.getD j default) (l.getD (j + 1) default)) rfl ?_)
      refine zG zE (NS.ite (fun h3=>?_) (fun h3=>?_))
      · rw [show ltO (l.getD j default) (l.getD (j + 1) default) = false by unfold ltO;rw [decide_eq_false_iff_not];have h3:cmpO _ _ >= 0:=of_decide_eq_true h3;omega] at hn
        exact zG zE (NS.leaveOut rfl zE (NS.ret rfl rfl (LeA.of (congrArg (A.int .i64) (hn.symm)))))
      rw [show ltO (l.getD j default) (l.getD (j + 1) default) = true by unfold ltO;rw [decide_eq_true_eq];have h3:¬ cmpO _ _ >= 0:=of_decide_eq_false h3;omega] at hn
      · refine zG zE (NS.next ⟨j + 1 + 1,by omega,hn⟩ (by simp;omega) ?_)
        exact weak_hd [] rfl ⟨rfl,rfl,rfl,ren_int rfl (i64_k (k:=j + 1) (by omega) (by omega)),trivial⟩ trivial trivial (by kernel_rfl)
  · have h:¬ k < l.length:=by simpa using h
    obtain rfl:k = l.length:=by omega
    rw [Nat.sub_self] at hn
    refine zG zE (NS.leave rfl zE ?_)
    exact zG zE (NS.ret rfl rfl (LeA.of (congrArg (A.int .i64) (hn.symm))))
theorem rcCheck_ok (l:List Ofr):FnOK Tryz.prog 71 [slOfr l] (.int .i64 (chkO l),none):=by
  unfold chkO
  refine fn_ok CF rfl (by kernel_rfl) Tryz.func71 rfl ?_
  refine zG zE (NS.ite (fun h0=>?_) (fun h0=>?_))
  · rw [if_pos h0]
    exact zG zE (NS.ret rfl rfl (LeA.refl _))
  rw [if_neg (by rw [h0];decide)]
  have hl : l.length ≤ 64 := by have h0 : ¬ (l.length : Int) > 64 := of_decide_eq_false h0
                                omega
  refine zG zE ?_
  refine NS.loop (σ:={ k:Nat // k <= l.length /\ chkS l l.length 0 = chkS l (l.length - k) k }) (fun k=>[(0,slOfr l),(3,.int .i64 k.1)]) (fun _=>[]) (fun k=>l.length - k.1) ⟨0,Nat.zero_le _,rfl⟩ ?_ ?_
  · exact weak_hd [] rfl ⟨rfl,rfl,trivial⟩ trivial trivial (by kernel_rfl)
  rintro ⟨k,hk,hn⟩
  refine zG zE (NS.ite (fun h=>?_) (fun h=>?_))
  · have h:k < l.length:=by simpa using h
    rw [show l.length - k = (l.length - (k + 1)) + 1 by omega,chkS] at hn
    refine zG zE (NS.need (by simp;omega) ?_)
    refine zG zE (NS.call (rcValid_ok (l.getD k default)) rfl ?_)
    refine zG zE (NS.ite (fun hv=>?_) (fun hv=>?_))
    · exact zG zE (NS.leaveOut rfl zE (NS.ret rfl rfl (LeA.of (congrArg (A.int .i64) (by rw [hn,if_pos hv])))))
    rw [if_neg (by rw [hv];decide)] at hn
    refine zG zE (NS.chk (by kernel_rfl) ?_)
    rcases Nat.eq_zero_or_pos k with hz | hz
    · have hp:decide (0 < k) = false:=decide_eq_false (by omega)
      rw [hp] at hn
      refine zG zE (NS.no (decide_eq_false (by show ¬ ((k:Nat):Int) > 0;omega)) ?_)
      refine zG zE (NS.next ⟨k + 1,by omega,hn⟩ (by simp;omega) ?_)
      exact weak_hd [] rfl ⟨rfl,ren_int rfl (i64_k (by omega) (by omega)),trivial⟩ trivial trivial (by kernel_rfl)
    · obtain ⟨j,rfl⟩:∃ j,k = j + 1:=⟨k - 1,by omega⟩
      have e1:IntKind.i64.wrap (((j + 1:Nat):Int) - 1) = (j:Int):=by rw [wrap_i64 (by omega) (by omega)];omega
      have hp:decide (0 < j + 1) = true:=decide_eq_true (by omega)
      rw [hp,Bool.true_and,show j + 1 - 1 = j from rfl] at hn
      refine zG zE (NS.yes (decide_eq_true (by show ((j + 1:Nat):Int) > 0;omega)) ?_)
      refine zG zE (NS.need (by rw [e1];simp;omega) ?_)
      have eJ:A.agg (l.getD (Int.toNat (IntKind.i64.wrap (((j + 1:Nat):Int) - 1))) default).cells = A.agg (l.getD j default).cells:=by rw [e1];rfl
      refine zG zE (NS.need (by simp;omega) ?_)
      refine zG zE (NS.call ((rLessO_ok (l.getD j default) (l.getD (j + 1) default)).le (LeL.cons (LeA.of eJ) (LeL.cons (LeA.refl _) LeL.nil))) rfl ?_)
      refine zG zE (NS.ite (fun h3=>?_) (fun h3=>?_))
      · rw [h3] at hn
        exact zG zE (NS.leaveOut rfl zE (NS.ret rfl rfl (LeA.of (congrArg (A.int .i64) (hn.symm)))))
      rw [h3] at hn
      · refine zG zE (NS.next ⟨j + 1 + 1,by omega,hn⟩ (by simp;omega) ?_)
        exact weak_hd [] rfl ⟨rfl,ren_int rfl (i64_k (k:=j + 1) (by omega) (by omega)),trivial⟩ trivial trivial (by kernel_rfl)
  · have h:¬ k < l.length:=by simpa using h
    obtain rfl:k = l.length:=by omega
    rw [Nat.sub_self] at hn
    refine zG zE (NS.leave rfl zE ?_)
    exact zG zE (NS.ret rfl rfl (LeA.of (congrArg (A.int .i64) (hn.symm))))
def nt {α:Type} (p:α -> Bool) (x:α):Bool:=!p x
theorem sep_ok (l:List Ofr) (hl:l.length <= 1000) (f c:Nat) (el:Nat -> A) (p:Ofr -> Bool) (hc:∀ x,FnOK Tryz.prog f [.agg (Ofr.cells x),.ip c el] (.bool (p x),none)):FnOK Tryz.prog 216 [slOfr l,.fn f [.ip c el]] (.tup [slOfr (l.filter p),slOfr (l.filter (nt p))],none):=by
 refine fn_ok CF rfl (by kernel_rfl) Tryz.func216 rfl ?_
 refine zG zE ?_
 refine NS.loop (σ:={ k:Nat // k <= l.length }) (fun k=>[(1,.fn f [.ip c el]),(6,.own 6),(7,.own 7),(10,slOfr l),(11,.int .i64 l.length),(12,.int .i64 k.1)]) (fun k=>[(6,.row 67 8 ((l.take k.1).filter p).length (rowL Ofr.cells ((l.take k.1).filter p))),(7,.row 67 8 ((l.take k.1).filter (nt p)).length (rowL Ofr.cells ((l.take k.1).filter (nt p))))]) (fun k=>l.length - k.1) ⟨0,Nat.zero_le _⟩ ?_ ?_
 ·refine (weak_promote 6 6 67 8 (rowL Ofr.cells []) rfl rfl).trans ((weak_promote 7 7 67 8 (rowL Ofr.cells []) rfl rfl).trans ?_)
  exact weak_hd [] rfl ⟨rfl,rfl,rfl,rfl,rfl,rfl,trivial⟩ ⟨ren_row rfl rfl fun _ _ _ _=>rfl,ren_row rfl rfl fun _ _ _ _=>rfl,trivial⟩ trivial (by kernel_rfl)
 rintro ⟨k,hk⟩
 have q1:((l.take k).filter p).length <= k:=Nat.le_trans (List.length_filter_le _ _) (by simp;omega)
 have q2:((l.take k).filter (nt p)).length <= k:=Nat.le_trans (List.length_filter_le _ _) (by simp;omega)
 have s1:=fun h:k < l.length=>filter_snoc (p:=p) (l:=l) (k:=k) h
 have s2:=fun h:k < l.length=>filter_snoc (p:=nt p) (l:=l) (k:=k) h
 refine zG zE (NS.ite (fun h=>?_) (fun h=>?_))
 ·have h:k < l.length:=by simpa using h
  have s1:=s1 h
  have s2:=s2 h
  refine zG zE (NS.need (by simp;omega) ?_)
  refine zG zE (NS.call (hc (l.getD k default)) rfl ?_)
  refine zG zE (NS.ite (fun h2=>?_) (fun h2=>?_))
  ·rw [if_pos h2] at s1
   rw [if_neg (by unfold nt;rw [h2];decide),List.append_nil] at s2
   refine zG zE (NS.need (decide_eq_true (by simp only [maxRow];show (((l.take k).filter p).length + 1) * _ <= _;omega)) ?_)
   refine zG zE (NS.next ⟨k + 1,by omega⟩ (by simp;omega) ?_)
   refine weak_hd [(6,22)] rfl ⟨rfl,rfl,rfl,rfl,rfl,ren_int rfl (i64_k (by omega) (by omega)),trivial⟩ ⟨?_,?_,trivial⟩ trivial (by kernel_rfl)
   ·rw [s1]
    exact ren_row rfl (by simp) (fun i hi j hj=>row_snoc (cells:=Ofr.cells) (x:=l.getD k default) rfl i (by simpa using hi) j hj)
   ·rw [s2]
    exact ren_row rfl rfl fun _ _ _ _=>rfl
  ·rw [if_neg (by rw [h2];decide),List.append_nil] at s1
   rw [if_pos (by unfold nt;rw [h2];rfl)] at s2
   refine zG zE (NS.need (decide_eq_true (by simp only [maxRow];show (((l.take k).filter (nt p)).length + 1) * _ <= _;omega)) ?_)
   refine zG zE (NS.next ⟨k + 1,by omega⟩ (by simp;omega) ?_)
   refine weak_hd [(7,26)] rfl ⟨rfl,rfl,rfl,rfl,rfl,ren_int rfl (i64_k (by omega) (by omega)),trivial⟩ ⟨?_,?_,trivial⟩ trivial (by kernel_rfl)
   ·rw [s1]
    exact ren_row rfl rfl fun _ _ _ _=>rfl
   ·rw [s2]
    exact ren_row rfl (by simp) (fun i hi j hj=>row_snoc (cells:=Ofr.cells) (x:=l.getD k default) rfl i (by simpa using hi) j hj)
 ·have h:¬ k < l.length:=by simpa using h
  obtain rfl:k = l.length:=by omega
  refine zG zE (NS.leave rfl zE ?_)
  rw [show l.take l.length = l from List.take_length]
  exact zG zE (NS.ret rfl rfl (LeA.refl _))
theorem sep2_ok (l:List Ofr) (hl:l.length <= 1000) (f c c2:Nat) (el el2:Nat -> A) (p:Ofr -> Bool) (hc:∀ x,FnOK Tryz.prog f [.agg (Ofr.cells x),.ip c el,.ip c2 el2] (.bool (p x),none)):FnOK Tryz.prog 216 [slOfr l,.fn f [.ip c el,.ip c2 el2]] (.tup [slOfr (l.filter p),slOfr (l.filter (nt p))],none):=by
 refine fn_ok CF rfl (by kernel_rfl) Tryz.func216 rfl ?_
 refine zG zE ?_
 refine NS.loop (σ:={ k:Nat // k <= l.length }) (fun k=>[(1,.fn f [.ip c el,.ip c2 el2]),(6,.own 6),(7,.own 7),(10,slOfr l),(11,.int .i64 l.length),(12,.int .i64 k.1)]) (fun k=>[(6,.row 67 8 ((l.take k.1).filter p).length (rowL Ofr.cells ((l.take k.1).filter p))),(7,.row 67 8 ((l.take k.1).filter (nt p)).length (rowL Ofr.cells ((l.take k.1).filter (nt p))))]) (fun k=>l.length - k.1) ⟨0,Nat.zero_le _⟩ ?_ ?_
 ·refine (weak_promote 6 6 67 8 (rowL Ofr.cells []) rfl rfl).trans ((weak_promote 7 7 67 8 (rowL Ofr.cells []) rfl rfl).trans ?_)
  exact weak_hd [] rfl ⟨rfl,rfl,rfl,rfl,rfl,rfl,trivial⟩ ⟨ren_row rfl rfl fun _ _ _ _=>rfl,ren_row rfl rfl fun _ _ _ _=>rfl,trivial⟩ trivial (by kernel_rfl)
 rintro ⟨k,hk⟩
 have q1:((l.take k).filter p).length <= k:=Nat.le_trans (List.length_filter_le _ _) (by simp;omega)
 have q2:((l.take k).filter (nt p)).length <= k:=Nat.le_trans (List.length_filter_le _ _) (by simp;omega)
 have s1:=fun h:k < l.length=>filter_snoc (p:=p) (l:=l) (k:=k) h
 have s2:=fun h:k < l.length=>filter_snoc (p:=nt p) (l:=l) (k:=k) h
 refine zG zE (NS.ite (fun h=>?_) (fun h=>?_))
 ·have h:k < l.length:=by simpa using h
  have s1:=s1 h
  have s2:=s2 h
  refine zG zE (NS.need (by simp;omega) ?_)
  refine zG zE (NS.call (hc (l.getD k default)) rfl ?_)
  refine zG zE (NS.ite (fun h2=>?_) (fun h2=>?_))
  ·rw [if_pos h2] at s1
   rw [if_neg (by unfold nt;rw [h2];decide),List.append_nil] at s2
   refine zG zE (NS.need (decide_eq_true (by simp only [maxRow];show (((l.take k).filter p).length + 1) * _ <= _;omega)) ?_)
   refine zG zE (NS.next ⟨k + 1,by omega⟩ (by simp;omega) ?_)
   refine weak_hd [(6,22)] rfl ⟨rfl,rfl,rfl,rfl,rfl,ren_int rfl (i64_k (by omega) (by omega)),trivial⟩ ⟨?_,?_,trivial⟩ trivial (by kernel_rfl)
   ·rw [s1]
    exact ren_row rfl (by simp) (fun i hi j hj=>row_snoc (cells:=Ofr.cells) (x:=l.getD k default) rfl i (by simpa using hi) j hj)
   ·rw [s2]
    exact ren_row rfl rfl fun _ _ _ _=>rfl
  ·rw [if_neg (by rw [h2];decide),List.append_nil] at s1
   rw [if_pos (by unfold nt;rw [h2];rfl)] at s2
   refine zG zE (NS.need (decide_eq_true (by simp only [maxRow];show (((l.take k).filter (nt p)).length + 1) * _ <= _;omega)) ?_)
   refine zG zE (NS.next ⟨k + 1,by omega⟩ (by simp;omega) ?_)
   refine weak_hd [(7,26)] rfl ⟨rfl,rfl,rfl,rfl,rfl,ren_int rfl (i64_k (by omega) (by omega)),trivial⟩ ⟨?_,?_,trivial⟩ trivial (by kernel_rfl)
   ·rw [s1]
    exact ren_row rfl rfl fun _ _ _ _=>rfl
   ·rw [s2]
    exact ren_row rfl (by simp) (fun i hi j hj=>row_snoc (cells:=Ofr.cells) (x:=l.getD k default) rfl i (by simpa using hi) j hj)
 ·have h:¬ k < l.length:=by simpa using h
  obtain rfl:k = l.length:=by omega
  refine zG zE (NS.leave rfl zE ?_)
  rw [show l.take l.length = l from List.take_length]
  exact zG zE (NS.ret rfl rfl (LeA.refl _))
theorem sepOwn_ok (l:List Ofr) (hl:l.length <= 1000) (f c:Nat) (el:Nat -> A) (p:Ofr -> Bool) (hc:∀ x,FnOK Tryz.prog f [.agg (Ofr.cells x),.ip c el] (.bool (p x),none)):FnOK Tryz.prog 216 [slOfr l,.fn f [.ip c el]] (.tup [.own 0,slOfr (l.filter (nt p))],some (.row 67 8 (l.filter p).length (rowL Ofr.cells (l.filter p)))):=by
 refine fn_ok CF rfl (by kernel_rfl) Tryz.func216 rfl ?_
 refine zG zE ?_
 refine NS.loop (σ:={ k:Nat // k <= l.length }) (fun k=>[(1,.fn f [.ip c el]),(6,.own 6),(7,.own 7),(10,slOfr l),(11,.int .i64 l.length),(12,.int .i64 k.1)]) (fun k=>[(6,.row 67 8 ((l.take k.1).filter p).length (rowL Ofr.cells ((l.take k.1).filter p))),(7,.row 67 8 ((l.take k.1).filter (nt p)).length (rowL Ofr.cells ((l.take k.1).filter (nt p))))]) (fun k=>l.length - k.1) ⟨0,Nat.zero_le _⟩ ?_ ?_
 ·refine (weak_promote 6 6 67 8 (rowL Ofr.cells []) rfl rfl).trans ((weak_promote 7 7 67 8 (rowL Ofr.cells []) rfl rfl).trans ?_)
  exact weak_hd [] rfl ⟨rfl,rfl,rfl,rfl,rfl,rfl,trivial⟩ ⟨ren_row rfl rfl fun _ _ _ _=>rfl,ren_row rfl rfl fun _ _ _ _=>rfl,trivial⟩ trivial (by kernel_rfl)
 rintro ⟨k,hk⟩
 have q1:((l.take k).filter p).length <= k:=Nat.le_trans (List.length_filter_le _ _) (by simp;omega)
 have q2:((l.take k).filter (nt p)).length <= k:=Nat.le_trans (List.length_filter_le _ _) (by simp;omega)
 have s1:=fun h:k < l.length=>filter_snoc (p:=p) (l:=l) (k:=k) h
 have s2:=fun h:k < l.length=>filter_snoc (p:=nt p) (l:=l) (k:=k) h
 refine zG zE (NS.ite (fun h=>?_) (fun h=>?_))
 ·have h:k < l.length:=by simpa using h
  have s1:=s1 h
  have s2:=s2 h
  refine zG zE (NS.need (by simp;omega) ?_)
  refine zG zE (NS.call (hc (l.getD k default)) rfl ?_)
  refine zG zE (NS.ite (fun h2=>?_) (fun h2=>?_))
  ·rw [if_pos h2] at s1
   rw [if_neg (by unfold nt;rw [h2];decide),List.append_nil] at s2
   refine zG zE (NS.need (decide_eq_true (by simp only [maxRow];show (((l.take k).filter p).length + 1) * _ <= _;omega)) ?_)
   refine zG zE (NS.next ⟨k + 1,by omega⟩ (by simp;omega) ?_)
   refine weak_hd [(6,22)] rfl ⟨rfl,rfl,rfl,rfl,rfl,ren_int rfl (i64_k (by omega) (by omega)),trivial⟩ ⟨?_,?_,trivial⟩ trivial (by kernel_rfl)
   ·rw [s1]
    exact ren_row rfl (by simp) (fun i hi j hj=>row_snoc (cells:=Ofr.cells) (x:=l.getD k default) rfl i (by simpa using hi) j hj)
   ·rw [s2]
    exact ren_row rfl rfl fun _ _ _ _=>rfl
  ·rw [if_neg (by rw [h2];decide),List.append_nil] at s1
   rw [if_pos (by unfold nt;rw [h2];rfl)] at s2
   refine zG zE (NS.need (decide_eq_true (by simp only [maxRow];show (((l.take k).filter (nt p)).length + 1) * _ <= _;omega)) ?_)
   refine zG zE (NS.next ⟨k + 1,by omega⟩ (by simp;omega) ?_)
   refine weak_hd [(7,26)] rfl ⟨rfl,rfl,rfl,rfl,rfl,ren_int rfl (i64_k (by omega) (by omega)),trivial⟩ ⟨?_,?_,trivial⟩ trivial (by kernel_rfl)
   ·rw [s1]
    exact ren_row rfl rfl fun _ _ _ _=>rfl
   ·rw [s2]
    exact ren_row rfl (by simp) (fun i hi j hj=>row_snoc (cells:=Ofr.cells) (x:=l.getD k default) rfl i (by simpa using hi) j hj)
 ·have h:¬ k < l.length:=by simpa using h
  obtain rfl:k = l.length:=by omega
  refine zG zE (NS.leave rfl zE ?_)
  rw [show l.take l.length = l from List.take_length]
  refine Sat.wk (weak_freeze 7 7 rfl rfl) ?_
  refine zG zE (NS.retRow 6 rfl rfl (LeA.refl _) ⟨rfl,rfl,rfl,fun i hi j hj=>rfl⟩ fun _ _ _ _=>flatOfr _ _ _)
def ofId (x:Nid) (o:Ofr):Bool:=o.id.eqv x
def ofKey (x:Nid) (c:Int) (o:Ofr):Bool:=o.id.eqv x && o.contact == c
def ofDue (now:Int) (o:Ofr):Bool:=decide (o.due <= now)
def beginM (l:List Ofr) (x:Nid) (c d:Int):List Ofr × Int:=
 let o:Ofr:=⟨x,c,d,(l.filter (ofId x)).length⟩
 if chkO l != 0 then ([],1) else if !vOf o then ([],2) else if (l.filter (ofId x)).any (ofKey x c) then ([],6) else if (l.length:Int) == 64 then ([],4) else
  (l.filter (fun p=>ltO p o) ++ [o] ++ l.filter (nt fun p=>ltO p o),0)
def signalM (l:List Ofr) (x:Nid) (c:Int):List Ofr × Int × Int:=
 if chkO l != 0 then ([],0,1) else if ((l.filter (ofKey x c)).length:Int) == 0 then (l,1,0) else (l.filter (nt (ofKey x c)),3,0)
def dueM (l:List Ofr) (now:Int):List Ofr × List Ofr × Int:=
 if chkO l != 0 then ([],[],1) else (l.filter (ofDue now),l.filter (nt (ofDue now)),0)
def decM (c s a:Bool):Int:=if c && !(s && a) then 3 else 2
theorem idxO_ok (l:List Ofr) (hl:l.length <= 1000000) (f c:Nat) (el:Nat -> A) (p:Ofr -> Bool) (hc:∀ x,FnOK Tryz.prog f [.agg (Ofr.cells x),.ip c el] (.bool (p x),none)):FnOK Tryz.prog 82 [slOfr l,.fn f [.ip c el]] (.int .i64 (idx p l),none):=by
 refine fn_ok CF rfl (by kernel_rfl) Tryz.func82 rfl ?_
 refine zG zE ?_
 refine NS.loop (σ:={ k:Nat // k <= l.length /\ ∀ i,i < k -> p (l.getD i default) = false }) (fun k=>[(0,slOfr l),(1,.fn f [.ip c el]),(7,.int .i64 l.length),(8,.int .i64 k.1)]) (fun _=>[]) (fun k=>l.length - k.1) ⟨0,Nat.zero_le _,fun i hi=>by omega⟩ ?_ ?_
 ·exact weak_hd [] rfl ⟨rfl,rfl,rfl,rfl,trivial⟩ trivial trivial (by kernel_rfl)
 rintro ⟨k,hk,hn⟩
 refine zG zE (NS.ite (fun h=>?_) (fun h=>?_))
 ·have h:k < l.length:=by simpa using h
  repeat' (first | (refine zG zE (NS.chk (by kernel_rfl) ?_)) | (refine zG zE (NS.need (by simp;omega) ?_)))
  refine zG zE (NS.call (hc (l.getD k default)) rfl ?_)
  refine zG zE (NS.ite (fun h2=>?_) (fun h2=>?_))
  ·exact zG zE (NS.leaveOut rfl zE (NS.ret rfl rfl (LeA.of (congrArg (A.int .i64) ((idx_found (by omega) h2 hn).symm)))))
  ·refine zG zE (NS.next ⟨k + 1,by omega,fun i hi=>?_⟩ (by simp;omega) ?_)
   ·by_cases hik:i = k
    ·subst hik;exact h2
    ·exact hn i (by omega)
   ·exact weak_hd [] rfl ⟨rfl,rfl,rfl,ren_int rfl (i64_k (by omega) (by omega)),trivial⟩ trivial trivial (by kernel_rfl)
 ·have h:¬ k < l.length:=by simpa using h
  refine zG zE (NS.leave rfl zE ?_)
  exact zG zE (NS.ret rfl rfl (LeA.of (congrArg (A.int .i64) ((idx_none fun i hi=>hn i (by omega)).symm))))
theorem contO_ok (l:List Ofr) (hl:l.length <= 1000000) (f c:Nat) (el:Nat -> A) (p:Ofr -> Bool) (hc:∀ x,FnOK Tryz.prog f [.agg (Ofr.cells x),.ip c el] (.bool (p x),none)):FnOK Tryz.prog 34 [slOfr l,.fn f [.ip c el]] (.bool (l.any p),none):=by
 refine fn_ok CF rfl (by kernel_rfl) Tryz.func34 rfl ?_
 refine zG zE (NS.call (idxO_ok l hl f c el p hc) rfl ?_)
 exact zG zE (NS.ret rfl rfl (LeA.of (congrArg A.bool (idx_any p l))))
theorem beg1_ok (x:Nid) (o:Ofr):FnOK Tryz.prog 217 [.agg o.cells,.ip 5 (getA x.cells)] (.bool (ofId x o),none):=by
 refine fn_ok CF rfl (by kernel_rfl) Tryz.func217 rfl ?_
 exact zG zE (NS.ret rfl rfl (LeA.refl _))
theorem beg2_ok (y o:Ofr):FnOK Tryz.prog 218 [.agg o.cells,.ip 8 (getA y.cells)] (.bool (ofKey y.id y.contact o),none):=by
 refine fn_ok CF rfl (by kernel_rfl) Tryz.func218 rfl ?_
 refine zG zE (NS.chk (by kernel_rfl) ?_)
 refine zG zE (NS.call (keyOf_ok o) rfl ?_)
 refine zG zE (NS.call (keyOf_ok y) rfl ?_)
 exact zG zE (NS.ret rfl rfl (LeA.of (congrArg A.bool (by unfold ofKey Nid.eqv;simp [Bool.and_assoc]))))
theorem beg3_ok (y o:Ofr):FnOK Tryz.prog 219 [.agg o.cells,.ip 8 (getA y.cells)] (.bool (ltO o y),none):=by
 refine fn_ok CF rfl (by kernel_rfl) Tryz.func219 rfl ?_
 refine zG zE (NS.chk (by kernel_rfl) ?_)
 refine zG zE (NS.call (keyOf_ok o) rfl ?_)
 refine zG zE (NS.call (keyOf_ok y) rfl ?_)
 refine zG zE (NS.call (compareK_ok o y) rfl ?_)
 exact zG zE (NS.ret rfl rfl (LeA.refl _))
theorem sig1_ok (x:Nid) (c:Int) (o:Ofr):FnOK Tryz.prog 220 [.agg o.cells,.ip 5 (getA x.cells),.ip 1 (getA [.int .i64 c])] (.bool (ofKey x c o),none):=by
 refine fn_ok CF rfl (by kernel_rfl) Tryz.func220 rfl ?_
 refine zG zE (NS.chk (by kernel_rfl) ?_)
 refine zG zE (NS.call (keyOf_ok o) rfl ?_)
 exact zG zE (NS.ret rfl rfl (LeA.of (congrArg A.bool (by unfold ofKey Nid.eqv;simp [Bool.and_assoc]))))
theorem due1_ok (now:Int) (o:Ofr):FnOK Tryz.prog 224 [.agg o.cells,.ip 1 (getA [.int .i64 now])] (.bool (ofDue now o),none):=by
 refine fn_ok CF rfl (by kernel_rfl) Tryz.func224 rfl ?_
 exact zG zE (NS.ret rfl rfl (LeA.refl _))
theorem chkO_len {l:List Ofr} (h:chkO l = 0):l.length <= 64:=by
 unfold chkO at h
 split at h
 ·cases h
 ·rename_i q
  simp only [decide_eq_true_eq] at q
  omega
theorem row_mid {a b:List Ofr} {x:Ofr} {cs:List A} (hcs:cs = x.cells) (i j:Nat) (hj:j < 8):(if i < a.length + 1 then (if i < a.length then rowL Ofr.cells a i j else getA cs ((i - a.length) * 8 + j)) else rowL Ofr.cells b (i - (a.length + 1)) j) = rowL Ofr.cells (a ++ [x] ++ b) i j:=by
 rw [<- rowL_append]
 simp only [List.length_append,List.length_singleton]
 split
 ·rename_i h;exact row_snoc hcs i h j hj
 ·rfl
theorem cloneO_ok (l:List Ofr) (hl:l.length <= 1000000):FnOK Tryz.prog 221 [slOfr l] (.own 0,some (.row 67 8 l.length (rowL Ofr.cells l))):=by
 refine fn_ok CF rfl (by kernel_rfl) Tryz.func221 rfl ?_
 refine zG zE (NS.ite (fun h0=>?_) (fun h0=>?_))
 ·refine zG zE (NS.both ?_ ?_)
  ·exact zG zE (NS.retNil (by simpa using h0) rfl rfl)
  ·refine zG zE (NS.need (decide_eq_true (by simp only [maxRow];omega)) ?_)
   exact zG zE (NS.retRow 7 rfl rfl (LeA.refl _) ⟨rfl,rfl,by simp,fun i hi j hj=>by simp⟩ fun _ _ _ _=>flatOfr _ _ _)
 ·refine zG zE (NS.need (decide_eq_true (by simp only [maxRow];omega)) ?_)
  exact zG zE (NS.retRow 7 rfl rfl (LeA.refl _) ⟨rfl,rfl,by simp,fun i hi j hj=>by simp⟩ fun _ _ _ _=>flatOfr _ _ _)
theorem begin_ok (l:List Ofr) (x:Nid) (c d:Int):FnOK Tryz.prog 175 [slOfr l,.agg x.cells,.int .i64 c,.int .i64 d] (.tup [slOfr (beginM l x c d).1,.int .i64 (beginM l x c d).2],none):=by
 unfold beginM
 refine fn_ok CF rfl (by kernel_rfl) Tryz.func175 rfl ?_
 refine zG zE (NS.call (cCheck_ok l) rfl ?_)
 refine zG zE (NS.ite (fun h0=>?_) (fun h0=>?_))
 ·rw [if_pos h0]
  exact zG zE (NS.ret rfl rfl (LeA.tup2 (LeA.nil' rfl) (LeA.refl _)))
 rw [if_neg (by rw [h0];decide)]
 have hl:=chkO_len (l:=l) (by simpa using h0)
 refine Sat.wk (weak_freezeP 5 5 5 rfl rfl rfl rfl) ?_
 refine zG zE (NS.call (sep_ok l (by omega) 217 5 (getA x.cells) (ofId x) (beg1_ok x)) rfl ?_)
 obtain ⟨o,ho⟩:∃ o:Ofr,⟨x,c,d,(l.filter (ofId x)).length⟩ = o:=⟨_,rfl⟩
 have hcl:[A.int .i64 x.source,.int .i64 x.created,.int .i64 x.seq,.int .i64 x.off,.int .i64 x.total,.int .i64 c,.int .i64 d,.int .i64 (l.filter (ofId x)).length] = o.cells:=by rw [<- ho];rfl
 have hkey:ofKey x c = ofKey o.id o.contact:=by rw [<- ho]
 rw [ho,hkey]
 refine zG zE (NS.call ((cValid_ok o).le (LeL.cons (LeA.of (congrArg A.agg hcl)) LeL.nil)) rfl ?_)
 refine zG zE (NS.ite (fun h1=>?_) (fun h1=>?_))
 ·rw [if_pos h1]
  exact zG zE (NS.ret rfl rfl (LeA.tup2 (LeA.nil' rfl) (LeA.refl _)))
 rw [if_neg (by rw [h1];decide)]
 have hfl:(l.filter (ofId x)).length <= l.length:=List.length_filter_le _ _
 refine Sat.wk (weak_freezeP 12 12 8 rfl rfl rfl rfl) ?_
 refine zG zE (NS.call ((contO_ok (l.filter (ofId x)) (by omega) 218 8 (getA o.cells) (ofKey o.id o.contact) (beg2_ok o)).le (LeL.cons (LeA.refl _) (LeL.cons ?_ LeL.nil))) rfl ?_)
 ·rw [<- hcl];exact LeA.refl _
 refine zG zE (NS.ite (fun h2=>?_) (fun h2=>?_))
 ·rw [if_pos h2]
  exact zG zE (NS.ret rfl rfl (LeA.tup2 (LeA.nil' rfl) (LeA.refl _)))
 rw [if_neg (by rw [h2];decide)]
 refine zG zE (NS.ite (fun h3=>?_) (fun h3=>?_))
 ·rw [if_pos h3]
  exact zG zE (NS.ret rfl rfl (LeA.tup2 (LeA.nil' rfl) (LeA.refl _)))
 rw [if_neg (by rw [h3];decide)]
 refine zG zE (NS.call ((sepOwn_ok l (by omega) 219 8 (getA o.cells) (fun p=>ltO p o) (beg3_ok o)).le (LeL.cons (LeA.refl _) (LeL.cons ?_ LeL.nil))) rfl ?_)
 ·rw [<- hcl];exact LeA.refl _
 have hf1:(l.filter fun p=>ltO p o).length <= l.length:=List.length_filter_le _ _
 have hf2:(l.filter (nt fun p=>ltO p o)).length <= l.length:=List.length_filter_le _ _
 refine zG zE (NS.need (decide_eq_true (by simp only [maxRow];show ((l.filter fun p=>ltO p o).length + 1) * _ <= _;omega)) ?_)
 refine zG zE (NS.need (decide_eq_true (by simp only [maxRow];show ((l.filter fun p=>ltO p o).length + 1 + (l.filter (nt fun p=>ltO p o)).length) * _ <= _;omega)) ?_)
 refine zG zE (NS.ret rfl rfl (LeA.tup2 (LeA.sl ?_ fun i hi j hj=>?_) (LeA.refl _)))
 ·simp;omega
 ·exact row_mid hcl i j hj
theorem signal_ok (l:List Ofr) (x:Nid) (c:Int):FnOK Tryz.prog 176 [slOfr l,.agg x.cells,.int .i64 c,.bool false] (.tup [slOfr (signalM l x c).1,.int .i64 (signalM l x c).2.1,.int .i64 (signalM l x c).2.2],none):=by
 unfold signalM
 refine fn_ok CF rfl (by kernel_rfl) Tryz.func176 rfl ?_
 refine zG zE (NS.call (cCheck_ok l) rfl ?_)
 refine zG zE (NS.ite (fun h0=>?_) (fun h0=>?_))
 ·rw [if_pos h0]
  exact zG zE (NS.ret rfl rfl (LeA.tup3 (LeA.nil' rfl) (LeA.refl _) (LeA.refl _)))
 rw [if_neg (by rw [h0];decide)]
 have hl:=chkO_len (l:=l) (by simpa using h0)
 refine Sat.wk (weak_freezeP 5 5 5 rfl rfl rfl rfl) ?_
 refine Sat.wk (weak_freezeP 6 6 1 rfl rfl rfl rfl) ?_
 refine zG zE (NS.call (sep2_ok l (by omega) 220 5 1 (getA x.cells) (getA [.int .i64 c]) (ofKey x c) (sig1_ok x c)) rfl ?_)
 refine zG zE (NS.ite (fun h1=>?_) (fun h1=>?_))
 ·rw [if_pos h1]
  refine zG zE (NS.call (cloneO_ok l (by omega)) rfl ?_)
  exact zG zE (NS.ret rfl rfl (LeA.tup3 (LeA.refl _) (LeA.refl _) (LeA.refl _)))
 rw [if_neg (by rw [h1];decide)]
 refine zG zE (NS.yes (rfl) ?_)
 exact zG zE (NS.ret rfl rfl (LeA.refl _))
theorem due_ok (l:List Ofr) (now:Int):FnOK Tryz.prog 178 [slOfr l,.int .i64 now] (.tup [slOfr (dueM l now).1,slOfr (dueM l now).2.1,.int .i64 (dueM l now).2.2],none):=by
 unfold dueM
 refine fn_ok CF rfl (by kernel_rfl) Tryz.func178 rfl ?_
 refine zG zE (NS.call (cCheck_ok l) rfl ?_)
 refine zG zE (NS.ite (fun h0=>?_) (fun h0=>?_))
 ·rw [if_pos h0]
  exact zG zE (NS.ret rfl rfl (LeA.tup3 (LeA.nil' rfl) (LeA.nil' rfl) (LeA.refl _)))
 rw [if_neg (by rw [h0];decide)]
 have hl:=chkO_len (l:=l) (by simpa using h0)
 refine Sat.wk (weak_freezeP 3 3 1 rfl rfl rfl rfl) ?_
 refine zG zE (NS.call (sep_ok l (by omega) 224 1 (getA [.int .i64 now]) (ofDue now) (due1_ok now)) rfl ?_)
 exact zG zE (NS.ret rfl rfl (LeA.refl _))
theorem decide_ok (c s a:Bool):FnOK Tryz.prog 223 [.bool c,.bool s,.bool a] (.int .i64 (decM c s a),none):=by
 unfold decM
 refine fn_ok CF rfl (by kernel_rfl) Tryz.func223 rfl ?_
 cases c <;> cases s <;> cases a
 all_goals repeat' (first | (refine zG zE (NS.chk (by kernel_rfl) ?_)) | (refine zG zE (NS.no (rfl) ?_)) | (refine zG zE (NS.yes (rfl) ?_)))
 all_goals exact zG zE (NS.ret rfl rfl (LeA.refl _))
end Go.Proofs.YtggjngbighkdgaaGreat
