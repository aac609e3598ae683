import Derived.Test.YtggjngbighkdgaaGreatF08
set_option linter.unusedSimpArgs false
set_option linter.unusedSectionVars false
set_option linter.unusedVariables false
namespace Go.Mb
open Go.Sy
def fstA:Option (Jrec × Nat) -> A
 | none=>.tup [.agg Jrec.zero.cells,.int .i64 0,.bool false]
 | some (r,n)=>.tup [.agg r.cells,.int .i64 (n:Nat),.bool true]
def rdP (L:List Nat):Nat -> Nat
 | 0=>0
 | k + 1=>rdP L k + (rdI (L.drop (rdP L k))).2.1
def gt (i k:Nat) (a:Int):Int:=bif Nat.blt i k then a else 0
theorem kind_cases (z:Int):(z = 1 /\ (z == 1) = true /\ (z == 3) = false /\ (z == 4) = false) \/ (z = 3 /\ (z == 1) = false /\ (z == 3) = true /\ (z == 4) = false) \/ (z = 4 /\ (z == 1) = false /\ (z == 3) = false /\ (z == 4) = true) \/ ((z ≠ 1 /\ z ≠ 3 /\ z ≠ 4) /\ (z == 1) = false /\ (z == 3) = false /\ (z == 4) = false):=by
 simp only [beq_iff_eq,beq_eq_false_iff_ne,ne_eq];omega
theorem rdNs_add (a b:Nat):∀ M,rdNs (a + b) M = match rdNs a M with
  | none=>none
  | some (m,r)=>match rdNs b r with
   | none=>none
   | some (m',r')=>some (m ++ m',r'):=by
 induction a with
 | zero=>intro M;rw [Nat.zero_add,rdNs];simp only;split <;> simp_all
 | succ a ih=>
  intro M
  rw [show a + 1 + b = (a + b) + 1 by omega,rdNs,rdNs]
  split
  ·rfl
  ·rw [ih]
   cases rdNs a (M.drop (rdI M).2.1) with
   | none=>rfl
   | some p=>
    obtain ⟨m,r⟩:=p
    simp only
    cases rdNs b r with
    | none=>rfl
    | some p=>rfl
theorem parR_S {L M:List Nat} {m:List Int} (h:rdNs 2 L = some (m,M)) (hs:stoK (m.getD 0 0) = true):parR L = parS (m.getD 0 0) (m.getD 1 0) M:=by unfold parR;rw [h];simp only;rw [if_pos hs]
theorem parR_I {L M:List Nat} {m:List Int} (h:rdNs 2 L = some (m,M)) (hs:stoK (m.getD 0 0) = false) (hk:(m.getD 0 0 == 2 || m.getD 0 0 == 4) = true):parR L = parI (m.getD 0 0) (m.getD 1 0) M:=by unfold parR;rw [h];simp only;rw [if_neg (by rw [hs];simp),if_pos hk]
theorem parR_x {L M:List Nat} {m:List Int} (h:rdNs 2 L = some (m,M)) (hs:stoK (m.getD 0 0) = false) (hk:(m.getD 0 0 == 2 || m.getD 0 0 == 4) = false):parR L = none:=by unfold parR;rw [h];simp only;rw [if_neg (by rw [hs];simp),if_neg (by rw [hk];simp)]
theorem parS_bad1 {k t:Int} {M:List Nat} (h:rdNs 1 M = none):parS k t M = none:=by
 unfold parS
 rw [show (10:Nat) = 1 + 9 from rfl,rdNs_add,h]
theorem parS_bad2 {k t:Int} {M M2:List Nat} {m:List Int} (h:rdNs 1 M = some (m,M2)) (h2:rdNs 5 M2 = none):parS k t M = none:=by
 unfold parS
 rw [show (10:Nat) = 1 + (5 + 4) from rfl,rdNs_add,h]
 simp only
 rw [rdNs_add,h2]
theorem parS_bad3 {k t:Int} {M M2 M3:List Nat} {m m2:List Int} (h:rdNs 1 M = some (m,M2)) (h2:rdNs 5 M2 = some (m2,M3)) (h3:rdNs 4 M3 = none):parS k t M = none:=by
 unfold parS
 rw [show (10:Nat) = 1 + (5 + 4) from rfl,rdNs_add,h]
 simp only
 rw [rdNs_add,h2]
 simp only
 rw [h3]
theorem parS_ok {k t:Int} {M M2 M3 M4:List Nat} {m m2 m3:List Int} (h:rdNs 1 M = some (m,M2)) (h2:rdNs 5 M2 = some (m2,M3)) (h3:rdNs 4 M3 = some (m3,M4)):parS k t M = if (rdT M4).2.2 != 0 || ((rdT M4).2.1 != M4.length || !((m ++ (m2 ++ m3)).getD 9 0 == 0 || (m ++ (m2 ++ m3)).getD 9 0 == 1)) then none else
  okR ⟨k,⟨(m ++ (m2 ++ m3)).getD 0 0,nidOf ((m ++ (m2 ++ m3)).drop 1),(m ++ (m2 ++ m3)).getD 6 0,(m ++ (m2 ++ m3)).getD 7 0,(m ++ (m2 ++ m3)).getD 8 0,(m ++ (m2 ++ m3)).getD 9 0 == 1,bs (rdT M4).1⟩,.zero,0,t⟩:=by
 have e:rdNs 10 M = some (m ++ (m2 ++ m3),M4):=by
  rw [show (10:Nat) = 1 + (5 + 4) from rfl,rdNs_add,h]
  simp only
  rw [rdNs_add,h2]
  simp only
  rw [h3]
 unfold parS
 rw [e]
theorem okR_none {r:Jrec} (h:¬ recErr r = 0):okR r = none:=by unfold okR;rw [if_neg (by simpa using h)]
theorem bs_empty {M:List Nat} (h:bs M = .empty):M = []:=by
 have:=congrArg ByteArray.size h
 rw [bs_len] at this
 exact List.length_eq_zero_iff.1 this
theorem parI_bad1 {k t:Int} {M:List Nat} (hk:(k == 4) = true) (h:rdNs 5 M = none):parI k t M = none:=by
 unfold parI
 rw [if_pos hk,show (6:Nat) = 5 + 1 from rfl,rdNs_add,h]
theorem parI_bad2 {k t:Int} {M M2:List Nat} {m:List Int} (hk:(k == 4) = true) (h:rdNs 5 M = some (m,M2)) (h2:rdNs 1 M2 = none):parI k t M = none:=by
 unfold parI
 rw [if_pos hk,show (6:Nat) = 5 + 1 from rfl,rdNs_add,h]
 simp only
 rw [h2]
theorem recErr_kind8 {r:Jrec} (h:r.kind ≠ 1 /\ r.kind ≠ 3 /\ r.kind ≠ 4) (h2:r.kind ≠ 2):¬ recErr r = 0:=by
 intro hr
 rcases recErr_zero.1 hr with g | g
 ·rcases g.kind with e | e
  ·exact h.1 e
  ·exact h.2.1 e
 ·rcases g.kind with e | e
  ·exact h2 e
  ·exact h.2.2 e
theorem parI_x {L M:List Nat} {m:List Int} (h:rdNs 2 L = some (m,M)) (hz:m.getD 0 0 ≠ 1 /\ m.getD 0 0 ≠ 3 /\ m.getD 0 0 ≠ 4) (hb:rdNs 5 M = none):parR L = none:=by
 have hs:stoK (m.getD 0 0) = false:=by unfold stoK;simp only [Bool.or_eq_false_iff,beq_eq_false_iff_ne,ne_eq];exact ⟨hz.1,hz.2.1⟩
 cases h2:(m.getD 0 0 == 2 || m.getD 0 0 == 4) with
 | true=>
  rw [parR_I h hs h2]
  unfold parI
  rw [if_neg (by simpa using hz.2.2),hb]
 | false=>exact parR_x h hs h2
theorem parI_2 {L M M2:List Nat} {m m2:List Int} (h:rdNs 2 L = some (m,M)) (hz:m.getD 0 0 ≠ 1 /\ m.getD 0 0 ≠ 3 /\ m.getD 0 0 ≠ 4) (h5:rdNs 5 M = some (m2,M2)):parR L = if M2.isEmpty = true then okR ⟨m.getD 0 0,.zero,⟨m2.getD 0 0,m2.getD 1 0,m2.getD 2 0,m2.getD 3 0,m2.getD 4 0⟩,0,m.getD 1 0⟩ else none:=by
 have hs:stoK (m.getD 0 0) = false:=by unfold stoK;simp only [Bool.or_eq_false_iff,beq_eq_false_iff_ne,ne_eq];exact ⟨hz.1,hz.2.1⟩
 have h4:¬ (m.getD 0 0 == 4) = true:=by simpa using hz.2.2
 cases h2:(m.getD 0 0 == 2 || m.getD 0 0 == 4) with
 | true=>
  rw [parR_I h hs h2]
  unfold parI
  rw [if_neg h4,h5]
  simp only
  rw [if_neg h4];rfl
 | false=>
  rw [parR_x h hs h2]
  have hk:m.getD 0 0 ≠ 2:=by intro e;rw [e] at h2;cases h2
  rw [okR_none (recErr_kind8 hz hk)]
  split <;> rfl
theorem parI_4 {k t:Int} {M M2 M3:List Nat} {m m2:List Int} (hk:(k == 4) = true) (h:rdNs 5 M = some (m,M2)) (h2:rdNs 1 M2 = some (m2,M3)):parI k t M = if M3.isEmpty = true then okR ⟨k,.zero,nidOf (m ++ m2),(m ++ m2).getD 5 0,t⟩ else none:=by
 unfold parI
 rw [if_pos hk,show (6:Nat) = 5 + 1 from rfl,rdNs_add,h]
 simp only
 rw [h2]
 simp only
 rw [if_pos hk]
def rdV (L:List Nat) (k:Nat):Int:=(rdI (L.drop (rdP L k))).1
def rdE (L:List Nat) (k:Nat):Int:=(rdI (L.drop (rdP L k))).2.2
theorem rdP_succ (L:List Nat):∀ k,rdP L (k + 1) = (rdI L).2.1 + rdP (L.drop (rdI L).2.1) k
 | 0=>by simp [rdP]
 | k + 1=>by rw [rdP,rdP_succ L k,rdP,List.drop_drop];omega
theorem rdV_succ (L:List Nat) (k:Nat):rdV L (k + 1) = rdV (L.drop (rdI L).2.1) k:=by unfold rdV;rw [rdP_succ,List.drop_drop]
theorem rdE_succ (L:List Nat) (k:Nat):rdE L (k + 1) = rdE (L.drop (rdI L).2.1) k:=by unfold rdE;rw [rdP_succ,List.drop_drop]
theorem rdNs_all:∀ {n:Nat} {L:List Nat},(∀ i,i < n -> rdE L i = 0) -> rdNs n L = some ((List.range n).map (rdV L),L.drop (rdP L n))
 | 0,L,_=>by simp [rdNs,rdP]
 | n + 1,L,h=>by
  have h0:(rdI L).2.2 = 0:=h 0 (by omega)
  rw [rdNs,if_neg (by rw [h0];decide),rdNs_all (n:=n) fun i hi=>by rw [<- rdE_succ];exact h (i + 1) (by omega)]
  simp only
  congr 2
  ·rw [List.range_succ_eq_map,List.map_cons,List.map_map]
   refine (congrArg (fun t=>rdV L 0 :: t) (List.map_congr_left fun i _=>?_)).symm
   exact rdV_succ L i
  ·rw [List.drop_drop,<- rdP_succ]
theorem rdNs_bad:∀ {n i:Nat} {L:List Nat},i < n -> rdE L i ≠ 0 -> rdNs n L = none
 | 0,i,L,h,_=>absurd h (Nat.not_lt_zero _)
 | n + 1,0,L,_,h=>by rw [rdNs,if_pos (by have h:(rdI L).2.2 ≠ 0:=h;simpa using h)]
 | n + 1,i + 1,L,h,he=>by
  rw [rdNs]
  split
  ·rfl
  ·rw [rdNs_bad (n:=n) (i:=i) (by omega) (by rw [<- rdE_succ];exact he)]
theorem rdI_len {L:List Nat} (hL:∀ x ∈ L,x < 256):(rdI L).2.1 <= L.length:=by
 rcases rdI_cases L with ⟨n,k,h⟩ | ⟨e,_,h⟩
 ·rw [h];exact (rdI_ok hL h).2.2.1
 ·rw [h];exact Nat.zero_le _
theorem cut_bs {M:List Nat} (hM:∀ x ∈ M,x < 256) (k:Nat):(bs M).extract (k:Int).toNat ((bs M).size:Int).toNat = bs (M.drop k):=by
 apply ls_inj
 rw [ls_extract,ls_bs hM,ls_bs (fun x hx=>hM x (List.mem_of_mem_drop hx)),take_all (by rw [bs_len];simp)]
 congr 1
theorem emp_f {M:List Nat} (h:M = []):(!((bs M).toList == (⟨#[]⟩:ByteArray).toList)) = false:=by rw [h];simp [bs]
theorem emp_t {M:List Nat} (h:M ≠ []):(!((bs M).toList == (⟨#[]⟩:ByteArray).toList)) = true:=by
 rw [Bool.not_eq_true',beq_eq_false_iff_ne,ne_eq,ba_inj]
 exact fun e=>h (bs_empty e)
theorem rdT_in {l:List Nat} (hl:∀ x ∈ l,x < 256):(rdT l).2.1 <= l.length:=by
 rcases lenI_cases l with ⟨n,k,hk⟩ | ⟨e,he,hk⟩
 ·obtain ⟨h1,h2,h3⟩:=lenI_ok hk
  by_cases hs:((l.length - k:Nat):Int) < n
  ·rw [rdT_short hk hs];exact Nat.zero_le _
  ·rw [rdT_ok hk hs]
   have:=(rdI_ok hl h1).2.2.1
   show k + n.toNat <= _
   omega
 ·rw [rdT_err hk he];exact Nat.zero_le _
theorem cu_bad {z:Int} (h:z < 0 \/ z > 1):(!(z == 0 || z == 1)) = true:=by
 simp only [Bool.not_eq_true',Bool.or_eq_false_iff,beq_eq_false_iff_ne,ne_eq];omega
theorem cu_good {z:Int} (h:0 <= z /\ z <= 1):(!(z == 0 || z == 1)) = false:=by
 simp only [Bool.not_eq_false',Bool.or_eq_true,beq_iff_eq];omega
theorem if_text {l:List Nat} {n:Nat} {a:Option Jrec} (h:n <= l.length):(if (false || (n != l.length || false)) = true then none else a) = if (l.drop n).isEmpty = true then a else none:=by
 by_cases e:n = l.length
 ·rw [if_neg (by simp [e]),if_pos (by simp [e])]
 ·rw [if_pos (by simpa using e),if_neg (by simp only [List.isEmpty_iff,List.drop_eq_nil_iff];omega)]
theorem parR_S' {L M:List Nat} {V:Nat -> Int} (h:rdNs 2 L = some ((List.range 2).map V,M)) (hs:stoK (V 0) = true):parR L = parS (V 0) (V 1) M:=parR_S h hs
theorem parR_I' {L M:List Nat} {V:Nat -> Int} (h:rdNs 2 L = some ((List.range 2).map V,M)) (hs:stoK (V 0) = false) (hk:(V 0 == 2 || V 0 == 4) = true):parR L = parI (V 0) (V 1) M:=parR_I h hs hk
theorem parI_x' {L M:List Nat} {V:Nat -> Int} (h:rdNs 2 L = some ((List.range 2).map V,M)) (hz:V 0 ≠ 1 /\ V 0 ≠ 3 /\ V 0 ≠ 4) (hb:rdNs 5 M = none):parR L = none:=parI_x h hz hb
theorem parI_2' {L M M2:List Nat} {V V1:Nat -> Int} (h:rdNs 2 L = some ((List.range 2).map V,M)) (hz:V 0 ≠ 1 /\ V 0 ≠ 3 /\ V 0 ≠ 4) (h5:rdNs 5 M = some ((List.range 5).map V1,M2)):parR L = if M2.isEmpty = true then okR ⟨V 0,.zero,⟨V1 0,V1 1,V1 2,V1 3,V1 4⟩,0,V 1⟩ else none:=by
 rw [show (List.range 2).map V = [V 0,V 1] from rfl] at h
 rw [show (List.range 5).map V1 = [V1 0,V1 1,V1 2,V1 3,V1 4] from rfl] at h5
 have e:=parI_2 h hz h5
 simp only [List.getD_cons_zero,List.getD_cons_succ] at e
 exact e
theorem parI_4' {k t:Int} {M M2 M3:List Nat} {V1 V2:Nat -> Int} (hk:(k == 4) = true) (h:rdNs 5 M = some ((List.range 5).map V1,M2)) (h2:rdNs 1 M2 = some ((List.range 1).map V2,M3)):parI k t M = if M3.isEmpty = true then okR ⟨k,.zero,⟨V1 0,V1 1,V1 2,V1 3,V1 4⟩,V2 0,t⟩ else none:=by
 rw [show (List.range 5).map V1 = [V1 0,V1 1,V1 2,V1 3,V1 4] from rfl] at h
 rw [show (List.range 1).map V2 = [V2 0] from rfl] at h2
 have e:=parI_4 hk h h2 (t:=t)
 simp only [List.cons_append,List.nil_append,nidOf,List.getD_cons_zero,List.getD_cons_succ] at e
 exact e
theorem parS_ok' {k t:Int} {M M2 M3 M4:List Nat} {V1 V2 V3:Nat -> Int} (h:rdNs 1 M = some ((List.range 1).map V1,M2)) (h2:rdNs 5 M2 = some ((List.range 5).map V2,M3)) (h3:rdNs 4 M3 = some ((List.range 4).map V3,M4)):parS k t M = if (rdT M4).2.2 != 0 || ((rdT M4).2.1 != M4.length || !(V3 3 == 0 || V3 3 == 1)) then none else
  okR ⟨k,⟨V1 0,⟨V2 0,V2 1,V2 2,V2 3,V2 4⟩,V3 0,V3 1,V3 2,V3 3 == 1,bs (rdT M4).1⟩,.zero,0,t⟩:=by
 rw [show (List.range 1).map V1 = [V1 0] from rfl] at h
 rw [show (List.range 5).map V2 = [V2 0,V2 1,V2 2,V2 3,V2 4] from rfl] at h2
 rw [show (List.range 4).map V3 = [V3 0,V3 1,V3 2,V3 3] from rfl] at h3
 have e:=parS_ok h h2 h3 (k:=k) (t:=t)
 simp only [List.cons_append,List.nil_append,nidOf,List.drop_succ_cons,List.drop_zero,List.getD_cons_zero,List.getD_cons_succ] at e
 exact e
end Go.Mb
namespace Go.Proofs.YtggjngbighkdgaaGreat
open Go.Sy Go.Mb
set_option maxRecDepth 100000
set_option maxHeartbeats 40000000
noncomputable def CRd:Cx:={ E:=EN,inl:=[127,188],ok:=EN_ok }
theorem first_ok (s:ByteArray) (hs:s.size <= 100000):FnOK Tryz.prog 77 [.str s] (fstA (fstJ (ls s)),none):=by
 have hlt:=ls_lt s
 refine fn_ok CRd rfl (by kernel_rfl) Tryz.func77 rfl ?_
 refine zG zE (NS.call (open_ok s (by omega)) rfl ?_)
 by_cases he:(opL (ls s)).2.2 = 0
 ·refine zG zE (NS.no (by show ((opL (ls s)).2.2 != 0) = false;rw [he];rfl) ?_)
  obtain ⟨L,hL⟩:∃ L,(opL (ls s)).1 = L:=⟨_,rfl⟩
  rw [hL]
  have hLx:∀ x ∈ L,x < 256:=by rw [<- hL];exact opL_lt hlt
  have hLl:L.length <= 65536:=by rw [<- hL];exact (opL_len _).2
  have hF:fstJ (ls s) = match parR L with
   | none=>none
   | some r=>some (r,(opL (ls s)).2.1):=by unfold fstJ;rw [if_neg (by rw [he];decide),hL];cases parR L <;> rfl
  have hx_L:(∀ x ∈ L,x < 256) /\ L.length <= 65536:=⟨hLx,hLl⟩
  have hR:∀ M:List Nat,((∀ x ∈ M,x < 256) /\ M.length <= 65536) -> ∀ j,FnOK Tryz.prog 186 [.str (bs (M.drop (rdP M j)))] (.tup [.int .i64 (rdV M j),.int .i64 ((rdI (M.drop (rdP M j))).2.1:Nat),.int .i64 (rdE M j)],none):=fun M hM j=>by
   have c:=readInt_ok (bs (M.drop (rdP M j))) (by rw [bs_len,List.length_drop];omega)
   rw [ls_bs (fun x hx=>hM.1 x (List.mem_of_mem_drop hx))] at c
   exact c
  have hRI:∀ M:List Nat,((∀ x ∈ M,x < 256) /\ M.length <= 65536) -> ∀ q,FnOK Tryz.prog 186 [.str (bs (M.drop q))] (.tup [.int .i64 (rdI (M.drop q)).1,.int .i64 ((rdI (M.drop q)).2.1:Nat),.int .i64 (rdI (M.drop q)).2.2],none):=fun M hM q=>by
   have c:=readInt_ok (bs (M.drop q)) (by rw [bs_len,List.length_drop];omega)
   rw [ls_bs (fun x hx=>hM.1 x (List.mem_of_mem_drop hx))] at c
   exact c
  have hS:∀ M:List Nat,((∀ x ∈ M,x < 256) /\ M.length <= 65536) -> ∀ j,decide ((0:Int) <= ((rdI (M.drop (rdP M j))).2.1:Nat) /\ (((rdI (M.drop (rdP M j))).2.1:Nat):Int) <= ((bs (M.drop (rdP M j))).size:Int) /\ ((bs (M.drop (rdP M j))).size:Int) <= ((bs (M.drop (rdP M j))).size:Int)) = true:=fun M hM j=>by
   have h1:=rdI_len (L:=M.drop (rdP M j)) fun x hx=>hM.1 x (List.mem_of_mem_drop hx)
   rw [bs_len]
   exact decide_eq_true (by omega)
  have hC:∀ M:List Nat,((∀ x ∈ M,x < 256) /\ M.length <= 65536) -> ∀ j,(bs (M.drop (rdP M j))).extract (((rdI (M.drop (rdP M j))).2.1:Nat):Int).toNat ((bs (M.drop (rdP M j))).size:Int).toNat = bs (M.drop (rdP M (j + 1))):=fun M hM j=>by
   rw [cut_bs (fun x hx=>hM.1 x (List.mem_of_mem_drop hx)),List.drop_drop];rfl
  have hRT:∀ M:List Nat,((∀ x ∈ M,x < 256) /\ M.length <= 65536) -> ∀ q,FnOK Tryz.prog 189 [.str (bs (M.drop q))] (.tup [.str (bs (rdT (M.drop q)).1),.int .i64 ((rdT (M.drop q)).2.1:Nat),.int .i64 (rdT (M.drop q)).2.2],none):=fun M hM q=>by
   have c:=readText_ok (bs (M.drop q)) (by rw [bs_len,List.length_drop];omega)
   rw [ls_bs (fun x hx=>hM.1 x (List.mem_of_mem_drop hx))] at c
   exact c
  have hkc:=kind_cases
  have hAll:∀ (n:Nat) (M:List Nat),(∀ i,i < n -> rdE M i = 0) -> rdNs n M = some ((List.range n).map (rdV M),M.drop (rdP M n)):=fun n M h=>rdNs_all h
  obtain ⟨V,hV⟩:∃ V:List Nat -> Nat -> Int,V = rdV:=⟨_,rfl⟩
  simp only [<- hV] at hR hAll
  clear hV
  -- WALK BEGINS
  refine zG zE ?_
  refine NS.loop (σ:={ k:Nat // k <= 2 /\ ∀ i,i < k -> rdE L i = 0 }) (fun k=>[(0,.ptr 21 0),(9,.ov 56 1 0 2),(10,.int .i64 2),(11,.int .i64 k.1)]) (fun k=>[(21,.box [.str (bs (L.drop (rdP L k.1))),.bool false]),(46,.box [.int .i64 (gt 0 k.1 (V L 0)),.int .i64 0,.int .i64 0,.int .i64 0,.int .i64 0,.int .i64 0,.int .i64 0,.int .i64 0,.int .i64 0,.int .i64 0,.bool false,.str .empty,.int .i64 0,.int .i64 0,.int .i64 0,.int .i64 0,.int .i64 0,.int .i64 0,.int .i64 (gt 1 k.1 (V L 1))])]) (fun k=>2 - k.1) ⟨0,by omega,fun i hi=>absurd hi (Nat.not_lt_zero _)⟩ ?_ ?_
  ·exact weak_hd [] rfl ⟨rfl,rfl,rfl,rfl,trivial⟩ ⟨⟨_,rfl,_,_,rfl,rfl,_,_,rfl,.inl rfl,rfl⟩,⟨_,rfl,_,_,rfl,rfl,_,_,rfl,rfl,_,_,rfl,rfl,_,_,rfl,rfl,_,_,rfl,rfl,_,_,rfl,rfl,_,_,rfl,rfl,_,_,rfl,rfl,_,_,rfl,rfl,_,_,rfl,rfl,_,_,rfl,.inl rfl,_,_,rfl,rfl,_,_,rfl,rfl,_,_,rfl,rfl,_,_,rfl,rfl,_,_,rfl,rfl,_,_,rfl,rfl,_,_,rfl,rfl,_,_,rfl,rfl,rfl⟩,trivial⟩ (Pre_cut (by kernel_rfl)) (by kernel_rfl)
  rintro ⟨k,kl,kE⟩
  have kE:∀ i,i < k -> rdE L i = 0:=kE
  have kl:k <= 2:=kl
  refine zG zE (NS.ite (fun ka=>?_) (fun ka=>?_))
  ·have ka:k < 2:=by have ka:decide ((k:Int) < 2) = true:=ka;have:=of_decide_eq_true ka;omega
   rcases (by omega:k = 0 \/ k = 1) with rfl | rfl
   ·refine zG zE (NS.need (by kernel_rfl) ?_)
    refine zG zE (NS.call (hR L hx_L 0) rfl ?_)
    refine zG zE (NS.no (rfl) ?_)
    refine zG zE (NS.ite (fun ke=>?_) (fun ke=>?_))
    ·have ke:rdE L 0 ≠ 0:=by have ke:(rdE L 0 != 0) = true:=ke;simpa using ke
     have kB:rdNs 2 L = none:=rdNs_bad (by decide) ke
     refine zG zE (NS.leave rfl zE ?_)
     have hpn:parR L = none:=by unfold parR;rw [kB]
     have hkq_1:((gt 0 0 (V L 0):Int) == 1) = false:=rfl
     have hkq_3:((gt 0 0 (V L 0):Int) == 3) = false:=rfl
     have hkq_4:((gt 0 0 (V L 0):Int) == 4) = false:=rfl
     refine zG zE (NS.no (by show ((gt 0 0 (V L 0):Int) == 1) = false;exact hkq_1) ?_)
     refine zG zE (NS.no (by show ((gt 0 0 (V L 0):Int) == 3) = false;exact hkq_3) ?_)
     refine zG zE (NS.chk (by kernel_rfl) ?_)
     refine zG zE ?_
     refine NS.loop (σ:=Unit) (fun _=>[(0,.ptr 21 0),(9,.ov 91 1 0 5),(10,.int .i64 5),(11,.int .i64 0)]) (fun _=>[]) (fun _=>0) () ?_ ?_
     ·exact weak_hd [] rfl ⟨rfl,rfl,rfl,rfl,trivial⟩ trivial (Pre_cut (by kernel_rfl)) (by kernel_rfl)
     rintro ⟨⟩
     refine zG zE (NS.yes (rfl) ?_)
     refine zG zE (NS.need (by kernel_rfl) ?_)
     refine zG zE (NS.call (hRI L hx_L _) rfl ?_)
     refine zG zE (NS.leave rfl zE ?_)
     refine zG zE (NS.no (by show ((gt 0 0 (V L 0):Int) == 4) = false;exact hkq_4) ?_)
     refine zG zE (NS.no (by show ((gt 0 0 (V L 0):Int) == 3) = false;exact hkq_3) ?_)
     rw [hF,hpn]
     exact zG zE (NS.ret rfl rfl (LeA.refl _))
    ·have ke:rdE L 0 = 0:=by have ke:(rdE L 0 != 0) = false:=ke;simpa using ke
     refine zG zE (NS.need (hS L hx_L 0) ?_)
     refine zG zE (NS.next ⟨0 + 1,by omega,fun i hi=>by rcases Nat.lt_succ_iff_lt_or_eq.1 hi with h | h;exact kE i h;rw [h];exact ke⟩ (by show 2 - (0 + 1) < 2 - 0;omega) ?_)
     exact weak_hd [] rfl ⟨rfl,rfl,rfl,rfl,trivial⟩ ⟨⟨_,rfl,_,_,rfl,ren_str rfl (hC L hx_L 0),_,_,rfl,.inl rfl,rfl⟩,⟨_,rfl,_,_,rfl,rfl,_,_,rfl,rfl,_,_,rfl,rfl,_,_,rfl,rfl,_,_,rfl,rfl,_,_,rfl,rfl,_,_,rfl,rfl,_,_,rfl,rfl,_,_,rfl,rfl,_,_,rfl,rfl,_,_,rfl,.inl rfl,_,_,rfl,rfl,_,_,rfl,rfl,_,_,rfl,rfl,_,_,rfl,rfl,_,_,rfl,rfl,_,_,rfl,rfl,_,_,rfl,rfl,_,_,rfl,rfl,rfl⟩,trivial⟩ (Pre_cut (by kernel_rfl)) (by kernel_rfl)
   ·refine zG zE (NS.need (by kernel_rfl) ?_)
    refine zG zE (NS.call (hR L hx_L 1) rfl ?_)
    refine zG zE (NS.no (rfl) ?_)
    refine zG zE (NS.ite (fun ke=>?_) (fun ke=>?_))
    ·have ke:rdE L 1 ≠ 0:=by have ke:(rdE L 1 != 0) = true:=ke;simpa using ke
     have kB:rdNs 2 L = none:=rdNs_bad (by decide) ke
     refine zG zE (NS.leave rfl zE ?_)
     have hpn:parR L = none:=by unfold parR;rw [kB]
     rcases hkc (V L 0) with ⟨hkz,hkq_1,hkq_3,hkq_4⟩ | ⟨hkz,hkq_1,hkq_3,hkq_4⟩ | ⟨hkz,hkq_1,hkq_3,hkq_4⟩ | ⟨hkz,hkq_1,hkq_3,hkq_4⟩
     ·refine zG zE (NS.yes (by show ((gt 0 1 (V L 0):Int) == 1) = true;exact hkq_1) ?_)
      refine zG zE ?_
      refine NS.loop (σ:=Unit) (fun _=>[(0,.ptr 21 0),(9,.ov 73 1 0 1),(10,.int .i64 1),(11,.int .i64 0)]) (fun _=>[]) (fun _=>0) () ?_ ?_
      ·exact weak_hd [] rfl ⟨rfl,rfl,rfl,rfl,trivial⟩ trivial (Pre_cut (by kernel_rfl)) (by kernel_rfl)
      rintro ⟨⟩
      refine zG zE (NS.yes (rfl) ?_)
      refine zG zE (NS.need (by kernel_rfl) ?_)
      refine zG zE (NS.call (hRI L hx_L _) rfl ?_)
      refine zG zE (NS.leave rfl zE ?_)
      refine zG zE (NS.chk (by kernel_rfl) ?_)
      refine zG zE ?_
      refine NS.loop (σ:=Unit) (fun _=>[(0,.ptr 21 0),(9,.ov 91 1 0 5),(10,.int .i64 5),(11,.int .i64 0)]) (fun _=>[]) (fun _=>0) () ?_ ?_
      ·exact weak_hd [] rfl ⟨rfl,rfl,rfl,rfl,trivial⟩ trivial (Pre_cut (by kernel_rfl)) (by kernel_rfl)
      rintro ⟨⟩
      refine zG zE (NS.yes (rfl) ?_)
      refine zG zE (NS.need (by kernel_rfl) ?_)
      refine zG zE (NS.call (hRI L hx_L _) rfl ?_)
      refine zG zE (NS.leave rfl zE ?_)
      refine zG zE (NS.no (by show ((gt 0 1 (V L 0):Int) == 4) = false;exact hkq_4) ?_)
      refine zG zE ?_
      refine NS.loop (σ:=Unit) (fun _=>[(0,.ptr 21 0),(9,.ov 108 1 0 4),(10,.int .i64 4),(11,.int .i64 0)]) (fun _=>[]) (fun _=>0) () ?_ ?_
      ·exact weak_hd [] rfl ⟨rfl,rfl,rfl,rfl,trivial⟩ trivial (Pre_cut (by kernel_rfl)) (by kernel_rfl)
      rintro ⟨⟩
      refine zG zE (NS.yes (rfl) ?_)
      refine zG zE (NS.need (by kernel_rfl) ?_)
      refine zG zE (NS.call (hRI L hx_L _) rfl ?_)
      refine zG zE (NS.leave rfl zE ?_)
      refine zG zE (NS.call (hRT L hx_L _) rfl ?_)
      rw [hF,hpn]
      exact zG zE (NS.ret rfl rfl (LeA.refl _))
     ·refine zG zE (NS.no (by show ((gt 0 1 (V L 0):Int) == 1) = false;exact hkq_1) ?_)
      refine zG zE (NS.yes (by show ((gt 0 1 (V L 0):Int) == 3) = true;exact hkq_3) ?_)
      refine zG zE ?_
      refine NS.loop (σ:=Unit) (fun _=>[(0,.ptr 21 0),(9,.ov 73 1 0 1),(10,.int .i64 1),(11,.int .i64 0)]) (fun _=>[]) (fun _=>0) () ?_ ?_
      ·exact weak_hd [] rfl ⟨rfl,rfl,rfl,rfl,trivial⟩ trivial (Pre_cut (by kernel_rfl)) (by kernel_rfl)
      rintro ⟨⟩
      refine zG zE (NS.yes (rfl) ?_)
      refine zG zE (NS.need (by kernel_rfl) ?_)
      refine zG zE (NS.call (hRI L hx_L _) rfl ?_)
      refine zG zE (NS.leave rfl zE ?_)
      refine zG zE (NS.chk (by kernel_rfl) ?_)
      refine zG zE ?_
      refine NS.loop (σ:=Unit) (fun _=>[(0,.ptr 21 0),(9,.ov 91 1 0 5),(10,.int .i64 5),(11,.int .i64 0)]) (fun _=>[]) (fun _=>0) () ?_ ?_
      ·exact weak_hd [] rfl ⟨rfl,rfl,rfl,rfl,trivial⟩ trivial (Pre_cut (by kernel_rfl)) (by kernel_rfl)
      rintro ⟨⟩
      refine zG zE (NS.yes (rfl) ?_)
      refine zG zE (NS.need (by kernel_rfl) ?_)
      refine zG zE (NS.call (hRI L hx_L _) rfl ?_)
      refine zG zE (NS.leave rfl zE ?_)
      refine zG zE (NS.no (by show ((gt 0 1 (V L 0):Int) == 4) = false;exact hkq_4) ?_)
      refine zG zE (NS.yes (by show ((gt 0 1 (V L 0):Int) == 3) = true;exact hkq_3) ?_)
      refine zG zE ?_
      refine NS.loop (σ:=Unit) (fun _=>[(0,.ptr 21 0),(9,.ov 108 1 0 4),(10,.int .i64 4),(11,.int .i64 0)]) (fun _=>[]) (fun _=>0) () ?_ ?_
      ·exact weak_hd [] rfl ⟨rfl,rfl,rfl,rfl,trivial⟩ trivial (Pre_cut (by kernel_rfl)) (by kernel_rfl)
      rintro ⟨⟩
      refine zG zE (NS.yes (rfl) ?_)
      refine zG zE (NS.need (by kernel_rfl) ?_)
      refine zG zE (NS.call (hRI L hx_L _) rfl ?_)
      refine zG zE (NS.leave rfl zE ?_)
      refine zG zE (NS.call (hRT L hx_L _) rfl ?_)
      rw [hF,hpn]
      exact zG zE (NS.ret rfl rfl (LeA.refl _))
     ·refine zG zE (NS.no (by show ((gt 0 1 (V L 0):Int) == 1) = false;exact hkq_1) ?_)
      refine zG zE (NS.no (by show ((gt 0 1 (V L 0):Int) == 3) = false;exact hkq_3) ?_)
      refine zG zE (NS.chk (by kernel_rfl) ?_)
      refine zG zE ?_
      refine NS.loop (σ:=Unit) (fun _=>[(0,.ptr 21 0),(9,.ov 91 1 0 5),(10,.int .i64 5),(11,.int .i64 0)]) (fun _=>[]) (fun _=>0) () ?_ ?_
      ·exact weak_hd [] rfl ⟨rfl,rfl,rfl,rfl,trivial⟩ trivial (Pre_cut (by kernel_rfl)) (by kernel_rfl)
      rintro ⟨⟩
      refine zG zE (NS.yes (rfl) ?_)
      refine zG zE (NS.need (by kernel_rfl) ?_)
      refine zG zE (NS.call (hRI L hx_L _) rfl ?_)
      refine zG zE (NS.leave rfl zE ?_)
      refine zG zE (NS.yes (by show ((gt 0 1 (V L 0):Int) == 4) = true;exact hkq_4) ?_)
      refine zG zE ?_
      refine NS.loop (σ:=Unit) (fun _=>[(0,.ptr 21 0),(9,.ov 98 1 0 1),(10,.int .i64 1),(11,.int .i64 0)]) (fun _=>[]) (fun _=>0) () ?_ ?_
      ·exact weak_hd [] rfl ⟨rfl,rfl,rfl,rfl,trivial⟩ trivial (Pre_cut (by kernel_rfl)) (by kernel_rfl)
      rintro ⟨⟩
      refine zG zE (NS.yes (rfl) ?_)
      refine zG zE (NS.need (by kernel_rfl) ?_)
      refine zG zE (NS.call (hRI L hx_L _) rfl ?_)
      refine zG zE (NS.leave rfl zE ?_)
      refine zG zE (NS.no (by show ((gt 0 1 (V L 0):Int) == 3) = false;exact hkq_3) ?_)
      rw [hF,hpn]
      exact zG zE (NS.ret rfl rfl (LeA.refl _))
     ·refine zG zE (NS.no (by show ((gt 0 1 (V L 0):Int) == 1) = false;exact hkq_1) ?_)
      refine zG zE (NS.no (by show ((gt 0 1 (V L 0):Int) == 3) = false;exact hkq_3) ?_)
      refine zG zE (NS.chk (by kernel_rfl) ?_)
      refine zG zE ?_
      refine NS.loop (σ:=Unit) (fun _=>[(0,.ptr 21 0),(9,.ov 91 1 0 5),(10,.int .i64 5),(11,.int .i64 0)]) (fun _=>[]) (fun _=>0) () ?_ ?_
      ·exact weak_hd [] rfl ⟨rfl,rfl,rfl,rfl,trivial⟩ trivial (Pre_cut (by kernel_rfl)) (by kernel_rfl)
      rintro ⟨⟩
      refine zG zE (NS.yes (rfl) ?_)
      refine zG zE (NS.need (by kernel_rfl) ?_)
      refine zG zE (NS.call (hRI L hx_L _) rfl ?_)
      refine zG zE (NS.leave rfl zE ?_)
      refine zG zE (NS.no (by show ((gt 0 1 (V L 0):Int) == 4) = false;exact hkq_4) ?_)
      refine zG zE (NS.no (by show ((gt 0 1 (V L 0):Int) == 3) = false;exact hkq_3) ?_)
      rw [hF,hpn]
      exact zG zE (NS.ret rfl rfl (LeA.refl _))
    ·have ke:rdE L 1 = 0:=by have ke:(rdE L 1 != 0) = false:=ke;simpa using ke
     refine zG zE (NS.need (hS L hx_L 1) ?_)
     refine zG zE (NS.next ⟨1 + 1,by omega,fun i hi=>by rcases Nat.lt_succ_iff_lt_or_eq.1 hi with h | h;exact kE i h;rw [h];exact ke⟩ (by show 2 - (1 + 1) < 2 - 1;omega) ?_)
     exact weak_hd [] rfl ⟨rfl,rfl,rfl,rfl,trivial⟩ ⟨⟨_,rfl,_,_,rfl,ren_str rfl (hC L hx_L 1),_,_,rfl,.inl rfl,rfl⟩,⟨_,rfl,_,_,rfl,rfl,_,_,rfl,rfl,_,_,rfl,rfl,_,_,rfl,rfl,_,_,rfl,rfl,_,_,rfl,rfl,_,_,rfl,rfl,_,_,rfl,rfl,_,_,rfl,rfl,_,_,rfl,rfl,_,_,rfl,.inl rfl,_,_,rfl,rfl,_,_,rfl,rfl,_,_,rfl,rfl,_,_,rfl,rfl,_,_,rfl,rfl,_,_,rfl,rfl,_,_,rfl,rfl,_,_,rfl,rfl,rfl⟩,trivial⟩ (Pre_cut (by kernel_rfl)) (by kernel_rfl)
  have ka:k = 2:=by have ka:decide ((k:Int) < 2) = false:=ka;have:=of_decide_eq_false ka;omega
  subst ka
  refine zG zE (NS.leave rfl zE ?_)
  have kN:rdNs 2 L = some ((List.range 2).map (V L),L.drop (rdP L 2)):=hAll _ _ kE
  obtain ⟨M1,hM1⟩:∃ M,L.drop (rdP L 2) = M:=⟨_,rfl⟩
  rw [hM1] at kN
  have hx_M1:(∀ x ∈ M1,x < 256) /\ M1.length <= 65536:=by rw [<- hM1];exact ⟨fun x hx=>hx_L.1 x (List.mem_of_mem_drop hx),by rw [List.length_drop];have:=hx_L.2;omega⟩
  have hy_M1:bs (L.drop (rdP L 2)) = bs M1:=congrArg bs hM1
  rcases hkc (V L 0) with ⟨hkz,hkq_1,hkq_3,hkq_4⟩ | ⟨hkz,hkq_1,hkq_3,hkq_4⟩ | ⟨hkz,hkq_1,hkq_3,hkq_4⟩ | ⟨hkz,hkq_1,hkq_3,hkq_4⟩
  ·refine zG zE (NS.yes (by show ((gt 0 2 (V L 0):Int) == 1) = true;exact hkq_1) ?_)
   have hpr:parR L = parS (V L 0) (V L 1) M1:=parR_S' kN (by show stoK (V L 0) = true;rw [hkz];rfl)
   refine zG zE ?_
   refine NS.loop (σ:={ k:Nat // k <= 1 /\ ∀ i,i < k -> rdE M1 i = 0 }) (fun k=>[(0,.ptr 21 0),(9,.ov 73 1 0 1),(10,.int .i64 1),(11,.int .i64 k.1)]) (fun k=>[(21,.box [.str (bs (M1.drop (rdP M1 k.1))),.bool false]),(46,.box [.int .i64 (V L 0),.int .i64 (gt 0 k.1 (V M1 0)),.int .i64 0,.int .i64 0,.int .i64 0,.int .i64 0,.int .i64 0,.int .i64 0,.int .i64 0,.int .i64 0,.bool false,.str .empty,.int .i64 0,.int .i64 0,.int .i64 0,.int .i64 0,.int .i64 0,.int .i64 0,.int .i64 (V L 1)])]) (fun k=>1 - k.1) ⟨0,by omega,fun i hi=>absurd hi (Nat.not_lt_zero _)⟩ ?_ ?_
   ·exact weak_hd [] rfl ⟨rfl,rfl,rfl,rfl,trivial⟩ ⟨⟨_,rfl,_,_,rfl,ren_str rfl hy_M1,_,_,rfl,.inl rfl,rfl⟩,⟨_,rfl,_,_,rfl,rfl,_,_,rfl,rfl,_,_,rfl,rfl,_,_,rfl,rfl,_,_,rfl,rfl,_,_,rfl,rfl,_,_,rfl,rfl,_,_,rfl,rfl,_,_,rfl,rfl,_,_,rfl,rfl,_,_,rfl,.inl rfl,_,_,rfl,rfl,_,_,rfl,rfl,_,_,rfl,rfl,_,_,rfl,rfl,_,_,rfl,rfl,_,_,rfl,rfl,_,_,rfl,rfl,_,_,rfl,rfl,rfl⟩,trivial⟩ (Pre_cut (by kernel_rfl)) (by kernel_rfl)
   rintro ⟨t,tl,tE⟩
   have tE:∀ i,i < t -> rdE M1 i = 0:=tE
   have tl:t <= 1:=tl
   refine zG zE (NS.ite (fun ta=>?_) (fun ta=>?_))
   ·have ta:t < 1:=by have ta:decide ((t:Int) < 1) = true:=ta;have:=of_decide_eq_true ta;omega
    obtain rfl:t = 0:=by omega
    refine zG zE (NS.need (by kernel_rfl) ?_)
    refine zG zE (NS.call (hR M1 hx_M1 0) rfl ?_)
    refine zG zE (NS.no (rfl) ?_)
    refine zG zE (NS.ite (fun te=>?_) (fun te=>?_))
    ·have te:rdE M1 0 ≠ 0:=by have te:(rdE M1 0 != 0) = true:=te;simpa using te
     have tB:rdNs 1 M1 = none:=rdNs_bad (by decide) te
     refine zG zE (NS.leave rfl zE ?_)
     have hpn:parR L = none:=by rw [hpr];exact parS_bad1 tB
     refine zG zE (NS.chk (by kernel_rfl) ?_)
     refine zG zE ?_
     refine NS.loop (σ:=Unit) (fun _=>[(0,.ptr 21 0),(9,.ov 91 1 0 5),(10,.int .i64 5),(11,.int .i64 0)]) (fun _=>[]) (fun _=>0) () ?_ ?_
     ·exact weak_hd [] rfl ⟨rfl,rfl,rfl,rfl,trivial⟩ trivial (Pre_cut (by kernel_rfl)) (by kernel_rfl)
     rintro ⟨⟩
     refine zG zE (NS.yes (rfl) ?_)
     refine zG zE (NS.need (by kernel_rfl) ?_)
     refine zG zE (NS.call (hRI M1 hx_M1 _) rfl ?_)
     refine zG zE (NS.leave rfl zE ?_)
     refine zG zE (NS.no (by show ((gt 0 2 (V L 0):Int) == 4) = false;exact hkq_4) ?_)
     refine zG zE ?_
     refine NS.loop (σ:=Unit) (fun _=>[(0,.ptr 21 0),(9,.ov 108 1 0 4),(10,.int .i64 4),(11,.int .i64 0)]) (fun _=>[]) (fun _=>0) () ?_ ?_
     ·exact weak_hd [] rfl ⟨rfl,rfl,rfl,rfl,trivial⟩ trivial (Pre_cut (by kernel_rfl)) (by kernel_rfl)
     rintro ⟨⟩
     refine zG zE (NS.yes (rfl) ?_)
     refine zG zE (NS.need (by kernel_rfl) ?_)
     refine zG zE (NS.call (hRI M1 hx_M1 _) rfl ?_)
     refine zG zE (NS.leave rfl zE ?_)
     refine zG zE (NS.call (hRT M1 hx_M1 _) rfl ?_)
     rw [hF,hpn]
     exact zG zE (NS.ret rfl rfl (LeA.refl _))
    ·have te:rdE M1 0 = 0:=by have te:(rdE M1 0 != 0) = false:=te;simpa using te
     refine zG zE (NS.need (hS M1 hx_M1 0) ?_)
     refine zG zE (NS.next ⟨0 + 1,by omega,fun i hi=>by rcases Nat.lt_succ_iff_lt_or_eq.1 hi with h | h;exact tE i h;rw [h];exact te⟩ (by show 1 - (0 + 1) < 1 - 0;omega) ?_)
     exact weak_hd [] rfl ⟨rfl,rfl,rfl,rfl,trivial⟩ ⟨⟨_,rfl,_,_,rfl,ren_str rfl (hC M1 hx_M1 0),_,_,rfl,.inl rfl,rfl⟩,⟨_,rfl,_,_,rfl,rfl,_,_,rfl,rfl,_,_,rfl,rfl,_,_,rfl,rfl,_,_,rfl,rfl,_,_,rfl,rfl,_,_,rfl,rfl,_,_,rfl,rfl,_,_,rfl,rfl,_,_,rfl,rfl,_,_,rfl,.inl rfl,_,_,rfl,rfl,_,_,rfl,rfl,_,_,rfl,rfl,_,_,rfl,rfl,_,_,rfl,rfl,_,_,rfl,rfl,_,_,rfl,rfl,_,_,rfl,rfl,rfl⟩,trivial⟩ (Pre_cut (by kernel_rfl)) (by kernel_rfl)
   have ta:t = 1:=by have ta:decide ((t:Int) < 1) = false:=ta;have:=of_decide_eq_false ta;omega
   subst ta
   refine zG zE (NS.leave rfl zE ?_)
   have tN:rdNs 1 M1 = some ((List.range 1).map (V M1),M1.drop (rdP M1 1)):=hAll _ _ tE
   obtain ⟨M2,hM2⟩:∃ M,M1.drop (rdP M1 1) = M:=⟨_,rfl⟩
   rw [hM2] at tN
   have hx_M2:(∀ x ∈ M2,x < 256) /\ M2.length <= 65536:=by rw [<- hM2];exact ⟨fun x hx=>hx_M1.1 x (List.mem_of_mem_drop hx),by rw [List.length_drop];have:=hx_M1.2;omega⟩
   have hy_M2:bs (M1.drop (rdP M1 1)) = bs M2:=congrArg bs hM2
   refine zG zE (NS.chk (by kernel_rfl) ?_)
   refine zG zE ?_
   refine NS.loop (σ:={ k:Nat // k <= 5 /\ ∀ i,i < k -> rdE M2 i = 0 }) (fun k=>[(0,.ptr 21 0),(9,.ov 91 1 0 5),(10,.int .i64 5),(11,.int .i64 k.1)]) (fun k=>[(21,.box [.str (bs (M2.drop (rdP M2 k.1))),.bool false]),(46,.box [.int .i64 (V L 0),.int .i64 (V M1 0),.int .i64 (gt 0 k.1 (V M2 0)),.int .i64 (gt 1 k.1 (V M2 1)),.int .i64 (gt 2 k.1 (V M2 2)),.int .i64 (gt 3 k.1 (V M2 3)),.int .i64 (gt 4 k.1 (V M2 4)),.int .i64 0,.int .i64 0,.int .i64 0,.bool false,.str .empty,.int .i64 0,.int .i64 0,.int .i64 0,.int .i64 0,.int .i64 0,.int .i64 0,.int .i64 (V L 1)])]) (fun k=>5 - k.1) ⟨0,by omega,fun i hi=>absurd hi (Nat.not_lt_zero _)⟩ ?_ ?_
   ·exact weak_hd [] rfl ⟨rfl,rfl,rfl,rfl,trivial⟩ ⟨⟨_,rfl,_,_,rfl,ren_str rfl hy_M2,_,_,rfl,.inl rfl,rfl⟩,⟨_,rfl,_,_,rfl,rfl,_,_,rfl,rfl,_,_,rfl,rfl,_,_,rfl,rfl,_,_,rfl,rfl,_,_,rfl,rfl,_,_,rfl,rfl,_,_,rfl,rfl,_,_,rfl,rfl,_,_,rfl,rfl,_,_,rfl,.inl rfl,_,_,rfl,rfl,_,_,rfl,rfl,_,_,rfl,rfl,_,_,rfl,rfl,_,_,rfl,rfl,_,_,rfl,rfl,_,_,rfl,rfl,_,_,rfl,rfl,rfl⟩,trivial⟩ (Pre_cut (by kernel_rfl)) (by kernel_rfl)
   rintro ⟨v,vl,vE⟩
   have vE:∀ i,i < v -> rdE M2 i = 0:=vE
   have vl:v <= 5:=vl
   refine zG zE (NS.ite (fun va=>?_) (fun va=>?_))
   ·have va:v < 5:=by have va:decide ((v:Int) < 5) = true:=va;have:=of_decide_eq_true va;omega
    rcases (by omega:v = 0 \/ v = 1 \/ v = 2 \/ v = 3 \/ v = 4) with rfl | rfl | rfl | rfl | rfl
    ·refine zG zE (NS.need (by kernel_rfl) ?_)
     refine zG zE (NS.call (hR M2 hx_M2 0) rfl ?_)
     refine zG zE (NS.no (rfl) ?_)
     refine zG zE (NS.ite (fun ve=>?_) (fun ve=>?_))
     ·have ve:rdE M2 0 ≠ 0:=by have ve:(rdE M2 0 != 0) = true:=ve;simpa using ve
      have vB:rdNs 5 M2 = none:=rdNs_bad (by decide) ve
      refine zG zE (NS.leave rfl zE ?_)
      have hpn:parR L = none:=by rw [hpr];exact parS_bad2 tN vB
      refine zG zE (NS.no (by show ((gt 0 2 (V L 0):Int) == 4) = false;exact hkq_4) ?_)
      refine zG zE ?_
      refine NS.loop (σ:=Unit) (fun _=>[(0,.ptr 21 0),(9,.ov 108 1 0 4),(10,.int .i64 4),(11,.int .i64 0)]) (fun _=>[]) (fun _=>0) () ?_ ?_
      ·exact weak_hd [] rfl ⟨rfl,rfl,rfl,rfl,trivial⟩ trivial (Pre_cut (by kernel_rfl)) (by kernel_rfl)
      rintro ⟨⟩
      refine zG zE (NS.yes (rfl) ?_)
      refine zG zE (NS.need (by kernel_rfl) ?_)
      refine zG zE (NS.call (hRI M2 hx_M2 _) rfl ?_)
      refine zG zE (NS.leave rfl zE ?_)
      refine zG zE (NS.call (hRT M2 hx_M2 _) rfl ?_)
      rw [hF,hpn]
      exact zG zE (NS.ret rfl rfl (LeA.refl _))
     ·have ve:rdE M2 0 = 0:=by have ve:(rdE M2 0 != 0) = false:=ve;simpa using ve
      refine zG zE (NS.need (hS M2 hx_M2 0) ?_)
      refine zG zE (NS.next ⟨0 + 1,by omega,fun i hi=>by rcases Nat.lt_succ_iff_lt_or_eq.1 hi with h | h;exact vE i h;rw [h];exact ve⟩ (by show 5 - (0 + 1) < 5 - 0;omega) ?_)
      exact weak_hd [] rfl ⟨rfl,rfl,rfl,rfl,trivial⟩ ⟨⟨_,rfl,_,_,rfl,ren_str rfl (hC M2 hx_M2 0),_,_,rfl,.inl rfl,rfl⟩,⟨_,rfl,_,_,rfl,rfl,_,_,rfl,rfl,_,_,rfl,rfl,_,_,rfl,rfl,_,_,rfl,rfl,_,_,rfl,rfl,_,_,rfl,rfl,_,_,rfl,rfl,_,_,rfl,rfl,_,_,rfl,rfl,_,_,rfl,.inl rfl,_,_,rfl,rfl,_,_,rfl,rfl,_,_,rfl,rfl,_,_,rfl,rfl,_,_,rfl,rfl,_,_,rfl,rfl,_,_,rfl,rfl,_,_,rfl,rfl,rfl⟩,trivial⟩ (Pre_cut (by kernel_rfl)) (by kernel_rfl)
    ·refine zG zE (NS.need (by kernel_rfl) ?_)
     refine zG zE (NS.call (hR M2 hx_M2 1) rfl ?_)
     refine zG zE (NS.no (rfl) ?_)
     refine zG zE (NS.ite (fun ve=>?_) (fun ve=>?_))
     ·have ve:rdE M2 1 ≠ 0:=by have ve:(rdE M2 1 != 0) = true:=ve;simpa using ve
      have vB:rdNs 5 M2 = none:=rdNs_bad (by decide) ve
      refine zG zE (NS.leave rfl zE ?_)
      have hpn:parR L = none:=by rw [hpr];exact parS_bad2 tN vB
      refine zG zE (NS.no (by show ((gt 0 2 (V L 0):Int) == 4) = false;exact hkq_4) ?_)
      refine zG zE ?_
      refine NS.loop (σ:=Unit) (fun _=>[(0,.ptr 21 0),(9,.ov 108 1 0 4),(10,.int .i64 4),(11,.int .i64 0)]) (fun _=>[]) (fun _=>0) () ?_ ?_
      ·exact weak_hd [] rfl ⟨rfl,rfl,rfl,rfl,trivial⟩ trivial (Pre_cut (by kernel_rfl)) (by kernel_rfl)
      rintro ⟨⟩
      refine zG zE (NS.yes (rfl) ?_)
      refine zG zE (NS.need (by kernel_rfl) ?_)
      refine zG zE (NS.call (hRI M2 hx_M2 _) rfl ?_)
      refine zG zE (NS.leave rfl zE ?_)
      refine zG zE (NS.call (hRT M2 hx_M2 _) rfl ?_)
      rw [hF,hpn]
      exact zG zE (NS.ret rfl rfl (LeA.refl _))
     ·have ve:rdE M2 1 = 0:=by have ve:(rdE M2 1 != 0) = false:=ve;simpa using ve
      refine zG zE (NS.need (hS M2 hx_M2 1) ?_)
      refine zG zE (NS.next ⟨1 + 1,by omega,fun i hi=>by rcases Nat.lt_succ_iff_lt_or_eq.1 hi with h | h;exact vE i h;rw [h];exact ve⟩ (by show 5 - (1 + 1) < 5 - 1;omega) ?_)
      exact weak_hd [] rfl ⟨rfl,rfl,rfl,rfl,trivial⟩ ⟨⟨_,rfl,_,_,rfl,ren_str rfl (hC M2 hx_M2 1),_,_,rfl,.inl rfl,rfl⟩,⟨_,rfl,_,_,rfl,rfl,_,_,rfl,rfl,_,_,rfl,rfl,_,_,rfl,rfl,_,_,rfl,rfl,_,_,rfl,rfl,_,_,rfl,rfl,_,_,rfl,rfl,_,_,rfl,rfl,_,_,rfl,rfl,_,_,rfl,.inl rfl,_,_,rfl,rfl,_,_,rfl,rfl,_,_,rfl,rfl,_,_,rfl,rfl,_,_,rfl,rfl,_,_,rfl,rfl,_,_,rfl,rfl,_,_,rfl,rfl,rfl⟩,trivial⟩ (Pre_cut (by kernel_rfl)) (by kernel_rfl)
    ·refine zG zE (NS.need (by kernel_rfl) ?_)
     refine zG zE (NS.call (hR M2 hx_M2 2) rfl ?_)
     refine zG zE (NS.no (rfl) ?_)
     refine zG zE (NS.ite (fun ve=>?_) (fun ve=>?_))
     ·have ve:rdE M2 2 ≠ 0:=by have ve:(rdE M2 2 != 0) = true:=ve;simpa using ve
      have vB:rdNs 5 M2 = none:=rdNs_bad (by decide) ve
      refine zG zE (NS.leave rfl zE ?_)
      have hpn:parR L = none:=by rw [hpr];exact parS_bad2 tN vB
      refine zG zE (NS.no (by show ((gt 0 2 (V L 0):Int) == 4) = false;exact hkq_4) ?_)
      refine zG zE ?_
      refine NS.loop (σ:=Unit) (fun _=>[(0,.ptr 21 0),(9,.ov 108 1 0 4),(10,.int .i64 4),(11,.int .i64 0)]) (fun _=>[]) (fun _=>0) () ?_ ?_
      ·exact weak_hd [] rfl ⟨rfl,rfl,rfl,rfl,trivial⟩ trivial (Pre_cut (by kernel_rfl)) (by kernel_rfl)
      rintro ⟨⟩
      refine zG zE (NS.yes (rfl) ?_)
      refine zG zE (NS.need (by kernel_rfl) ?_)
      refine zG zE (NS.call (hRI M2 hx_M2 _) rfl ?_)
      refine zG zE (NS.leave rfl zE ?_)
      refine zG zE (NS.call (hRT M2 hx_M2 _) rfl ?_)
      rw [hF,hpn]
      exact zG zE (NS.ret rfl rfl (LeA.refl _))
     ·have ve:rdE M2 2 = 0:=by have ve:(rdE M2 2 != 0) = false:=ve;simpa using ve
      refine zG zE (NS.need (hS M2 hx_M2 2) ?_)
      refine zG zE (NS.next ⟨2 + 1,by omega,fun i hi=>by rcases Nat.lt_succ_iff_lt_or_eq.1 hi with h | h;exact vE i h;rw [h];exact ve⟩ (by show 5 - (2 + 1) < 5 - 2;omega) ?_)
      exact weak_hd [] rfl ⟨rfl,rfl,rfl,rfl,trivial⟩ ⟨⟨_,rfl,_,_,rfl,ren_str rfl (hC M2 hx_M2 2),_,_,rfl,.inl rfl,rfl⟩,⟨_,rfl,_,_,rfl,rfl,_,_,rfl,rfl,_,_,rfl,rfl,_,_,rfl,rfl,_,_,rfl,rfl,_,_,rfl,rfl,_,_,rfl,rfl,_,_,rfl,rfl,_,_,rfl,rfl,_,_,rfl,rfl,_,_,rfl,.inl rfl,_,_,rfl,rfl,_,_,rfl,rfl,_,_,rfl,rfl,_,_,rfl,rfl,_,_,rfl,rfl,_,_,rfl,rfl,_,_,rfl,rfl,_,_,rfl,rfl,rfl⟩,trivial⟩ (Pre_cut (by kernel_rfl)) (by kernel_rfl)
    ·refine zG zE (NS.need (by kernel_rfl) ?_)
     refine zG zE (NS.call (hR M2 hx_M2 3) rfl ?_)
     refine zG zE (NS.no (rfl) ?_)
     refine zG zE (NS.ite (fun ve=>?_) (fun ve=>?_))
     ·have ve:rdE M2 3 ≠ 0:=by have ve:(rdE M2 3 != 0) = true:=ve;simpa using ve
      have vB:rdNs 5 M2 = none:=rdNs_bad (by decide) ve
      refine zG zE (NS.leave rfl zE ?_)
      have hpn:parR L = none:=by rw [hpr];exact parS_bad2 tN vB
      refine zG zE (NS.no (by show ((gt 0 2 (V L 0):Int) == 4) = false;exact hkq_4) ?_)
      refine zG zE ?_
      refine NS.loop (σ:=Unit) (fun _=>[(0,.ptr 21 0),(9,.ov 108 1 0 4),(10,.int .i64 4),(11,.int .i64 0)]) (fun _=>[]) (fun _=>0) () ?_ ?_
      ·exact weak_hd [] rfl ⟨rfl,rfl,rfl,rfl,trivial⟩ trivial (Pre_cut (by kernel_rfl)) (by kernel_rfl)
      rintro ⟨⟩
      refine zG zE (NS.yes (rfl) ?_)
      refine zG zE (NS.need (by kernel_rfl) ?_)
      refine zG zE (NS.call (hRI M2 hx_M2 _) rfl ?_)
      refine zG zE (NS.leave rfl zE ?_)
      refine zG zE (NS.call (hRT M2 hx_M2 _) rfl ?_)
      rw [hF,hpn]
      exact zG zE (NS.ret rfl rfl (LeA.refl _))
     ·have ve:rdE M2 3 = 0:=by have ve:(rdE M2 3 != 0) = false:=ve;simpa using ve
      refine zG zE (NS.need (hS M2 hx_M2 3) ?_)
      refine zG zE (NS.next ⟨3 + 1,by omega,fun i hi=>by rcases Nat.lt_succ_iff_lt_or_eq.1 hi with h | h;exact vE i h;rw [h];exact ve⟩ (by show 5 - (3 + 1) < 5 - 3;omega) ?_)
      exact weak_hd [] rfl ⟨rfl,rfl,rfl,rfl,trivial⟩ ⟨⟨_,rfl,_,_,rfl,ren_str rfl (hC M2 hx_M2 3),_,_,rfl,.inl rfl,rfl⟩,⟨_,rfl,_,_,rfl,rfl,_,_,rfl,rfl,_,_,rfl,rfl,_,_,rfl,rfl,_,_,rfl,rfl,_,_,rfl,rfl,_,_,rfl,rfl,_,_,rfl,rfl,_,_,rfl,rfl,_,_,rfl,rfl,_,_,rfl,.inl rfl,_,_,rfl,rfl,_,_,rfl,rfl,_,_,rfl,rfl,_,_,rfl,rfl,_,_,rfl,rfl,_,_,rfl,rfl,_,_,rfl,rfl,_,_,rfl,rfl,rfl⟩,trivial⟩ (Pre_cut (by kernel_rfl)) (by kernel_rfl)
    ·refine zG zE (NS.need (by kernel_rfl) ?_)
     refine zG zE (NS.call (hR M2 hx_M2 4) rfl ?_)
     refine zG zE (NS.no (rfl) ?_)
     refine zG zE (NS.ite (fun ve=>?_) (fun ve=>?_))
     ·have ve:rdE M2 4 ≠ 0:=by have ve:(rdE M2 4 != 0) = true:=ve;simpa using ve
      have vB:rdNs 5 M2 = none:=rdNs_bad (by decide) ve
      refine zG zE (NS.leave rfl zE ?_)
      have hpn:parR L = none:=by rw [hpr];exact parS_bad2 tN vB
      refine zG zE (NS.no (by show ((gt 0 2 (V L 0):Int) == 4) = false;exact hkq_4) ?_)
      refine zG zE ?_
      refine NS.loop (σ:=Unit) (fun _=>[(0,.ptr 21 0),(9,.ov 108 1 0 4),(10,.int .i64 4),(11,.int .i64 0)]) (fun _=>[]) (fun _=>0) () ?_ ?_
      ·exact weak_hd [] rfl ⟨rfl,rfl,rfl,rfl,trivial⟩ trivial (Pre_cut (by kernel_rfl)) (by kernel_rfl)
      rintro ⟨⟩
      refine zG zE (NS.yes (rfl) ?_)
      refine zG zE (NS.need (by kernel_rfl) ?_)
      refine zG zE (NS.call (hRI M2 hx_M2 _) rfl ?_)
      refine zG zE (NS.leave rfl zE ?_)
      refine zG zE (NS.call (hRT M2 hx_M2 _) rfl ?_)
      rw [hF,hpn]
      exact zG zE (NS.ret rfl rfl (LeA.refl _))
     ·have ve:rdE M2 4 = 0:=by have ve:(rdE M2 4 != 0) = false:=ve;simpa using ve
      refine zG zE (NS.need (hS M2 hx_M2 4) ?_)
      refine zG zE (NS.next ⟨4 + 1,by omega,fun i hi=>by rcases Nat.lt_succ_iff_lt_or_eq.1 hi with h | h;exact vE i h;rw [h];exact ve⟩ (by show 5 - (4 + 1) < 5 - 4;omega) ?_)
      exact weak_hd [] rfl ⟨rfl,rfl,rfl,rfl,trivial⟩ ⟨⟨_,rfl,_,_,rfl,ren_str rfl (hC M2 hx_M2 4),_,_,rfl,.inl rfl,rfl⟩,⟨_,rfl,_,_,rfl,rfl,_,_,rfl,rfl,_,_,rfl,rfl,_,_,rfl,rfl,_,_,rfl,rfl,_,_,rfl,rfl,_,_,rfl,rfl,_,_,rfl,rfl,_,_,rfl,rfl,_,_,rfl,rfl,_,_,rfl,.inl rfl,_,_,rfl,rfl,_,_,rfl,rfl,_,_,rfl,rfl,_,_,rfl,rfl,_,_,rfl,rfl,_,_,rfl,rfl,_,_,rfl,rfl,_,_,rfl,rfl,rfl⟩,trivial⟩ (Pre_cut (by kernel_rfl)) (by kernel_rfl)
   have va:v = 5:=by have va:decide ((v:Int) < 5) = false:=va;have:=of_decide_eq_false va;omega
   subst va
   refine zG zE (NS.leave rfl zE ?_)
   have vN:rdNs 5 M2 = some ((List.range 5).map (V M2),M2.drop (rdP M2 5)):=hAll _ _ vE
   obtain ⟨M3,hM3⟩:∃ M,M2.drop (rdP M2 5) = M:=⟨_,rfl⟩
   rw [hM3] at vN
   have hx_M3:(∀ x ∈ M3,x < 256) /\ M3.length <= 65536:=by rw [<- hM3];exact ⟨fun x hx=>hx_M2.1 x (List.mem_of_mem_drop hx),by rw [List.length_drop];have:=hx_M2.2;omega⟩
   have hy_M3:bs (M2.drop (rdP M2 5)) = bs M3:=congrArg bs hM3
   refine zG zE (NS.no (by show ((gt 0 2 (V L 0):Int) == 4) = false;exact hkq_4) ?_)
   refine zG zE ?_
   refine NS.loop (σ:={ k:Nat // k <= 4 /\ ∀ i,i < k -> rdE M3 i = 0 }) (fun k=>[(0,.ptr 21 0),(9,.ov 108 1 0 4),(10,.int .i64 4),(11,.int .i64 k.1)]) (fun k=>[(21,.box [.str (bs (M3.drop (rdP M3 k.1))),.bool false]),(46,.box [.int .i64 (V L 0),.int .i64 (V M1 0),.int .i64 (V M2 0),.int .i64 (V M2 1),.int .i64 (V M2 2),.int .i64 (V M2 3),.int .i64 (V M2 4),.int .i64 (gt 0 k.1 (V M3 0)),.int .i64 (gt 1 k.1 (V M3 1)),.int .i64 (gt 2 k.1 (V M3 2)),.bool false,.str .empty,.int .i64 0,.int .i64 0,.int .i64 0,.int .i64 0,.int .i64 0,.int .i64 0,.int .i64 (V L 1)]),(49,.box [.int .i64 (gt 3 k.1 (V M3 3))])]) (fun k=>4 - k.1) ⟨0,by omega,fun i hi=>absurd hi (Nat.not_lt_zero _)⟩ ?_ ?_
   ·exact weak_hd [] rfl ⟨rfl,rfl,rfl,rfl,trivial⟩ ⟨⟨_,rfl,_,_,rfl,ren_str rfl hy_M3,_,_,rfl,.inl rfl,rfl⟩,⟨_,rfl,_,_,rfl,rfl,_,_,rfl,rfl,_,_,rfl,rfl,_,_,rfl,rfl,_,_,rfl,rfl,_,_,rfl,rfl,_,_,rfl,rfl,_,_,rfl,rfl,_,_,rfl,rfl,_,_,rfl,rfl,_,_,rfl,.inl rfl,_,_,rfl,rfl,_,_,rfl,rfl,_,_,rfl,rfl,_,_,rfl,rfl,_,_,rfl,rfl,_,_,rfl,rfl,_,_,rfl,rfl,_,_,rfl,rfl,rfl⟩,⟨_,rfl,_,_,rfl,rfl,rfl⟩,trivial⟩ (Pre_cut (by kernel_rfl)) (by kernel_rfl)
   rintro ⟨w,wl,wE⟩
   have wE:∀ i,i < w -> rdE M3 i = 0:=wE
   have wl:w <= 4:=wl
   refine zG zE (NS.ite (fun wa=>?_) (fun wa=>?_))
   ·have wa:w < 4:=by have wa:decide ((w:Int) < 4) = true:=wa;have:=of_decide_eq_true wa;omega
    rcases (by omega:w = 0 \/ w = 1 \/ w = 2 \/ w = 3) with rfl | rfl | rfl | rfl
    ·refine zG zE (NS.need (by kernel_rfl) ?_)
     refine zG zE (NS.call (hR M3 hx_M3 0) rfl ?_)
     refine zG zE (NS.no (rfl) ?_)
     refine zG zE (NS.ite (fun we=>?_) (fun we=>?_))
     ·have we:rdE M3 0 ≠ 0:=by have we:(rdE M3 0 != 0) = true:=we;simpa using we
      have wB:rdNs 4 M3 = none:=rdNs_bad (by decide) we
      refine zG zE (NS.leave rfl zE ?_)
      have hpn:parR L = none:=by rw [hpr];exact parS_bad3 tN vN wB
      refine zG zE (NS.call (hRT M3 hx_M3 _) rfl ?_)
      rw [hF,hpn]
      exact zG zE (NS.ret rfl rfl (LeA.refl _))
     ·have we:rdE M3 0 = 0:=by have we:(rdE M3 0 != 0) = false:=we;simpa using we
      refine zG zE (NS.need (hS M3 hx_M3 0) ?_)
      refine zG zE (NS.next ⟨0 + 1,by omega,fun i hi=>by rcases Nat.lt_succ_iff_lt_or_eq.1 hi with h | h;exact wE i h;rw [h];exact we⟩ (by show 4 - (0 + 1) < 4 - 0;omega) ?_)
      exact weak_hd [] rfl ⟨rfl,rfl,rfl,rfl,trivial⟩ ⟨⟨_,rfl,_,_,rfl,ren_str rfl (hC M3 hx_M3 0),_,_,rfl,.inl rfl,rfl⟩,⟨_,rfl,_,_,rfl,rfl,_,_,rfl,rfl,_,_,rfl,rfl,_,_,rfl,rfl,_,_,rfl,rfl,_,_,rfl,rfl,_,_,rfl,rfl,_,_,rfl,rfl,_,_,rfl,rfl,_,_,rfl,rfl,_,_,rfl,.inl rfl,_,_,rfl,rfl,_,_,rfl,rfl,_,_,rfl,rfl,_,_,rfl,rfl,_,_,rfl,rfl,_,_,rfl,rfl,_,_,rfl,rfl,_,_,rfl,rfl,rfl⟩,⟨_,rfl,_,_,rfl,rfl,rfl⟩,trivial⟩ (Pre_cut (by kernel_rfl)) (by kernel_rfl)
    ·refine zG zE (NS.need (by kernel_rfl) ?_)
     refine zG zE (NS.call (hR M3 hx_M3 1) rfl ?_)
     refine zG zE (NS.no (rfl) ?_)
     refine zG zE (NS.ite (fun we=>?_) (fun we=>?_))
     ·have we:rdE M3 1 ≠ 0:=by have we:(rdE M3 1 != 0) = true:=we;simpa using we
      have wB:rdNs 4 M3 = none:=rdNs_bad (by decide) we
      refine zG zE (NS.leave rfl zE ?_)
      have hpn:parR L = none:=by rw [hpr];exact parS_bad3 tN vN wB
      refine zG zE (NS.call (hRT M3 hx_M3 _) rfl ?_)
      rw [hF,hpn]
      exact zG zE (NS.ret rfl rfl (LeA.refl _))
     ·have we:rdE M3 1 = 0:=by have we:(rdE M3 1 != 0) = false:=we;simpa using we
      refine zG zE (NS.need (hS M3 hx_M3 1) ?_)
      refine zG zE (NS.next ⟨1 + 1,by omega,fun i hi=>by rcases Nat.lt_succ_iff_lt_or_eq.1 hi with h | h;exact wE i h;rw [h];exact we⟩ (by show 4 - (1 + 1) < 4 - 1;omega) ?_)
      exact weak_hd [] rfl ⟨rfl,rfl,rfl,rfl,trivial⟩ ⟨⟨_,rfl,_,_,rfl,ren_str rfl (hC M3 hx_M3 1),_,_,rfl,.inl rfl,rfl⟩,⟨_,rfl,_,_,rfl,rfl,_,_,rfl,rfl,_,_,rfl,rfl,_,_,rfl,rfl,_,_,rfl,rfl,_,_,rfl,rfl,_,_,rfl,rfl,_,_,rfl,rfl,_,_,rfl,rfl,_,_,rfl,rfl,_,_,rfl,.inl rfl,_,_,rfl,rfl,_,_,rfl,rfl,_,_,rfl,rfl,_,_,rfl,rfl,_,_,rfl,rfl,_,_,rfl,rfl,_,_,rfl,rfl,_,_,rfl,rfl,rfl⟩,⟨_,rfl,_,_,rfl,rfl,rfl⟩,trivial⟩ (Pre_cut (by kernel_rfl)) (by kernel_rfl)
    ·refine zG zE (NS.need (by kernel_rfl) ?_)
     refine zG zE (NS.call (hR M3 hx_M3 2) rfl ?_)
     refine zG zE (NS.no (rfl) ?_)
     refine zG zE (NS.ite (fun we=>?_) (fun we=>?_))
     ·have we:rdE M3 2 ≠ 0:=by have we:(rdE M3 2 != 0) = true:=we;simpa using we
      have wB:rdNs 4 M3 = none:=rdNs_bad (by decide) we
      refine zG zE (NS.leave rfl zE ?_)
      have hpn:parR L = none:=by rw [hpr];exact parS_bad3 tN vN wB
      refine zG zE (NS.call (hRT M3 hx_M3 _) rfl ?_)
      rw [hF,hpn]
      exact zG zE (NS.ret rfl rfl (LeA.refl _))
     ·have we:rdE M3 2 = 0:=by have we:(rdE M3 2 != 0) = false:=we;simpa using we
      refine zG zE (NS.need (hS M3 hx_M3 2) ?_)
      refine zG zE (NS.next ⟨2 + 1,by omega,fun i hi=>by rcases Nat.lt_succ_iff_lt_or_eq.1 hi with h | h;exact wE i h;rw [h];exact we⟩ (by show 4 - (2 + 1) < 4 - 2;omega) ?_)
      exact weak_hd [] rfl ⟨rfl,rfl,rfl,rfl,trivial⟩ ⟨⟨_,rfl,_,_,rfl,ren_str rfl (hC M3 hx_M3 2),_,_,rfl,.inl rfl,rfl⟩,⟨_,rfl,_,_,rfl,rfl,_,_,rfl,rfl,_,_,rfl,rfl,_,_,rfl,rfl,_,_,rfl,rfl,_,_,rfl,rfl,_,_,rfl,rfl,_,_,rfl,rfl,_,_,rfl,rfl,_,_,rfl,rfl,_,_,rfl,.inl rfl,_,_,rfl,rfl,_,_,rfl,rfl,_,_,rfl,rfl,_,_,rfl,rfl,_,_,rfl,rfl,_,_,rfl,rfl,_,_,rfl,rfl,_,_,rfl,rfl,rfl⟩,⟨_,rfl,_,_,rfl,rfl,rfl⟩,trivial⟩ (Pre_cut (by kernel_rfl)) (by kernel_rfl)
    ·refine zG zE (NS.need (by kernel_rfl) ?_)
     refine zG zE (NS.call (hR M3 hx_M3 3) rfl ?_)
     refine zG zE (NS.no (rfl) ?_)
     refine zG zE (NS.ite (fun we=>?_) (fun we=>?_))
     ·have we:rdE M3 3 ≠ 0:=by have we:(rdE M3 3 != 0) = true:=we;simpa using we
      have wB:rdNs 4 M3 = none:=rdNs_bad (by decide) we
      refine zG zE (NS.leave rfl zE ?_)
      have hpn:parR L = none:=by rw [hpr];exact parS_bad3 tN vN wB
      refine zG zE (NS.call (hRT M3 hx_M3 _) rfl ?_)
      rw [hF,hpn]
      exact zG zE (NS.ret rfl rfl (LeA.refl _))
     ·have we:rdE M3 3 = 0:=by have we:(rdE M3 3 != 0) = false:=we;simpa using we
      refine zG zE (NS.need (hS M3 hx_M3 3) ?_)
      refine zG zE (NS.next ⟨3 + 1,by omega,fun i hi=>by rcases Nat.lt_succ_iff_lt_or_eq.1 hi with h | h;exact wE i h;rw [h];exact we⟩ (by show 4 - (3 + 1) < 4 - 3;omega) ?_)
      exact weak_hd [] rfl ⟨rfl,rfl,rfl,rfl,trivial⟩ ⟨⟨_,rfl,_,_,rfl,ren_str rfl (hC M3 hx_M3 3),_,_,rfl,.inl rfl,rfl⟩,⟨_,rfl,_,_,rfl,rfl,_,_,rfl,rfl,_,_,rfl,rfl,_,_,rfl,rfl,_,_,rfl,rfl,_,_,rfl,rfl,_,_,rfl,rfl,_,_,rfl,rfl,_,_,rfl,rfl,_,_,rfl,rfl,_,_,rfl,.inl rfl,_,_,rfl,rfl,_,_,rfl,rfl,_,_,rfl,rfl,_,_,rfl,rfl,_,_,rfl,rfl,_,_,rfl,rfl,_,_,rfl,rfl,_,_,rfl,rfl,rfl⟩,⟨_,rfl,_,_,rfl,rfl,rfl⟩,trivial⟩ (Pre_cut (by kernel_rfl)) (by kernel_rfl)
   have wa:w = 4:=by have wa:decide ((w:Int) < 4) = false:=wa;have:=of_decide_eq_false wa;omega
   subst wa
   refine zG zE (NS.leave rfl zE ?_)
   have wN:rdNs 4 M3 = some ((List.range 4).map (V M3),M3.drop (rdP M3 4)):=hAll _ _ wE
   obtain ⟨M4,hM4⟩:∃ M,M3.drop (rdP M3 4) = M:=⟨_,rfl⟩
   rw [hM4] at wN
   have hx_M4:(∀ x ∈ M4,x < 256) /\ M4.length <= 65536:=by rw [<- hM4];exact ⟨fun x hx=>hx_M3.1 x (List.mem_of_mem_drop hx),by rw [List.length_drop];have:=hx_M3.2;omega⟩
   have hy_M4:bs (M3.drop (rdP M3 4)) = bs M4:=congrArg bs hM4
   have hpo:=hpr.trans (parS_ok' tN vN wN)
   have hRT4:FnOK Tryz.prog 189 [.str (bs M4)] (.tup [.str (bs (rdT M4).1),.int .i64 ((rdT M4).2.1:Nat),.int .i64 (rdT M4).2.2],none):=hRT M4 hx_M4 0
   refine zG zE (NS.call (hRT4.le (LeL.cons (LeA.of (congrArg A.str hy_M4)) LeL.nil)) rfl ?_)
   refine zG zE (NS.no (rfl) ?_)
   refine zG zE (NS.ite (fun te=>?_) (fun te=>?_))
   ·have te:((rdT M4).2.2 != 0) = true:=te
    rw [hF,hpo,if_pos (by rw [te];rfl)]
    exact zG zE (NS.ret rfl rfl (LeA.refl _))
   have te:((rdT M4).2.2 != 0) = false:=te
   refine zG zE (NS.ite (fun c0=>?_) (fun c0=>?_))
   ·have c0:V M3 3 < 0:=of_decide_eq_true c0
    rw [hF,hpo,if_pos (by rw [cu_bad (by omega)];simp)]
    exact zG zE (NS.ret rfl rfl (LeA.refl _))
   have c0:¬ V M3 3 < 0:=of_decide_eq_false c0
   refine zG zE (NS.ite (fun c1=>?_) (fun c1=>?_))
   ·have c1:V M3 3 > 1:=of_decide_eq_true c1
    rw [hF,hpo,if_pos (by rw [cu_bad (by omega)];simp)]
    exact zG zE (NS.ret rfl rfl (LeA.refl _))
   have c1:¬ V M3 3 > 1:=of_decide_eq_false c1
   have cg:(!(V M3 3 == 0 || V M3 3 == 1)) = false:=cu_good (by omega)
   have hri:=rdT_in hx_M4.1
   refine zG zE (NS.need (by show decide ((0:Int) <= ((rdT M4).2.1:Nat) /\ (((rdT M4).2.1:Nat):Int) <= ((bs (M3.drop (rdP M3 4))).size:Int) /\ ((bs (M3.drop (rdP M3 4))).size:Int) <= ((bs (M3.drop (rdP M3 4))).size:Int)) = true;rw [hy_M4,bs_len];exact decide_eq_true (by omega)) ?_)
   have hyz:(bs (M3.drop (rdP M3 4))).extract (((rdT M4).2.1:Nat):Int).toNat ((bs (M3.drop (rdP M3 4))).size:Int).toNat = bs (M4.drop (rdT M4).2.1):=by rw [hy_M4];exact cut_bs hx_M4.1 _
   obtain ⟨rec,hrec⟩:∃ rec:Jrec,⟨V L 0,⟨V M1 0,⟨V M2 0,V M2 1,V M2 2,V M2 3,V M2 4⟩,V M3 0,V M3 1,V M3 2,V M3 3 == 1,bs (rdT M4).1⟩,.zero,0,V L 1⟩ = rec:=⟨_,rfl⟩
   have hcl:[A.int .i64 (V L 0),A.int .i64 (V M1 0),A.int .i64 (V M2 0),A.int .i64 (V M2 1),A.int .i64 (V M2 2),A.int .i64 (V M2 3),A.int .i64 (V M2 4),A.int .i64 (V M3 0),A.int .i64 (V M3 1),A.int .i64 (V M3 2),A.bool (V M3 3 == 1),A.str (bs (rdT M4).1),A.int .i64 0,A.int .i64 0,A.int .i64 0,A.int .i64 0,A.int .i64 0,A.int .i64 0,A.int .i64 (V L 1)] = rec.cells:=by rw [<- hrec];rfl
   have hok:parR L = if (M4.drop (rdT M4).2.1).isEmpty then okR rec else none:=by rw [hpo,<- hrec,te,cg];exact if_text hri
   refine zG zE (NS.no (rfl) ?_)
   by_cases hz:M4.drop (rdT M4).2.1 = []
   ·refine zG zE (NS.no (by show (!(((bs (M3.drop (rdP M3 4))).extract (((rdT M4).2.1:Nat):Int).toNat ((bs (M3.drop (rdP M3 4))).size:Int).toNat).toList == (⟨#[]⟩:ByteArray).toList)) = false;rw [hyz];exact emp_f hz) ?_)
    refine zG zE (NS.call ((jCheck_ok rec).le (LeL.cons (LeA.of (congrArg A.agg hcl)) LeL.nil)) rfl ?_)
    by_cases hrc:recErr rec = 0
    ·refine zG zE (NS.no (by show (recErr rec != 0) = false;rw [hrc];rfl) ?_)
     rw [hF,hok,if_pos (by rw [hz];rfl),okR_some hrc]
     exact zG zE (NS.ret rfl rfl (LeA.tup3 (LeA.of (congrArg A.agg hcl)) (LeA.refl _) (LeA.kb true)))
    ·refine zG zE (NS.yes (by show (recErr rec != 0) = true;simpa using hrc) ?_)
     rw [hF,hok,if_pos (by rw [hz];rfl),okR_none hrc]
     exact zG zE (NS.ret rfl rfl (LeA.refl _))
   ·refine zG zE (NS.yes (by show (!(((bs (M3.drop (rdP M3 4))).extract (((rdT M4).2.1:Nat):Int).toNat ((bs (M3.drop (rdP M3 4))).size:Int).toNat).toList == (⟨#[]⟩:ByteArray).toList)) = true;rw [hyz];exact emp_t hz) ?_)
    rw [hF,hok,if_neg (by intro h;exact hz (List.isEmpty_iff.1 h))]
    exact zG zE (NS.ret rfl rfl (LeA.refl _))
  ·refine zG zE (NS.no (by show ((gt 0 2 (V L 0):Int) == 1) = false;exact hkq_1) ?_)
   refine zG zE (NS.yes (by show ((gt 0 2 (V L 0):Int) == 3) = true;exact hkq_3) ?_)
   have hpr:parR L = parS (V L 0) (V L 1) M1:=parR_S' kN (by show stoK (V L 0) = true;rw [hkz];rfl)
   refine zG zE ?_
   refine NS.loop (σ:={ k:Nat // k <= 1 /\ ∀ i,i < k -> rdE M1 i = 0 }) (fun k=>[(0,.ptr 21 0),(9,.ov 73 1 0 1),(10,.int .i64 1),(11,.int .i64 k.1)]) (fun k=>[(21,.box [.str (bs (M1.drop (rdP M1 k.1))),.bool false]),(46,.box [.int .i64 (V L 0),.int .i64 (gt 0 k.1 (V M1 0)),.int .i64 0,.int .i64 0,.int .i64 0,.int .i64 0,.int .i64 0,.int .i64 0,.int .i64 0,.int .i64 0,.bool false,.str .empty,.int .i64 0,.int .i64 0,.int .i64 0,.int .i64 0,.int .i64 0,.int .i64 0,.int .i64 (V L 1)])]) (fun k=>1 - k.1) ⟨0,by omega,fun i hi=>absurd hi (Nat.not_lt_zero _)⟩ ?_ ?_
   ·exact weak_hd [] rfl ⟨rfl,rfl,rfl,rfl,trivial⟩ ⟨⟨_,rfl,_,_,rfl,ren_str rfl hy_M1,_,_,rfl,.inl rfl,rfl⟩,⟨_,rfl,_,_,rfl,rfl,_,_,rfl,rfl,_,_,rfl,rfl,_,_,rfl,rfl,_,_,rfl,rfl,_,_,rfl,rfl,_,_,rfl,rfl,_,_,rfl,rfl,_,_,rfl,rfl,_,_,rfl,rfl,_,_,rfl,.inl rfl,_,_,rfl,rfl,_,_,rfl,rfl,_,_,rfl,rfl,_,_,rfl,rfl,_,_,rfl,rfl,_,_,rfl,rfl,_,_,rfl,rfl,_,_,rfl,rfl,rfl⟩,trivial⟩ (Pre_cut (by kernel_rfl)) (by kernel_rfl)
   rintro ⟨t,tl,tE⟩
   have tE:∀ i,i < t -> rdE M1 i = 0:=tE
   have tl:t <= 1:=tl
   refine zG zE (NS.ite (fun ta=>?_) (fun ta=>?_))
   ·have ta:t < 1:=by have ta:decide ((t:Int) < 1) = true:=ta;have:=of_decide_eq_true ta;omega
    obtain rfl:t = 0:=by omega
    refine zG zE (NS.need (by kernel_rfl) ?_)
    refine zG zE (NS.call (hR M1 hx_M1 0) rfl ?_)
    refine zG zE (NS.no (rfl) ?_)
    refine zG zE (NS.ite (fun te=>?_) (fun te=>?_))
    ·have te:rdE M1 0 ≠ 0:=by have te:(rdE M1 0 != 0) = true:=te;simpa using te
     have tB:rdNs 1 M1 = none:=rdNs_bad (by decide) te
     refine zG zE (NS.leave rfl zE ?_)
     have hpn:parR L = none:=by rw [hpr];exact parS_bad1 tB
     refine zG zE (NS.chk (by kernel_rfl) ?_)
     refine zG zE ?_
     refine NS.loop (σ:=Unit) (fun _=>[(0,.ptr 21 0),(9,.ov 91 1 0 5),(10,.int .i64 5),(11,.int .i64 0)]) (fun _=>[]) (fun _=>0) () ?_ ?_
     ·exact weak_hd [] rfl ⟨rfl,rfl,rfl,rfl,trivial⟩ trivial (Pre_cut (by kernel_rfl)) (by kernel_rfl)
     rintro ⟨⟩
     refine zG zE (NS.yes (rfl) ?_)
     refine zG zE (NS.need (by kernel_rfl) ?_)
     refine zG zE (NS.call (hRI M1 hx_M1 _) rfl ?_)
     refine zG zE (NS.leave rfl zE ?_)
     refine zG zE (NS.no (by show ((gt 0 2 (V L 0):Int) == 4) = false;exact hkq_4) ?_)
     refine zG zE (NS.yes (by show ((gt 0 2 (V L 0):Int) == 3) = true;exact hkq_3) ?_)
     refine zG zE ?_
     refine NS.loop (σ:=Unit) (fun _=>[(0,.ptr 21 0),(9,.ov 108 1 0 4),(10,.int .i64 4),(11,.int .i64 0)]) (fun _=>[]) (fun _=>0) () ?_ ?_
     ·exact weak_hd [] rfl ⟨rfl,rfl,rfl,rfl,trivial⟩ trivial (Pre_cut (by kernel_rfl)) (by kernel_rfl)
     rintro ⟨⟩
     refine zG zE (NS.yes (rfl) ?_)
     refine zG zE (NS.need (by kernel_rfl) ?_)
     refine zG zE (NS.call (hRI M1 hx_M1 _) rfl ?_)
     refine zG zE (NS.leave rfl zE ?_)
     refine zG zE (NS.call (hRT M1 hx_M1 _) rfl ?_)
     rw [hF,hpn]
     exact zG zE (NS.ret rfl rfl (LeA.refl _))
    ·have te:rdE M1 0 = 0:=by have te:(rdE M1 0 != 0) = false:=te;simpa using te
     refine zG zE (NS.need (hS M1 hx_M1 0) ?_)
     refine zG zE (NS.next ⟨0 + 1,by omega,fun i hi=>by rcases Nat.lt_succ_iff_lt_or_eq.1 hi with h | h;exact tE i h;rw [h];exact te⟩ (by show 1 - (0 + 1) < 1 - 0;omega) ?_)
     exact weak_hd [] rfl ⟨rfl,rfl,rfl,rfl,trivial⟩ ⟨⟨_,rfl,_,_,rfl,ren_str rfl (hC M1 hx_M1 0),_,_,rfl,.inl rfl,rfl⟩,⟨_,rfl,_,_,rfl,rfl,_,_,rfl,rfl,_,_,rfl,rfl,_,_,rfl,rfl,_,_,rfl,rfl,_,_,rfl,rfl,_,_,rfl,rfl,_,_,rfl,rfl,_,_,rfl,rfl,_,_,rfl,rfl,_,_,rfl,.inl rfl,_,_,rfl,rfl,_,_,rfl,rfl,_,_,rfl,rfl,_,_,rfl,rfl,_,_,rfl,rfl,_,_,rfl,rfl,_,_,rfl,rfl,_,_,rfl,rfl,rfl⟩,trivial⟩ (Pre_cut (by kernel_rfl)) (by kernel_rfl)
   have ta:t = 1:=by have ta:decide ((t:Int) < 1) = false:=ta;have:=of_decide_eq_false ta;omega
   subst ta
   refine zG zE (NS.leave rfl zE ?_)
   have tN:rdNs 1 M1 = some ((List.range 1).map (V M1),M1.drop (rdP M1 1)):=hAll _ _ tE
   obtain ⟨M2,hM2⟩:∃ M,M1.drop (rdP M1 1) = M:=⟨_,rfl⟩
   rw [hM2] at tN
   have hx_M2:(∀ x ∈ M2,x < 256) /\ M2.length <= 65536:=by rw [<- hM2];exact ⟨fun x hx=>hx_M1.1 x (List.mem_of_mem_drop hx),by rw [List.length_drop];have:=hx_M1.2;omega⟩
   have hy_M2:bs (M1.drop (rdP M1 1)) = bs M2:=congrArg bs hM2
   refine zG zE (NS.chk (by kernel_rfl) ?_)
   refine zG zE ?_
   refine NS.loop (σ:={ k:Nat // k <= 5 /\ ∀ i,i < k -> rdE M2 i = 0 }) (fun k=>[(0,.ptr 21 0),(9,.ov 91 1 0 5),(10,.int .i64 5),(11,.int .i64 k.1)]) (fun k=>[(21,.box [.str (bs (M2.drop (rdP M2 k.1))),.bool false]),(46,.box [.int .i64 (V L 0),.int .i64 (V M1 0),.int .i64 (gt 0 k.1 (V M2 0)),.int .i64 (gt 1 k.1 (V M2 1)),.int .i64 (gt 2 k.1 (V M2 2)),.int .i64 (gt 3 k.1 (V M2 3)),.int .i64 (gt 4 k.1 (V M2 4)),.int .i64 0,.int .i64 0,.int .i64 0,.bool false,.str .empty,.int .i64 0,.int .i64 0,.int .i64 0,.int .i64 0,.int .i64 0,.int .i64 0,.int .i64 (V L 1)])]) (fun k=>5 - k.1) ⟨0,by omega,fun i hi=>absurd hi (Nat.not_lt_zero _)⟩ ?_ ?_
   ·exact weak_hd [] rfl ⟨rfl,rfl,rfl,rfl,trivial⟩ ⟨⟨_,rfl,_,_,rfl,ren_str rfl hy_M2,_,_,rfl,.inl rfl,rfl⟩,⟨_,rfl,_,_,rfl,rfl,_,_,rfl,rfl,_,_,rfl,rfl,_,_,rfl,rfl,_,_,rfl,rfl,_,_,rfl,rfl,_,_,rfl,rfl,_,_,rfl,rfl,_,_,rfl,rfl,_,_,rfl,rfl,_,_,rfl,.inl rfl,_,_,rfl,rfl,_,_,rfl,rfl,_,_,rfl,rfl,_,_,rfl,rfl,_,_,rfl,rfl,_,_,rfl,rfl,_,_,rfl,rfl,_,_,rfl,rfl,rfl⟩,trivial⟩ (Pre_cut (by kernel_rfl)) (by kernel_rfl)
   rintro ⟨v,vl,vE⟩
   have vE:∀ i,i < v -> rdE M2 i = 0:=vE
   have vl:v <= 5:=vl
   refine zG zE (NS.ite (fun va=>?_) (fun va=>?_))
   ·have va:v < 5:=by have va:decide ((v:Int) < 5) = true:=va;have:=of_decide_eq_true va;omega
    rcases (by omega:v = 0 \/ v = 1 \/ v = 2 \/ v = 3 \/ v = 4) with rfl | rfl | rfl | rfl | rfl
    ·refine zG zE (NS.need (by kernel_rfl) ?_)
     refine zG zE (NS.call (hR M2 hx_M2 0) rfl ?_)
     refine zG zE (NS.no (rfl) ?_)
     refine zG zE (NS.ite (fun ve=>?_) (fun ve=>?_))
     ·have ve:rdE M2 0 ≠ 0:=by have ve:(rdE M2 0 != 0) = true:=ve;simpa using ve
      have vB:rdNs 5 M2 = none:=rdNs_bad (by decide) ve
      refine zG zE (NS.leave rfl zE ?_)
      have hpn:parR L = none:=by rw [hpr];exact parS_bad2 tN vB
      refine zG zE (NS.no (by show ((gt 0 2 (V L 0):Int) == 4) = false;exact hkq_4) ?_)
      refine zG zE (NS.yes (by show ((gt 0 2 (V L 0):Int) == 3) = true;exact hkq_3) ?_)
      refine zG zE ?_
      refine NS.loop (σ:=Unit) (fun _=>[(0,.ptr 21 0),(9,.ov 108 1 0 4),(10,.int .i64 4),(11,.int .i64 0)]) (fun _=>[]) (fun _=>0) () ?_ ?_
      ·exact weak_hd [] rfl ⟨rfl,rfl,rfl,rfl,trivial⟩ trivial (Pre_cut (by kernel_rfl)) (by kernel_rfl)
      rintro ⟨⟩
      refine zG zE (NS.yes (rfl) ?_)
      refine zG zE (NS.need (by kernel_rfl) ?_)
      refine zG zE (NS.call (hRI M2 hx_M2 _) rfl ?_)
      refine zG zE (NS.leave rfl zE ?_)
      refine zG zE (NS.call (hRT M2 hx_M2 _) rfl ?_)
      rw [hF,hpn]
      exact zG zE (NS.ret rfl rfl (LeA.refl _))
     ·have ve:rdE M2 0 = 0:=by have ve:(rdE M2 0 != 0) = false:=ve;simpa using ve
      refine zG zE (NS.need (hS M2 hx_M2 0) ?_)
      refine zG zE (NS.next ⟨0 + 1,by omega,fun i hi=>by rcases Nat.lt_succ_iff_lt_or_eq.1 hi with h | h;exact vE i h;rw [h];exact ve⟩ (by show 5 - (0 + 1) < 5 - 0;omega) ?_)
      exact weak_hd [] rfl ⟨rfl,rfl,rfl,rfl,trivial⟩ ⟨⟨_,rfl,_,_,rfl,ren_str rfl (hC M2 hx_M2 0),_,_,rfl,.inl rfl,rfl⟩,⟨_,rfl,_,_,rfl,rfl,_,_,rfl,rfl,_,_,rfl,rfl,_,_,rfl,rfl,_,_,rfl,rfl,_,_,rfl,rfl,_,_,rfl,rfl,_,_,rfl,rfl,_,_,rfl,rfl,_,_,rfl,rfl,_,_,rfl,.inl rfl,_,_,rfl,rfl,_,_,rfl,rfl,_,_,rfl,rfl,_,_,rfl,rfl,_,_,rfl,rfl,_,_,rfl,rfl,_,_,rfl,rfl,_,_,rfl,rfl,rfl⟩,trivial⟩ (Pre_cut (by kernel_rfl)) (by kernel_rfl)
    ·refine zG zE (NS.need (by kernel_rfl) ?_)
     refine zG zE (NS.call (hR M2 hx_M2 1) rfl ?_)
     refine zG zE (NS.no (rfl) ?_)
     refine zG zE (NS.ite (fun ve=>?_) (fun ve=>?_))
     ·have ve:rdE M2 1 ≠ 0:=by have ve:(rdE M2 1 != 0) = true:=ve;simpa using ve
      have vB:rdNs 5 M2 = none:=rdNs_bad (by decide) ve
      refine zG zE (NS.leave rfl zE ?_)
      have hpn:parR L = none:=by rw [hpr];exact parS_bad2 tN vB
      refine zG zE (NS.no (by show ((gt 0 2 (V L 0):Int) == 4) = false;exact hkq_4) ?_)
      refine zG zE (NS.yes (by show ((gt 0 2 (V L 0):Int) == 3) = true;exact hkq_3) ?_)
      refine zG zE ?_
      refine NS.loop (σ:=Unit) (fun _=>[(0,.ptr 21 0),(9,.ov 108 1 0 4),(10,.int .i64 4),(11,.int .i64 0)]) (fun _=>[]) (fun _=>0) () ?_ ?_
      ·exact weak_hd [] rfl ⟨rfl,rfl,rfl,rfl,trivial⟩ trivial (Pre_cut (by kernel_rfl)) (by kernel_rfl)
      rintro ⟨⟩
      refine zG zE (NS.yes (rfl) ?_)
      refine zG zE (NS.need (by kernel_rfl) ?_)
      refine zG zE (NS.call (hRI M2 hx_M2 _) rfl ?_)
      refine zG zE (NS.leave rfl zE ?_)
      refine zG zE (NS.call (hRT M2 hx_M2 _) rfl ?_)
      rw [hF,hpn]
      exact zG zE (NS.ret rfl rfl (LeA.refl _))
     ·have ve:rdE M2 1 = 0:=by have ve:(rdE M2 1 != 0) = false:=ve;simpa using ve
      refine zG zE (NS.need (hS M2 hx_M2 1) ?_)
      refine zG zE (NS.next ⟨1 + 1,by omega,fun i hi=>by rcases Nat.lt_succ_iff_lt_or_eq.1 hi with h | h;exact vE i h;rw [h];exact ve⟩ (by show 5 - (1 + 1) < 5 - 1;omega) ?_)
      exact weak_hd [] rfl ⟨rfl,rfl,rfl,rfl,trivial⟩ ⟨⟨_,rfl,_,_,rfl,ren_str rfl (hC M2 hx_M2 1),_,_,rfl,.inl rfl,rfl⟩,⟨_,rfl,_,_,rfl,rfl,_,_,rfl,rfl,_,_,rfl,rfl,_,_,rfl,rfl,_,_,rfl,rfl,_,_,rfl,rfl,_,_,rfl,rfl,_,_,rfl,rfl,_,_,rfl,rfl,_,_,rfl,rfl,_,_,rfl,.inl rfl,_,_,rfl,rfl,_,_,rfl,rfl,_,_,rfl,rfl,_,_,rfl,rfl,_,_,rfl,rfl,_,_,rfl,rfl,_,_,rfl,rfl,_,_,rfl,rfl,rfl⟩,trivial⟩ (Pre_cut (by kernel_rfl)) (by kernel_rfl)
    ·refine zG zE (NS.need (by kernel_rfl) ?_)
     refine zG zE (NS.call (hR M2 hx_M2 2) rfl ?_)
     refine zG zE (NS.no (rfl) ?_)
     refine zG zE (NS.ite (fun ve=>?_) (fun ve=>?_))
     ·have ve:rdE M2 2 ≠ 0:=by have ve:(rdE M2 2 != 0) = true:=ve;simpa using ve
      have vB:rdNs 5 M2 = none:=rdNs_bad (by decide) ve
      refine zG zE (NS.leave rfl zE ?_)
      have hpn:parR L = none:=by rw [hpr];exact parS_bad2 tN vB
      refine zG zE (NS.no (by show ((gt 0 2 (V L 0):Int) == 4) = false;exact hkq_4) ?_)
      refine zG zE (NS.yes (by show ((gt 0 2 (V L 0):Int) == 3) = true;exact hkq_3) ?_)
      refine zG zE ?_
      refine NS.loop (σ:=Unit) (fun _=>[(0,.ptr 21 0),(9,.ov 108 1 0 4),(10,.int .i64 4),(11,.int .i64 0)]) (fun _=>[]) (fun _=>0) () ?_ ?_
      ·exact weak_hd [] rfl ⟨rfl,rfl,rfl,rfl,trivial⟩ trivial (Pre_cut (by kernel_rfl)) (by kernel_rfl)
      rintro ⟨⟩
      refine zG zE (NS.yes (rfl) ?_)
      refine zG zE (NS.need (by kernel_rfl) ?_)
      refine zG zE (NS.call (hRI M2 hx_M2 _) rfl ?_)
      refine zG zE (NS.leave rfl zE ?_)
      refine zG zE (NS.call (hRT M2 hx_M2 _) rfl ?_)
      rw [hF,hpn]
      exact zG zE (NS.ret rfl rfl (LeA.refl _))
     ·have ve:rdE M2 2 = 0:=by have ve:(rdE M2 2 != 0) = false:=ve;simpa using ve
      refine zG zE (NS.need (hS M2 hx_M2 2) ?_)
      refine zG zE (NS.next ⟨2 + 1,by omega,fun i hi=>by rcases Nat.lt_succ_iff_lt_or_eq.1 hi with h | h;exact vE i h;rw [h];exact ve⟩ (by show 5 - (2 + 1) < 5 - 2;omega) ?_)
      exact weak_hd [] rfl ⟨rfl,rfl,rfl,rfl,trivial⟩ ⟨⟨_,rfl,_,_,rfl,ren_str rfl (hC M2 hx_M2 2),_,_,rfl,.inl rfl,rfl⟩,⟨_,rfl,_,_,rfl,rfl,_,_,rfl,rfl,_,_,rfl,rfl,_,_,rfl,rfl,_,_,rfl,rfl,_,_,rfl,rfl,_,_,rfl,rfl,_,_,rfl,rfl,_,_,rfl,rfl,_,_,rfl,rfl,_,_,rfl,.inl rfl,_,_,rfl,rfl,_,_,rfl,rfl,_,_,rfl,rfl,_,_,rfl,rfl,_,_,rfl,rfl,_,_,rfl,rfl,_,_,rfl,rfl,_,_,rfl,rfl,rfl⟩,trivial⟩ (Pre_cut (by kernel_rfl)) (by kernel_rfl)
    ·refine zG zE (NS.need (by kernel_rfl) ?_)
     refine zG zE (NS.call (hR M2 hx_M2 3) rfl ?_)
     refine zG zE (NS.no (rfl) ?_)
     refine zG zE (NS.ite (fun ve=>?_) (fun ve=>?_))
     ·have ve:rdE M2 3 ≠ 0:=by have ve:(rdE M2 3 != 0) = true:=ve;simpa using ve
      have vB:rdNs 5 M2 = none:=rdNs_bad (by decide) ve
      refine zG zE (NS.leave rfl zE ?_)
      have hpn:parR L = none:=by rw [hpr];exact parS_bad2 tN vB
      refine zG zE (NS.no (by show ((gt 0 2 (V L 0):Int) == 4) = false;exact hkq_4) ?_)
      refine zG zE (NS.yes (by show ((gt 0 2 (V L 0):Int) == 3) = true;exact hkq_3) ?_)
      refine zG zE ?_
      refine NS.loop (σ:=Unit) (fun _=>[(0,.ptr 21 0),(9,.ov 108 1 0 4),(10,.int .i64 4),(11,.int .i64 0)]) (fun _=>[]) (fun _=>0) () ?_ ?_
      ·exact weak_hd [] rfl ⟨rfl,rfl,rfl,rfl,trivial⟩ trivial (Pre_cut (by kernel_rfl)) (by kernel_rfl)
      rintro ⟨⟩
      refine zG zE (NS.yes (rfl) ?_)
      refine zG zE (NS.need (by kernel_rfl) ?_)
      refine zG zE (NS.call (hRI M2 hx_M2 _) rfl ?_)
      refine zG zE (NS.leave rfl zE ?_)
      refine zG zE (NS.call (hRT M2 hx_M2 _) rfl ?_)
      rw [hF,hpn]
      exact zG zE (NS.ret rfl rfl (LeA.refl _))
     ·have ve:rdE M2 3 = 0:=by have ve:(rdE M2 3 != 0) = false:=ve;simpa using ve
      refine zG zE (NS.need (hS M2 hx_M2 3) ?_)
      refine zG zE (NS.next ⟨3 + 1,by omega,fun i hi=>by rcases Nat.lt_succ_iff_lt_or_eq.1 hi with h | h;exact vE i h;rw [h];exact ve⟩ (by show 5 - (3 + 1) < 5 - 3;omega) ?_)
      exact weak_hd [] rfl ⟨rfl,rfl,rfl,rfl,trivial⟩ ⟨⟨_,rfl,_,_,rfl,ren_str rfl (hC M2 hx_M2 3),_,_,rfl,.inl rfl,rfl⟩,⟨_,rfl,_,_,rfl,rfl,_,_,rfl,rfl,_,_,rfl,rfl,_,_,rfl,rfl,_,_,rfl,rfl,_,_,rfl,rfl,_,_,rfl,rfl,_,_,rfl,rfl,_,_,rfl,rfl,_,_,rfl,rfl,_,_,rfl,.inl rfl,_,_,rfl,rfl,_,_,rfl,rfl,_,_,rfl,rfl,_,_,rfl,rfl,_,_,rfl,rfl,_,_,rfl,rfl,_,_,rfl,rfl,_,_,rfl,rfl,rfl⟩,trivial⟩ (Pre_cut (by kernel_rfl)) (by kernel_rfl)
    ·refine zG zE (NS.need (by kernel_rfl) ?_)
     refine zG zE (NS.call (hR M2 hx_M2 4) rfl ?_)
     refine zG zE (NS.no (rfl) ?_)
     refine zG zE (NS.ite (fun ve=>?_) (fun ve=>?_))
     ·have ve:rdE M2 4 ≠ 0:=by have ve:(rdE M2 4 != 0) = true:=ve;simpa using ve
      have vB:rdNs 5 M2 = none:=rdNs_bad (by decide) ve
      refine zG zE (NS.leave rfl zE ?_)
      have hpn:parR L = none:=by rw [hpr];exact parS_bad2 tN vB
      refine zG zE (NS.no (by show ((gt 0 2 (V L 0):Int) == 4) = false;exact hkq_4) ?_)
      refine zG zE (NS.yes (by show ((gt 0 2 (V L 0):Int) == 3) = true;exact hkq_3) ?_)
      refine zG zE ?_
      refine NS.loop (σ:=Unit) (fun _=>[(0,.ptr 21 0),(9,.ov 108 1 0 4),(10,.int .i64 4),(11,.int .i64 0)]) (fun _=>[]) (fun _=>0) () ?_ ?_
      ·exact weak_hd [] rfl ⟨rfl,rfl,rfl,rfl,trivial⟩ trivial (Pre_cut (by kernel_rfl)) (by kernel_rfl)
      rintro ⟨⟩
      refine zG zE (NS.yes (rfl) ?_)
      refine zG zE (NS.need (by kernel_rfl) ?_)
      refine zG zE (NS.call (hRI M2 hx_M2 _) rfl ?_)
      refine zG zE (NS.leave rfl zE ?_)
      refine zG zE (NS.call (hRT M2 hx_M2 _) rfl ?_)
      rw [hF,hpn]
      exact zG zE (NS.ret rfl rfl (LeA.refl _))
     ·have ve:rdE M2 4 = 0:=by have ve:(rdE M2 4 != 0) = false:=ve;simpa using ve
      refine zG zE (NS.need (hS M2 hx_M2 4) ?_)
      refine zG zE (NS.next ⟨4 + 1,by omega,fun i hi=>by rcases Nat.lt_succ_iff_lt_or_eq.1 hi with h | h;exact vE i h;rw [h];exact ve⟩ (by show 5 - (4 + 1) < 5 - 4;omega) ?_)
      exact weak_hd [] rfl ⟨rfl,rfl,rfl,rfl,trivial⟩ ⟨⟨_,rfl,_,_,rfl,ren_str rfl (hC M2 hx_M2 4),_,_,rfl,.inl rfl,rfl⟩,⟨_,rfl,_,_,rfl,rfl,_,_,rfl,rfl,_,_,rfl,rfl,_,_,rfl,rfl,_,_,rfl,rfl,_,_,rfl,rfl,_,_,rfl,rfl,_,_,rfl,rfl,_,_,rfl,rfl,_,_,rfl,rfl,_,_,rfl,.inl rfl,_,_,rfl,rfl,_,_,rfl,rfl,_,_,rfl,rfl,_,_,rfl,rfl,_,_,rfl,rfl,_,_,rfl,rfl,_,_,rfl,rfl,_,_,rfl,rfl,rfl⟩,trivial⟩ (Pre_cut (by kernel_rfl)) (by kernel_rfl)
   have va:v = 5:=by have va:decide ((v:Int) < 5) = false:=va;have:=of_decide_eq_false va;omega
   subst va
   refine zG zE (NS.leave rfl zE ?_)
   have vN:rdNs 5 M2 = some ((List.range 5).map (V M2),M2.drop (rdP M2 5)):=hAll _ _ vE
   obtain ⟨M3,hM3⟩:∃ M,M2.drop (rdP M2 5) = M:=⟨_,rfl⟩
   rw [hM3] at vN
   have hx_M3:(∀ x ∈ M3,x < 256) /\ M3.length <= 65536:=by rw [<- hM3];exact ⟨fun x hx=>hx_M2.1 x (List.mem_of_mem_drop hx),by rw [List.length_drop];have:=hx_M2.2;omega⟩
   have hy_M3:bs (M2.drop (rdP M2 5)) = bs M3:=congrArg bs hM3
   refine zG zE (NS.no (by show ((gt 0 2 (V L 0):Int) == 4) = false;exact hkq_4) ?_)
   refine zG zE (NS.yes (by show ((gt 0 2 (V L 0):Int) == 3) = true;exact hkq_3) ?_)
   refine zG zE ?_
   refine NS.loop (σ:={ k:Nat // k <= 4 /\ ∀ i,i < k -> rdE M3 i = 0 }) (fun k=>[(0,.ptr 21 0),(9,.ov 108 1 0 4),(10,.int .i64 4),(11,.int .i64 k.1)]) (fun k=>[(21,.box [.str (bs (M3.drop (rdP M3 k.1))),.bool false]),(46,.box [.int .i64 (V L 0),.int .i64 (V M1 0),.int .i64 (V M2 0),.int .i64 (V M2 1),.int .i64 (V M2 2),.int .i64 (V M2 3),.int .i64 (V M2 4),.int .i64 (gt 0 k.1 (V M3 0)),.int .i64 (gt 1 k.1 (V M3 1)),.int .i64 (gt 2 k.1 (V M3 2)),.bool false,.str .empty,.int .i64 0,.int .i64 0,.int .i64 0,.int .i64 0,.int .i64 0,.int .i64 0,.int .i64 (V L 1)]),(49,.box [.int .i64 (gt 3 k.1 (V M3 3))])]) (fun k=>4 - k.1) ⟨0,by omega,fun i hi=>absurd hi (Nat.not_lt_zero _)⟩ ?_ ?_
   ·exact weak_hd [] rfl ⟨rfl,rfl,rfl,rfl,trivial⟩ ⟨⟨_,rfl,_,_,rfl,ren_str rfl hy_M3,_,_,rfl,.inl rfl,rfl⟩,⟨_,rfl,_,_,rfl,rfl,_,_,rfl,rfl,_,_,rfl,rfl,_,_,rfl,rfl,_,_,rfl,rfl,_,_,rfl,rfl,_,_,rfl,rfl,_,_,rfl,rfl,_,_,rfl,rfl,_,_,rfl,rfl,_,_,rfl,.inl rfl,_,_,rfl,rfl,_,_,rfl,rfl,_,_,rfl,rfl,_,_,rfl,rfl,_,_,rfl,rfl,_,_,rfl,rfl,_,_,rfl,rfl,_,_,rfl,rfl,rfl⟩,⟨_,rfl,_,_,rfl,rfl,rfl⟩,trivial⟩ (Pre_cut (by kernel_rfl)) (by kernel_rfl)
   rintro ⟨w,wl,wE⟩
   have wE:∀ i,i < w -> rdE M3 i = 0:=wE
   have wl:w <= 4:=wl
   refine zG zE (NS.ite (fun wa=>?_) (fun wa=>?_))
   ·have wa:w < 4:=by have wa:decide ((w:Int) < 4) = true:=wa;have:=of_decide_eq_true wa;omega
    rcases (by omega:w = 0 \/ w = 1 \/ w = 2 \/ w = 3) with rfl | rfl | rfl | rfl
    ·refine zG zE (NS.need (by kernel_rfl) ?_)
     refine zG zE (NS.call (hR M3 hx_M3 0) rfl ?_)
     refine zG zE (NS.no (rfl) ?_)
     refine zG zE (NS.ite (fun we=>?_) (fun we=>?_))
     ·have we:rdE M3 0 ≠ 0:=by have we:(rdE M3 0 != 0) = true:=we;simpa using we
      have wB:rdNs 4 M3 = none:=rdNs_bad (by decide) we
      refine zG zE (NS.leave rfl zE ?_)
      have hpn:parR L = none:=by rw [hpr];exact parS_bad3 tN vN wB
      refine zG zE (NS.call (hRT M3 hx_M3 _) rfl ?_)
      rw [hF,hpn]
      exact zG zE (NS.ret rfl rfl (LeA.refl _))
     ·have we:rdE M3 0 = 0:=by have we:(rdE M3 0 != 0) = false:=we;simpa using we
      refine zG zE (NS.need (hS M3 hx_M3 0) ?_)
      refine zG zE (NS.next ⟨0 + 1,by omega,fun i hi=>by rcases Nat.lt_succ_iff_lt_or_eq.1 hi with h | h;exact wE i h;rw [h];exact we⟩ (by show 4 - (0 + 1) < 4 - 0;omega) ?_)
      exact weak_hd [] rfl ⟨rfl,rfl,rfl,rfl,trivial⟩ ⟨⟨_,rfl,_,_,rfl,ren_str rfl (hC M3 hx_M3 0),_,_,rfl,.inl rfl,rfl⟩,⟨_,rfl,_,_,rfl,rfl,_,_,rfl,rfl,_,_,rfl,rfl,_,_,rfl,rfl,_,_,rfl,rfl,_,_,rfl,rfl,_,_,rfl,rfl,_,_,rfl,rfl,_,_,rfl,rfl,_,_,rfl,rfl,_,_,rfl,.inl rfl,_,_,rfl,rfl,_,_,rfl,rfl,_,_,rfl,rfl,_,_,rfl,rfl,_,_,rfl,rfl,_,_,rfl,rfl,_,_,rfl,rfl,_,_,rfl,rfl,rfl⟩,⟨_,rfl,_,_,rfl,rfl,rfl⟩,trivial⟩ (Pre_cut (by kernel_rfl)) (by kernel_rfl)
    ·refine zG zE (NS.need (by kernel_rfl) ?_)
     refine zG zE (NS.call (hR M3 hx_M3 1) rfl ?_)
     refine zG zE (NS.no (rfl) ?_)
     refine zG zE (NS.ite (fun we=>?_) (fun we=>?_))
     ·have we:rdE M3 1 ≠ 0:=by have we:(rdE M3 1 != 0) = true:=we;simpa using we
      have wB:rdNs 4 M3 = none:=rdNs_bad (by decide) we
      refine zG zE (NS.leave rfl zE ?_)
      have hpn:parR L = none:=by rw [hpr];exact parS_bad3 tN vN wB
      refine zG zE (NS.call (hRT M3 hx_M3 _) rfl ?_)
      rw [hF,hpn]
      exact zG zE (NS.ret rfl rfl (LeA.refl _))
     ·have we:rdE M3 1 = 0:=by have we:(rdE M3 1 != 0) = false:=we;simpa using we
      refine zG zE (NS.need (hS M3 hx_M3 1) ?_)
      refine zG zE (NS.next ⟨1 + 1,by omega,fun i hi=>by rcases Nat.lt_succ_iff_lt_or_eq.1 hi with h | h;exact wE i h;rw [h];exact we⟩ (by show 4 - (1 + 1) < 4 - 1;omega) ?_)
      exact weak_hd [] rfl ⟨rfl,rfl,rfl,rfl,trivial⟩ ⟨⟨_,rfl,_,_,rfl,ren_str rfl (hC M3 hx_M3 1),_,_,rfl,.inl rfl,rfl⟩,⟨_,rfl,_,_,rfl,rfl,_,_,rfl,rfl,_,_,rfl,rfl,_,_,rfl,rfl,_,_,rfl,rfl,_,_,rfl,rfl,_,_,rfl,rfl,_,_,rfl,rfl,_,_,rfl,rfl,_,_,rfl,rfl,_,_,rfl,.inl rfl,_,_,rfl,rfl,_,_,rfl,rfl,_,_,rfl,rfl,_,_,rfl,rfl,_,_,rfl,rfl,_,_,rfl,rfl,_,_,rfl,rfl,_,_,rfl,rfl,rfl⟩,⟨_,rfl,_,_,rfl,rfl,rfl⟩,trivial⟩ (Pre_cut (by kernel_rfl)) (by kernel_rfl)
    ·refine zG zE (NS.need (by kernel_rfl) ?_)
     refine zG zE (NS.call (hR M3 hx_M3 2) rfl ?_)
     refine zG zE (NS.no (rfl) ?_)
     refine zG zE (NS.ite (fun we=>?_) (fun we=>?_))
     ·have we:rdE M3 2 ≠ 0:=by have we:(rdE M3 2 != 0) = true:=we;simpa using we
      have wB:rdNs 4 M3 = none:=rdNs_bad (by decide) we
      refine zG zE (NS.leave rfl zE ?_)
      have hpn:parR L = none:=by rw [hpr];exact parS_bad3 tN vN wB
      refine zG zE (NS.call (hRT M3 hx_M3 _) rfl ?_)
      rw [hF,hpn]
      exact zG zE (NS.ret rfl rfl (LeA.refl _))
     ·have we:rdE M3 2 = 0:=by have we:(rdE M3 2 != 0) = false:=we;simpa using we
      refine zG zE (NS.need (hS M3 hx_M3 2) ?_)
      refine zG zE (NS.next ⟨2 + 1,by omega,fun i hi=>by rcases Nat.lt_succ_iff_lt_or_eq.1 hi with h | h;exact wE i h;rw [h];exact we⟩ (by show 4 - (2 + 1) < 4 - 2;omega) ?_)
      exact weak_hd [] rfl ⟨rfl,rfl,rfl,rfl,trivial⟩ ⟨⟨_,rfl,_,_,rfl,ren_str rfl (hC M3 hx_M3 2),_,_,rfl,.inl rfl,rfl⟩,⟨_,rfl,_,_,rfl,rfl,_,_,rfl,rfl,_,_,rfl,rfl,_,_,rfl,rfl,_,_,rfl,rfl,_,_,rfl,rfl,_,_,rfl,rfl,_,_,rfl,rfl,_,_,rfl,rfl,_,_,rfl,rfl,_,_,rfl,.inl rfl,_,_,rfl,rfl,_,_,rfl,rfl,_,_,rfl,rfl,_,_,rfl,rfl,_,_,rfl,rfl,_,_,rfl,rfl,_,_,rfl,rfl,_,_,rfl,rfl,rfl⟩,⟨_,rfl,_,_,rfl,rfl,rfl⟩,trivial⟩ (Pre_cut (by kernel_rfl)) (by kernel_rfl)
    ·refine zG zE (NS.need (by kernel_rfl) ?_)
     refine zG zE (NS.call (hR M3 hx_M3 3) rfl ?_)
     refine zG zE (NS.no (rfl) ?_)
     refine zG zE (NS.ite (fun we=>?_) (fun we=>?_))
     ·have we:rdE M3 3 ≠ 0:=by have we:(rdE M3 3 != 0) = true:=we;simpa using we
      have wB:rdNs 4 M3 = none:=rdNs_bad (by decide) we
      refine zG zE (NS.leave rfl zE ?_)
      have hpn:parR L = none:=by rw [hpr];exact parS_bad3 tN vN wB
      refine zG zE (NS.call (hRT M3 hx_M3 _) rfl ?_)
      rw [hF,hpn]
      exact zG zE (NS.ret rfl rfl (LeA.refl _))
     ·have we:rdE M3 3 = 0:=by have we:(rdE M3 3 != 0) = false:=we;simpa using we
      refine zG zE (NS.need (hS M3 hx_M3 3) ?_)
      refine zG zE (NS.next ⟨3 + 1,by omega,fun i hi=>by rcases Nat.lt_succ_iff_lt_or_eq.1 hi with h | h;exact wE i h;rw [h];exact we⟩ (by show 4 - (3 + 1) < 4 - 3;omega) ?_)
      exact weak_hd [] rfl ⟨rfl,rfl,rfl,rfl,trivial⟩ ⟨⟨_,rfl,_,_,rfl,ren_str rfl (hC M3 hx_M3 3),_,_,rfl,.inl rfl,rfl⟩,⟨_,rfl,_,_,rfl,rfl,_,_,rfl,rfl,_,_,rfl,rfl,_,_,rfl,rfl,_,_,rfl,rfl,_,_,rfl,rfl,_,_,rfl,rfl,_,_,rfl,rfl,_,_,rfl,rfl,_,_,rfl,rfl,_,_,rfl,.inl rfl,_,_,rfl,rfl,_,_,rfl,rfl,_,_,rfl,rfl,_,_,rfl,rfl,_,_,rfl,rfl,_,_,rfl,rfl,_,_,rfl,rfl,_,_,rfl,rfl,rfl⟩,⟨_,rfl,_,_,rfl,rfl,rfl⟩,trivial⟩ (Pre_cut (by kernel_rfl)) (by kernel_rfl)
   have wa:w = 4:=by have wa:decide ((w:Int) < 4) = false:=wa;have:=of_decide_eq_false wa;omega
   subst wa
   refine zG zE (NS.leave rfl zE ?_)
   have wN:rdNs 4 M3 = some ((List.range 4).map (V M3),M3.drop (rdP M3 4)):=hAll _ _ wE
   obtain ⟨M4,hM4⟩:∃ M,M3.drop (rdP M3 4) = M:=⟨_,rfl⟩
   rw [hM4] at wN
   have hx_M4:(∀ x ∈ M4,x < 256) /\ M4.length <= 65536:=by rw [<- hM4];exact ⟨fun x hx=>hx_M3.1 x (List.mem_of_mem_drop hx),by rw [List.length_drop];have:=hx_M3.2;omega⟩
   have hy_M4:bs (M3.drop (rdP M3 4)) = bs M4:=congrArg bs hM4
   have hpo:=hpr.trans (parS_ok' tN vN wN)
   have hRT4:FnOK Tryz.prog 189 [.str (bs M4)] (.tup [.str (bs (rdT M4).1),.int .i64 ((rdT M4).2.1:Nat),.int .i64 (rdT M4).2.2],none):=hRT M4 hx_M4 0
   refine zG zE (NS.call (hRT4.le (LeL.cons (LeA.of (congrArg A.str hy_M4)) LeL.nil)) rfl ?_)
   refine zG zE (NS.no (rfl) ?_)
   refine zG zE (NS.ite (fun te=>?_) (fun te=>?_))
   ·have te:((rdT M4).2.2 != 0) = true:=te
    rw [hF,hpo,if_pos (by rw [te];rfl)]
    exact zG zE (NS.ret rfl rfl (LeA.refl _))
   have te:((rdT M4).2.2 != 0) = false:=te
   refine zG zE (NS.ite (fun c0=>?_) (fun c0=>?_))
   ·have c0:V M3 3 < 0:=of_decide_eq_true c0
    rw [hF,hpo,if_pos (by rw [cu_bad (by omega)];simp)]
    exact zG zE (NS.ret rfl rfl (LeA.refl _))
   have c0:¬ V M3 3 < 0:=of_decide_eq_false c0
   refine zG zE (NS.ite (fun c1=>?_) (fun c1=>?_))
   ·have c1:V M3 3 > 1:=of_decide_eq_true c1
    rw [hF,hpo,if_pos (by rw [cu_bad (by omega)];simp)]
    exact zG zE (NS.ret rfl rfl (LeA.refl _))
   have c1:¬ V M3 3 > 1:=of_decide_eq_false c1
   have cg:(!(V M3 3 == 0 || V M3 3 == 1)) = false:=cu_good (by omega)
   have hri:=rdT_in hx_M4.1
   refine zG zE (NS.need (by show decide ((0:Int) <= ((rdT M4).2.1:Nat) /\ (((rdT M4).2.1:Nat):Int) <= ((bs (M3.drop (rdP M3 4))).size:Int) /\ ((bs (M3.drop (rdP M3 4))).size:Int) <= ((bs (M3.drop (rdP M3 4))).size:Int)) = true;rw [hy_M4,bs_len];exact decide_eq_true (by omega)) ?_)
   have hyz:(bs (M3.drop (rdP M3 4))).extract (((rdT M4).2.1:Nat):Int).toNat ((bs (M3.drop (rdP M3 4))).size:Int).toNat = bs (M4.drop (rdT M4).2.1):=by rw [hy_M4];exact cut_bs hx_M4.1 _
   obtain ⟨rec,hrec⟩:∃ rec:Jrec,⟨V L 0,⟨V M1 0,⟨V M2 0,V M2 1,V M2 2,V M2 3,V M2 4⟩,V M3 0,V M3 1,V M3 2,V M3 3 == 1,bs (rdT M4).1⟩,.zero,0,V L 1⟩ = rec:=⟨_,rfl⟩
   have hcl:[A.int .i64 (V L 0),A.int .i64 (V M1 0),A.int .i64 (V M2 0),A.int .i64 (V M2 1),A.int .i64 (V M2 2),A.int .i64 (V M2 3),A.int .i64 (V M2 4),A.int .i64 (V M3 0),A.int .i64 (V M3 1),A.int .i64 (V M3 2),A.bool (V M3 3 == 1),A.str (bs (rdT M4).1),A.int .i64 0,A.int .i64 0,A.int .i64 0,A.int .i64 0,A.int .i64 0,A.int .i64 0,A.int .i64 (V L 1)] = rec.cells:=by rw [<- hrec];rfl
   have hok:parR L = if (M4.drop (rdT M4).2.1).isEmpty then okR rec else none:=by rw [hpo,<- hrec,te,cg];exact if_text hri
   refine zG zE (NS.no (rfl) ?_)
   by_cases hz:M4.drop (rdT M4).2.1 = []
   ·refine zG zE (NS.no (by show (!(((bs (M3.drop (rdP M3 4))).extract (((rdT M4).2.1:Nat):Int).toNat ((bs (M3.drop (rdP M3 4))).size:Int).toNat).toList == (⟨#[]⟩:ByteArray).toList)) = false;rw [hyz];exact emp_f hz) ?_)
    refine zG zE (NS.call ((jCheck_ok rec).le (LeL.cons (LeA.of (congrArg A.agg hcl)) LeL.nil)) rfl ?_)
    by_cases hrc:recErr rec = 0
    ·refine zG zE (NS.no (by show (recErr rec != 0) = false;rw [hrc];rfl) ?_)
     rw [hF,hok,if_pos (by rw [hz];rfl),okR_some hrc]
     exact zG zE (NS.ret rfl rfl (LeA.tup3 (LeA.of (congrArg A.agg hcl)) (LeA.refl _) (LeA.kb true)))
    ·refine zG zE (NS.yes (by show (recErr rec != 0) = true;simpa using hrc) ?_)
     rw [hF,hok,if_pos (by rw [hz];rfl),okR_none hrc]
     exact zG zE (NS.ret rfl rfl (LeA.refl _))
   ·refine zG zE (NS.yes (by show (!(((bs (M3.drop (rdP M3 4))).extract (((rdT M4).2.1:Nat):Int).toNat ((bs (M3.drop (rdP M3 4))).size:Int).toNat).toList == (⟨#[]⟩:ByteArray).toList)) = true;rw [hyz];exact emp_t hz) ?_)
    rw [hF,hok,if_neg (by intro h;exact hz (List.isEmpty_iff.1 h))]
    exact zG zE (NS.ret rfl rfl (LeA.refl _))
  ·refine zG zE (NS.no (by show ((gt 0 2 (V L 0):Int) == 1) = false;exact hkq_1) ?_)
   refine zG zE (NS.no (by show ((gt 0 2 (V L 0):Int) == 3) = false;exact hkq_3) ?_)
   have hpr:parR L = parI (V L 0) (V L 1) M1:=parR_I' kN (by show stoK (V L 0) = false;rw [hkz];rfl) (by show (V L 0 == 2 || V L 0 == 4) = true;rw [hkz];rfl)
   refine zG zE (NS.chk (by kernel_rfl) ?_)
   refine zG zE ?_
   refine NS.loop (σ:={ k:Nat // k <= 5 /\ ∀ i,i < k -> rdE M1 i = 0 }) (fun k=>[(0,.ptr 21 0),(9,.ov 91 1 0 5),(10,.int .i64 5),(11,.int .i64 k.1)]) (fun k=>[(21,.box [.str (bs (M1.drop (rdP M1 k.1))),.bool false]),(46,.box [.int .i64 (V L 0),.int .i64 0,.int .i64 0,.int .i64 0,.int .i64 0,.int .i64 0,.int .i64 0,.int .i64 0,.int .i64 0,.int .i64 0,.bool false,.str .empty,.int .i64 (gt 0 k.1 (V M1 0)),.int .i64 (gt 1 k.1 (V M1 1)),.int .i64 (gt 2 k.1 (V M1 2)),.int .i64 (gt 3 k.1 (V M1 3)),.int .i64 (gt 4 k.1 (V M1 4)),.int .i64 0,.int .i64 (V L 1)])]) (fun k=>5 - k.1) ⟨0,by omega,fun i hi=>absurd hi (Nat.not_lt_zero _)⟩ ?_ ?_
   ·exact weak_hd [] rfl ⟨rfl,rfl,rfl,rfl,trivial⟩ ⟨⟨_,rfl,_,_,rfl,ren_str rfl hy_M1,_,_,rfl,.inl rfl,rfl⟩,⟨_,rfl,_,_,rfl,rfl,_,_,rfl,rfl,_,_,rfl,rfl,_,_,rfl,rfl,_,_,rfl,rfl,_,_,rfl,rfl,_,_,rfl,rfl,_,_,rfl,rfl,_,_,rfl,rfl,_,_,rfl,rfl,_,_,rfl,.inl rfl,_,_,rfl,rfl,_,_,rfl,rfl,_,_,rfl,rfl,_,_,rfl,rfl,_,_,rfl,rfl,_,_,rfl,rfl,_,_,rfl,rfl,_,_,rfl,rfl,rfl⟩,trivial⟩ (Pre_cut (by kernel_rfl)) (by kernel_rfl)
   rintro ⟨v,vl,vE⟩
   have vE:∀ i,i < v -> rdE M1 i = 0:=vE
   have vl:v <= 5:=vl
   refine zG zE (NS.ite (fun va=>?_) (fun va=>?_))
   ·have va:v < 5:=by have va:decide ((v:Int) < 5) = true:=va;have:=of_decide_eq_true va;omega
    rcases (by omega:v = 0 \/ v = 1 \/ v = 2 \/ v = 3 \/ v = 4) with rfl | rfl | rfl | rfl | rfl
    ·refine zG zE (NS.need (by kernel_rfl) ?_)
     refine zG zE (NS.call (hR M1 hx_M1 0) rfl ?_)
     refine zG zE (NS.no (rfl) ?_)
     refine zG zE (NS.ite (fun ve=>?_) (fun ve=>?_))
     ·have ve:rdE M1 0 ≠ 0:=by have ve:(rdE M1 0 != 0) = true:=ve;simpa using ve
      have vB:rdNs 5 M1 = none:=rdNs_bad (by decide) ve
      refine zG zE (NS.leave rfl zE ?_)
      have hpn:parR L = none:=by rw [hpr];exact parI_bad1 (by rw [hkz];rfl) vB
      refine zG zE (NS.yes (by show ((gt 0 2 (V L 0):Int) == 4) = true;exact hkq_4) ?_)
      refine zG zE ?_
      refine NS.loop (σ:=Unit) (fun _=>[(0,.ptr 21 0),(9,.ov 98 1 0 1),(10,.int .i64 1),(11,.int .i64 0)]) (fun _=>[]) (fun _=>0) () ?_ ?_
      ·exact weak_hd [] rfl ⟨rfl,rfl,rfl,rfl,trivial⟩ trivial (Pre_cut (by kernel_rfl)) (by kernel_rfl)
      rintro ⟨⟩
      refine zG zE (NS.yes (rfl) ?_)
      refine zG zE (NS.need (by kernel_rfl) ?_)
      refine zG zE (NS.call (hRI M1 hx_M1 _) rfl ?_)
      refine zG zE (NS.leave rfl zE ?_)
      refine zG zE (NS.no (by show ((gt 0 2 (V L 0):Int) == 3) = false;exact hkq_3) ?_)
      rw [hF,hpn]
      exact zG zE (NS.ret rfl rfl (LeA.refl _))
     ·have ve:rdE M1 0 = 0:=by have ve:(rdE M1 0 != 0) = false:=ve;simpa using ve
      refine zG zE (NS.need (hS M1 hx_M1 0) ?_)
      refine zG zE (NS.next ⟨0 + 1,by omega,fun i hi=>by rcases Nat.lt_succ_iff_lt_or_eq.1 hi with h | h;exact vE i h;rw [h];exact ve⟩ (by show 5 - (0 + 1) < 5 - 0;omega) ?_)
      exact weak_hd [] rfl ⟨rfl,rfl,rfl,rfl,trivial⟩ ⟨⟨_,rfl,_,_,rfl,ren_str rfl (hC M1 hx_M1 0),_,_,rfl,.inl rfl,rfl⟩,⟨_,rfl,_,_,rfl,rfl,_,_,rfl,rfl,_,_,rfl,rfl,_,_,rfl,rfl,_,_,rfl,rfl,_,_,rfl,rfl,_,_,rfl,rfl,_,_,rfl,rfl,_,_,rfl,rfl,_,_,rfl,rfl,_,_,rfl,.inl rfl,_,_,rfl,rfl,_,_,rfl,rfl,_,_,rfl,rfl,_,_,rfl,rfl,_,_,rfl,rfl,_,_,rfl,rfl,_,_,rfl,rfl,_,_,rfl,rfl,rfl⟩,trivial⟩ (Pre_cut (by kernel_rfl)) (by kernel_rfl)
    ·refine zG zE (NS.need (by kernel_rfl) ?_)
     refine zG zE (NS.call (hR M1 hx_M1 1) rfl ?_)
     refine zG zE (NS.no (rfl) ?_)
     refine zG zE (NS.ite (fun ve=>?_) (fun ve=>?_))
     ·have ve:rdE M1 1 ≠ 0:=by have ve:(rdE M1 1 != 0) = true:=ve;simpa using ve
      have vB:rdNs 5 M1 = none:=rdNs_bad (by decide) ve
      refine zG zE (NS.leave rfl zE ?_)
      have hpn:parR L = none:=by rw [hpr];exact parI_bad1 (by rw [hkz];rfl) vB
      refine zG zE (NS.yes (by show ((gt 0 2 (V L 0):Int) == 4) = true;exact hkq_4) ?_)
      refine zG zE ?_
      refine NS.loop (σ:=Unit) (fun _=>[(0,.ptr 21 0),(9,.ov 98 1 0 1),(10,.int .i64 1),(11,.int .i64 0)]) (fun _=>[]) (fun _=>0) () ?_ ?_
      ·exact weak_hd [] rfl ⟨rfl,rfl,rfl,rfl,trivial⟩ trivial (Pre_cut (by kernel_rfl)) (by kernel_rfl)
      rintro ⟨⟩
      refine zG zE (NS.yes (rfl) ?_)
      refine zG zE (NS.need (by kernel_rfl) ?_)
      refine zG zE (NS.call (hRI M1 hx_M1 _) rfl ?_)
      refine zG zE (NS.leave rfl zE ?_)
      refine zG zE (NS.no (by show ((gt 0 2 (V L 0):Int) == 3) = false;exact hkq_3) ?_)
      rw [hF,hpn]
      exact zG zE (NS.ret rfl rfl (LeA.refl _))
     ·have ve:rdE M1 1 = 0:=by have ve:(rdE M1 1 != 0) = false:=ve;simpa using ve
      refine zG zE (NS.need (hS M1 hx_M1 1) ?_)
      refine zG zE (NS.next ⟨1 + 1,by omega,fun i hi=>by rcases Nat.lt_succ_iff_lt_or_eq.1 hi with h | h;exact vE i h;rw [h];exact ve⟩ (by show 5 - (1 + 1) < 5 - 1;omega) ?_)
      exact weak_hd [] rfl ⟨rfl,rfl,rfl,rfl,trivial⟩ ⟨⟨_,rfl,_,_,rfl,ren_str rfl (hC M1 hx_M1 1),_,_,rfl,.inl rfl,rfl⟩,⟨_,rfl,_,_,rfl,rfl,_,_,rfl,rfl,_,_,rfl,rfl,_,_,rfl,rfl,_,_,rfl,rfl,_,_,rfl,rfl,_,_,rfl,rfl,_,_,rfl,rfl,_,_,rfl,rfl,_,_,rfl,rfl,_,_,rfl,.inl rfl,_,_,rfl,rfl,_,_,rfl,rfl,_,_,rfl,rfl,_,_,rfl,rfl,_,_,rfl,rfl,_,_,rfl,rfl,_,_,rfl,rfl,_,_,rfl,rfl,rfl⟩,trivial⟩ (Pre_cut (by kernel_rfl)) (by kernel_rfl)
    ·refine zG zE (NS.need (by kernel_rfl) ?_)
     refine zG zE (NS.call (hR M1 hx_M1 2) rfl ?_)
     refine zG zE (NS.no (rfl) ?_)
     refine zG zE (NS.ite (fun ve=>?_) (fun ve=>?_))
     ·have ve:rdE M1 2 ≠ 0:=by have ve:(rdE M1 2 != 0) = true:=ve;simpa using ve
      have vB:rdNs 5 M1 = none:=rdNs_bad (by decide) ve
      refine zG zE (NS.leave rfl zE ?_)
      have hpn:parR L = none:=by rw [hpr];exact parI_bad1 (by rw [hkz];rfl) vB
      refine zG zE (NS.yes (by show ((gt 0 2 (V L 0):Int) == 4) = true;exact hkq_4) ?_)
      refine zG zE ?_
      refine NS.loop (σ:=Unit) (fun _=>[(0,.ptr 21 0),(9,.ov 98 1 0 1),(10,.int .i64 1),(11,.int .i64 0)]) (fun _=>[]) (fun _=>0) () ?_ ?_
      ·exact weak_hd [] rfl ⟨rfl,rfl,rfl,rfl,trivial⟩ trivial (Pre_cut (by kernel_rfl)) (by kernel_rfl)
      rintro ⟨⟩
      refine zG zE (NS.yes (rfl) ?_)
      refine zG zE (NS.need (by kernel_rfl) ?_)
      refine zG zE (NS.call (hRI M1 hx_M1 _) rfl ?_)
      refine zG zE (NS.leave rfl zE ?_)
      refine zG zE (NS.no (by show ((gt 0 2 (V L 0):Int) == 3) = false;exact hkq_3) ?_)
      rw [hF,hpn]
      exact zG zE (NS.ret rfl rfl (LeA.refl _))
     ·have ve:rdE M1 2 = 0:=by have ve:(rdE M1 2 != 0) = false:=ve;simpa using ve
      refine zG zE (NS.need (hS M1 hx_M1 2) ?_)
      refine zG zE (NS.next ⟨2 + 1,by omega,fun i hi=>by rcases Nat.lt_succ_iff_lt_or_eq.1 hi with h | h;exact vE i h;rw [h];exact ve⟩ (by show 5 - (2 + 1) < 5 - 2;omega) ?_)
      exact weak_hd [] rfl ⟨rfl,rfl,rfl,rfl,trivial⟩ ⟨⟨_,rfl,_,_,rfl,ren_str rfl (hC M1 hx_M1 2),_,_,rfl,.inl rfl,rfl⟩,⟨_,rfl,_,_,rfl,rfl,_,_,rfl,rfl,_,_,rfl,rfl,_,_,rfl,rfl,_,_,rfl,rfl,_,_,rfl,rfl,_,_,rfl,rfl,_,_,rfl,rfl,_,_,rfl,rfl,_,_,rfl,rfl,_,_,rfl,.inl rfl,_,_,rfl,rfl,_,_,rfl,rfl,_,_,rfl,rfl,_,_,rfl,rfl,_,_,rfl,rfl,_,_,rfl,rfl,_,_,rfl,rfl,_,_,rfl,rfl,rfl⟩,trivial⟩ (Pre_cut (by kernel_rfl)) (by kernel_rfl)
    ·refine zG zE (NS.need (by kernel_rfl) ?_)
     refine zG zE (NS.call (hR M1 hx_M1 3) rfl ?_)
     refine zG zE (NS.no (rfl) ?_)
     refine zG zE (NS.ite (fun ve=>?_) (fun ve=>?_))
     ·have ve:rdE M1 3 ≠ 0:=by have ve:(rdE M1 3 != 0) = true:=ve;simpa using ve
      have vB:rdNs 5 M1 = none:=rdNs_bad (by decide) ve
      refine zG zE (NS.leave rfl zE ?_)
      have hpn:parR L = none:=by rw [hpr];exact parI_bad1 (by rw [hkz];rfl) vB
      refine zG zE (NS.yes (by show ((gt 0 2 (V L 0):Int) == 4) = true;exact hkq_4) ?_)
      refine zG zE ?_
      refine NS.loop (σ:=Unit) (fun _=>[(0,.ptr 21 0),(9,.ov 98 1 0 1),(10,.int .i64 1),(11,.int .i64 0)]) (fun _=>[]) (fun _=>0) () ?_ ?_
      ·exact weak_hd [] rfl ⟨rfl,rfl,rfl,rfl,trivial⟩ trivial (Pre_cut (by kernel_rfl)) (by kernel_rfl)
      rintro ⟨⟩
      refine zG zE (NS.yes (rfl) ?_)
      refine zG zE (NS.need (by kernel_rfl) ?_)
      refine zG zE (NS.call (hRI M1 hx_M1 _) rfl ?_)
      refine zG zE (NS.leave rfl zE ?_)
      refine zG zE (NS.no (by show ((gt 0 2 (V L 0):Int) == 3) = false;exact hkq_3) ?_)
      rw [hF,hpn]
      exact zG zE (NS.ret rfl rfl (LeA.refl _))
     ·have ve:rdE M1 3 = 0:=by have ve:(rdE M1 3 != 0) = false:=ve;simpa using ve
      refine zG zE (NS.need (hS M1 hx_M1 3) ?_)
      refine zG zE (NS.next ⟨3 + 1,by omega,fun i hi=>by rcases Nat.lt_succ_iff_lt_or_eq.1 hi with h | h;exact vE i h;rw [h];exact ve⟩ (by show 5 - (3 + 1) < 5 - 3;omega) ?_)
      exact weak_hd [] rfl ⟨rfl,rfl,rfl,rfl,trivial⟩ ⟨⟨_,rfl,_,_,rfl,ren_str rfl (hC M1 hx_M1 3),_,_,rfl,.inl rfl,rfl⟩,⟨_,rfl,_,_,rfl,rfl,_,_,rfl,rfl,_,_,rfl,rfl,_,_,rfl,rfl,_,_,rfl,rfl,_,_,rfl,rfl,_,_,rfl,rfl,_,_,rfl,rfl,_,_,rfl,rfl,_,_,rfl,rfl,_,_,rfl,.inl rfl,_,_,rfl,rfl,_,_,rfl,rfl,_,_,rfl,rfl,_,_,rfl,rfl,_,_,rfl,rfl,_,_,rfl,rfl,_,_,rfl,rfl,_,_,rfl,rfl,rfl⟩,trivial⟩ (Pre_cut (by kernel_rfl)) (by kernel_rfl)
    ·refine zG zE (NS.need (by kernel_rfl) ?_)
     refine zG zE (NS.call (hR M1 hx_M1 4) rfl ?_)
     refine zG zE (NS.no (rfl) ?_)
     refine zG zE (NS.ite (fun ve=>?_) (fun ve=>?_))
     ·have ve:rdE M1 4 ≠ 0:=by have ve:(rdE M1 4 != 0) = true:=ve;simpa using ve
      have vB:rdNs 5 M1 = none:=rdNs_bad (by decide) ve
      refine zG zE (NS.leave rfl zE ?_)
      have hpn:parR L = none:=by rw [hpr];exact parI_bad1 (by rw [hkz];rfl) vB
      refine zG zE (NS.yes (by show ((gt 0 2 (V L 0):Int) == 4) = true;exact hkq_4) ?_)
      refine zG zE ?_
      refine NS.loop (σ:=Unit) (fun _=>[(0,.ptr 21 0),(9,.ov 98 1 0 1),(10,.int .i64 1),(11,.int .i64 0)]) (fun _=>[]) (fun _=>0) () ?_ ?_
      ·exact weak_hd [] rfl ⟨rfl,rfl,rfl,rfl,trivial⟩ trivial (Pre_cut (by kernel_rfl)) (by kernel_rfl)
      rintro ⟨⟩
      refine zG zE (NS.yes (rfl) ?_)
      refine zG zE (NS.need (by kernel_rfl) ?_)
      refine zG zE (NS.call (hRI M1 hx_M1 _) rfl ?_)
      refine zG zE (NS.leave rfl zE ?_)
      refine zG zE (NS.no (by show ((gt 0 2 (V L 0):Int) == 3) = false;exact hkq_3) ?_)
      rw [hF,hpn]
      exact zG zE (NS.ret rfl rfl (LeA.refl _))
     ·have ve:rdE M1 4 = 0:=by have ve:(rdE M1 4 != 0) = false:=ve;simpa using ve
      refine zG zE (NS.need (hS M1 hx_M1 4) ?_)
      refine zG zE (NS.next ⟨4 + 1,by omega,fun i hi=>by rcases Nat.lt_succ_iff_lt_or_eq.1 hi with h | h;exact vE i h;rw [h];exact ve⟩ (by show 5 - (4 + 1) < 5 - 4;omega) ?_)
      exact weak_hd [] rfl ⟨rfl,rfl,rfl,rfl,trivial⟩ ⟨⟨_,rfl,_,_,rfl,ren_str rfl (hC M1 hx_M1 4),_,_,rfl,.inl rfl,rfl⟩,⟨_,rfl,_,_,rfl,rfl,_,_,rfl,rfl,_,_,rfl,rfl,_,_,rfl,rfl,_,_,rfl,rfl,_,_,rfl,rfl,_,_,rfl,rfl,_,_,rfl,rfl,_,_,rfl,rfl,_,_,rfl,rfl,_,_,rfl,.inl rfl,_,_,rfl,rfl,_,_,rfl,rfl,_,_,rfl,rfl,_,_,rfl,rfl,_,_,rfl,rfl,_,_,rfl,rfl,_,_,rfl,rfl,_,_,rfl,rfl,rfl⟩,trivial⟩ (Pre_cut (by kernel_rfl)) (by kernel_rfl)
   have va:v = 5:=by have va:decide ((v:Int) < 5) = false:=va;have:=of_decide_eq_false va;omega
   subst va
   refine zG zE (NS.leave rfl zE ?_)
   have vN:rdNs 5 M1 = some ((List.range 5).map (V M1),M1.drop (rdP M1 5)):=hAll _ _ vE
   obtain ⟨M2,hM2⟩:∃ M,M1.drop (rdP M1 5) = M:=⟨_,rfl⟩
   rw [hM2] at vN
   have hx_M2:(∀ x ∈ M2,x < 256) /\ M2.length <= 65536:=by rw [<- hM2];exact ⟨fun x hx=>hx_M1.1 x (List.mem_of_mem_drop hx),by rw [List.length_drop];have:=hx_M1.2;omega⟩
   have hy_M2:bs (M1.drop (rdP M1 5)) = bs M2:=congrArg bs hM2
   refine zG zE (NS.yes (by show ((gt 0 2 (V L 0):Int) == 4) = true;exact hkq_4) ?_)
   refine zG zE ?_
   refine NS.loop (σ:={ k:Nat // k <= 1 /\ ∀ i,i < k -> rdE M2 i = 0 }) (fun k=>[(0,.ptr 21 0),(9,.ov 98 1 0 1),(10,.int .i64 1),(11,.int .i64 k.1)]) (fun k=>[(21,.box [.str (bs (M2.drop (rdP M2 k.1))),.bool false]),(46,.box [.int .i64 (V L 0),.int .i64 0,.int .i64 0,.int .i64 0,.int .i64 0,.int .i64 0,.int .i64 0,.int .i64 0,.int .i64 0,.int .i64 0,.bool false,.str .empty,.int .i64 (V M1 0),.int .i64 (V M1 1),.int .i64 (V M1 2),.int .i64 (V M1 3),.int .i64 (V M1 4),.int .i64 (gt 0 k.1 (V M2 0)),.int .i64 (V L 1)])]) (fun k=>1 - k.1) ⟨0,by omega,fun i hi=>absurd hi (Nat.not_lt_zero _)⟩ ?_ ?_
   ·exact weak_hd [] rfl ⟨rfl,rfl,rfl,rfl,trivial⟩ ⟨⟨_,rfl,_,_,rfl,ren_str rfl hy_M2,_,_,rfl,.inl rfl,rfl⟩,⟨_,rfl,_,_,rfl,rfl,_,_,rfl,rfl,_,_,rfl,rfl,_,_,rfl,rfl,_,_,rfl,rfl,_,_,rfl,rfl,_,_,rfl,rfl,_,_,rfl,rfl,_,_,rfl,rfl,_,_,rfl,rfl,_,_,rfl,.inl rfl,_,_,rfl,rfl,_,_,rfl,rfl,_,_,rfl,rfl,_,_,rfl,rfl,_,_,rfl,rfl,_,_,rfl,rfl,_,_,rfl,rfl,_,_,rfl,rfl,rfl⟩,trivial⟩ (Pre_cut (by kernel_rfl)) (by kernel_rfl)
   rintro ⟨w,wl,wE⟩
   have wE:∀ i,i < w -> rdE M2 i = 0:=wE
   have wl:w <= 1:=wl
   refine zG zE (NS.ite (fun wa=>?_) (fun wa=>?_))
   ·have wa:w < 1:=by have wa:decide ((w:Int) < 1) = true:=wa;have:=of_decide_eq_true wa;omega
    obtain rfl:w = 0:=by omega
    refine zG zE (NS.need (by kernel_rfl) ?_)
    refine zG zE (NS.call (hR M2 hx_M2 0) rfl ?_)
    refine zG zE (NS.no (rfl) ?_)
    refine zG zE (NS.ite (fun we=>?_) (fun we=>?_))
    ·have we:rdE M2 0 ≠ 0:=by have we:(rdE M2 0 != 0) = true:=we;simpa using we
     have wB:rdNs 1 M2 = none:=rdNs_bad (by decide) we
     refine zG zE (NS.leave rfl zE ?_)
     have hpn:parR L = none:=by rw [hpr];exact parI_bad2 (by rw [hkz];rfl) vN wB
     refine zG zE (NS.no (by show ((gt 0 2 (V L 0):Int) == 3) = false;exact hkq_3) ?_)
     rw [hF,hpn]
     exact zG zE (NS.ret rfl rfl (LeA.refl _))
    ·have we:rdE M2 0 = 0:=by have we:(rdE M2 0 != 0) = false:=we;simpa using we
     refine zG zE (NS.need (hS M2 hx_M2 0) ?_)
     refine zG zE (NS.next ⟨0 + 1,by omega,fun i hi=>by rcases Nat.lt_succ_iff_lt_or_eq.1 hi with h | h;exact wE i h;rw [h];exact we⟩ (by show 1 - (0 + 1) < 1 - 0;omega) ?_)
     exact weak_hd [] rfl ⟨rfl,rfl,rfl,rfl,trivial⟩ ⟨⟨_,rfl,_,_,rfl,ren_str rfl (hC M2 hx_M2 0),_,_,rfl,.inl rfl,rfl⟩,⟨_,rfl,_,_,rfl,rfl,_,_,rfl,rfl,_,_,rfl,rfl,_,_,rfl,rfl,_,_,rfl,rfl,_,_,rfl,rfl,_,_,rfl,rfl,_,_,rfl,rfl,_,_,rfl,rfl,_,_,rfl,rfl,_,_,rfl,.inl rfl,_,_,rfl,rfl,_,_,rfl,rfl,_,_,rfl,rfl,_,_,rfl,rfl,_,_,rfl,rfl,_,_,rfl,rfl,_,_,rfl,rfl,_,_,rfl,rfl,rfl⟩,trivial⟩ (Pre_cut (by kernel_rfl)) (by kernel_rfl)
   have wa:w = 1:=by have wa:decide ((w:Int) < 1) = false:=wa;have:=of_decide_eq_false wa;omega
   subst wa
   refine zG zE (NS.leave rfl zE ?_)
   have wN:rdNs 1 M2 = some ((List.range 1).map (V M2),M2.drop (rdP M2 1)):=hAll _ _ wE
   obtain ⟨M3,hM3⟩:∃ M,M2.drop (rdP M2 1) = M:=⟨_,rfl⟩
   rw [hM3] at wN
   have hx_M3:(∀ x ∈ M3,x < 256) /\ M3.length <= 65536:=by rw [<- hM3];exact ⟨fun x hx=>hx_M2.1 x (List.mem_of_mem_drop hx),by rw [List.length_drop];have:=hx_M2.2;omega⟩
   have hy_M3:bs (M2.drop (rdP M2 1)) = bs M3:=congrArg bs hM3
   obtain ⟨rec,hrec⟩:∃ rec:Jrec,⟨V L 0,.zero,⟨V M1 0,V M1 1,V M1 2,V M1 3,V M1 4⟩,V M2 0,V L 1⟩ = rec:=⟨_,rfl⟩
   have hcl:[A.int .i64 (V L 0),A.int .i64 0,A.int .i64 0,A.int .i64 0,A.int .i64 0,A.int .i64 0,A.int .i64 0,A.int .i64 0,A.int .i64 0,A.int .i64 0,A.bool false,A.str .empty,A.int .i64 (V M1 0),A.int .i64 (V M1 1),A.int .i64 (V M1 2),A.int .i64 (V M1 3),A.int .i64 (V M1 4),A.int .i64 (V M2 0),A.int .i64 (V L 1)] = rec.cells:=by rw [<- hrec];rfl
   have hok:parR L = if M3.isEmpty then okR rec else none:=by rw [hpr,<- hrec];exact parI_4' (by rw [hkz];rfl) vN wN
   refine zG zE (NS.no (by show ((gt 0 2 (V L 0):Int) == 3) = false;exact hkq_3) ?_)
   refine zG zE (NS.no (rfl) ?_)
   by_cases hz:M3 = []
   ·refine zG zE (NS.no (by show (!((bs (M2.drop (rdP M2 1))).toList == (⟨#[]⟩:ByteArray).toList)) = false;rw [hy_M3];exact emp_f hz) ?_)
    refine zG zE (NS.call ((jCheck_ok rec).le (LeL.cons (LeA.of (congrArg A.agg hcl)) LeL.nil)) rfl ?_)
    by_cases hrc:recErr rec = 0
    ·refine zG zE (NS.no (by show (recErr rec != 0) = false;rw [hrc];rfl) ?_)
     rw [hF,hok,if_pos (by rw [hz];rfl),okR_some hrc]
     exact zG zE (NS.ret rfl rfl (LeA.tup3 (LeA.of (congrArg A.agg hcl)) (LeA.refl _) (LeA.kb true)))
    ·refine zG zE (NS.yes (by show (recErr rec != 0) = true;simpa using hrc) ?_)
     rw [hF,hok,if_pos (by rw [hz];rfl),okR_none hrc]
     exact zG zE (NS.ret rfl rfl (LeA.refl _))
   ·refine zG zE (NS.yes (by show (!((bs (M2.drop (rdP M2 1))).toList == (⟨#[]⟩:ByteArray).toList)) = true;rw [hy_M3];exact emp_t hz) ?_)
    rw [hF,hok,if_neg (by intro h;exact hz (List.isEmpty_iff.1 h))]
    exact zG zE (NS.ret rfl rfl (LeA.refl _))
  ·refine zG zE (NS.no (by show ((gt 0 2 (V L 0):Int) == 1) = false;exact hkq_1) ?_)
   refine zG zE (NS.no (by show ((gt 0 2 (V L 0):Int) == 3) = false;exact hkq_3) ?_)
   refine zG zE (NS.chk (by kernel_rfl) ?_)
   refine zG zE ?_
   refine NS.loop (σ:={ k:Nat // k <= 5 /\ ∀ i,i < k -> rdE M1 i = 0 }) (fun k=>[(0,.ptr 21 0),(9,.ov 91 1 0 5),(10,.int .i64 5),(11,.int .i64 k.1)]) (fun k=>[(21,.box [.str (bs (M1.drop (rdP M1 k.1))),.bool false]),(46,.box [.int .i64 (V L 0),.int .i64 0,.int .i64 0,.int .i64 0,.int .i64 0,.int .i64 0,.int .i64 0,.int .i64 0,.int .i64 0,.int .i64 0,.bool false,.str .empty,.int .i64 (gt 0 k.1 (V M1 0)),.int .i64 (gt 1 k.1 (V M1 1)),.int .i64 (gt 2 k.1 (V M1 2)),.int .i64 (gt 3 k.1 (V M1 3)),.int .i64 (gt 4 k.1 (V M1 4)),.int .i64 0,.int .i64 (V L 1)])]) (fun k=>5 - k.1) ⟨0,by omega,fun i hi=>absurd hi (Nat.not_lt_zero _)⟩ ?_ ?_
   ·exact weak_hd [] rfl ⟨rfl,rfl,rfl,rfl,trivial⟩ ⟨⟨_,rfl,_,_,rfl,ren_str rfl hy_M1,_,_,rfl,.inl rfl,rfl⟩,⟨_,rfl,_,_,rfl,rfl,_,_,rfl,rfl,_,_,rfl,rfl,_,_,rfl,rfl,_,_,rfl,rfl,_,_,rfl,rfl,_,_,rfl,rfl,_,_,rfl,rfl,_,_,rfl,rfl,_,_,rfl,rfl,_,_,rfl,.inl rfl,_,_,rfl,rfl,_,_,rfl,rfl,_,_,rfl,rfl,_,_,rfl,rfl,_,_,rfl,rfl,_,_,rfl,rfl,_,_,rfl,rfl,_,_,rfl,rfl,rfl⟩,trivial⟩ (Pre_cut (by kernel_rfl)) (by kernel_rfl)
   rintro ⟨v,vl,vE⟩
   have vE:∀ i,i < v -> rdE M1 i = 0:=vE
   have vl:v <= 5:=vl
   refine zG zE (NS.ite (fun va=>?_) (fun va=>?_))
   ·have va:v < 5:=by have va:decide ((v:Int) < 5) = true:=va;have:=of_decide_eq_true va;omega
    rcases (by omega:v = 0 \/ v = 1 \/ v = 2 \/ v = 3 \/ v = 4) with rfl | rfl | rfl | rfl | rfl
    ·refine zG zE (NS.need (by kernel_rfl) ?_)
     refine zG zE (NS.call (hR M1 hx_M1 0) rfl ?_)
     refine zG zE (NS.no (rfl) ?_)
     refine zG zE (NS.ite (fun ve=>?_) (fun ve=>?_))
     ·have ve:rdE M1 0 ≠ 0:=by have ve:(rdE M1 0 != 0) = true:=ve;simpa using ve
      have vB:rdNs 5 M1 = none:=rdNs_bad (by decide) ve
      refine zG zE (NS.leave rfl zE ?_)
      have hpn:parR L = none:=parI_x' kN hkz vB
      refine zG zE (NS.no (by show ((gt 0 2 (V L 0):Int) == 4) = false;exact hkq_4) ?_)
      refine zG zE (NS.no (by show ((gt 0 2 (V L 0):Int) == 3) = false;exact hkq_3) ?_)
      rw [hF,hpn]
      exact zG zE (NS.ret rfl rfl (LeA.refl _))
     ·have ve:rdE M1 0 = 0:=by have ve:(rdE M1 0 != 0) = false:=ve;simpa using ve
      refine zG zE (NS.need (hS M1 hx_M1 0) ?_)
      refine zG zE (NS.next ⟨0 + 1,by omega,fun i hi=>by rcases Nat.lt_succ_iff_lt_or_eq.1 hi with h | h;exact vE i h;rw [h];exact ve⟩ (by show 5 - (0 + 1) < 5 - 0;omega) ?_)
      exact weak_hd [] rfl ⟨rfl,rfl,rfl,rfl,trivial⟩ ⟨⟨_,rfl,_,_,rfl,ren_str rfl (hC M1 hx_M1 0),_,_,rfl,.inl rfl,rfl⟩,⟨_,rfl,_,_,rfl,rfl,_,_,rfl,rfl,_,_,rfl,rfl,_,_,rfl,rfl,_,_,rfl,rfl,_,_,rfl,rfl,_,_,rfl,rfl,_,_,rfl,rfl,_,_,rfl,rfl,_,_,rfl,rfl,_,_,rfl,.inl rfl,_,_,rfl,rfl,_,_,rfl,rfl,_,_,rfl,rfl,_,_,rfl,rfl,_,_,rfl,rfl,_,_,rfl,rfl,_,_,rfl,rfl,_,_,rfl,rfl,rfl⟩,trivial⟩ (Pre_cut (by kernel_rfl)) (by kernel_rfl)
    ·refine zG zE (NS.need (by kernel_rfl) ?_)
     refine zG zE (NS.call (hR M1 hx_M1 1) rfl ?_)
     refine zG zE (NS.no (rfl) ?_)
     refine zG zE (NS.ite (fun ve=>?_) (fun ve=>?_))
     ·have ve:rdE M1 1 ≠ 0:=by have ve:(rdE M1 1 != 0) = true:=ve;simpa using ve
      have vB:rdNs 5 M1 = none:=rdNs_bad (by decide) ve
      refine zG zE (NS.leave rfl zE ?_)
      have hpn:parR L = none:=parI_x' kN hkz vB
      refine zG zE (NS.no (by show ((gt 0 2 (V L 0):Int) == 4) = false;exact hkq_4) ?_)
      refine zG zE (NS.no (by show ((gt 0 2 (V L 0):Int) == 3) = false;exact hkq_3) ?_)
      rw [hF,hpn]
      exact zG zE (NS.ret rfl rfl (LeA.refl _))
     ·have ve:rdE M1 1 = 0:=by have ve:(rdE M1 1 != 0) = false:=ve;simpa using ve
      refine zG zE (NS.need (hS M1 hx_M1 1) ?_)
      refine zG zE (NS.next ⟨1 + 1,by omega,fun i hi=>by rcases Nat.lt_succ_iff_lt_or_eq.1 hi with h | h;exact vE i h;rw [h];exact ve⟩ (by show 5 - (1 + 1) < 5 - 1;omega) ?_)
      exact weak_hd [] rfl ⟨rfl,rfl,rfl,rfl,trivial⟩ ⟨⟨_,rfl,_,_,rfl,ren_str rfl (hC M1 hx_M1 1),_,_,rfl,.inl rfl,rfl⟩,⟨_,rfl,_,_,rfl,rfl,_,_,rfl,rfl,_,_,rfl,rfl,_,_,rfl,rfl,_,_,rfl,rfl,_,_,rfl,rfl,_,_,rfl,rfl,_,_,rfl,rfl,_,_,rfl,rfl,_,_,rfl,rfl,_,_,rfl,.inl rfl,_,_,rfl,rfl,_,_,rfl,rfl,_,_,rfl,rfl,_,_,rfl,rfl,_,_,rfl,rfl,_,_,rfl,rfl,_,_,rfl,rfl,_,_,rfl,rfl,rfl⟩,trivial⟩ (Pre_cut (by kernel_rfl)) (by kernel_rfl)
    ·refine zG zE (NS.need (by kernel_rfl) ?_)
     refine zG zE (NS.call (hR M1 hx_M1 2) rfl ?_)
     refine zG zE (NS.no (rfl) ?_)
     refine zG zE (NS.ite (fun ve=>?_) (fun ve=>?_))
     ·have ve:rdE M1 2 ≠ 0:=by have ve:(rdE M1 2 != 0) = true:=ve;simpa using ve
      have vB:rdNs 5 M1 = none:=rdNs_bad (by decide) ve
      refine zG zE (NS.leave rfl zE ?_)
      have hpn:parR L = none:=parI_x' kN hkz vB
      refine zG zE (NS.no (by show ((gt 0 2 (V L 0):Int) == 4) = false;exact hkq_4) ?_)
      refine zG zE (NS.no (by show ((gt 0 2 (V L 0):Int) == 3) = false;exact hkq_3) ?_)
      rw [hF,hpn]
      exact zG zE (NS.ret rfl rfl (LeA.refl _))
     ·have ve:rdE M1 2 = 0:=by have ve:(rdE M1 2 != 0) = false:=ve;simpa using ve
      refine zG zE (NS.need (hS M1 hx_M1 2) ?_)
      refine zG zE (NS.next ⟨2 + 1,by omega,fun i hi=>by rcases Nat.lt_succ_iff_lt_or_eq.1 hi with h | h;exact vE i h;rw [h];exact ve⟩ (by show 5 - (2 + 1) < 5 - 2;omega) ?_)
      exact weak_hd [] rfl ⟨rfl,rfl,rfl,rfl,trivial⟩ ⟨⟨_,rfl,_,_,rfl,ren_str rfl (hC M1 hx_M1 2),_,_,rfl,.inl rfl,rfl⟩,⟨_,rfl,_,_,rfl,rfl,_,_,rfl,rfl,_,_,rfl,rfl,_,_,rfl,rfl,_,_,rfl,rfl,_,_,rfl,rfl,_,_,rfl,rfl,_,_,rfl,rfl,_,_,rfl,rfl,_,_,rfl,rfl,_,_,rfl,.inl rfl,_,_,rfl,rfl,_,_,rfl,rfl,_,_,rfl,rfl,_,_,rfl,rfl,_,_,rfl,rfl,_,_,rfl,rfl,_,_,rfl,rfl,_,_,rfl,rfl,rfl⟩,trivial⟩ (Pre_cut (by kernel_rfl)) (by kernel_rfl)
    ·refine zG zE (NS.need (by kernel_rfl) ?_)
     refine zG zE (NS.call (hR M1 hx_M1 3) rfl ?_)
     refine zG zE (NS.no (rfl) ?_)
     refine zG zE (NS.ite (fun ve=>?_) (fun ve=>?_))
     ·have ve:rdE M1 3 ≠ 0:=by have ve:(rdE M1 3 != 0) = true:=ve;simpa using ve
      have vB:rdNs 5 M1 = none:=rdNs_bad (by decide) ve
      refine zG zE (NS.leave rfl zE ?_)
      have hpn:parR L = none:=parI_x' kN hkz vB
      refine zG zE (NS.no (by show ((gt 0 2 (V L 0):Int) == 4) = false;exact hkq_4) ?_)
      refine zG zE (NS.no (by show ((gt 0 2 (V L 0):Int) == 3) = false;exact hkq_3) ?_)
      rw [hF,hpn]
      exact zG zE (NS.ret rfl rfl (LeA.refl _))
     ·have ve:rdE M1 3 = 0:=by have ve:(rdE M1 3 != 0) = false:=ve;simpa using ve
      refine zG zE (NS.need (hS M1 hx_M1 3) ?_)
      refine zG zE (NS.next ⟨3 + 1,by omega,fun i hi=>by rcases Nat.lt_succ_iff_lt_or_eq.1 hi with h | h;exact vE i h;rw [h];exact ve⟩ (by show 5 - (3 + 1) < 5 - 3;omega) ?_)
      exact weak_hd [] rfl ⟨rfl,rfl,rfl,rfl,trivial⟩ ⟨⟨_,rfl,_,_,rfl,ren_str rfl (hC M1 hx_M1 3),_,_,rfl,.inl rfl,rfl⟩,⟨_,rfl,_,_,rfl,rfl,_,_,rfl,rfl,_,_,rfl,rfl,_,_,rfl,rfl,_,_,rfl,rfl,_,_,rfl,rfl,_,_,rfl,rfl,_,_,rfl,rfl,_,_,rfl,rfl,_,_,rfl,rfl,_,_,rfl,.inl rfl,_,_,rfl,rfl,_,_,rfl,rfl,_,_,rfl,rfl,_,_,rfl,rfl,_,_,rfl,rfl,_,_,rfl,rfl,_,_,rfl,rfl,_,_,rfl,rfl,rfl⟩,trivial⟩ (Pre_cut (by kernel_rfl)) (by kernel_rfl)
    ·refine zG zE (NS.need (by kernel_rfl) ?_)
     refine zG zE (NS.call (hR M1 hx_M1 4) rfl ?_)
     refine zG zE (NS.no (rfl) ?_)
     refine zG zE (NS.ite (fun ve=>?_) (fun ve=>?_))
     ·have ve:rdE M1 4 ≠ 0:=by have ve:(rdE M1 4 != 0) = true:=ve;simpa using ve
      have vB:rdNs 5 M1 = none:=rdNs_bad (by decide) ve
      refine zG zE (NS.leave rfl zE ?_)
      have hpn:parR L = none:=parI_x' kN hkz vB
      refine zG zE (NS.no (by show ((gt 0 2 (V L 0):Int) == 4) = false;exact hkq_4) ?_)
      refine zG zE (NS.no (by show ((gt 0 2 (V L 0):Int) == 3) = false;exact hkq_3) ?_)
      rw [hF,hpn]
      exact zG zE (NS.ret rfl rfl (LeA.refl _))
     ·have ve:rdE M1 4 = 0:=by have ve:(rdE M1 4 != 0) = false:=ve;simpa using ve
      refine zG zE (NS.need (hS M1 hx_M1 4) ?_)
      refine zG zE (NS.next ⟨4 + 1,by omega,fun i hi=>by rcases Nat.lt_succ_iff_lt_or_eq.1 hi with h | h;exact vE i h;rw [h];exact ve⟩ (by show 5 - (4 + 1) < 5 - 4;omega) ?_)
      exact weak_hd [] rfl ⟨rfl,rfl,rfl,rfl,trivial⟩ ⟨⟨_,rfl,_,_,rfl,ren_str rfl (hC M1 hx_M1 4),_,_,rfl,.inl rfl,rfl⟩,⟨_,rfl,_,_,rfl,rfl,_,_,rfl,rfl,_,_,rfl,rfl,_,_,rfl,rfl,_,_,rfl,rfl,_,_,rfl,rfl,_,_,rfl,rfl,_,_,rfl,rfl,_,_,rfl,rfl,_,_,rfl,rfl,_,_,rfl,.inl rfl,_,_,rfl,rfl,_,_,rfl,rfl,_,_,rfl,rfl,_,_,rfl,rfl,_,_,rfl,rfl,_,_,rfl,rfl,_,_,rfl,rfl,_,_,rfl,rfl,rfl⟩,trivial⟩ (Pre_cut (by kernel_rfl)) (by kernel_rfl)
   have va:v = 5:=by have va:decide ((v:Int) < 5) = false:=va;have:=of_decide_eq_false va;omega
   subst va
   refine zG zE (NS.leave rfl zE ?_)
   have vN:rdNs 5 M1 = some ((List.range 5).map (V M1),M1.drop (rdP M1 5)):=hAll _ _ vE
   obtain ⟨M2,hM2⟩:∃ M,M1.drop (rdP M1 5) = M:=⟨_,rfl⟩
   rw [hM2] at vN
   have hx_M2:(∀ x ∈ M2,x < 256) /\ M2.length <= 65536:=by rw [<- hM2];exact ⟨fun x hx=>hx_M1.1 x (List.mem_of_mem_drop hx),by rw [List.length_drop];have:=hx_M1.2;omega⟩
   have hy_M2:bs (M1.drop (rdP M1 5)) = bs M2:=congrArg bs hM2
   refine zG zE (NS.no (by show ((gt 0 2 (V L 0):Int) == 4) = false;exact hkq_4) ?_)
   obtain ⟨rec,hrec⟩:∃ rec:Jrec,⟨V L 0,.zero,⟨V M1 0,V M1 1,V M1 2,V M1 3,V M1 4⟩,0,V L 1⟩ = rec:=⟨_,rfl⟩
   have hcl:[A.int .i64 (V L 0),A.int .i64 0,A.int .i64 0,A.int .i64 0,A.int .i64 0,A.int .i64 0,A.int .i64 0,A.int .i64 0,A.int .i64 0,A.int .i64 0,A.bool false,A.str .empty,A.int .i64 (V M1 0),A.int .i64 (V M1 1),A.int .i64 (V M1 2),A.int .i64 (V M1 3),A.int .i64 (V M1 4),A.int .i64 0,A.int .i64 (V L 1)] = rec.cells:=by rw [<- hrec];rfl
   have hok:parR L = if M2.isEmpty then okR rec else none:=by rw [<- hrec];exact parI_2' kN hkz vN
   refine zG zE (NS.no (by show ((gt 0 2 (V L 0):Int) == 3) = false;exact hkq_3) ?_)
   refine zG zE (NS.no (rfl) ?_)
   by_cases hz:M2 = []
   ·refine zG zE (NS.no (by show (!((bs (M1.drop (rdP M1 5))).toList == (⟨#[]⟩:ByteArray).toList)) = false;rw [hy_M2];exact emp_f hz) ?_)
    refine zG zE (NS.call ((jCheck_ok rec).le (LeL.cons (LeA.of (congrArg A.agg hcl)) LeL.nil)) rfl ?_)
    by_cases hrc:recErr rec = 0
    ·refine zG zE (NS.no (by show (recErr rec != 0) = false;rw [hrc];rfl) ?_)
     rw [hF,hok,if_pos (by rw [hz];rfl),okR_some hrc]
     exact zG zE (NS.ret rfl rfl (LeA.tup3 (LeA.of (congrArg A.agg hcl)) (LeA.refl _) (LeA.kb true)))
    ·refine zG zE (NS.yes (by show (recErr rec != 0) = true;simpa using hrc) ?_)
     rw [hF,hok,if_pos (by rw [hz];rfl),okR_none hrc]
     exact zG zE (NS.ret rfl rfl (LeA.refl _))
   ·refine zG zE (NS.yes (by show (!((bs (M1.drop (rdP M1 5))).toList == (⟨#[]⟩:ByteArray).toList)) = true;rw [hy_M2];exact emp_t hz) ?_)
    rw [hF,hok,if_neg (by intro h;exact hz (List.isEmpty_iff.1 h))]
    exact zG zE (NS.ret rfl rfl (LeA.refl _))
  -- WALK ENDS
 ·have hf:fstJ (ls s) = none:=by unfold fstJ;rw [if_pos (by simpa using he)]
  rw [hf]
  refine zG zE (NS.yes (by show ((opL (ls s)).2.2 != 0) = true;simpa using he) ?_)
  exact zG zE (NS.ret rfl rfl (LeA.refl _))
end Go.Proofs.YtggjngbighkdgaaGreat
