import Derived.Test.YtjhmdfofhnijeaaGreatDoorN1
import Derived.Lib.AppendStr
import Derived.Lib.UnsafeStr
import Derived.WalkKit
import Derived.BigCall
set_option linter.unusedSimpArgs false
set_option linter.unusedSectionVars false
set_option linter.unusedVariables false
namespace Go.Proofs
open Go.RowKit
theorem Tryz.bX:Builder.Extra Tryz.prog Tryz.ly169_ren where
 sizeBuilder:=by kernel_rfl
 liesBuilder:=by kernel_rfl
 t5:=Tryz.underlying5
 a5:=Tryz.isAgg5
 z5:=Tryz.sizeOf5
 v5:=Tryz.zeroValue5
 infoByte:=by kernel_rfl
 cellsByte:=by kernel_rfl
 sizeByte:=by kernel_rfl
 neB5:=by decide
set_option maxHeartbeats 1000000 in
set_option maxRecDepth 100000 in
theorem Tryz.copyCheck_w (B b:Nat) (xs:List Value) (w:World) (h:Lib.IsBuilder 514 5 B b xs w):
  Calls Tryz.prog 396 #[.pointer (some ⟨b,0,none⟩)] w fun e w'=>e = .returned (.tuple #[]) /\ Lib.BuilderAt 514 5 B b (.pointer (some ⟨b,0,none⟩)) xs w' /\ Below B w w':=by
 obtain ⟨j,hj,hjs⟩:=Option.map_eq_some_iff.1 Tryz.bX.sizeBuilder
 have u70:=Tryz.underlying511
 rcases h with h | h
 ·have h0:=h.cell0
  have hsh:=h.shape
  have hfz:=h.frozen0
  go_enter Tryz.func396,Tryz.ntmps396
  go_wp2
  rw [Lib.run_to_unsafe w ⟨b,0,none⟩ Tryz.underlying511 Tryz.underlying654 hj (by rw [hjs];decide) hsh (Nat.zero_lt_succ 1)]
  simp only [Result.andThen]
  rw [Oper.upon_value]
  go_wp2
  rw [run_callFunc_extern Tryz.func462 (by kernel_rfl) (by kernel_rfl) (by kernel_rfl) (e:=Extern.AbiNoEscape.same) (by kernel_rfl)]
  rw [Lib.run_noEscape]
  simp only [Result.andThen]
  rw [Oper.upon_value]
  go_wp2
  rw [Lib.run_from_unsafe w ⟨b,0,none⟩ Tryz.underlying654 Tryz.underlying511 hj hsh Tryz.bX.liesBuilder]
  simp only [Result.andThen]
  rw [Oper.upon_value]
  go_wp2
  go_end0
  exact ⟨rfl,h.used _,(Below.refl B w).setCell (p:=⟨b,0,none⟩) h.1 _⟩
 ·have h0:=h.cell0
  go_enter Tryz.func396,Tryz.ntmps396
  go_wp2
  rw [Lib.run_neq_ptr_same w _ Tryz.underlying511 hj]
  go_wp2
  go_end0
  exact ⟨rfl,h,Below.refl B w⟩
set_option maxHeartbeats 2000000 in
set_option maxRecDepth 100000 in
theorem Tryz.writeString_w (B b:Nat) (xs:List Value) (s:ByteArray) (w:World) (h:Lib.IsBuilder 514 5 B b xs w) (hlen:xs.length + s.size <= 140737488355328) (hBw:B <= w.heap.size):
  Calls Tryz.prog 336 #[.pointer (some ⟨b,0,none⟩),.string s] w fun e w'=>e = .returned (.tuple #[.int .i64 s.size,.nilIface]) /\ Lib.BuilderAt 514 5 B b (.pointer (some ⟨b,0,none⟩)) (xs ++ Lib.strCells s) w' /\ Below B w w':=by
 obtain ⟨i0,hi,hz0,hz1,hz2⟩:=info_parts Tryz.bX.infoByte
 go_enter Tryz.func336,Tryz.ntmps336
 go_wp2_with (go_at_call 396;refine (Tryz.copyCheck_w B b xs _ h).mono ?_)
 rintro e w1 ⟨rfl,h1,hb1⟩
 obtain ⟨hB,v,hbk,hown,hne⟩:=h1
 have c0:w1.cell? ⟨b,0,none⟩ = some (.pointer (some ⟨b,0,none⟩)):=by rw [Lib.cell_of_heap hbk];rfl
 have c1:w1.cell? ⟨b,1,none⟩ = some v:=by rw [Lib.cell_of_heap hbk];rfl
 go_wp2_with (at_builtin;refine Lib.wpList_append_own_string _ rfl _ _ 512 9 rfl B 5 i0 Tryz.underlying512 Tryz.underlying9 hi hz0 hz1 hz2 _ _ _ rfl hown s rfl ?c3 ?c4 ?c5 ?_)
 case c3=>unfold maxLen;omega
 case c4=>omega
 case c5=>have:=hb1.size;omega
 intro v' w2 hown' hgrow _
 have hlt:b < w1.heap.size:=by
  rcases Nat.lt_or_ge b w1.heap.size with h' | h'
  ·exact h'
  ·simp [Array.getElem?_eq_none h'] at hbk
 have hb2:w2.heap[b]? = some (.cells #[.pointer (some ⟨b,0,none⟩),v] 514 (0,0)):=by
  rw [hgrow.block b hlt (fun e=>hne e.symm)]
  exact hbk
 have d0:w2.cell? ⟨b,0,none⟩ = some (.pointer (some ⟨b,0,none⟩)):=by rw [Lib.cell_of_heap hb2];rfl
 have d1:w2.cell? ⟨b,1,none⟩ = some v:=by rw [Lib.cell_of_heap hb2];rfl
 have f1:w2.frozen? ⟨b,1,none⟩ = false:=Lib.frozen_of_heap hb2 1
 obtain ⟨ao,n',cap,rfl⟩:∃ ao n' cap,v' = .slice ao n' cap:=by
  rcases hown'.2 with ⟨hv,_⟩ | ⟨g,cap,cur,hv,_⟩
  ·exact ⟨_,_,_,hv⟩
  ·exact ⟨_,_,_,hv⟩
 go_wp2
 go_ret2
 refine ⟨rfl,?_,?_⟩
 ·exact Lib.BuilderAt.put (T:=514) (e:=5) hB hb2 (bs':=xs ++ Lib.strCells s) (by simpa [Lib.strCells_length] using hown') Tryz.bX.neB5
 ·exact (hb1.grown hgrow (by have:=hb1.size;omega) (fun k hk=>(hown.lt k hk).1)).setCell (p:=⟨b,1,none⟩) hB _
end Go.Proofs
namespace Go.Mb
open Go.Sy
section
variable {α:Type} [Inhabited α]
end
structure Nid where
 source:Int
 created:Int
 seq:Int
 off:Int
 total:Int
structure Itm where
 ticket:Int
 id:Nid
 dest:Int
 expires:Int
 prio:Int
 custody:Bool
 data:ByteArray
structure Jrec where
 kind:Int
 item:Itm
 id:Nid
 ticket:Int
 time:Int
structure Dur where
 items:List Itm
 inbox:List Itm
def Nid.zero:Nid:=⟨0,0,0,0,0⟩
def Itm.zero:Itm:=⟨0,.zero,0,0,0,false,⟨#[]⟩⟩
def Jrec.zero:Jrec:=⟨0,.zero,.zero,0,0⟩
instance:Inhabited Nid:=⟨.zero⟩
instance:Inhabited Itm:=⟨.zero⟩
instance:Inhabited Jrec:=⟨.zero⟩
def Nid.cells (x:Nid):List A:=[.int .i64 x.source,.int .i64 x.created,.int .i64 x.seq,.int .i64 x.off,.int .i64 x.total]
def Itm.cells (x:Itm):List A:=[.int .i64 x.ticket,.int .i64 x.id.source,.int .i64 x.id.created,.int .i64 x.id.seq,.int .i64 x.id.off,.int .i64 x.id.total,.int .i64 x.dest,.int .i64 x.expires,.int .i64 x.prio,.bool x.custody,.str x.data]
def Jrec.cells (x:Jrec):List A:=[.int .i64 x.kind,.int .i64 x.item.ticket,.int .i64 x.item.id.source,.int .i64 x.item.id.created,.int .i64 x.item.id.seq,.int .i64 x.item.id.off,.int .i64 x.item.id.total,.int .i64 x.item.dest,.int .i64 x.item.expires,.int .i64 x.item.prio,.bool x.item.custody,.str x.item.data,
 .int .i64 x.id.source,.int .i64 x.id.created,.int .i64 x.id.seq,.int .i64 x.id.off,.int .i64 x.id.total,.int .i64 x.ticket,.int .i64 x.time]
def slI (l:List Itm):A:=.sl 11 l.length (rowL Itm.cells l)
def slR (l:List Jrec):A:=.sl 19 l.length (rowL Jrec.cells l)
def Dur.cells (d:Dur):List A:=[slI d.items,slI d.inbox]
def Nid.eqv (a b:Nid):Bool:=a.source == b.source && (a.created == b.created && (a.seq == b.seq && (a.off == b.off && (a.total == b.total && true))))
def Itm.eqv (a b:Itm):Bool:=a.ticket == b.ticket && (a.id.source == b.id.source && (a.id.created == b.id.created && (a.id.seq == b.id.seq && (a.id.off == b.id.off && (a.id.total == b.id.total && (a.dest == b.dest && (a.expires == b.expires && (a.prio == b.prio && (a.custody == b.custody && (a.data.toList == b.data.toList && true))))))))))
def Jrec.eqv (a b:Jrec):Bool:=a.kind == b.kind && (a.item.ticket == b.item.ticket && (a.item.id.source == b.item.id.source && (a.item.id.created == b.item.id.created && (a.item.id.seq == b.item.id.seq && (a.item.id.off == b.item.id.off && (a.item.id.total == b.item.id.total && (a.item.dest == b.item.dest && (a.item.expires == b.item.expires && (a.item.prio == b.item.prio && (a.item.custody == b.item.custody && (a.item.data.toList == b.item.data.toList && (a.id.source == b.id.source && (a.id.created == b.id.created && (a.id.seq == b.id.seq && (a.id.off == b.id.off && (a.id.total == b.id.total && (a.ticket == b.ticket && (a.time == b.time && true))))))))))))))))))
theorem Nid.eqv_iff {a b:Nid}:a.eqv b = true ↔ a = b:=by
 cases a;cases b;simp [Nid.eqv]
theorem Itm.eqv_iff {a b:Itm}:a.eqv b = true ↔ a = b:=by
 obtain ⟨t,⟨i1,i2,i3,i4,i5⟩,d,e,p,c,x⟩:=a
 obtain ⟨t',⟨i1',i2',i3',i4',i5'⟩,d',e',p',c',x'⟩:=b
 simp only [Itm.eqv,Bool.and_eq_true,beq_iff_eq,ba_inj,Itm.mk.injEq,Nid.mk.injEq,and_true]
 constructor
 ·rintro ⟨h1,h2,h3,h4,h5,h6,h7,h8,h9,h10,h11⟩;exact ⟨h1,⟨h2,h3,h4,h5,h6⟩,h7,h8,h9,h10,h11⟩
 ·rintro ⟨h1,⟨h2,h3,h4,h5,h6⟩,h7,h8,h9,h10,h11⟩;exact ⟨h1,h2,h3,h4,h5,h6,h7,h8,h9,h10,h11⟩
theorem Jrec.eqv_iff {a b:Jrec}:a.eqv b = true ↔ a = b:=by
 obtain ⟨k,⟨t,⟨i1,i2,i3,i4,i5⟩,d,e,p,c,x⟩,⟨j1,j2,j3,j4,j5⟩,tk,tm⟩:=a
 obtain ⟨k',⟨t',⟨i1',i2',i3',i4',i5'⟩,d',e',p',c',x'⟩,⟨j1',j2',j3',j4',j5'⟩,tk',tm'⟩:=b
 simp only [Jrec.eqv,Bool.and_eq_true,beq_iff_eq,ba_inj,Jrec.mk.injEq,Itm.mk.injEq,Nid.mk.injEq,and_true]
 constructor
 ·rintro ⟨h0,h1,h2,h3,h4,h5,h6,h7,h8,h9,h10,h11,g1,g2,g3,g4,g5,g6,g7⟩;exact ⟨h0,⟨h1,⟨h2,h3,h4,h5,h6⟩,h7,h8,h9,h10,h11⟩,⟨g1,g2,g3,g4,g5⟩,g6,g7⟩
 ·rintro ⟨h0,⟨h1,⟨h2,h3,h4,h5,h6⟩,h7,h8,h9,h10,h11⟩,⟨g1,g2,g3,g4,g5⟩,g6,g7⟩;exact ⟨h0,h1,h2,h3,h4,h5,h6,h7,h8,h9,h10,h11,g1,g2,g3,g4,g5,g6,g7⟩
def validId (x:Nid):Bool:=
 inR x.source 0 15 && inR x.created 0 1099511627776 && inR x.seq 0 1099511627776 && ((x.off == 0 && x.total == 0) || (inR x.total 1 4096 && inR x.off 0 (IntKind.i64.wrap (x.total - 1))))
def itemErr (x:Itm):Int:=
 if validId x.id && inR x.ticket 0 1152921504606846976 && inR x.dest 0 15 && inR x.expires 1 1099511627776 && inR x.prio 0 2 then (if inR x.data.size 1 65536 then 0 else 4) else 2
def recErr (r:Jrec):Int:=
 if inR r.kind 1 4 then
  (if inR r.time 0 1099511627776 then
   (if r.kind == 1 || r.kind == 3 then
    (if itemErr r.item != 0 then itemErr r.item else if !r.id.eqv .zero || r.ticket != 0 then 1 else 0)
   else if !validId r.id || (r.kind == 4 && !inR r.ticket 0 1152921504606846976) then 2
   else if !r.item.eqv .zero || (r.kind == 2 && r.ticket != 0) then 1 else 0)
  else 2)
 else 8
end Go.Mb
namespace Go.Mb
open Go.Sy
def ls (s:ByteArray):List Nat:=s.data.toList.map UInt8.toNat
def bs (l:List Nat):ByteArray:=⟨(l.map UInt8.ofNat).toArray⟩
theorem ls_len (s:ByteArray):(ls s).length = s.size:=by simp [ls]
theorem bs_ls (s:ByteArray):bs (ls s) = s:=by
 obtain ⟨⟨l⟩⟩:=s
 simp [bs,ls,Function.comp_def]
theorem ls_bs {l:List Nat} (h:∀ x ∈ l,x < 256):ls (bs l) = l:=by
 simp only [ls,bs,List.map_map]
 rw [List.map_congr_left (g:=id) (fun x hx=>by simp [Nat.mod_eq_of_lt (h x hx)])]
 simp
theorem bs_len (l:List Nat):(bs l).size = l.length:=by
 have:(bs l).size = (bs l).data.size:=rfl
 rw [this];simp [bs]
theorem ls_append (a b:ByteArray):ls (a ++ b) = ls a ++ ls b:=by simp [ls,ByteArray.data_append]
theorem bs_append (a b:List Nat):bs (a ++ b) = bs a ++ bs b:=by
 have:(bs a ++ bs b).data = (bs a).data ++ (bs b).data:=ByteArray.data_append
 have e:bs (a ++ b) = ⟨(bs a).data ++ (bs b).data⟩:=by simp [bs]
 rw [e,<- this]
theorem ls_lt (s:ByteArray):∀ x ∈ ls s,x < 256:=by
 intro x hx
 simp only [ls,List.mem_map] at hx
 obtain ⟨y,_,rfl⟩:=hx
 exact y.toNat_lt
theorem ls_get (s:ByteArray) (i:Nat):(s.data.toList.getD i 0).toNat = (ls s).getD i 0:=by
 simp only [ls,List.getD,List.getElem?_map]
 cases s.data.toList[i]? <;> rfl
def bC (n:Nat):List A:=[.int .u8 (n:Int)]
theorem bytesOf_row (l:List Nat):bytesOf (rowL bC l) l.length = bs l:=by
 unfold bytesOf bs
 congr 2
 apply List.ext_getElem
 ·simp
 ·intro i h1 h2
  simp only [List.length_map,List.length_range] at h1
  simp [rowL,bC,getA,u8Of,h1]
theorem allN_row {f:Nat -> Bool}:∀ {n:Nat},(∀ i,i < n -> f i = true) -> allN f n = true
 | 0,_=>rfl
 | n + 1,h=>by simp only [allN,Bool.and_eq_true];exact ⟨allN_row fun i hi=>h i (by omega),h n (by omega)⟩
def preF:Nat -> Nat -> List Nat
 | 0,_=>[]
 | f + 1,m=>if m = 0 then [] else preF f (m / 128) ++ [m % 128 + 128]
def pre (m:Nat):List Nat:=preF m m
theorem preF_eq:∀ {f m:Nat},m <= f -> ∀ {g:Nat},m <= g -> preF f m = preF g m
 | 0,m,h,g,h'=>by
  obtain rfl:m = 0:=by omega
  cases g <;> rfl
 | f + 1,m,h,0,h'=>by
  obtain rfl:m = 0:=by omega
  rfl
 | f + 1,m,h,g + 1,h'=>by
  simp only [preF]
  by_cases hm:m = 0
  ·rw [if_pos hm,if_pos hm]
  ·rw [if_neg hm,if_neg hm,preF_eq (f:=f) (m:=m / 128) (by omega) (g:=g) (by omega)]
def encZ (z:Nat):List Nat:=pre (z / 128) ++ [z % 128]
theorem pre_zero:pre 0 = []:=rfl
theorem pre_pos {m:Nat} (h:m ≠ 0):pre m = pre (m / 128) ++ [m % 128 + 128]:=by
 obtain ⟨k,rfl⟩:∃ k,m = k + 1:=⟨m - 1,by omega⟩
 show preF (k + 1) (k + 1) = preF _ _ ++ _
 simp only [preF]
 rw [if_neg h,preF_eq (f:=k) (m:=(k + 1) / 128) (by omega) (g:=(k + 1) / 128) (Nat.le_refl _)]
theorem pre_snoc {m c:Nat} (hc:c < 128) (h:m * 128 + c ≠ 0):pre (m * 128 + c) = pre m ++ [c + 128]:=by
 rw [pre_pos h,show (m * 128 + c) / 128 = m by omega,show (m * 128 + c) % 128 = c by omega]
theorem pre_mem:∀ (m:Nat),∀ x ∈ pre m,128 <= x /\ x < 256:=by
 intro m
 induction m using Nat.strongRecOn with
 | ind m ih=>
  by_cases h:m = 0
  ·subst h;simp [pre_zero]
  ·rw [pre_pos h]
   intro x hx
   rcases List.mem_append.1 hx with hx | hx
   ·exact ih (m / 128) (by omega) x hx
   ·rw [List.mem_singleton.1 hx];omega
theorem pre_len:∀ (k m:Nat),m < 128 ^ k -> (pre m).length <= k
 | 0,m,h=>by
  have:m = 0:=by simpa using h
  subst this;simp [pre_zero]
 | k + 1,m,h=>by
  by_cases hm:m = 0
  ·subst hm;simp [pre_zero]
  ·rw [pre_pos hm]
   have:m / 128 < 128 ^ k:=by rw [Nat.pow_succ] at h;exact Nat.div_lt_of_lt_mul (by rw [Nat.mul_comm];exact h)
   have:=pre_len k (m / 128) this
   simp;omega
theorem encZ_mem {z x:Nat} (h:x ∈ encZ z):x < 256:=by
 rcases List.mem_append.1 h with h | h
 ·exact (pre_mem _ x h).2
 ·rw [List.mem_singleton.1 h];omega
theorem encZ_len {z:Nat} (h:z < 2 ^ 62):(encZ z).length <= 9:=by
 have:=pre_len 8 (z / 128) (by omega)
 simp [encZ];omega
theorem encZ_ne (z:Nat):encZ z ≠ []:=by simp [encZ]
def inI (n:Int):Bool:=decide (n >= -1152921504606846976) && decide (n <= 1152921504606846976)
def zig (n:Int):Nat:=if n < 0 then (-2 * n - 1).toNat else (2 * n).toNat
def unz (m:Nat):Int:=if m % 2 = 1 then -((m / 2:Nat):Int) - 1 else ((m / 2:Nat):Int)
theorem inI_iff {n:Int}:inI n = true ↔ -1152921504606846976 <= n /\ n <= 1152921504606846976:=by simp [inI]
theorem zig_lt {n:Int} (h:inI n = true):zig n <= 2 ^ 61:=by
 rw [inI_iff] at h;unfold zig;split <;> omega
theorem zig_unz (m:Nat):zig (unz m) = m:=by
 unfold zig unz
 split <;> split <;> omega
def encI (n:Int):List Nat:=encZ (zig n)
def intM (n:Int):ByteArray × Int:=if inI n then (bs (encI n),0) else (.empty,2)
def rdZ:Nat -> List Nat -> Nat -> Nat -> Int × Nat × Nat
 | 0,_,_,_=>(11,0,0)
 | _ + 1,[],_,_=>(12,0,0)
 | f + 1,c :: l,m,k=>if c < 128 then (0,m * 128 + c,k + 1) else rdZ f l (m * 128 + (c - 128)) (k + 1)
def rdI (l:List Nat):Int × Nat × Int:=
 let r:=rdZ 9 l 0 0
 if r.1 != 0 then (0,0,r.1) else if l.getD 0 0 == 128 || !inI (unz r.2.1) then (0,0,11) else (unz r.2.1,r.2.2,0)
theorem rdZ_ok:∀ {f:Nat} {l:List Nat} {m k z q:Nat},rdZ f l m k = (0,z,q) -> k < q /\ q <= k + l.length /\ q <= k + f
 | 0,l,m,k,z,q,h=>by simp [rdZ] at h
 | f + 1,[],m,k,z,q,h=>by simp [rdZ] at h
 | f + 1,c :: l,m,k,z,q,h=>by
  rw [rdZ] at h
  split at h
  ·simp only [Prod.mk.injEq,true_and] at h;simp;omega
  ·have:=rdZ_ok h;simp;omega
theorem rdZ_back:∀ {f:Nat} {l:List Nat} {m k z q:Nat},(∀ x ∈ l,x < 256) -> (m ≠ 0 \/ l.getD 0 0 ≠ 128) -> rdZ f l m k = (0,z,q) -> pre m ++ l.take (q - k) = encZ z
 | 0,l,m,k,z,q,_,_,h=>by simp [rdZ] at h
 | f + 1,[],m,k,z,q,_,_,h=>by simp [rdZ] at h
 | f + 1,c :: l,m,k,z,q,hl,h0,h=>by
  have hc:=hl c List.mem_cons_self
  rw [rdZ] at h
  split at h
  ·rename_i hlt
   simp only [Prod.mk.injEq,true_and] at h
   obtain ⟨rfl,rfl⟩:=h
   rw [show k + 1 - k = 1 by omega]
   unfold encZ
   rw [show (m * 128 + c) / 128 = m by omega,show (m * 128 + c) % 128 = c by omega]
   rfl
  ·rename_i hge
   have hne:m * 128 + (c - 128) ≠ 0:=by
    rcases h0 with h0 | h0
    ·omega
    ·have:c ≠ 128:=by simpa using h0
     omega
   obtain ⟨h1,_,_⟩:=rdZ_ok h
   have ih:=rdZ_back (fun x hx=>hl x (List.mem_cons_of_mem _ hx)) (.inl hne) h
   rw [pre_snoc (by omega) hne,show c - 128 + 128 = c by omega] at ih
   rw [<- ih,show q - k = q - (k + 1) + 1 by omega]
   simp
theorem rdI_ok {l:List Nat} {n:Int} {k:Nat} (hl:∀ x ∈ l,x < 256) (h:rdI l = (n,k,0)):inI n = true /\ l.take k = encI n /\ k <= l.length /\ 0 < k /\ k <= 9:=by
 unfold rdI at h
 generalize hr:rdZ 9 l 0 0 = r at h
 obtain ⟨e,z,q⟩:=r
 simp only at h
 split at h
 ·rename_i he
  simp only [Prod.mk.injEq] at h
  rw [h.2.2] at he;cases he
 ·rename_i he
  split at h
  ·simp at h
  ·rename_i hc
   simp only [Prod.mk.injEq,and_true] at h
   obtain ⟨rfl,rfl⟩:=h
   simp only [Bool.or_eq_true,beq_iff_eq,Bool.not_eq_true',not_or,Bool.not_eq_false] at hc
   have he:e = 0:=by simpa using he
   subst he
   have hb:=rdZ_back hl (.inr hc.1) hr
   obtain ⟨h1,h2,h3⟩:=rdZ_ok hr
   rw [pre_zero] at hb
   refine ⟨hc.2,?_,by omega,by omega,by omega⟩
   unfold encI
   rw [zig_unz]
   simpa using hb
end Go.Mb
namespace Go.Mb
open Go.Sy
theorem shr7 {z j:Nat} (hj:7 * j <= 63):(z:Int).fdiv (2 ^ (min ((7 * j:Nat):Int).toNat IntKind.i64.bits)) = ((z / 128 ^ j:Nat):Int):=by
 have e1:min ((7 * j:Nat):Int).toNat IntKind.i64.bits = 7 * j:=by
  have:IntKind.i64.bits = 64:=rfl
  rw [this,Int.toNat_natCast];omega
 have e2:(2:Int) ^ (7 * j) = ((128 ^ j:Nat):Int):=by
  rw [Int.pow_mul];simp
 rw [e1,e2,Int.fdiv_eq_ediv_of_nonneg _ (Int.natCast_nonneg _)]
 exact (Int.natCast_ediv z (128 ^ j)).symm
theorem and127 (x:Nat):IntKind.u8.wrap ((BitVec.ofInt IntKind.u8.bits (IntKind.u8.wrap (x:Int)) &&& BitVec.ofInt IntKind.u8.bits 127).toNat:Int) = ((x % 128:Nat):Int):=by
 have hb:IntKind.u8.bits = 8:=rfl
 rw [wrap_u8m,wrap_u8m,hb,BitVec.toNat_and]
 have e1:(BitVec.ofInt 8 ((x:Int) % 256)).toNat = x % 256:=by rw [BitVec.toNat_ofInt];omega
 have e2:(BitVec.ofInt 8 127).toNat = 2 ^ 7 - 1:=by decide
 rw [e1,e2,Nat.and_two_pow_sub_one_eq_mod]
 omega
theorem str_le {r:ByteArray × Int} {s:ByteArray} {e:Int} (h:r = (s,e)):LeA (.tup [.str s,.int .i64 e]) (.tup [.str r.1,.int .i64 r.2]):=by subst h;exact LeA.refl _
end Go.Mb
namespace Go.Proofs.YtjhmdfofhnijeaaGreatDoor
open Go.Sy Go.Mb
set_option maxRecDepth 100000
set_option maxHeartbeats 1000000
noncomputable def EV:Env:={ P:=Tryz.prog,eqT:=lookE [] }
theorem EV_ok:EqOK EV:=eqOK_of (by intro p hp;cases hp)
noncomputable def VN:Cx:={ E:=EV,inl:=[],ok:=EV_ok }
noncomputable def VG:Cx:={ E:=EV,inl:=[504],ok:=EV_ok }
theorem inRange_ok (n:Int):FnOK Tryz.prog 444 [.int .i64 n] (.bool (inI n),none):=by
 refine fn_ok VN rfl (by kernel_rfl) Tryz.func444 rfl ?_
 refine zG zE (NS.ite (fun h=>?_) (fun h=>?_))
 ·exact zG zE (NS.ret rfl rfl (LeA.of (congrArg A.bool (by simp only [inI,h,Bool.true_and]))))
 ·exact zG zE (NS.ret rfl rfl (LeA.of (congrArg A.bool (by simp only [inI,h,Bool.false_and]))))
theorem zigzag_ok {n:Int} (h:inI n = true):FnOK Tryz.prog 446 [.int .i64 n] (.int .i64 (zig n:Nat),none):=by
 rw [inI_iff] at h
 refine fn_ok VN rfl (by kernel_rfl) Tryz.func446 rfl ?_
 refine zG zE (NS.ite (fun h2=>?_) (fun h2=>?_))
 ·have h2:n < 0:=of_decide_eq_true h2
  exact zG zE (NS.ret rfl rfl (LeA.of (congrArg (A.int .i64) (by unfold zig;rw [if_pos h2,wrap_i64 (n:=-2 * n) (by omega) (by omega),wrap_i64 (by omega) (by omega)];omega))))
 ·have h2:¬ n < 0:=of_decide_eq_false h2
  exact zG zE (NS.ret rfl rfl (LeA.of (congrArg (A.int .i64) (by unfold zig;rw [if_neg h2,wrap_i64 (by omega) (by omega)];omega))))
def groupsF (z:Nat):A:=.fn 504 [.ip 1 (getA [.int .i64 z])]
theorem groups_ok (z:Nat):FnOK Tryz.prog 445 [.int .i64 z] (groupsF z,none):=by
 refine fn_ok VN rfl (by kernel_rfl) Tryz.func445 rfl ?_
 exact zG zE (NS.ret rfl rfl (LeA.refl _))
theorem int_ok (n:Int):FnOK Tryz.prog 376 [.int .i64 n] (.tup [.str (intM n).1,.int .i64 (intM n).2],none):=by
  refine fn_ok VG rfl (by kernel_rfl) Tryz.func376 rfl ?_
  refine zG zE (NS.call (inRange_ok n) rfl ?_)
  refine zG zE (NS.ite (fun h=>?_) (fun h=>?_))
  · exact zG zE (NS.ret rfl rfl (str_le (by unfold intM;rw [not_t h];rfl)))
  have h:=not_f h
  have hz:=zig_lt h
  have hm:intM n = (bs (encZ (zig n)),0):=by unfold intM encI;rw [h];rfl
  rw [hm]
  refine zG zE (NS.call (zigzag_ok h) rfl ?_)
  refine zG zE (NS.call (groups_ok (zig n)) rfl ?_)
  generalize zig n = z at hz hm
  refine zG zE ?_
  refine NS.loop (σ:={ k:Nat // ∀ j,j < k -> 128 <= z / 128 ^ j }) (fun k=>[(0,.yld 25),(1,.ip 1 (getA [.int .i64 z])),(3,.int .i64 ((7 * k.1:Nat):Int))]) (fun k=>[]) (fun k=>9 - k.1) ⟨0,fun j hj=>by omega⟩ ?_ ?_
  · exact weak_hd [] rfl ⟨rfl,rfl,rfl,trivial⟩ trivial (by repeat' (first | exact trivial | refine ⟨.inr rfl,?_⟩ | refine ⟨.inl rfl,?_⟩)) (by kernel_rfl)
  rintro ⟨k,hk⟩
  have hk8:k <= 8:=by
    rcases Nat.lt_or_ge 8 k with h8 | h8
    · have:=hk 8 h8
      have:z / 128 ^ 8 <= 2 ^ 61 / 128 ^ 8:=Nat.div_le_div_right hz
      omega
    · exact h8
  have ek:IntKind.i64.wrap (((7 * k:Nat):Int) + 7) = ((7 * (k + 1):Nat):Int):=by rw [wrap_i64 (by omega) (by omega)];omega
  refine zG zE (NS.need (decide_eq_true (Int.natCast_nonneg (7 * k))) ?_)
  rw [shr7 (z:=z) (j:=k) (by omega)]
  refine zG zE (NS.ite (fun h2=>?_) (fun h2=>?_))
  · have h2 : 128 ≤ z / 128 ^ k := by have h2 : ((z / 128 ^ k : Nat) : Int) ≥ 128 := of_decide_eq_true h2
                                      omega
    refine zG zE (NS.next ⟨k + 1,fun j hj=>?_⟩ (by simp only;omega) ?_)
    · by_cases e:j = k
      · rw [e];exact h2
      · exact hk j (by omega)
    · exact weak_hd [] rfl ⟨rfl,rfl,ren_int rfl ek,trivial⟩ trivial (by repeat' (first | exact trivial | refine ⟨.inr rfl,?_⟩ | refine ⟨.inl rfl,?_⟩)) (by kernel_rfl)
  have h2 : z / 128 ^ k < 128 := by have h2 : ¬ ((z / 128 ^ k : Nat) : Int) ≥ 128 := of_decide_eq_false h2
                                    omega
  refine zG zE (NS.leave rfl zE ?_)
  refine zG zE ?_
  refine NS.loop (σ:={ j:Option Nat // ∀ q,j = some q -> q <= k }) (fun j=>[(0,.yld 25),(1,.ip 1 (getA [.int .i64 z])),(3,.int .i64 (match j.1 with | some q=>((7 * q:Nat):Int) | none=>-7))]) (fun j=>[(4,.box [.own 26]),(26,.row 5 1 (match j.1 with | some q=>pre (z / 128 ^ (q + 1)) | none=>encZ z).length (rowL bC (match j.1 with | some q=>pre (z / 128 ^ (q + 1)) | none=>encZ z)))]) (fun j=>match j.1 with | some q=>q + 1 | none=>0) ⟨some k,fun q hq=>by cases hq;exact Nat.le_refl _⟩ ?_ ?_
  · have e0:pre (z / 128 ^ (k + 1)) = []:=by
      rw [Nat.pow_succ,<- Nat.div_div_eq_div_mul,Nat.div_eq_of_lt h2,pre_zero]
    refine (weak_promoteB 4 0 26 5 1 (rowL bC []) rfl rfl rfl).trans ?_
    refine weak_hd [] rfl ⟨rfl,rfl,rfl,trivial⟩ ⟨⟨_,rfl,_,_,rfl,rfl,rfl⟩,?_,trivial⟩ (by repeat' (first | exact trivial | refine ⟨.inr rfl,?_⟩ | refine ⟨.inl rfl,?_⟩)) (by kernel_rfl)
    simp only [e0]
    exact ren_row rfl rfl fun _ _ _ _=>rfl
  rintro ⟨j,hj⟩
  cases j with
  | none=>
    refine zG zE (NS.no (rfl) ?_)
    refine zG zE (NS.leave rfl zE ?_)
    refine zG zE (NS.need (allN_row fun i hi=>rfl) ?_)
    rw [bytesOf_row (encZ z)]
    exact zG zE (NS.ret rfl rfl (LeA.refl _))
  | some q=>
    have hq:=hj q rfl
    have hlen:(pre (z / 128 ^ (q + 1))).length <= 9:=by
      refine pre_len 9 _ (Nat.lt_of_le_of_lt (Nat.div_le_self _ _) ?_)
      omega
    refine zG zE (NS.yes (decide_eq_true (Int.natCast_nonneg (7 * q))) ?_)
    refine zG zE (NS.need (decide_eq_true (Int.natCast_nonneg (7 * q))) ?_)
    rw [shr7 (z:=z) (j:=q) (by omega)]
    have eg:=and127 (z / 128 ^ q)
    cases q with
    | zero=>
      refine zG zE (NS.no (rfl) ?_)
      refine zG zE (NS.need (decide_eq_true (by simp only [maxRow];omega)) ?_)
      refine zG zE (NS.next ⟨none,fun q hq=>by cases hq⟩ (by simp only;omega) ?_)
      refine weak_hd [(26,72)] rfl ⟨rfl,rfl,rfl,trivial⟩ ⟨⟨_,rfl,_,_,rfl,rfl,rfl⟩,?_,trivial⟩ (by repeat' (first | exact trivial | refine ⟨.inr rfl,?_⟩ | refine ⟨.inl rfl,?_⟩)) (by kernel_rfl)
      rw [Nat.pow_zero,Nat.div_one] at eg
      refine ren_row rfl (by simp [encZ]) fun i hi j hj=>?_
      exact row_snoc (cells:=bC) (l:=pre (z / 128)) (x:=z % 128) (congrArg (fun y=>[A.int .u8 y]) (by rw [Nat.pow_zero,Nat.div_one];exact eg)) i (by simpa [encZ] using hi) j hj
    | succ p=>
      have hne:z / 128 ^ (p + 1) ≠ 0:=by
        have:=hk p (by omega)
        rw [Nat.pow_succ,<- Nat.div_div_eq_div_mul];omega
      have epre:pre (z / 128 ^ (p + 1)) = pre (z / 128 ^ (p + 1 + 1)) ++ [z / 128 ^ (p + 1) % 128 + 128]:=by
        rw [pre_pos hne,Nat.div_div_eq_div_mul,<- Nat.pow_succ]
      have ew:IntKind.i64.wrap (((7 * (p + 1):Nat):Int) - 7) = ((7 * p:Nat):Int):=by rw [wrap_i64 (by omega) (by omega)];omega
      refine zG zE (NS.yes (by simp;omega) ?_)
      refine zG zE (NS.need (decide_eq_true (by simp only [maxRow];omega)) ?_)
      refine zG zE (NS.next ⟨some p,fun q hq=>by cases hq;omega⟩ (by simp only;omega) ?_)
      refine weak_hd [(26,72)] rfl ⟨rfl,rfl,ren_int rfl ew,trivial⟩ ⟨⟨_,rfl,_,_,rfl,rfl,rfl⟩,?_,trivial⟩ (by repeat' (first | exact trivial | refine ⟨.inr rfl,?_⟩ | refine ⟨.inl rfl,?_⟩)) (by kernel_rfl)
      refine ren_row rfl ?_ fun i hi j hj=>?_
      · show (pre (z / 128 ^ (p + 1 + 1))).length + 1 = (pre (z / 128 ^ (p + 1))).length
        rw [epre];simp
      · show _ = rowL bC (pre (z / 128 ^ (p + 1))) i j
        have hi:i < (pre (z / 128 ^ (p + 1))).length:=hi
        rw [epre] at hi ⊢
        exact row_snoc (cells:=bC) (l:=pre (z / 128 ^ (p + 1 + 1))) (x:=z / 128 ^ (p + 1) % 128 + 128) (congrArg (fun y=>[A.int .u8 y]) (by rw [eg,wrap_u8 (by omega) (by omega)];omega)) i (by simpa using hi) j hj
structure RdU (l:List Nat) (i m:Nat):Prop where
 le:i <= 9
 eq:rdZ 9 l 0 0 = rdZ (9 - i) (l.drop i) m i
 sz:m < 128 ^ i
 ln:i <= l.length
theorem RdU.start (l:List Nat):RdU l 0 0:=⟨by omega,rfl,by simp,by omega⟩
theorem RdU.last {l:List Nat} {i m:Nat} (u:RdU l i m) (h9:i < 9) (h:i < l.length) (hc:l.getD i 0 < 128):rdZ 9 l 0 0 = (0,m * 128 + l.getD i 0,i + 1):=by
 obtain ⟨g,hg⟩:∃ g,9 - i = g + 1:=⟨8 - i,by omega⟩
 have hd:l.drop i = l.getD i 0 :: l.drop (i + 1):=drop_cons h
 rw [u.eq,hd,hg,rdZ,if_pos hc]
theorem RdU.step {l:List Nat} {i m:Nat} (hl:∀ x ∈ l,x < 256) (u:RdU l i m) (h9:i < 9) (h:i < l.length) (hc:¬ l.getD i 0 < 128):RdU l (i + 1) (m * 128 + l.getD i 0 % 128):=by
 obtain ⟨g,hg⟩:∃ g,9 - i = g + 1:=⟨8 - i,by omega⟩
 have hd:l.drop i = l.getD i 0 :: l.drop (i + 1):=drop_cons h
 have h256:l.getD i 0 < 256:=memD (p:=fun x=>x < 256) hl h
 have hs:=u.sz
 refine ⟨by omega,?_,?_,h⟩
 ·rw [u.eq,hd,hg,rdZ,if_neg hc,show l.getD i 0 - 128 = l.getD i 0 % 128 by omega,show 9 - (i + 1) = g by omega]
 ·rw [Nat.pow_succ];omega
theorem ls_bd (s:ByteArray) (i:Nat):(ls s).getD i 0 < 256:=by
 rcases Nat.lt_or_ge i (ls s).length with h | h
 ·exact memD (p:=fun x=>x < 256) (ls_lt s) h
 ·simp [List.getD,h]
end Go.Proofs.YtjhmdfofhnijeaaGreatDoor
namespace Go.Mb
open Go.Sy
def textM (s:ByteArray):ByteArray × Int:=if decide ((s.size:Int) > 65536) then (.empty,4) else (bs (encI s.size) ++ s,0)
def encL (l:List Int):List Nat:=l.flatMap encI
theorem encL_len {l:List Int} (h:∀ x ∈ l,inI x = true):(encL l).length <= l.length * 9:=by
 induction l with
 | nil=>simp [encL]
 | cons a l ih=>
  have h1:=ih fun x hx=>h x (List.mem_cons_of_mem _ hx)
  have h2:=encZ_len (z:=zig a) (by have:=zig_lt (h a List.mem_cons_self);omega)
  simp only [encL,List.flatMap_cons,List.length_append,List.length_cons] at h1 ⊢
  have h2:(encI a).length <= 9:=h2
  omega
theorem encI_len {n:Int} (h:inI n = true):(encI n).length <= 9:=encZ_len (by have:=zig_lt h;omega)
theorem inI_nat {n:Nat} (h:n <= 1000000):inI (n:Int) = true:=by rw [inI_iff];omega
theorem intM_ok {n:Int} (h:inI n = true):intM n = (bs (encI n),0):=by unfold intM;rw [h];rfl
theorem encL_snoc (l:List Int) (k:Nat) (h:k < l.length):encL (l.take (k + 1)) = encL (l.take k) ++ encI (l.getD k default):=by
 rw [take_snoc h];simp [encL]
def lenI (l:List Nat):Int × Nat × Int:=
 let r:=rdI l
 if r.2.2 != 0 then (0,0,r.2.2) else if decide (r.1 < 0) || decide (r.1 > 65536) then (0,0,11) else r
def rdLA:Nat -> List Nat -> Nat -> List Int -> List Int × Nat × Int
 | 0,_,k,acc=>(acc,k,0)
 | n + 1,l,k,acc=>if (rdI (l.drop k)).2.2 != 0 then ([],0,(rdI (l.drop k)).2.2) else rdLA n l (k + (rdI (l.drop k)).2.1) (acc ++ [(rdI (l.drop k)).1])
def rdL (l:List Nat):List Int × Nat × Int:=if (lenI l).2.2 != 0 then ([],0,(lenI l).2.2) else rdLA (lenI l).1.toNat l (lenI l).2.1 []
theorem lenI_ok {l:List Nat} {n:Int} {k:Nat} (h:lenI l = (n,k,0)):rdI l = (n,k,0) /\ 0 <= n /\ n <= 65536:=by
 unfold lenI at h
 simp only at h
 split at h
 ·rename_i he
  simp only [Prod.mk.injEq] at h
  rw [h.2.2] at he;cases he
 ·split at h
  ·simp at h
  ·rename_i hc
   refine ⟨h,?_⟩
   rw [h] at hc
   simp at hc
   omega
end Go.Mb
namespace Go.Proofs.YtjhmdfofhnijeaaGreatDoor
open Go.Sy Go.Mb
set_option maxRecDepth 100000
set_option maxHeartbeats 1000000
theorem text_ok (s:ByteArray):FnOK Tryz.prog 374 [.str s] (.tup [.str (textM s).1,.int .i64 (textM s).2],none):=by
  refine fn_ok VN rfl (by kernel_rfl) Tryz.func374 rfl ?_
  refine zG zE (NS.ite (fun h=>?_) (fun h=>?_))
  · exact zG zE (NS.ret rfl rfl (str_le (by unfold textM;rw [if_pos h];rfl)))
  have hm:textM s = (bs (encI s.size) ++ s,0):=by unfold textM;rw [if_neg (by rw [h];simp)]
  have h : s.size ≤ 65536 := by have h : ¬ (s.size : Int) > 65536 := of_decide_eq_false h
                                omega
  have hi:=inI_nat (n:=s.size) (by omega)
  have hl:=encI_len hi
  have c:=int_ok s.size
  rw [intM_ok hi] at c
  refine zG zE (NS.call (c) rfl ?_)
  refine zG zE (NS.need (decide_eq_true (by rw [bs_len];omega)) ?_)
  exact zG zE (NS.ret rfl rfl (str_le hm))
structure RdQ (l:List Nat) (n q k:Nat) (acc:List Int):Prop where
 le:q <= n
 ln:acc.length = q
 kl:k <= l.length
 eq:rdL l = rdLA (n - q) l k acc
theorem RdQ.start {l:List Nat} {n:Int} {k:Nat} (hl:∀ x ∈ l,x < 256) (h:lenI l = (n,k,0)):RdQ l n.toNat 0 k []:=by
 refine ⟨Nat.zero_le _,rfl,?_,?_⟩
 ·exact (rdI_ok hl (lenI_ok h).1).2.2.1
 ·unfold rdL;rw [h];rfl
theorem RdQ.fin {l:List Nat} {n k:Nat} {acc:List Int} (u:RdQ l n n k acc):rdL l = (acc,k,0):=by
 rw [u.eq,Nat.sub_self];rfl
theorem RdQ.next {l:List Nat} {n q k b:Nat} {acc:List Int} {a:Int} (hl:∀ x ∈ l,x < 256) (u:RdQ l n q k acc) (hq:q < n) (h:rdI (l.drop k) = (a,b,0)):RdQ l n (q + 1) (k + b) (acc ++ [a]):=by
 obtain ⟨g,hg⟩:∃ g,n - q = g + 1:=⟨n - q - 1,by omega⟩
 have h1:=(rdI_ok (fun x hx=>hl x (List.mem_of_mem_drop hx)) h).2.2.1
 rw [List.length_drop] at h1
 have:=u.kl
 refine ⟨hq,by simp [u.ln],by omega,?_⟩
 rw [u.eq,hg,rdLA,h,if_neg (by simp),show n - (q + 1) = g by omega]
end Go.Proofs.YtjhmdfofhnijeaaGreatDoor
namespace Go.Mb
open Go.Sy
def poly:Nat:=2197175160
def st1 (r:Nat):Nat:=if r % 2 = 1 then r / 2 ^^^ poly else r / 2
def stN:Nat -> Nat -> Nat
 | 0,r=>r
 | k + 1,r=>st1 (stN k r)
theorem xor_lt {a b:Nat} {n:Nat} (ha:a < 2 ^ n) (hb:b < 2 ^ n):a ^^^ b < 2 ^ n:=Nat.xor_lt_two_pow ha hb
theorem st1_lt {r:Nat} (h:r < 2 ^ 32):st1 r < 2 ^ 32:=by
 unfold st1
 split
 ·exact xor_lt (by omega) (by decide)
 ·omega
theorem stN_lt {r:Nat} (h:r < 2 ^ 32):∀ k,stN k r < 2 ^ 32
 | 0=>h
 | k + 1=>st1_lt (stN_lt h k)
theorem xor_half (a b:Nat):(a ^^^ b) / 2 = a / 2 ^^^ b / 2:=by
 have:=Nat.xor_div_two_pow (a:=a) (b:=b) (n:=1)
 simpa using this
theorem xor_odd (a b:Nat):(a ^^^ b) % 2 = (a % 2 + b % 2) % 2:=by
 have:=Nat.xor_mod_two_pow (a:=a) (b:=b) (n:=1)
 rw [Nat.pow_one] at this
 rw [this]
 rcases Nat.mod_two_eq_zero_or_one a with ha | ha <;> rcases Nat.mod_two_eq_zero_or_one b with hb | hb <;> rw [ha,hb] <;> rfl
theorem st1_xor (a b:Nat):st1 (a ^^^ b) = st1 a ^^^ st1 b:=by
 unfold st1
 rw [xor_half,xor_odd]
 rcases Nat.mod_two_eq_zero_or_one a with ha | ha <;> rcases Nat.mod_two_eq_zero_or_one b with hb | hb <;> rw [ha,hb] <;> simp only [Nat.zero_add,Nat.add_zero,Nat.zero_mod,Nat.reduceAdd,Nat.reduceMod,Nat.one_mod,if_true,if_false,Nat.zero_ne_one,Nat.reduceEqDiff]
 ·ac_rfl
 ·ac_rfl
 ·rw [show a / 2 ^^^ poly ^^^ (b / 2 ^^^ poly) = (a / 2 ^^^ b / 2) ^^^ (poly ^^^ poly) by ac_rfl,Nat.xor_self,Nat.xor_zero]
theorem stN_xor (a b:Nat):∀ k,stN k (a ^^^ b) = stN k a ^^^ stN k b
 | 0=>rfl
 | k + 1=>by simp only [stN];rw [stN_xor a b k,st1_xor]
theorem st1_even (h:Nat):st1 (h * 2) = h:=by unfold st1;rw [if_neg (by omega)];omega
theorem stN_shift:∀ (k h:Nat),stN k (h * 2 ^ k) = h
 | 0,h=>by simp [stN]
 | k + 1,h=>by
  have e:h * 2 ^ (k + 1) = (h * 2) * 2 ^ k:=by rw [Nat.pow_succ,Nat.mul_assoc,Nat.mul_comm 2]
  rw [stN,e,stN_shift k (h * 2),st1_even]
def upB (r b:Nat):Nat:=stN 8 (r ^^^ b)
theorem split8 (r b:Nat) (hb:b < 256):r ^^^ b = (r / 256 * 2 ^ 8) ^^^ (r % 256 ^^^ b):=by
 have e:r = (r / 256 * 2 ^ 8) ^^^ (r % 256):=by
  have h1:r % 256 < 2 ^ 8:=by omega
  have h2:=Nat.two_pow_add_eq_or_of_lt h1 (r / 256)
  have h3:2 ^ 8 * (r / 256) + r % 256 = r:=by omega
  apply Nat.eq_of_testBit_eq
  intro i
  rw [Nat.testBit_xor]
  have h4:r.testBit i = (2 ^ 8 * (r / 256) ||| r % 256).testBit i:=by rw [<- h2,h3]
  rw [h4,Nat.testBit_or,Nat.mul_comm (r / 256)]
  by_cases hi:i < 8
  ·rw [Nat.testBit_two_pow_mul,decide_eq_false (by omega:¬ i >= 8)];simp
  ·have:(r % 256).testBit i = false:=Nat.testBit_lt_two_pow (Nat.lt_of_lt_of_le h1 (Nat.pow_le_pow_right (by omega) (by omega)))
   rw [this];simp
 rw [<- Nat.xor_assoc,<- e]
theorem upB_tab (r b:Nat) (hb:b < 256):upB r b = r / 256 ^^^ stN 8 (r % 256 ^^^ b):=by
 unfold upB;rw [split8 r b hb,stN_xor,stN_shift]
theorem upB_lt {r b:Nat} (h:r < 2 ^ 32) (hb:b < 256):upB r b < 2 ^ 32:=stN_lt (xor_lt h (by omega)) 8
def up (r:Nat) (l:List Nat):Nat:=l.foldl upB r
theorem up_lt {l:List Nat} (hl:∀ x ∈ l,x < 256):∀ {r:Nat},r < 2 ^ 32 -> up r l < 2 ^ 32:=by
 induction l with
 | nil=>intro r h;exact h
 | cons a l ih=>intro r h;exact ih (fun x hx=>hl x (List.mem_cons_of_mem _ hx)) (upB_lt h (hl a List.mem_cons_self))
theorem up_snoc (r:Nat) (l:List Nat) (k:Nat) (h:k < l.length):up r (l.take (k + 1)) = upB (up r (l.take k)) (l.getD k 0):=by
 have:l.take (k + 1) = l.take k ++ [l.getD k 0]:=take_snoc h
 rw [this];simp [up]
def all32:Nat:=4294967295
def sumL (l:List Nat):Nat:=up all32 l ^^^ all32
theorem sumL_lt {l:List Nat} (hl:∀ x ∈ l,x < 256):sumL l < 2 ^ 32:=xor_lt (up_lt hl (by decide)) (by decide)
def tailL (l:List Nat):List Nat:=[sumL l % 256,sumL l / 256 % 256,sumL l / 65536 % 256,sumL l / 16777216 % 256]
def tabI (k:Nat):Nat -> Nat -> List Int
 | 0,_=>[]
 | n + 1,j=>((if j < k then stN 8 j else 0:Nat):Int) :: tabI k n (j + 1)
theorem tabI_get (k:Nat):∀ (n j i:Nat),i < n -> (tabI k n j).getD i 0 = ((if j + i < k then stN 8 (j + i) else 0:Nat):Int)
 | 0,j,i,h=>by omega
 | n + 1,j,0,h=>by simp [tabI]
 | n + 1,j,i + 1,h=>by
  have:=tabI_get k n (j + 1) i (by omega)
  rw [show j + (i + 1) = j + 1 + i by omega,<- this]
  simp [tabI]
theorem tabI_len (k:Nat):∀ n j,(tabI k n j).length = n
 | 0,_=>rfl
 | n + 1,j=>by simp [tabI,tabI_len k n]
theorem tabI_set {k n:Nat} (h:k < n):(tabI k n 0).set k ((stN 8 k:Nat):Int) = tabI (k + 1) n 0:=by
 apply List.ext_getElem
 ·simp [tabI_len]
 ·intro i h1 h2
  have hi:i < n:=by simpa [tabI_len] using h1
  have e1:=tabI_get k n 0 i hi
  have e2:=tabI_get (k + 1) n 0 i hi
  rw [List.getD_eq_getElem?_getD,List.getElem?_eq_getElem (by rw [tabI_len];exact hi)] at e1 e2
  simp only [Option.getD_some,Nat.zero_add] at e1 e2
  rw [List.getElem_set,e2]
  split
  ·rename_i hik
   subst hik
   rw [if_pos (by omega)]
  ·rename_i hik
   rw [e1]
   by_cases hlt:i < k
   ·rw [if_pos hlt,if_pos (by omega)]
   ·rw [if_neg hlt,if_neg (by omega)]
def tabC (k:Nat):List A:=(tabI k 256 0).map (A.int .u32)
theorem RenL_ints {σ:Nat -> Nat} {k:IntKind}:∀ (l:List Int),RenL σ (l.map (A.int k)) (l.map (A.int k))
 | []=>rfl
 | n :: l=>⟨_,_,rfl,rfl,RenL_ints l⟩
theorem xor32 {a b:Nat} (ha:a < 2 ^ 32) (hb:b < 2 ^ 32):IntKind.u32.wrap ((BitVec.ofInt IntKind.u32.bits (a:Int) ^^^ BitVec.ofInt IntKind.u32.bits (b:Int)).toNat:Int) = ((a ^^^ b:Nat):Int):=by
 have hbt:IntKind.u32.bits = 32:=rfl
 rw [hbt,BitVec.toNat_xor]
 have e1:(BitVec.ofInt 32 (a:Int)).toNat = a:=by rw [BitVec.toNat_ofInt];omega
 have e2:(BitVec.ofInt 32 (b:Int)).toNat = b:=by rw [BitVec.toNat_ofInt];omega
 have:=xor_lt ha hb
 rw [e1,e2,wrap_u32 (by omega) (by omega)]
theorem xor8 {a b:Nat} (ha:a < 256) (hb:b < 256):IntKind.u8.wrap ((BitVec.ofInt IntKind.u8.bits (a:Int) ^^^ BitVec.ofInt IntKind.u8.bits (b:Int)).toNat:Int) = ((a ^^^ b:Nat):Int):=by
 have hbt:IntKind.u8.bits = 8:=rfl
 rw [hbt,BitVec.toNat_xor]
 have e1:(BitVec.ofInt 8 (a:Int)).toNat = a:=by rw [BitVec.toNat_ofInt];omega
 have e2:(BitVec.ofInt 8 (b:Int)).toNat = b:=by rw [BitVec.toNat_ofInt];omega
 have:=xor_lt (n:=8) ha hb
 rw [e1,e2,wrap_u8 (by omega) (by omega)]
end Go.Mb
namespace Go.Proofs.YtjhmdfofhnijeaaGreatDoor
open Go.Sy Go.Mb
set_option maxRecDepth 100000
set_option maxHeartbeats 4000000
theorem tm2 (m:Nat):((m:Nat):Int).tmod 2 = ((m % 2:Nat):Int):=(Int.ofNat_tmod m 2).symm
theorem td2 (m:Nat):((m:Nat):Int).tdiv 2 = ((m / 2:Nat):Int):=(Int.ofNat_tdiv m 2).symm
theorem step_ok (r:Nat) (hr:r < 2 ^ 32):FnOK Tryz.prog 610 [.int .u32 r] (.int .u32 (stN 8 r:Nat),none):=by
  refine fn_ok VN rfl (by kernel_rfl) Tryz.func610 rfl ?_
  refine zG zE ?_
  refine NS.loop (σ:={ k:Nat // k <= 8 }) (fun k=>[(0,.int .u32 (stN k.1 r:Nat)),(3,.int .i64 k.1)]) (fun k=>[]) (fun k=>8 - k.1) ⟨0,Nat.zero_le _⟩ ?_ ?_
  · exact weak_hd [] rfl ⟨rfl,rfl,trivial⟩ trivial trivial (by kernel_rfl)
  rintro ⟨k,hk⟩
  have hlt:=stN_lt hr k
  refine zG zE (NS.ite (fun h=>?_) (fun h=>?_))
  · have h : k < 8 := by have h : (k : Int) < 8 := of_decide_eq_true h
                         omega
    have ek:IntKind.i64.wrap ((k:Int) + 1) = ((k + 1:Nat):Int):=i64_k (k:=k) (n:=100) (by omega) (by omega)
    have e1:IntKind.u32.wrap ((stN k r / 2:Nat):Int) = ((stN k r / 2:Nat):Int):=wrap_u32 (by omega) (by omega)
    refine zG zE (NS.need (rfl) ?_)
    rw [tm2]
    refine zG zE (NS.ite (fun h2=>?_) (fun h2=>?_))
    · have h2:((stN k r % 2:Nat):Int) = 1:=eq_of_beq h2
      refine zG zE (NS.need (rfl) ?_)
      rw [td2]
      refine zG zE (NS.next ⟨k + 1,by omega⟩ (by simp only;omega) ?_)
      refine weak_hd [] rfl ⟨ren_int rfl ?_,ren_int rfl ek,trivial⟩ trivial trivial (by kernel_rfl)
      show IntKind.u32.wrap ((BitVec.ofInt IntKind.u32.bits (IntKind.u32.wrap ((stN k r / 2:Nat):Int)) ^^^ BitVec.ofInt IntKind.u32.bits ((poly:Nat):Int)).toNat:Int) = ((st1 (stN k r):Nat):Int)
      rw [e1,xor32 (by omega) (by decide)]
      unfold st1;rw [if_pos (by omega)]
    · have h2:((stN k r % 2:Nat):Int) ≠ 1:=ne_of_beq_false h2
      refine zG zE (NS.need (rfl) ?_)
      rw [td2]
      refine zG zE (NS.next ⟨k + 1,by omega⟩ (by simp only;omega) ?_)
      refine weak_hd [] rfl ⟨ren_int rfl ?_,ren_int rfl ek,trivial⟩ trivial trivial (by kernel_rfl)
      show IntKind.u32.wrap ((stN k r / 2:Nat):Int) = ((st1 (stN k r):Nat):Int)
      rw [e1]
      unfold st1;rw [if_neg (by omega)]
  · obtain rfl : k = 8 := by have h : ¬ (k : Int) < 8 := of_decide_eq_false h
                             omega
    refine zG zE (NS.leave rfl zE ?_)
    exact zG zE (NS.ret rfl rfl (LeA.refl _))
theorem table_ok:FnOK Tryz.prog 584 [] (.agg (tabC 256),none):=by
  refine fn_ok VN rfl (by kernel_rfl) Tryz.func584 rfl ?_
  refine zG zE ?_
  refine NS.loop (σ:={ k:Nat // k <= 256 }) (fun k=>[(0,.ptr 0 0),(1,.ptr 1 0),(3,.int .i64 k.1)]) (fun k=>[(0,.box (tabC 0)),(1,.box (tabC k.1))]) (fun k=>256 - k.1) ⟨0,Nat.zero_le _⟩ ?_ ?_
  · exact weak_hd [] rfl ⟨rfl,rfl,rfl,trivial⟩ ⟨⟨_,rfl,RenL_ints _⟩,⟨_,rfl,RenL_ints _⟩,trivial⟩ trivial (by kernel_rfl)
  rintro ⟨k,hk⟩
  refine zG zE (NS.ite (fun h=>?_) (fun h=>?_))
  · have h : k < 256 := by have h : (k : Int) < 256 := of_decide_eq_true h
                           omega
    have ek:IntKind.i64.wrap ((k:Int) + 1) = ((k + 1:Nat):Int):=i64_k (k:=k) (n:=1000) (by omega) (by omega)
    have e1:IntKind.u32.wrap ((k:Nat):Int) = ((k:Nat):Int):=wrap_u32 (by omega) (by omega)
    have c:=step_ok k (by omega)
    refine zG zE (NS.call (c.le (LeL.cons (LeA.of (congrArg (A.int .u32) e1)) LeL.nil)) rfl ?_)
    refine zG zE (NS.need (decide_eq_true ⟨Int.natCast_nonneg k,by show (k:Int) < 256;omega⟩) ?_)
    refine zG zE (NS.need (decide_eq_true (show k < 256 from h)) ?_)
    refine zG zE (NS.next ⟨k + 1,by omega⟩ (by simp only;omega) ?_)
    refine weak_hd [] rfl ⟨rfl,rfl,ren_int rfl ek,trivial⟩ ⟨⟨_,rfl,RenL_ints _⟩,⟨_,rfl,?_⟩,trivial⟩ trivial (by kernel_rfl)
    show RenL _ (tabC (k + 1)) (setIs .u32 k ((stN 8 k:Nat):Int) 0 (tabI k 256 0))
    rw [setIs_eq,if_pos (Nat.zero_le _),Nat.sub_zero,tabI_set h]
    exact RenL_ints _
  · obtain rfl : k = 256 := by have h : ¬ (k : Int) < 256 := of_decide_eq_false h
                               omega
    refine zG zE (NS.leave rfl zE ?_)
    exact zG zE (NS.ret rfl rfl (LeA.refl _))
def bytesF (s:ByteArray):A:=.fn 611 [.ip 1 (getA [.str s])]
theorem bytesG_ok (s:ByteArray):FnOK Tryz.prog 585 [.str s] (bytesF s,none):=by
 refine fn_ok VN rfl (by kernel_rfl) Tryz.func585 rfl ?_
 exact zG zE (NS.ret rfl rfl (LeA.refl _))
noncomputable def WG:Cx:={ E:=EV,inl:=[611],ok:=EV_ok }
theorem shr8 (r:Nat):(r:Int).fdiv (2 ^ (min (8:Int).toNat IntKind.u32.bits)) = ((r / 256:Nat):Int):=by
 have e0:(2:Int) ^ (min (8:Int).toNat IntKind.u32.bits) = 256:=by decide
 rw [e0,Int.fdiv_eq_ediv_of_nonneg _ (by omega)];omega
theorem update_ok (r:Nat) (s:ByteArray) (hr:r < 2 ^ 32) (hs:s.size <= 1000000):FnOK Tryz.prog 540 [.int .u32 r,.str s] (.int .u32 (up r (ls s):Nat),none):=by
  have hll:=ls_len s
  refine fn_ok WG rfl (by kernel_rfl) Tryz.func540 rfl ?_
  refine zG zE (NS.call (table_ok) rfl ?_)
  refine zG zE (NS.call (bytesG_ok s) rfl ?_)
  refine zG zE ?_
  refine NS.loop (σ:={ k:Nat // k <= s.size }) (fun k=>[(0,.yld 21),(1,.ip 1 (getA [.str s])),(5,.int .i64 s.size),(6,.int .i64 k.1)]) (fun k=>[(2,.box [.int .u32 (up r ((ls s).take k.1):Nat)])]) (fun k=>s.size - k.1) ⟨0,Nat.zero_le _⟩ ?_ ?_
  · exact weak_hd [] rfl ⟨rfl,rfl,rfl,rfl,trivial⟩ ⟨⟨_,rfl,_,_,rfl,rfl,rfl⟩,trivial⟩ (by repeat' (first | exact trivial | refine ⟨.inr rfl,?_⟩ | refine ⟨.inl rfl,?_⟩)) (by kernel_rfl)
  rintro ⟨k,hk⟩
  have hlt:up r ((ls s).take k) < 2 ^ 32:=up_lt (fun x hx=>ls_lt s x (List.mem_of_mem_take hx)) hr
  refine zG zE (NS.ite (fun h=>?_) (fun h=>?_))
  · have h : k < s.size := by have h : (k : Int) < (s.size : Int) := of_decide_eq_true h
                              omega
    have ek:IntKind.i64.wrap ((k:Int) + 1) = ((k + 1:Nat):Int):=i64_k (k:=k) (n:=s.size) (by omega) (by omega)
    have hsn:=up_snoc r (ls s) k (by omega)
    have hb:=ls_bd s k
    rw [upB_tab _ _ hb] at hsn
    have eb:(((s.data.toList.getD (Int.toNat ((k:Nat):Int)) 0).toNat:Nat):Int) = (((ls s).getD k 0:Nat):Int):=by rw [<- ls_get];rfl
    refine zG zE (NS.need (decide_eq_true ⟨Int.natCast_nonneg k,by show (k:Int) < _;omega⟩) ?_)
    refine zG zE (NS.chk (by kernel_rfl) ?_)
    refine zG zE (NS.need (rfl) ?_)
    generalize hR:up r ((ls s).take k) = R at *
    generalize hB:(ls s).getD k 0 = b at *
    have hx:R % 256 ^^^ b < 256:=xor_lt (n:=8) (by omega) hb
    have eI:IntKind.u8.wrap ((BitVec.ofInt IntKind.u8.bits (IntKind.u8.wrap (R:Int)) ^^^ BitVec.ofInt IntKind.u8.bits (((s.data.toList.getD (Int.toNat ((k:Nat):Int)) 0).toNat:Nat):Int)).toNat:Int) = ((R % 256 ^^^ b:Nat):Int):=by
      rw [eb,wrap_u8m (R:Int),show (R:Int) % 256 = ((R % 256:Nat):Int) by omega,xor8 (by omega) hb]
    refine zG zE (NS.need (decide_eq_true (by rw [eI];exact ⟨Int.natCast_nonneg _,by show _ < (256:Int);omega⟩)) ?_)
    rw [eI]
    refine zG zE (NS.need (decide_eq_true (show (R % 256 ^^^ b) < 256 from hx)) ?_)
    have eT:(tabI 256 256 0).getD (R % 256 ^^^ b) 0 = ((stN 8 (R % 256 ^^^ b):Nat):Int):=by rw [tabI_get 256 256 0 _ hx,Nat.zero_add,if_pos hx]
    have hT:=stN_lt (show R % 256 ^^^ b < 2 ^ 32 by omega) 8
    refine zG zE (NS.next ⟨k + 1,by omega⟩ (by simp only;omega) ?_)
    refine weak_hd [] rfl ⟨rfl,rfl,rfl,ren_int rfl ek,trivial⟩ ⟨⟨_,rfl,_,_,rfl,ren_int rfl ?_,rfl⟩,trivial⟩ (by repeat' (first | exact trivial | refine ⟨.inr rfl,?_⟩ | refine ⟨.inl rfl,?_⟩)) (by kernel_rfl)
    show IntKind.u32.wrap ((BitVec.ofInt IntKind.u32.bits ((R:Int).fdiv (2 ^ (min (8:Int).toNat IntKind.u32.bits))) ^^^ BitVec.ofInt IntKind.u32.bits ((tabI 256 256 0).getD (R % 256 ^^^ b) 0)).toNat:Int) = ((up r ((ls s).take (k + 1)):Nat):Int)
    rw [shr8,eT,xor32 (by omega) hT,hsn]
  · obtain rfl : k = s.size := by have h : ¬ (k : Int) < (s.size : Int) := of_decide_eq_false h
                                  omega
    refine zG zE (NS.leave rfl zE ?_)
    exact zG zE (NS.ret rfl rfl (LeA.of (by show A.int .u32 (up r ((ls s).take s.size):Nat) = _;rw [take_all (by omega)])))
end Go.Proofs.YtjhmdfofhnijeaaGreatDoor
namespace Go.Mb
open Go.Sy
def frameL (l:List Nat):List Nat:=encI l.length ++ l
def sealL (l:List Nat):List Nat:=frameL l ++ tailL (frameL l)
def sealM (s:ByteArray):ByteArray × Int:=if decide ((s.size:Int) > 65536) then (.empty,4) else (bs (sealL (ls s)),0)
theorem ls_textM {s:ByteArray} (h:¬ (s.size:Int) > 65536):(textM s).1 = bs (frameL (ls s)) /\ (textM s).2 = 0:=by
 unfold textM
 rw [if_neg (by simpa using h)]
 refine ⟨?_,rfl⟩
 unfold frameL
 rw [bs_append,bs_ls,ls_len]
theorem frameL_lt {l:List Nat} (h:∀ x ∈ l,x < 256):∀ x ∈ frameL l,x < 256:=by
 intro x hx
 rcases List.mem_append.1 hx with hx | hx
 ·exact encZ_mem hx
 ·exact h x hx
end Go.Mb
namespace Go.Proofs.YtjhmdfofhnijeaaGreatDoor
open Go.Sy Go.Mb
set_option maxRecDepth 100000
set_option maxHeartbeats 4000000
theorem sum_ok (s:ByteArray) (hs:s.size <= 1000000):FnOK Tryz.prog 505 [.str s] (.int .i64 (sumL (ls s):Nat),none):=by
 refine fn_ok VN rfl (by kernel_rfl) Tryz.func505 rfl ?_
 have c:=update_ok all32 s (by decide) hs
 have h1:up all32 (ls s) < 2 ^ 32:=up_lt (ls_lt s) (by decide)
 have h2:=sumL_lt (ls_lt s)
 refine zG zE (NS.call (c) rfl ?_)
 refine zG zE (NS.ret rfl rfl (LeA.of (congrArg (A.int .i64) (?_))))
 show IntKind.i64.wrap (IntKind.u32.wrap ((BitVec.ofInt IntKind.u32.bits ((up all32 (ls s):Nat):Int) ^^^ BitVec.ofInt IntKind.u32.bits ((all32:Nat):Int)).toNat:Int)) = _
 rw [xor32 h1 (by decide),wrap_i64 (by have:up all32 (ls s) ^^^ all32 < 2 ^ 32:=h2;omega) (by have:up all32 (ls s) ^^^ all32 < 2 ^ 32:=h2;omega)]
 rfl
theorem shrK (n k:Nat) (b:Nat) (hb:(2:Int) ^ (min (b:Int).toNat IntKind.i64.bits) = (k:Int)):(n:Int).fdiv (2 ^ (min (b:Int).toNat IntKind.i64.bits)) = ((n / k:Nat):Int):=by
 rw [hb,Int.fdiv_eq_ediv_of_nonneg _ (Int.natCast_nonneg _)];exact (Int.natCast_ediv n k).symm
theorem tailB (n:Nat):bytesOf (fun i j=>getA [A.int .u8 (IntKind.u8.wrap (n:Int)),A.int .u8 (IntKind.u8.wrap ((n:Int).fdiv (2 ^ (min (8:Int).toNat IntKind.i64.bits)))),A.int .u8 (IntKind.u8.wrap ((n:Int).fdiv (2 ^ (min (16:Int).toNat IntKind.i64.bits)))),A.int .u8 (IntKind.u8.wrap ((n:Int).fdiv (2 ^ (min (24:Int).toNat IntKind.i64.bits))))] (i * 1 + j)) 4 = bs [n % 256,n / 256 % 256,n / 65536 % 256,n / 16777216 % 256]:=by
 have e8:=shrK n 256 8 (by decide)
 have e16:=shrK n 65536 16 (by decide)
 have e24:=shrK n 16777216 24 (by decide)
 have f:∀ m:Nat,IntKind.u8.wrap (m:Int) = ((m % 256:Nat):Int):=fun m=>by rw [wrap_u8m];omega
 rw [show ((8:Nat):Int) = 8 from rfl] at e8
 rw [show ((16:Nat):Int) = 16 from rfl] at e16
 rw [show ((24:Nat):Int) = 24 from rfl] at e24
 rw [e8,e16,e24,f,f,f,f]
 rfl
theorem all4 {f:Nat -> Bool} (h0:f 0 = true) (h1:f 1 = true) (h2:f 2 = true) (h3:f 3 = true):allN f 4 = true:=by simp [allN,h0,h1,h2,h3]
theorem tail_ok (s:ByteArray) (hs:s.size <= 1000000):FnOK Tryz.prog 448 [.str s] (.str (bs (tailL (ls s))),none):=by
 refine fn_ok VN rfl (by kernel_rfl) Tryz.func448 rfl ?_
 refine zG zE (NS.call (sum_ok s hs) rfl ?_)
 refine zG zE (NS.need (rfl) ?_)
 refine zG zE (NS.need (rfl) ?_)
 refine zG zE (NS.need (rfl) ?_)
 refine zG zE (NS.need (all4 rfl rfl rfl rfl) ?_)
 exact zG zE (NS.ret rfl rfl (LeA.of (congrArg A.str (tailB (sumL (ls s))))))
theorem bs_size_frame {s:ByteArray} (h:¬ (s.size:Int) > 65536):(bs (frameL (ls s))).size <= 70000:=by
 have h1:=encI_len (inI_nat (n:=(ls s).length) (by rw [ls_len];omega))
 rw [bs_len,frameL,List.length_append,ls_len]
 rw [ls_len] at h1
 omega
theorem ls_frame (s:ByteArray):ls (bs (frameL (ls s))) = frameL (ls s):=ls_bs (frameL_lt (ls_lt s))
theorem seal_ok (s:ByteArray):FnOK Tryz.prog 378 [.str s] (.tup [.str (sealM s).1,.int .i64 (sealM s).2],none):=by
 refine fn_ok VN rfl (by kernel_rfl) Tryz.func378 rfl ?_
 have c:=text_ok s
 cases h:decide ((s.size:Int) > 65536) with
 | true=>
  rw [show textM s = (.empty,4) by unfold textM;rw [if_pos h]] at c
  refine zG zE (NS.call (c) rfl ?_)
  refine zG zE (NS.yes (rfl) ?_)
  exact zG zE (NS.ret rfl rfl (str_le (by unfold sealM;rw [if_pos h];rfl)))
 | false=>
  have h':¬ (s.size:Int) > 65536:=of_decide_eq_false h
  obtain ⟨e1,e2⟩:=ls_textM h'
  rw [e1,e2] at c
  have hsz:=bs_size_frame h'
  have c2:=tail_ok (bs (frameL (ls s))) (by omega)
  rw [ls_frame] at c2
  refine zG zE (NS.call (c) rfl ?_)
  refine zG zE (NS.no (rfl) ?_)
  refine zG zE (NS.call (c2) rfl ?_)
  refine zG zE (NS.need (decide_eq_true (by rw [bs_len (tailL _)];show _ + 4 <= _;omega)) ?_)
  exact zG zE (NS.ret rfl rfl (str_le (by unfold sealM sealL;rw [if_neg (by rw [h];simp),bs_append])))
end Go.Proofs.YtjhmdfofhnijeaaGreatDoor
namespace Go.Mb
open Go.Sy
theorem sealL_len {p:List Nat} (h:p.length <= 65536):(sealL p).length <= p.length + 13 /\ p.length + 5 <= (sealL p).length:=by
 have h1:=encI_len (inI_nat (n:=p.length) (by omega))
 have h2:0 < (encI p.length).length:=List.length_pos_iff.2 (encZ_ne _)
 simp only [sealL,frameL,List.length_append]
 have:(tailL (encI p.length ++ p)).length = 4:=rfl
 omega
end Go.Mb
namespace Go.Mb
open Go.Sy
instance:DecidableEq Nid:=fun a b=>decidable_of_iff _ (Nid.eqv_iff (a:=a) (b:=b))
def txtL (s:ByteArray):List Nat:=encI s.size ++ ls s
def stoK (k:Int):Bool:=k == 1 || k == 3
def idI (x:Nid):List Int:=[x.source,x.created,x.seq,x.off,x.total]
def cuI (b:Bool):Int:=if b then 1 else 0
def conI (r:Jrec):List Int:=
 if stoK r.kind then [r.kind,r.time] ++ ([r.item.ticket] ++ idI r.item.id ++ [r.item.dest,r.item.expires,r.item.prio,cuI r.item.custody])
 else [r.kind,r.time] ++ (idI r.id ++ if r.kind == 4 then [r.ticket] else [])
def conL (r:Jrec):List Nat:=encL (conI r) ++ if stoK r.kind then txtL r.item.data else []
def encRM (r:Jrec):List Nat × Int:=
 if recErr r != 0 then ([],recErr r) else if decide ((conL r).length > 65536) then ([],4) else (sealL (conL r),0)
def appJ (s:List Nat):List Jrec -> List Nat × Int
 | []=>(s,0)
 | r :: l=>if (encRM r).2 != 0 then ([],(encRM r).2) else appJ (s ++ (encRM r).1) l
def appM (s:List Nat) (l:List Jrec):List Nat × Int:=
 if (appJ s l).2 != 0 then ([],(appJ s l).2) else if decide ((appJ s l).1.length > 65536) then ([],4) else ((appJ s l).1,0)
theorem inR_iff {n a b:Int}:inR n a b = true ↔ a <= n /\ n <= b:=by unfold inR;simp
theorem inI_in {n a b:Int} (h:inR n a b = true) (ha:0 <= a) (hb:b <= 1152921504606846976):inI n = true:=by rw [inI_iff];rw [inR_iff] at h;omega
theorem validId_in {x:Nid} (h:validId x = true):∀ y ∈ idI x,inI y = true:=by
 unfold validId at h
 simp only [Bool.and_eq_true,Bool.or_eq_true,beq_iff_eq] at h
 obtain ⟨⟨⟨h1,h2⟩,h3⟩,h4⟩:=h
 have q:inI x.off = true /\ inI x.total = true:=by
  rcases h4 with ⟨a,b⟩ | ⟨a,b⟩
  ·rw [a,b];decide
  ·refine ⟨?_,inI_in a (by decide) (by decide)⟩
   rw [inR_iff] at a b
   rw [wrap_i64 (by omega) (by omega)] at b
   rw [inI_iff];omega
 intro y hy
 simp only [idI,List.mem_cons,List.not_mem_nil,or_false] at hy
 rcases hy with rfl | rfl | rfl | rfl | rfl
 ·exact inI_in h1 (by decide) (by decide)
 ·exact inI_in h2 (by decide) (by decide)
 ·exact inI_in h3 (by decide) (by decide)
 ·exact q.1
 ·exact q.2
structure RecS (r:Jrec):Prop where
 kind:r.kind = 1 \/ r.kind = 3
 time:inR r.time 0 1099511627776 = true
 item:itemErr r.item = 0
 id:r.id = .zero
 ticket:r.ticket = 0
structure RecI (r:Jrec):Prop where
 kind:r.kind = 2 \/ r.kind = 4
 time:inR r.time 0 1099511627776 = true
 id:validId r.id = true
 item:r.item = .zero
 ticket:if r.kind = 4 then inR r.ticket 0 1152921504606846976 = true else r.ticket = 0
theorem recErr_zero {r:Jrec}:recErr r = 0 ↔ RecS r \/ RecI r:=by
 unfold recErr
 constructor
 ·intro h
  split at h
  ·rename_i hk
   rw [inR_iff] at hk
   split at h
   ·rename_i ht
    split at h
    ·rename_i hs
     simp only [Bool.or_eq_true,beq_iff_eq] at hs
     split at h
     ·rename_i hi
      rw [h] at hi;cases hi
     ·rename_i hi
      split at h
      ·cases h
      ·rename_i hz
       simp only [Bool.or_eq_true,Bool.not_eq_true',bne_iff_ne,not_or,Bool.not_eq_false,Classical.not_not] at hz
       exact .inl ⟨hs,ht,by simpa using hi,Nid.eqv_iff.1 hz.1,hz.2⟩
    ·rename_i hs
     simp only [Bool.or_eq_true,beq_iff_eq,not_or] at hs
     split at h
     ·cases h
     ·rename_i hv
      split at h
      ·cases h
      ·rename_i hz
       simp only [Bool.or_eq_true,Bool.not_eq_true',Bool.and_eq_true,beq_iff_eq,bne_iff_ne,not_or,Bool.not_eq_false,not_and,Classical.not_not] at hv hz
       have hk2:r.kind = 2 \/ r.kind = 4:=by omega
       refine .inr ⟨hk2,ht,hv.1,Itm.eqv_iff.1 hz.1,?_⟩
       split
       ·rename_i h4;exact hv.2 h4
       ·exact hz.2 (by omega)
   ·cases h
  ·cases h
 ·rintro (h | h)
  ·have hk:inR r.kind 1 4 = true:=by rw [inR_iff];rcases h.kind with e | e <;> rw [e] <;> decide
   have hs:(r.kind == 1 || r.kind == 3) = true:=by rcases h.kind with e | e <;> rw [e] <;> rfl
   rw [if_pos hk,if_pos h.time,if_pos hs,if_neg (by rw [h.item];decide),if_neg (by rw [h.id,h.ticket];decide)]
  ·have hk:inR r.kind 1 4 = true:=by rw [inR_iff];rcases h.kind with e | e <;> rw [e] <;> decide
   have hs:¬ (r.kind == 1 || r.kind == 3) = true:=by rcases h.kind with e | e <;> rw [e] <;> decide
   have ht:=h.ticket
   rw [if_pos hk,if_pos h.time,if_neg hs,if_neg,if_neg]
   ·rw [h.item]
    rcases h.kind with e | e
    ·rw [if_neg (by omega)] at ht
     rw [ht];simp [Itm.eqv_iff.2 rfl]
    ·rw [e];simp [Itm.eqv_iff.2 rfl]
   ·rw [h.id]
    rcases h.kind with e | e
    ·rw [e];simp
    ·rw [if_pos e] at ht
     rw [ht];simp
theorem itemErr_zero {x:Itm} (h:itemErr x = 0):validId x.id = true /\ inR x.ticket 0 1152921504606846976 = true /\ inR x.dest 0 15 = true /\ inR x.expires 1 1099511627776 = true /\ inR x.prio 0 2 = true /\ inR x.data.size 1 65536 = true:=by
 unfold itemErr at h
 split at h
 ·rename_i hv
  simp only [Bool.and_eq_true] at hv
  split at h
  ·rename_i hd;exact ⟨hv.1.1.1.1,hv.1.1.1.2,hv.1.1.2,hv.1.2,hv.2,hd⟩
  ·cases h
 ·cases h
theorem conI_in {r:Jrec} (h:recErr r = 0):∀ y ∈ conI r,inI y = true:=by
 have hk:∀ {k:Int},1 <= k -> k <= 4 -> inI k = true:=fun a b=>by rw [inI_iff];omega
 rcases recErr_zero.1 h with g | g
 ·have hs:stoK r.kind = true:=by unfold stoK;rcases g.kind with e | e <;> rw [e] <;> rfl
  obtain ⟨i1,i2,i3,i4,i5,i6⟩:=itemErr_zero g.item
  unfold conI
  rw [if_pos hs]
  intro y hy
  simp only [List.mem_append,List.mem_cons,List.not_mem_nil,or_false] at hy
  rcases hy with (rfl | rfl) | (rfl | hy) | rfl | rfl | rfl | rfl
  ·exact hk (by rcases g.kind with e | e <;> omega) (by rcases g.kind with e | e <;> omega)
  ·exact inI_in g.time (by decide) (by decide)
  ·exact inI_in i2 (by decide) (by decide)
  ·exact validId_in i1 y hy
  ·exact inI_in i3 (by decide) (by decide)
  ·exact inI_in i4 (by decide) (by decide)
  ·exact inI_in i5 (by decide) (by decide)
  ·unfold cuI;split <;> decide
 ·have hs:¬ stoK r.kind = true:=by unfold stoK;rcases g.kind with e | e <;> rw [e] <;> decide
  unfold conI
  rw [if_neg hs]
  intro y hy
  simp only [List.mem_append,List.mem_cons,List.not_mem_nil,or_false] at hy
  rcases hy with (rfl | rfl) | hy | hy
  ·exact hk (by rcases g.kind with e | e <;> omega) (by rcases g.kind with e | e <;> omega)
  ·exact inI_in g.time (by decide) (by decide)
  ·exact validId_in g.id y hy
  ·have ht:=g.ticket
   split at hy
   ·rename_i e
    rw [if_pos (by simpa using e)] at ht
    simp only [List.mem_cons,List.not_mem_nil,or_false] at hy
    subst hy
    exact inI_in ht (by decide) (by decide)
   ·cases hy
theorem encL_lt2 (l:List Int):∀ x ∈ encL l,x < 256:=by
 intro x hx
 simp only [encL,List.mem_flatMap] at hx
 obtain ⟨y,_,hy⟩:=hx
 exact encZ_mem hy
end Go.Mb
namespace Go.Proofs.YtjhmdfofhnijeaaGreatDoor
open Go.Sy Go.Mb
set_option maxRecDepth 100000
def i5:List CK:=[.i .i64,.i .i64,.i .i64,.i .i64,.i .i64]
def kItem:List CK:=[.i .i64,.i .i64,.i .i64,.i .i64,.i .i64,.i .i64,.i .i64,.i .i64,.i .i64,.b,.s]
def kRecord:List CK:=[.i .i64,.i .i64,.i .i64,.i .i64,.i .i64,.i .i64,.i .i64,.i .i64,.i .i64,.i .i64,.b,.s,.i .i64,.i .i64,.i .i64,.i .i64,.i .i64,.i .i64,.i .i64]
noncomputable def EN:Env:={ P:=Tryz.prog,eqT:=lookE [(151,i5),(303,kItem),(443,kRecord)] }
theorem kinds_id:kindsT Tryz.prog 6 151 = some i5:=by kernel_rfl
theorem kinds_item:kindsT Tryz.prog 6 303 = some kItem:=by kernel_rfl
theorem kinds_record:kindsT Tryz.prog 6 443 = some kRecord:=by kernel_rfl
theorem guard_id:Tryz.prog.eqGuardType Tryz.prog.depth 151 = false:=by kernel_rfl
theorem guard_item:Tryz.prog.eqGuardType Tryz.prog.depth 303 = false:=by kernel_rfl
theorem guard_record:Tryz.prog.eqGuardType Tryz.prog.depth 443 = false:=by kernel_rfl
theorem EN_ok:EqOK EN:=by
 refine eqOK_of ?_
 intro p hp
 simp only [List.mem_cons,List.not_mem_nil,or_false] at hp
 rcases hp with rfl | rfl | rfl
 ·exact ⟨kinds_id,guard_id,by rw [Tryz.underlying151];trivial⟩
 ·exact ⟨kinds_item,guard_item,by rw [Tryz.underlying303];trivial⟩
 ·exact ⟨kinds_record,guard_record,by rw [Tryz.underlying443];trivial⟩
noncomputable def CN:Cx:={ E:=EN,inl:=[],ok:=EN_ok }
theorem within_ok (n lo hi:Int):FnOK Tryz.prog 398 [.int .i64 n,.int .i64 lo,.int .i64 hi] (.bool (inR n lo hi),none):=by
 refine fn_ok CN rfl (by kernel_rfl) Tryz.func398 rfl ?_
 refine zG zE (NS.ite (fun h=>?_) (fun h=>?_))
 ·exact zG zE (NS.ret rfl rfl (LeA.of (congrArg A.bool (inR_t h))))
 ·exact zG zE (NS.ret rfl rfl (LeA.of (congrArg A.bool (inR_f h))))
theorem checkId_ok (x:Nid):FnOK Tryz.prog 400 [.agg x.cells] (.bool (validId x),none):=by
 refine fn_ok CN rfl (by kernel_rfl) Tryz.func400 rfl ?_
 repeat' (first
  | refine zG zE ?_
  | refine NS.call (within_ok _ _ _) rfl ?_
  | refine NS.ite (fun _=>?_) (fun _=>?_)
  | refine NS.ret rfl rfl (LeA.of (congrArg A.bool ?_)))
 all_goals (simp_all [validId])
theorem jItem_ok (x:Itm):FnOK Tryz.prog 399 [.agg x.cells] (.int .i64 (itemErr x),none):=by
 refine fn_ok CN rfl (by kernel_rfl) Tryz.func399 rfl ?_
 repeat' (first
  | refine zG zE ?_
  | refine NS.call (checkId_ok x.id) rfl ?_
  | refine NS.call (within_ok _ _ _) rfl ?_
  | refine NS.ite (fun _=>?_) (fun _=>?_)
  | refine NS.ret rfl rfl (LeA.of (congrArg (A.int .i64) ?_)))
 all_goals (simp_all [itemErr])
set_option maxHeartbeats 1000000
theorem jCheck_ok (r:Jrec):FnOK Tryz.prog 340 [.agg r.cells] (.int .i64 (recErr r),none):=by
 refine fn_ok CN rfl (by kernel_rfl) Tryz.func340 rfl ?_
 repeat' (first
  | refine zG zE ?_
  | refine NS.call (jItem_ok r.item) rfl ?_
  | refine NS.call (checkId_ok r.id) rfl ?_
  | refine NS.call (within_ok _ _ _) rfl ?_
  | refine NS.ite (fun _=>?_) (fun _=>?_)
  | refine NS.ret rfl rfl (LeA.of (congrArg (A.int .i64) ?_)))
 all_goals (simp_all [recErr,Nid.eqv,Itm.eqv,Nid.zero,Itm.zero])
end Go.Proofs.YtjhmdfofhnijeaaGreatDoor
namespace Go.Proofs.YtjhmdfofhnijeaaGreatDoor
open Go.Sy Go.Mb Go.RowKit
set_option maxRecDepth 100000
set_option maxHeartbeats 1000000
abbrev TB:Nat:=514
abbrev TU:Nat:=5
theorem bld_kept {B b:Nat} {xs:List Value} {w w':World} (h:Lib.IsBuilder TB TU B b xs w) (hk:Below w.heap.size w w'):Lib.IsBuilder TB TU B b xs w':=by
 have key:∀ p,Lib.BuilderAt TB TU B b p xs w -> Lib.BuilderAt TB TU B b p xs w':=by
  rintro p ⟨hB,v,hb,hown,hne⟩
  have old:∀ k o,w.heap[k]? = some o -> w'.heap[k]? = some o:=fun k o hk'=>by
   rw [hk.block k (Array.getElem?_eq_some_iff.1 hk').1];exact hk'
  refine ⟨hB,v,old _ _ hb,⟨hown.1,?_⟩,hne⟩
  rcases hown.2 with hz | ⟨g,cap,cur,hv,hg,hc,hr⟩
  ·exact .inl hz
  ·exact .inr ⟨g,cap,cur,hv,hg,old _ _ hc,hr⟩
 rcases h with h | h
 ·exact .inl (key _ h)
 ·exact .inr (key _ h)
theorem int_w {n:Int} (h:inI n = true) (w:World):Calls Tryz.prog 376 #[.int .i64 n] w fun e w'=>e = .returned (.tuple #[.string (bs (encI n)),.int .i64 0]) /\ Below w.heap.size w w':=by
 have c:=int_ok n
 rw [intM_ok h] at c
 refine (c.run w (fun _=>False) [.int .i64 n] (fun _ h=>h.elim) ⟨_,[],rfl,by simp only [R],rfl⟩).mono ?_
 rintro e w' ⟨v,l,rfl,hb,hr,_,_⟩
 simp only [R] at hr
 obtain ⟨us,rfl,hus⟩:=hr
 simp only [RL,R] at hus
 obtain ⟨_,_,rfl,rfl,_,_,rfl,rfl,rfl⟩:=hus
 exact ⟨rfl,hb.below⟩
theorem strCells_app (a b:ByteArray):Lib.strCells (a ++ b) = Lib.strCells a ++ Lib.strCells b:=by
 rw [Lib.strCells_eq,Lib.strCells_eq,Lib.strCells_eq,<- Lib.byteCells_append]
 simp [ByteArray.data_append]
theorem numbers_ok (l:List Int) (hl:l.length <= 1000) (h:∀ x ∈ l,inI x = true):FnOK Tryz.prog 397 [slN l] (.str (bs (encL l)),none):=by
 refine ⟨by kernel_rfl,fun w X vs hX hr=>?_⟩
 obtain ⟨v,vs',rfl,hv,rfl⟩:=hr
 simp only [slN,R] at hv
 obtain ⟨a,cap,rfl,h1,h2,h3⟩:=hv
 have hlen:∀ k,(encL (l.take k)).length <= 9 * l.length:=fun k=>by
  have:=encL_len (l:=l.take k) fun x hx=>h x (List.mem_of_mem_take hx)
  rw [List.length_take] at this;omega
 have main:Calls Tryz.prog 397 #[.slice a l.length cap] w fun e w'=>e = .returned (.string (bs (encL l))) /\ Below w.heap.size w w':=by
  go_enter Tryz.func397,Tryz.ntmps397
  go_wp2
  go_loopw [10] (fun i wr=>∃ k:Nat,k <= l.length /\ i = .int .i64 k /\ Lib.IsBuilder TB TU w.heap.size w.heap.size (Lib.strCells (bs (encL (l.take k)))) wr /\ Below w.heap.size w wr) (fun i _=>l.length - (intOf i).toNat)
  case atStart=>
   exact ⟨0,Nat.zero_le _,rfl,Lib.fresh_isBuilder TB TU w,(Below.refl _ w).alloc (Nat.le_refl _) _⟩
  case round=>
   obtain ⟨k,hk,rfl,hI,hB⟩:=hrel
   have hsz:w.heap.size <= wr.heap.size:=hB.size
   by_cases hlt:k < l.length
   ·obtain ⟨ad,rfl,him,hcell⟩:=h3 (by omega)
    have hin:inI (l.getD k default) = true:=h _ (by rw [getD_lt hlt];exact List.getElem_mem hlt)
    have hg:wr.cell? (ad.add k) = some (.int .i64 (l.getD k default)):=by
     obtain ⟨u,hu,_,hu2⟩:=hcell k hlt 0 (by decide)
     rw [World.cell?_of_block (w:=w) (hB.block _ (by rw [add_block];exact him.1))]
     have e0:ad.add k = ad.add (k * 1 + 0):=by rw [Nat.mul_one,Nat.add_zero]
     rw [e0,hu]
     have hu2:R w X (A.int .i64 (l.getD k default)) virg u:=hu2
     simp only [R] at hu2
     rw [hu2]
    have hsn:=encL_snoc l k hlt
    have hl9:=encI_len hin
    have hlk:=hlen k
    obtain ⟨z,hz⟩:∃ z,z = l.getD k default:=⟨_,rfl⟩
    rw [<- hz] at hin hg hsn hl9
    clear hz hcell
    go_wp2_with (go_at_call 376;refine (int_w hin _).mono ?_)
    rintro e w1 ⟨rfl,hb1⟩
    have hs1:=hb1.size
    go_wp2_with (go_at_call 336;refine (Tryz.writeString_w w.heap.size w.heap.size _ _ _ (bld_kept hI hb1) ?q1 ?q2).mono ?_)
    case q1=>rw [Lib.strCells_length,bs_len,bs_len];omega
    case q2=>omega
    rintro e w2 ⟨rfl,h5,hb2⟩
    go_wp2
    go_roundw
    case rel=>
     refine ⟨k + 1,by omega,by go_num,?_,hB.trans ((hb1.mono hsz).trans hb2)⟩
     rw [hsn,bs_append,strCells_app]
     exact .inr h5
    case measure=>simp [intOf];omega
   ·obtain rfl:k = l.length:=by omega
    rw [List.take_length] at hI
    have e0:Lib.strCells (bs (encL l)) = Lib.byteCells (bs (encL l)).data.toList:=Lib.strCells_eq _
    rw [e0] at hI
    go_wp2_with (go_at_call 339;refine (Any.Builder_String_any Tryz.ly169 Tryz.bX w.heap.size w.heap.size _ _ hI hsz).mono ?_)
    rintro e w1 ⟨rfl,hb1⟩
    go_wp2
    go_ret
    exact ⟨by simp,hB.trans hb1⟩
 refine main.mono ?_
 rintro e w' ⟨rfl,hb⟩
 refine ⟨_,.virgin,rfl,⟨hb.os,hb.tape,hb.output,hb.size,hb.block,trivial⟩,by simp only [R],rfl,fun b hb=>by cases hb⟩
end Go.Proofs.YtjhmdfofhnijeaaGreatDoor
namespace Go.Mb
open Go.Sy
theorem textN_ok {s:ByteArray} (h:s.size <= 65536):textM s = (bs (txtL s),0):=by
 unfold textM
 rw [if_neg (by simp;omega),txtL,bs_append,bs_ls]
theorem sealN {s:ByteArray} {l:List Nat} (h:ls s = l):sealM s = if decide (l.length > 65536) then (.empty,4) else (bs (sealL l),0):=by
 unfold sealM
 have e:s.size = l.length:=by rw [<- h,ls_len]
 rw [e,h]
 by_cases hl:l.length > 65536
 ·rw [if_pos (by simp;omega),if_pos (by simpa using hl)]
 ·rw [if_neg (by simp;omega),if_neg (by simpa using hl)]
def encA (r:List Nat × Int):A:=.tup [.str (bs r.1),.int .i64 r.2]
end Go.Mb
namespace Go.Proofs.YtjhmdfofhnijeaaGreatDoor
open Go.Sy Go.Mb
set_option maxRecDepth 100000
set_option maxHeartbeats 1000000
theorem bsn_len {l:List Int} (h:∀ x ∈ l,inI x = true) (hl:l.length <= 20):(bs (encL l)).size <= 180:=by
 have:=encL_len h
 rw [bs_len];omega
theorem jEnc_ok (r:Jrec):FnOK Tryz.prog 337 [.agg r.cells] (encA (encRM r),none):=by
 have c:=jCheck_ok r
 unfold encRM encA
 by_cases h:(recErr r != 0) = true
 ·rw [if_pos h]
  refine fn_ok CN rfl (by kernel_rfl) Tryz.func337 rfl ?_
  refine zG zE (NS.call (c) rfl ?_)
  refine zG zE (NS.yes (h) ?_)
  exact zG zE (NS.ret rfl rfl (LeA.refl _))
 rw [if_neg h]
 have h:recErr r = 0:=by simpa using h
 have hin:=conI_in h
 rw [h] at c
 rcases recErr_zero.1 h with g | g
 ·have hs:stoK r.kind = true:=by unfold stoK;rcases g.kind with e | e <;> rw [e] <;> rfl
  have hsz:r.item.data.size <= 65536:=by have:=itemErr_zero g.item;have:=this.2.2.2.2.2;rw [inR_iff] at this;omega
  have hi:conI r = [r.kind,r.time] ++ ([r.item.ticket] ++ idI r.item.id ++ [r.item.dest,r.item.expires,r.item.prio,cuI r.item.custody]):=if_pos hs
  rw [hi] at hin
  have hin1:∀ y ∈ [r.kind,r.time],inI y = true:=fun y hy=>hin y (List.mem_append_left _ hy)
  have hin2:∀ y ∈ [r.item.ticket] ++ idI r.item.id ++ [r.item.dest,r.item.expires,r.item.prio,cuI r.item.custody],inI y = true:=fun y hy=>hin y (List.mem_append_right _ hy)
  have c1:=numbers_ok [r.kind,r.time] (by show 2 <= 1000;decide) hin1
  have c2:=numbers_ok ([r.item.ticket] ++ idI r.item.id ++ [r.item.dest,r.item.expires,r.item.prio,cuI r.item.custody]) (by show 10 <= 1000;decide) hin2
  have b1:=bsn_len hin1 (by show 2 <= 20;decide)
  have b2:=bsn_len hin2 (by show 10 <= 20;decide)
  have ct:FnOK Tryz.prog 374 [.str r.item.data] (.tup [.str (bs (txtL r.item.data)),.int .i64 0],none):=by
   have c0:=text_ok r.item.data
   rw [textN_ok hsz] at c0
   exact c0
  have hl:ls (bs (encL [r.kind,r.time]) ++ (bs (encL ([r.item.ticket] ++ idI r.item.id ++ [r.item.dest,r.item.expires,r.item.prio,cuI r.item.custody])) ++ bs (txtL r.item.data))) = conL r:=by
   rw [ls_append,ls_append,ls_bs (encL_lt2 _),ls_bs (encL_lt2 _),ls_bs (fun x hx=>by
    rcases List.mem_append.1 hx with h | h
    ·exact encZ_mem h
    ·exact ls_lt _ x h)]
   unfold conL
   rw [if_pos hs,hi]
   simp only [encL,List.flatMap_append,List.append_assoc]
  have htl:(bs (txtL r.item.data)).size <= 65600:=by
   have:=encI_len (inI_nat (n:=r.item.data.size) (by omega))
   rw [bs_len,txtL,List.length_append,ls_len];omega
  refine fn_ok CN rfl (by kernel_rfl) Tryz.func337 rfl ?_
  refine zG zE (NS.call (c) rfl ?_)
  refine zG zE (NS.no (rfl) ?_)
  refine zG zE (NS.call (c1.le (LeL.cons (LeA.sl rfl fun i hi j hj=>?_) LeL.nil)) rfl ?_)
  ·have hj:j < 1:=hj
   obtain rfl:j = 0:=by omega
   have hi:i < 2:=hi
   rcases (by omega:i = 0 \/ i = 1) with rfl | rfl <;> rfl
  rcases g.kind with hk | hk
  ·refine zG zE (NS.yes (by rw [hk];rfl) ?_)
   refine zG zE (NS.yes (by rw [hk];rfl) ?_)
   have hten:∀ i,i < 10 -> i = 0 \/ i = 1 \/ i = 2 \/ i = 3 \/ i = 4 \/ i = 5 \/ i = 6 \/ i = 7 \/ i = 8 \/ i = 9:=fun i h=>by omega
   refine zG zE (NS.ite (fun cu=>?_) (fun cu=>?_))
   ·have cu:r.item.custody = true:=cu
    refine zG zE (NS.call (ct) rfl ?_)
    refine zG zE (NS.no (rfl) ?_)
    refine zG zE (NS.call (c2.le (LeL.cons (LeA.sl rfl fun i hi j hj=>?_) LeL.nil)) rfl ?_)
    ·have hj:j < 1:=hj
     obtain rfl:j = 0:=by omega
     rcases hten i hi with rfl | rfl | rfl | rfl | rfl | rfl | rfl | rfl | rfl | rfl
     all_goals first
      | rfl
      | (show A.int .i64 1 = A.int .i64 (cuI r.item.custody);rw [cu];rfl)
    refine zG zE (NS.need (decide_eq_true (by omega)) ?_)
    refine zG zE (NS.need (decide_eq_true (by rw [ByteArray.size_append];omega)) ?_)
    have cse:=seal_ok (bs (encL [r.kind,r.time]) ++ (bs (encL ([r.item.ticket] ++ idI r.item.id ++ [r.item.dest,r.item.expires,r.item.prio,cuI r.item.custody])) ++ bs (txtL r.item.data)))
    rw [sealN (l:=conL r) hl] at cse
    by_cases hb:(conL r).length > 65536
    ·rw [if_pos (decide_eq_true hb)] at cse
     rw [if_pos (decide_eq_true hb)]
     refine zG zE (NS.call (cse) rfl ?_)
     refine zG zE (NS.yes (rfl) ?_)
     exact zG zE (NS.ret rfl rfl (LeA.refl _))
    ·rw [if_neg (by simpa using hb)] at cse
     rw [if_neg (by simpa using hb)]
     refine zG zE (NS.call (cse) rfl ?_)
     refine zG zE (NS.no (rfl) ?_)
     exact zG zE (NS.ret rfl rfl (LeA.refl _))
   ·have cu:r.item.custody = false:=cu
    refine zG zE (NS.call (ct) rfl ?_)
    refine zG zE (NS.no (rfl) ?_)
    refine zG zE (NS.call (c2.le (LeL.cons (LeA.sl rfl fun i hi j hj=>?_) LeL.nil)) rfl ?_)
    ·have hj:j < 1:=hj
     obtain rfl:j = 0:=by omega
     rcases hten i hi with rfl | rfl | rfl | rfl | rfl | rfl | rfl | rfl | rfl | rfl
     all_goals first
      | rfl
      | (show A.int .i64 0 = A.int .i64 (cuI r.item.custody);rw [cu];rfl)
    refine zG zE (NS.need (decide_eq_true (by omega)) ?_)
    refine zG zE (NS.need (decide_eq_true (by rw [ByteArray.size_append];omega)) ?_)
    have cse:=seal_ok (bs (encL [r.kind,r.time]) ++ (bs (encL ([r.item.ticket] ++ idI r.item.id ++ [r.item.dest,r.item.expires,r.item.prio,cuI r.item.custody])) ++ bs (txtL r.item.data)))
    rw [sealN (l:=conL r) hl] at cse
    by_cases hb:(conL r).length > 65536
    ·rw [if_pos (decide_eq_true hb)] at cse
     rw [if_pos (decide_eq_true hb)]
     refine zG zE (NS.call (cse) rfl ?_)
     refine zG zE (NS.yes (rfl) ?_)
     exact zG zE (NS.ret rfl rfl (LeA.refl _))
    ·rw [if_neg (by simpa using hb)] at cse
     rw [if_neg (by simpa using hb)]
     refine zG zE (NS.call (cse) rfl ?_)
     refine zG zE (NS.no (rfl) ?_)
     exact zG zE (NS.ret rfl rfl (LeA.refl _))
  ·refine zG zE (NS.no (by rw [hk];rfl) ?_)
   refine zG zE (NS.yes (by rw [hk];rfl) ?_)
   have hten:∀ i,i < 10 -> i = 0 \/ i = 1 \/ i = 2 \/ i = 3 \/ i = 4 \/ i = 5 \/ i = 6 \/ i = 7 \/ i = 8 \/ i = 9:=fun i h=>by omega
   refine zG zE (NS.ite (fun cu=>?_) (fun cu=>?_))
   ·have cu:r.item.custody = true:=cu
    refine zG zE (NS.call (ct) rfl ?_)
    refine zG zE (NS.no (rfl) ?_)
    refine zG zE (NS.call (c2.le (LeL.cons (LeA.sl rfl fun i hi j hj=>?_) LeL.nil)) rfl ?_)
    ·have hj:j < 1:=hj
     obtain rfl:j = 0:=by omega
     rcases hten i hi with rfl | rfl | rfl | rfl | rfl | rfl | rfl | rfl | rfl | rfl
     all_goals first
      | rfl
      | (show A.int .i64 1 = A.int .i64 (cuI r.item.custody);rw [cu];rfl)
    refine zG zE (NS.need (decide_eq_true (by omega)) ?_)
    refine zG zE (NS.need (decide_eq_true (by rw [ByteArray.size_append];omega)) ?_)
    have cse:=seal_ok (bs (encL [r.kind,r.time]) ++ (bs (encL ([r.item.ticket] ++ idI r.item.id ++ [r.item.dest,r.item.expires,r.item.prio,cuI r.item.custody])) ++ bs (txtL r.item.data)))
    rw [sealN (l:=conL r) hl] at cse
    by_cases hb:(conL r).length > 65536
    ·rw [if_pos (decide_eq_true hb)] at cse
     rw [if_pos (decide_eq_true hb)]
     refine zG zE (NS.call (cse) rfl ?_)
     refine zG zE (NS.yes (rfl) ?_)
     exact zG zE (NS.ret rfl rfl (LeA.refl _))
    ·rw [if_neg (by simpa using hb)] at cse
     rw [if_neg (by simpa using hb)]
     refine zG zE (NS.call (cse) rfl ?_)
     refine zG zE (NS.no (rfl) ?_)
     exact zG zE (NS.ret rfl rfl (LeA.refl _))
   ·have cu:r.item.custody = false:=cu
    refine zG zE (NS.call (ct) rfl ?_)
    refine zG zE (NS.no (rfl) ?_)
    refine zG zE (NS.call (c2.le (LeL.cons (LeA.sl rfl fun i hi j hj=>?_) LeL.nil)) rfl ?_)
    ·have hj:j < 1:=hj
     obtain rfl:j = 0:=by omega
     rcases hten i hi with rfl | rfl | rfl | rfl | rfl | rfl | rfl | rfl | rfl | rfl
     all_goals first
      | rfl
      | (show A.int .i64 0 = A.int .i64 (cuI r.item.custody);rw [cu];rfl)
    refine zG zE (NS.need (decide_eq_true (by omega)) ?_)
    refine zG zE (NS.need (decide_eq_true (by rw [ByteArray.size_append];omega)) ?_)
    have cse:=seal_ok (bs (encL [r.kind,r.time]) ++ (bs (encL ([r.item.ticket] ++ idI r.item.id ++ [r.item.dest,r.item.expires,r.item.prio,cuI r.item.custody])) ++ bs (txtL r.item.data)))
    rw [sealN (l:=conL r) hl] at cse
    by_cases hb:(conL r).length > 65536
    ·rw [if_pos (decide_eq_true hb)] at cse
     rw [if_pos (decide_eq_true hb)]
     refine zG zE (NS.call (cse) rfl ?_)
     refine zG zE (NS.yes (rfl) ?_)
     exact zG zE (NS.ret rfl rfl (LeA.refl _))
    ·rw [if_neg (by simpa using hb)] at cse
     rw [if_neg (by simpa using hb)]
     refine zG zE (NS.call (cse) rfl ?_)
     refine zG zE (NS.no (rfl) ?_)
     exact zG zE (NS.ret rfl rfl (LeA.refl _))
 ·have hs:¬ stoK r.kind = true:=by unfold stoK;rcases g.kind with e | e <;> rw [e] <;> decide
  have hi:conI r = [r.kind,r.time] ++ (idI r.id ++ if r.kind == 4 then [r.ticket] else []):=if_neg hs
  rw [hi] at hin
  have hin1:∀ y ∈ [r.kind,r.time],inI y = true:=fun y hy=>hin y (List.mem_append_left _ hy)
  have hin2:∀ y ∈ idI r.id,inI y = true:=fun y hy=>hin y (List.mem_append_right _ (List.mem_append_left _ hy))
  have c1:=numbers_ok [r.kind,r.time] (by show 2 <= 1000;decide) hin1
  have c2:=numbers_ok (idI r.id) (by show 5 <= 1000;decide) hin2
  have b1:=bsn_len hin1 (by show 2 <= 20;decide)
  have b2:=bsn_len hin2 (by show 5 <= 20;decide)
  refine fn_ok CN rfl (by kernel_rfl) Tryz.func337 rfl ?_
  refine zG zE (NS.call (c) rfl ?_)
  refine zG zE (NS.no (rfl) ?_)
  refine zG zE (NS.call (c1.le (LeL.cons (LeA.sl rfl fun i hi j hj=>?_) LeL.nil)) rfl ?_)
  ·have hj:j < 1:=hj
   obtain rfl:j = 0:=by omega
   have hi:i < 2:=hi
   rcases (by omega:i = 0 \/ i = 1) with rfl | rfl <;> rfl
  refine zG zE (NS.no (by rcases g.kind with hk | hk <;> rw [hk] <;> rfl) ?_)
  refine zG zE (NS.no (by rcases g.kind with hk | hk <;> rw [hk] <;> rfl) ?_)
  refine zG zE (NS.call (c2.le (LeL.cons (LeA.sl rfl fun i hi j hj=>?_) LeL.nil)) rfl ?_)
  ·have hj:j < 1:=hj
   obtain rfl:j = 0:=by omega
   have hi:i < 5:=hi
   rcases (by omega:i = 0 \/ i = 1 \/ i = 2 \/ i = 3 \/ i = 4) with rfl | rfl | rfl | rfl | rfl <;> rfl
  refine zG zE (NS.need (decide_eq_true (by omega)) ?_)
  rcases g.kind with hk | hk
  ·have hl:ls (bs (encL [r.kind,r.time]) ++ bs (encL (idI r.id))) = conL r:=by
    rw [ls_append,ls_bs (encL_lt2 _),ls_bs (encL_lt2 _)]
    unfold conL
    rw [if_neg hs,hi,if_neg (by rw [hk];decide)]
    simp only [encL,List.flatMap_append,List.append_nil]
   refine zG zE (NS.no (by rw [hk];rfl) ?_)
   have cse:=seal_ok (bs (encL [r.kind,r.time]) ++ bs (encL (idI r.id)))
   rw [sealN (l:=conL r) hl] at cse
   by_cases hb:(conL r).length > 65536
   ·rw [if_pos (decide_eq_true hb)] at cse
    rw [if_pos (decide_eq_true hb)]
    refine zG zE (NS.call (cse) rfl ?_)
    refine zG zE (NS.yes (rfl) ?_)
    exact zG zE (NS.ret rfl rfl (LeA.refl _))
   ·rw [if_neg (by simpa using hb)] at cse
    rw [if_neg (by simpa using hb)]
    refine zG zE (NS.call (cse) rfl ?_)
    refine zG zE (NS.no (rfl) ?_)
    exact zG zE (NS.ret rfl rfl (LeA.refl _))
  ·have hin3:∀ y ∈ [r.ticket],inI y = true:=fun y hy=>hin y (List.mem_append_right _ (List.mem_append_right _ (by rw [if_pos (by rw [hk];rfl)];exact hy)))
   have c3:=numbers_ok [r.ticket] (by show 1 <= 1000;decide) hin3
   have b3:=bsn_len hin3 (by show 1 <= 20;decide)
   have hl:ls (bs (encL [r.kind,r.time]) ++ bs (encL (idI r.id)) ++ bs (encL [r.ticket])) = conL r:=by
    rw [ls_append,ls_append,ls_bs (encL_lt2 _),ls_bs (encL_lt2 _),ls_bs (encL_lt2 _)]
    unfold conL
    rw [if_neg hs,hi,if_pos (by rw [hk];rfl)]
    simp only [encL,List.flatMap_append,List.append_nil,List.append_assoc]
   refine zG zE (NS.yes (by rw [hk];rfl) ?_)
   refine zG zE (NS.call (c3.le (LeL.cons (LeA.sl rfl fun i hi j hj=>?_) LeL.nil)) rfl ?_)
   ·have hj:j < 1:=hj
    obtain rfl:j = 0:=by omega
    have hi:i < 1:=hi
    obtain rfl:i = 0:=by omega
    rfl
   refine zG zE (NS.need (decide_eq_true (by rw [ByteArray.size_append];omega)) ?_)
   have cse:=seal_ok (bs (encL [r.kind,r.time]) ++ bs (encL (idI r.id)) ++ bs (encL [r.ticket]))
   rw [sealN (l:=conL r) hl] at cse
   by_cases hb:(conL r).length > 65536
   ·rw [if_pos (decide_eq_true hb)] at cse
    rw [if_pos (decide_eq_true hb)]
    refine zG zE (NS.call (cse) rfl ?_)
    refine zG zE (NS.yes (rfl) ?_)
    exact zG zE (NS.ret rfl rfl (LeA.refl _))
   ·rw [if_neg (by simpa using hb)] at cse
    rw [if_neg (by simpa using hb)]
    refine zG zE (NS.call (cse) rfl ?_)
    refine zG zE (NS.no (rfl) ?_)
    exact zG zE (NS.ret rfl rfl (LeA.refl _))
end Go.Proofs.YtjhmdfofhnijeaaGreatDoor
namespace Go.Mb
open Go.Sy
def accJ (s:List Nat) (l:List Jrec):List Nat:=s ++ l.flatMap fun r=>(encRM r).1
theorem accJ_snoc (s:List Nat) (l:List Jrec) (r:Jrec):accJ s (l ++ [r]) = accJ s l ++ (encRM r).1:=by simp [accJ]
theorem appJ_at:∀ {l:List Jrec} {k:Nat} {s:List Nat},k < l.length -> (∀ i,i < k -> (encRM (l.getD i default)).2 = 0) -> (encRM (l.getD k default)).2 ≠ 0 -> appJ s l = ([],(encRM (l.getD k default)).2)
 | [],k,s,h,_,_=>absurd h (Nat.not_lt_zero _)
 | r :: l,0,s,_,_,h=>by
  have h:(encRM r).2 ≠ 0:=h
  rw [appJ,if_pos (by simpa using h)];rfl
 | r :: l,k + 1,s,h,h1,h2=>by
  have h0:(encRM r).2 = 0:=h1 0 (by omega)
  rw [appJ,if_neg (by rw [h0];decide)]
  exact appJ_at (k:=k) (by simpa using h) (fun i hi=>h1 (i + 1) (by omega)) h2
theorem appJ_all:∀ {l:List Jrec} {s:List Nat},(∀ i,i < l.length -> (encRM (l.getD i default)).2 = 0) -> appJ s l = (accJ s l,0)
 | [],s,_=>by simp [appJ,accJ]
 | r :: l,s,h=>by
  have h0:(encRM r).2 = 0:=h 0 (by simp)
  rw [appJ,if_neg (by rw [h0];decide),appJ_all (fun i hi=>h (i + 1) (by simpa using hi))]
  simp [accJ]
theorem encRM_len (r:Jrec):(encRM r).1.length <= 65600:=by
 unfold encRM
 split
 ·simp
 ·split
  ·simp
  ·rename_i h
   have:=(sealL_len (p:=conL r) (by simpa using h)).1
   have h:(conL r).length <= 65536:=by simpa using h
   show (sealL (conL r)).length <= _
   omega
theorem accJ_len (s:List Nat):∀ (l:List Jrec),(accJ s l).length <= s.length + 65600 * l.length
 | []=>by simp [accJ]
 | r :: l=>by
  have h1:=accJ_len s l
  have h2:=encRM_len r
  simp only [accJ,List.flatMap_cons,List.length_append,List.length_cons] at h1 ⊢
  omega
end Go.Mb
namespace Go.Proofs.YtjhmdfofhnijeaaGreatDoor
open Go.Sy Go.Mb Go.RowKit
set_option maxRecDepth 100000
set_option maxHeartbeats 1000000
section
variable {P:Program} {ops:Array Oper} {rest:List Oper} {o:Oper} {a:Act} {Q:Exit -> Act -> World -> Prop} {w:World}
theorem wl_load (hgd:o.guard = none) {t:TypeId} {x:Operand} (ho:o.op = .load t x) {p v:Value} (hp:a.eval x = p) (hr:(Instr.loadAt t p).run P w = .ok v w) (h:wpList P ops Q rest (a.put o.dst v) w):wpList P ops Q (o :: rest) a w:=by
 refine wpList_plain hgd fun K hK=>?_
 unfold Oper.wp execOp
 simp only [ho,hp,Sem.run_bind,hr,Result.andThen_ok,Sem.run_pure]
 exact hK _ _ h
theorem wl_store (hgd:o.guard = none) {t bt:TypeId} {x y:Operand} (ho:o.op = .store t x y) {b s:Nat} {us:List Value} {cur:Array Value} (hx:a.eval x = .pointer (some ⟨b,0,none⟩)) (hy:a.eval y = .agg us.toArray) (hsz:sizeT P t = some s) (hl:us.length = s) (hg:w.heap[b]? = some (.cells cur bt (0,0))) (hc:cur.size = s) (h1:∀ v ∈ us,v.oneCell' = true) (h:wpList P ops Q rest (a.put o.dst undef) (w.setRow b us.toArray)):wpList P ops Q (o :: rest) a w:=by
 refine wpList_plain hgd fun K hK=>?_
 have hr:=run_storeCells_fz P b 0 bt (0,0) us 0 cur w hg (.inr rfl) (by omega) h1
 have e:(cur.toList.take (0 + 0) ++ us ++ cur.toList.drop (0 + 0 + us.length)).toArray = us.toArray:=by
  rw [List.drop_eq_nil_of_le (by simp;omega)];simp
 rw [e] at hr
 have hrun:(Instr.storeAt t (.pointer (some ⟨b,0,none⟩)) (.agg us.toArray)).run P w = .ok () (w.setRow b us.toArray):=by
  have hvs:(Value.agg us.toArray).cells.size = s:=by show us.toArray.size = s;simpa using hl
  simp only [Instr.storeAt,Instr.sureAddr,storeVar,Sem.run_bind,Sem.run_pure,Result.andThen_ok,sizeT_run hsz,hvs,ne_eq,not_true_eq_false,if_false]
  exact hr
 unfold Oper.wp execOp
 simp only [ho,hx,hy,Sem.run_bind,hrun,Result.andThen_ok,Sem.run_pure]
 exact hK _ _ h
end
theorem enc_w (r:Jrec) (v:Value) (w:World) (X:Nat -> Prop) (hX:∀ b,X b -> b < w.heap.size) (hv:R w X (.agg r.cells) virg v):Calls Tryz.prog 337 #[v] w fun e w'=>e = .returned (.tuple #[.string (bs (encRM r).1),.int .i64 (encRM r).2]) /\ Below w.heap.size w w':=by
 refine ((jEnc_ok r).run w X [v] hX ⟨_,[],rfl,hv,rfl⟩).mono ?_
 rintro e w' ⟨u,l,rfl,hb,hr,_,_⟩
 simp only [encA,R] at hr
 obtain ⟨us,rfl,hus⟩:=hr
 simp only [RL,R] at hus
 obtain ⟨_,_,rfl,rfl,_,_,rfl,rfl,rfl⟩:=hus
 exact ⟨rfl,hb.below⟩
theorem append_ok (s:ByteArray) (l:List Jrec) (hs:s.size <= 100000) (hl:l.length <= 100000):FnOK Tryz.prog 288 [.str s,slR l] (encA (appM (ls s) l),none):=by
 refine ⟨by kernel_rfl,fun w X vs hX hr=>?_⟩
 obtain ⟨v0,vs0,rfl,hv0,hr⟩:=hr
 obtain ⟨v,vs',rfl,hv,rfl⟩:=hr
 simp only [R] at hv0
 subst hv0
 simp only [slR,R] at hv
 obtain ⟨a,cap,rfl,h1,h2,h3⟩:=hv
 have main:Calls Tryz.prog 288 #[.string s,.slice a l.length cap] w fun e w'=>e = .returned (.tuple #[.string (bs (appM (ls s) l).1),.int .i64 (appM (ls s) l).2]) /\ Below w.heap.size w w':=by
  go_enter Tryz.func288,Tryz.ntmps288
  go_wp2_with (go_at_call 336;refine (Tryz.writeString_w w.heap.size w.heap.size [] _ _ (Lib.fresh_isBuilder TB TU w) ?q1 ?q2).mono ?_)
  case q1=>simp;omega
  case q2=>simp
  rintro e w0 ⟨rfl,h5,hb0⟩
  have hb0:Below w.heap.size w w0:=((Below.refl _ w).alloc (Nat.le_refl _) _).trans hb0
  go_wp2
  go_loopw [15] (fun i wr=>∃ k:Nat,k <= l.length /\ i = .int .i64 k /\ Lib.IsBuilder TB TU w.heap.size w.heap.size (Lib.strCells (bs (accJ (ls s) (l.take k)))) wr /\ Below w.heap.size w wr /\ Hid (∀ i,i < k -> (encRM (l.getD i default)).2 = 0)) (fun i _=>l.length - (intOf i).toNat)
  case atStart=>
   refine ⟨0,Nat.zero_le _,rfl,?_,hb0,fun i hi=>absurd hi (Nat.not_lt_zero _)⟩
   have e:bs (accJ (ls s) (l.take 0)) = s:=by rw [List.take_zero];unfold accJ;simp [bs_ls]
   rw [e]
   exact .inr h5
  case round=>
   obtain ⟨k,hk,rfl,hI,hB,hH⟩:=hrel
   have hsz:w.heap.size <= wr.heap.size:=hB.size
   by_cases hlt:k < l.length
   ·obtain ⟨ad,rfl,him,hcell⟩:=h3 (by omega)
    have hip:R wr X (.ip 19 (rowL Jrec.cells l k)) virg (.pointer (some (ad.add (k * 19)))):=by
     refine ⟨_,rfl,fun _=>⟨by rw [add_block];exact ⟨Nat.lt_of_lt_of_le him.1 hsz,him.2⟩,fun j hj=>?_⟩⟩
     obtain ⟨u,hu,_,hu2⟩:=hcell k hlt j hj
     refine ⟨u,?_,R.later _ virg virg u ⟨hsz,fun b hb _=>hB.block b hb,fun _ _ h=>h,fun _=>.inl rfl⟩ hu2⟩
     rw [add_add,World.cell?_of_block (w:=w) (hB.block _ (by rw [add_block];exact him.1))]
     exact hu
    obtain ⟨v',hload,hv'⟩:=loadA_sound (P:=Tryz.prog) (objs:=[]) (t:=443) (a':=.agg (l.getD k default).cells) (fun id=>by exact .inr rfl) hip rfl
    clear hip hcell
    obtain ⟨r,hr⟩:∃ r,r = l.getD k default:=⟨_,rfl⟩
    have hsn:bs (accJ (ls s) (l.take (k + 1))) = bs (accJ (ls s) (l.take k)) ++ bs (encRM r).1:=by rw [take_snoc hlt,accJ_snoc,bs_append,<- hr]
    have hrk:(encRM (l.getD k default)).2 = (encRM r).2:=by rw [hr]
    have hal:(bs (accJ (ls s) (l.take k))).size <= 10000000000:=by
     have:=accJ_len (ls s) (l.take k)
     rw [ls_len,List.length_take] at this
     rw [bs_len];omega
    have hrl:=encRM_len r
    rw [<- hr] at hv'
    simp only [R] at hv'
    obtain ⟨us,rfl,hus⟩:=hv'
    have hul:us.length = 19:=hus.len
    have hone:∀ u ∈ us,u.oneCell' = true:=RL.mem_cell hus rfl
    have hus2:∀ w' X',RL w' X' r.cells virg us:=fun w' X'=>(R.closed (w:=wr) (O:=X) (ρ:=virg) virg 5).2 r.cells us rfl hus |> fun h=>by
     simp only [Jrec.cells,RL,R] at h ⊢;exact h
    clear hr
    have hl2:∀ Z bt,(Instr.loadAt 443 (.pointer (some ⟨wr.heap.size,0,none⟩))).run Tryz.prog ((wr.alloc (.cells Z bt)).setRow wr.heap.size us.toArray) = .ok (.agg us.toArray) ((wr.alloc (.cells Z bt)).setRow wr.heap.size us.toArray):=fun Z bt=>by
     have hh:=setRow_heap (wr.alloc (.cells Z bt)) wr.heap.size Z us.toArray bt _ (heap_alloc_new _ _)
     refine run_loadVar_list (by kernel_rfl) (by kernel_rfl) _ us hul fun j v hj=>?_
     rw [show (⟨wr.heap.size,0,none⟩:Addr).add j = ⟨wr.heap.size,0 + j,none⟩ from add_at _ _ _,cell_of_block hh,Nat.zero_add]
     exact hj
    have hB1:∀ Z bt,Bel wr.heap.size wr ((wr.alloc (.cells Z bt)).setRow wr.heap.size us.toArray):=fun Z bt=>bel_setRow ((Bel.refl _ _).alloc (Nat.le_refl _) _) (Nat.le_refl _) _
    go_wp2_with (first | (refine wl_load rfl rfl rfl hload ?_) | (refine wl_store (s:=19) rfl rfl rfl rfl (by kernel_rfl) hul (heap_alloc_new _ _) rfl hone ?_) | (refine wl_load rfl rfl rfl (hl2 _ _) ?_) | (go_at_call 337;refine (enc_w r (.agg us.toArray) _ (fun _=>False) (fun _ h=>h.elim) ⟨us,rfl,hus2 _ _⟩).mono ?_))
    rintro e w3 ⟨rfl,hb3⟩
    have hb4:Below wr.heap.size wr w3:=((hB1 _ _).below).trans (hb3.mono (hB1 _ _).size)
    have hs3:=hb4.size
    by_cases hz:(encRM r).2 = 0
    ·go_wp2_with (go_at_call 336;refine (Tryz.writeString_w w.heap.size w.heap.size _ _ _ (bld_kept hI hb4) ?q1 ?q2).mono ?_)
     case q1=>rw [Lib.strCells_length,bs_len (encRM r).1];omega
     case q2=>omega
     rintro e w4 ⟨rfl,h6,hb5⟩
     go_wp2
     go_roundw
     case rel=>
      refine ⟨k + 1,by omega,by go_num,?_,(hB.trans (hb4.mono hsz)).trans hb5,fun i hi=>?_⟩
      ·rw [hsn,strCells_app];exact .inr h6
      ·by_cases hik:i = k
       ·rw [hik,hrk];exact hz
       ·exact hH i (by omega)
     case measure=>simp [intOf];omega
    ·have ha:appM (ls s) l = ([],(encRM r).2):=by
      have:=appJ_at (s:=ls s) hlt hH (by rw [hrk];exact hz)
      rw [hrk] at this
      unfold appM
      rw [this,if_pos (by simpa using hz)]
     go_wp2
     go_ret2
     exact ⟨by rw [ha];rfl,hB.trans (hb4.mono hsz)⟩
   ·obtain rfl:k = l.length:=by omega
    rw [List.take_length] at hI
    have hal:(accJ (ls s) l).length <= 10000000000:=by
     have:=accJ_len (ls s) l
     rw [ls_len] at this;omega
    have ha:=appJ_all (s:=ls s) hH
    have hcl:(Lib.strCells (bs (accJ (ls s) l))).length = (accJ (ls s) l).length:=by rw [Lib.strCells_length,bs_len]
    have e0:Lib.strCells (bs (accJ (ls s) l)) = Lib.byteCells (bs (accJ (ls s) l)).data.toList:=Lib.strCells_eq _
    have hln:=Any.Builder_Len Tryz.ly170 w.heap.size w.heap.size _ wr hI
    rw [hcl] at hln
    rw [e0] at hI
    by_cases hbig:(accJ (ls s) l).length > 65536
    ·have hm:appM (ls s) l = ([],4):=by
      unfold appM
      rw [ha,if_neg (by simp),if_pos (by simpa using hbig)]
     go_wp2_with (go_at_call 338;refine hln.mono ?_)
     rintro e w1 ⟨rfl,rfl⟩
     go_wp2
     go_ret2
     exact ⟨by rw [hm];rfl,hB⟩
    ·have hm:appM (ls s) l = (accJ (ls s) l,0):=by
      unfold appM
      rw [ha,if_neg (by simp),if_neg (by simpa using hbig)]
     go_wp2_with (go_at_call 338;refine hln.mono ?_)
     rintro e w1 ⟨rfl,rfl⟩
     go_wp2_with (go_at_call 339;refine (Any.Builder_String_any Tryz.ly169 Tryz.bX w.heap.size w.heap.size _ _ hI hsz).mono ?_)
     rintro e w1 ⟨rfl,hb1⟩
     go_wp2
     go_ret2
     exact ⟨by rw [hm];rfl,hB.trans hb1⟩
 refine main.mono ?_
 rintro e w' ⟨rfl,hb⟩
 refine ⟨_,.virgin,rfl,⟨hb.os,hb.tape,hb.output,hb.size,hb.block,trivial⟩,?_,rfl,fun b hb=>by cases hb⟩
 simp only [encA,R]
 exact ⟨_,rfl,_,_,rfl,by simp only [R],_,_,rfl,by simp only [R],rfl⟩
end Go.Proofs.YtjhmdfofhnijeaaGreatDoor
