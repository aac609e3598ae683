import Derived.Test.YtjhmdfofhnijeaaGreatDoorS6
set_option linter.unusedSimpArgs false
set_option linter.unusedSectionVars false
set_option linter.unusedVariables false
namespace Go.Mb
open Go.Sy
structure Spn where
 lo:Int
 hi:Int
instance:Inhabited Spn:=⟨⟨0,0⟩⟩
def Spn.cells (x:Spn):List A:=[.int .i64 x.lo,.int .i64 x.hi]
def slS (l:List Spn):A:=.sl 2 l.length (rowL Spn.cells l)
def Spn.eqv (a b:Spn):Bool:=a.lo == b.lo && (a.hi == b.hi && true)
theorem Spn.eqv_iff {a b:Spn}:a.eqv b = true ↔ a = b:=by
 cases a;cases b;simp [Spn.eqv]
def vS (x:Spn):Bool:=decide (x.lo < x.hi) && (decide (-1152921504606846976 <= x.lo) && decide (x.hi <= 1152921504606846976))
def gapB (p:Option Int) (x:Spn):Bool:=match p with | some t=>decide (x.lo <= t) | none=>false
def chkL:Option Int -> List Spn -> Int
 | _,[]=>0
 | p,x :: l=>if vS x then (if gapB p x then 9 else chkL (some x.hi) l) else 2
def chkS (l:List Spn):Int:=if l.length > 1000 then 4 else chkL none l
def has1 (t:Int) (x:Spn):Bool:=decide (x.lo <= t) && decide (t < x.hi)
def hasL (l:List Spn) (t:Int):Bool:=l.any (has1 t)
def inF:List Int -> Int -> Bool
 | [],_=>false
 | x :: l,t=>if x <= t then !inF l t else false
end Go.Mb
namespace Go.Mb
open Go.Sy
structure Ctc where
 fr:Int
 to:Int
 start:Int
 stop:Int
 rate:Int
 rng:Int
 loss:Int
instance:Inhabited Ctc:=⟨⟨0,0,0,0,0,0,0⟩⟩
def Ctc.cells (x:Ctc):List A:=[.int .i64 x.fr,.int .i64 x.to,.int .i64 x.start,.int .i64 x.stop,.int .i64 x.rate,.int .i64 x.rng,.int .i64 x.loss]
theorem renCtc (σ:Nat -> Nat) (x:Ctc):RenL σ x.cells x.cells:=⟨_,_,rfl,rfl,_,_,rfl,rfl,_,_,rfl,rfl,_,_,rfl,rfl,_,_,rfl,rfl,_,_,rfl,rfl,_,_,rfl,rfl,rfl⟩
def slCtc (l:List Ctc):A:=.sl 7 l.length (rowL Ctc.cells l)
def Ctc.eqv (a b:Ctc):Bool:=a.fr == b.fr && (a.to == b.to && (a.start == b.start && (a.stop == b.stop && (a.rate == b.rate && (a.rng == b.rng && (a.loss == b.loss && true))))))
theorem Ctc.eqv_iff {a b:Ctc}:a.eqv b = true ↔ a = b:=by
 obtain ⟨_,_,_,_,_,_,_⟩:=a
 obtain ⟨_,_,_,_,_,_,_⟩:=b
 simp [Ctc.eqv,and_assoc]
structure Pln where
 qs:List Int
 cts:List Ctc
instance:Inhabited Pln:=⟨⟨[],[]⟩⟩
def Pln.cells (x:Pln):List A:=[slN x.qs,slCtc x.cts]
theorem renPln (σ:Nat -> Nat) (x:Pln):RenL σ x.cells x.cells:=⟨_,_,rfl,rfl,_,_,rfl,rfl,rfl⟩
structure Bkg where
 ct:Int
 fr:Int
 to:Int
 tk:Int
instance:Inhabited Bkg:=⟨⟨0,0,0,0⟩⟩
def Bkg.cells (x:Bkg):List A:=[.int .i64 x.ct,.int .i64 x.fr,.int .i64 x.to,.int .i64 x.tk]
def slBkg (l:List Bkg):A:=.sl 4 l.length (rowL Bkg.cells l)
def Bkg.eqv (a b:Bkg):Bool:=a.ct == b.ct && (a.fr == b.fr && (a.to == b.to && (a.tk == b.tk && true)))
theorem Bkg.eqv_iff {a b:Bkg}:a.eqv b = true ↔ a = b:=by
 obtain ⟨_,_,_,_⟩:=a
 obtain ⟨_,_,_,_⟩:=b
 simp [Bkg.eqv,and_assoc]
structure Hld where
 node:Int
 fr:Int
 to:Int
 size:Int
 tk:Int
instance:Inhabited Hld:=⟨⟨0,0,0,0,0⟩⟩
def Hld.cells (x:Hld):List A:=[.int .i64 x.node,.int .i64 x.fr,.int .i64 x.to,.int .i64 x.size,.int .i64 x.tk]
def slHld (l:List Hld):A:=.sl 5 l.length (rowL Hld.cells l)
def Hld.eqv (a b:Hld):Bool:=a.node == b.node && (a.fr == b.fr && (a.to == b.to && (a.size == b.size && (a.tk == b.tk && true))))
theorem Hld.eqv_iff {a b:Hld}:a.eqv b = true ↔ a = b:=by
 obtain ⟨_,_,_,_,_⟩:=a
 obtain ⟨_,_,_,_,_⟩:=b
 simp [Hld.eqv,and_assoc]
structure Tbl where
 plan:Pln
 bks:List Bkg
 hlds:List Hld
instance:Inhabited Tbl:=⟨⟨default,[],[]⟩⟩
def Tbl.cells (x:Tbl):List A:=[slN x.plan.qs,slCtc x.plan.cts,slBkg x.bks,slHld x.hlds]
theorem renTbl (σ:Nat -> Nat) (x:Tbl):RenL σ x.cells x.cells:=⟨_,_,rfl,rfl,_,_,rfl,rfl,_,_,rfl,rfl,_,_,rfl,rfl,rfl⟩
structure Dem where
 src:Int
 dst:Int
 vol:Int
 ready:Int
 dead:Int
instance:Inhabited Dem:=⟨⟨0,0,0,0,0⟩⟩
def Dem.cells (x:Dem):List A:=[.int .i64 x.src,.int .i64 x.dst,.int .i64 x.vol,.int .i64 x.ready,.int .i64 x.dead]
theorem renDem (σ:Nat -> Nat) (x:Dem):RenL σ x.cells x.cells:=⟨_,_,rfl,rfl,_,_,rfl,rfl,_,_,rfl,rfl,_,_,rfl,rfl,_,_,rfl,rfl,rfl⟩
def Dem.eqv (a b:Dem):Bool:=a.src == b.src && (a.dst == b.dst && (a.vol == b.vol && (a.ready == b.ready && (a.dead == b.dead && true))))
theorem Dem.eqv_iff {a b:Dem}:a.eqv b = true ↔ a = b:=by
 obtain ⟨_,_,_,_,_⟩:=a
 obtain ⟨_,_,_,_,_⟩:=b
 simp [Dem.eqv,and_assoc]
structure Shp where
 ct:Int
 tm:Int
 n:Int
instance:Inhabited Shp:=⟨⟨0,0,0⟩⟩
def Shp.cells (x:Shp):List A:=[.int .i64 x.ct,.int .i64 x.tm,.int .i64 x.n]
def slShp (l:List Shp):A:=.sl 3 l.length (rowL Shp.cells l)
def Shp.eqv (a b:Shp):Bool:=a.ct == b.ct && (a.tm == b.tm && (a.n == b.n && true))
theorem Shp.eqv_iff {a b:Shp}:a.eqv b = true ↔ a = b:=by
 obtain ⟨_,_,_⟩:=a
 obtain ⟨_,_,_⟩:=b
 simp [Shp.eqv,and_assoc]
structure Arc where
 fr:Int
 to:Int
 cap:Int
instance:Inhabited Arc:=⟨⟨0,0,0⟩⟩
def Arc.cells (x:Arc):List A:=[.int .i64 x.fr,.int .i64 x.to,.int .i64 x.cap]
def slArc (l:List Arc):A:=.sl 3 l.length (rowL Arc.cells l)
def Arc.eqv (a b:Arc):Bool:=a.fr == b.fr && (a.to == b.to && (a.cap == b.cap && true))
theorem Arc.eqv_iff {a b:Arc}:a.eqv b = true ↔ a = b:=by
 obtain ⟨_,_,_⟩:=a
 obtain ⟨_,_,_⟩:=b
 simp [Arc.eqv,and_assoc]
end Go.Mb
namespace Go.Mb
open Go.Sy
def chkC (c:Ctc):Int:=if !inR c.fr 0 15 || (!inR c.to 0 15 || (!inR c.rate 1 1000 || (!inR c.rng 1 1048576 || !inR c.loss 0 16))) then 2 else if c.fr == c.to then 1 else if decide (c.start < 0) || (decide (c.start >= c.stop) || decide (c.stop > IntKind.i64.wrap (1099511627776 - IntKind.i64.wrap (2 * c.rng)))) then 2 else 0
theorem chkC_in {c:Ctc} (h:chkC c = 0):0 <= c.fr /\ c.fr <= 15 /\ 0 <= c.to /\ c.to <= 15 /\ 1 <= c.rate /\ c.rate <= 1000 /\ 1 <= c.rng /\ c.rng <= 1048576 /\ 0 <= c.loss /\ c.loss <= 16 /\ c.fr ≠ c.to /\ 0 <= c.start /\ c.start < c.stop /\ c.stop <= 1099511627776 - 2 * c.rng:=by
 unfold chkC at h
 split at h
 ·cases h
 ·rename_i h1
  split at h
  ·cases h
  ·rename_i h2
   split at h
   ·cases h
   ·rename_i h3
    simp only [Bool.or_eq_true,not_or,Bool.not_eq_true',Bool.not_eq_false,beq_iff_eq,decide_eq_true_eq,inR] at h1 h2 h3
    have e1:IntKind.i64.wrap (2 * c.rng) = 2 * c.rng:=wrap_i64 (by omega) (by omega)
    rw [e1,wrap_i64 (by omega) (by omega)] at h3
    omega
def ovC (a b:Ctc):Bool:=chkC a == 0 && (chkC b == 0 && (a.fr == b.fr && (a.to == b.to && (decide (a.start < b.stop) && decide (b.start < a.stop)))))
def chkQs:List Int -> Int
 | []=>0
 | q :: l=>if decide (q < 0) || decide (q > 1073741824) then 2 else chkQs l
def chkCts (n:Int):List Ctc -> List Ctc -> Int
 | _,[]=>0
 | m,c :: l=>if chkC c != 0 then chkC c else if decide (c.fr >= n) || decide (c.to >= n) then 2 else if m.any (fun d=>ovC d c) then 14 else chkCts n (m ++ [c]) l
def chkP (p:Pln):Int:=if decide ((p.qs.length:Int) < 1) || (decide ((p.qs.length:Int) > 16) || decide ((p.cts.length:Int) > 64)) then 4 else if chkQs p.qs != 0 then chkQs p.qs else chkCts p.qs.length [] p.cts
structure OkC (n:Nat) (c:Ctc):Prop where
 fr:0 <= c.fr /\ c.fr < (n:Int)
 to:0 <= c.to /\ c.to < (n:Int)
 rate:1 <= c.rate /\ c.rate <= 1000
 rng:1 <= c.rng /\ c.rng <= 1048576
 loss:0 <= c.loss /\ c.loss <= 16
 ne:c.fr ≠ c.to
 time:0 <= c.start /\ c.start < c.stop /\ c.stop <= 1099511627776 - 2 * c.rng
 chk:chkC c = 0
structure OkP (p:Pln):Prop where
 n1:1 <= p.qs.length
 n2:p.qs.length <= 16
 m:p.cts.length <= 64
 qs:∀ q ∈ p.qs,0 <= q /\ q <= 1073741824
 cts:∀ c ∈ p.cts,OkC p.qs.length c
 ov:∀ k i,k < i -> i < p.cts.length -> ovC (p.cts.getD k default) (p.cts.getD i default) = false
theorem chkQs_ok:∀ {l:List Int},chkQs l = 0 -> ∀ q ∈ l,0 <= q /\ q <= 1073741824
 | [],_,q,h=>by cases h
 | x :: l,h,q,hq=>by
  unfold chkQs at h
  split at h
  ·cases h
  ·rename_i h1
   simp only [Bool.or_eq_true,decide_eq_true_eq,not_or] at h1
   rcases List.mem_cons.1 hq with rfl | hq
   ·omega
   ·exact chkQs_ok h q hq
theorem chkCts_ok {n:Nat}:∀ {l m:List Ctc},chkCts n m l = 0 -> (∀ c ∈ l,OkC n c) /\ (∀ i,i < l.length -> (∀ d ∈ m,ovC d (l.getD i default) = false) /\ ∀ k,k < i -> ovC (l.getD k default) (l.getD i default) = false)
 | [],m,_=>⟨(fun c h=>by cases h),fun i h=>by simp at h⟩
 | c :: l,m,h=>by
  unfold chkCts at h
  split at h
  ·rename_i h1
   rw [h] at h1;simp at h1
  ·rename_i h1
   split at h
   ·cases h
   ·rename_i h2
    split at h
    ·cases h
    ·rename_i h3
     have h1:chkC c = 0:=by simpa using h1
     simp only [Bool.or_eq_true,decide_eq_true_eq,not_or] at h2
     have h3:∀ d ∈ m,ovC d c = false:=by
      intro d hd
      have:=List.any_eq_false.1 (Bool.eq_false_iff.2 h3) d hd
      simpa using this
     obtain ⟨g1,g2⟩:=chkCts_ok h
     have hc:=chkC_in h1
     refine ⟨fun x hx=>?_,fun i hi=>?_⟩
     ·rcases List.mem_cons.1 hx with rfl | hx
      ·exact ⟨by omega,by omega,by omega,by omega,by omega,hc.2.2.2.2.2.2.2.2.2.2.1,by omega,h1⟩
      ·exact g1 x hx
     ·cases i with
      | zero=>exact ⟨h3,fun k hk=>by omega⟩
      | succ i=>
       obtain ⟨k1,k2⟩:=g2 i (by simpa using hi)
       refine ⟨fun d hd=>k1 d (List.mem_append_left _ hd),fun k hk=>?_⟩
       cases k with
       | zero=>exact k1 c (by simp)
       | succ k=>exact k2 k (by omega)
theorem chkP_ok {p:Pln} (h:chkP p = 0):OkP p:=by
 unfold chkP at h
 split at h
 ·cases h
 ·rename_i h1
  split at h
  ·rename_i h2;rw [h] at h2;simp at h2
  ·rename_i h2
   have h2:chkQs p.qs = 0:=by simpa using h2
   simp only [Bool.or_eq_true,decide_eq_true_eq,not_or] at h1
   obtain ⟨g1,g2⟩:=chkCts_ok h
   exact ⟨by omega,by omega,by omega,chkQs_ok h2,g1,fun k i hk hi=>(g2 i hi).2 k hk⟩
def validB (p:Pln) (b:Bkg):Bool:=!(decide (b.ct < 0) || (decide (b.ct >= (p.cts.length:Int)) || (decide (b.tk < 0) || decide (b.tk > 1152921504606846976)))) && (decide ((p.cts.getD b.ct.toNat default).start <= b.fr) && (decide (b.fr < b.to) && decide (b.to <= (p.cts.getD b.ct.toNat default).stop)))
def folB:Option Bkg -> Bkg -> Int
 | none,_=>0
 | some a,b=>if b.ct > a.ct then 0 else if b.ct < a.ct || b.fr <= a.fr then 9 else if b.fr < a.to then 14 else 0
def chkBs (p:Pln):Option Bkg -> List Bkg -> Int
 | _,[]=>0
 | a,b :: l=>if !validB p b then 2 else if folB a b != 0 then folB a b else chkBs p (some b) l
def chkB (p:Pln) (l:List Bkg):Int:=if chkP p != 0 then 1 else if decide ((l.length:Int) > 512) then 4 else chkBs p none l
structure OkBk (p:Pln) (b:Bkg):Prop where
 ct:0 <= b.ct /\ b.ct < (p.cts.length:Int)
 tk:0 <= b.tk /\ b.tk <= 1152921504606846976
 lo:(p.cts.getD b.ct.toNat default).start <= b.fr
 lt:b.fr < b.to
 hi:b.to <= (p.cts.getD b.ct.toNat default).stop
def NxtB (a b:Bkg):Prop:=a.ct < b.ct \/ (a.ct = b.ct /\ a.fr < b.fr /\ a.to <= b.fr)
structure OkB (p:Pln) (l:List Bkg):Prop where
 len:l.length <= 512
 all:∀ b ∈ l,OkBk p b
 ord:l.Pairwise NxtB
theorem validB_ok {p:Pln} {b:Bkg}:validB p b = true ↔ OkBk p b:=by
 unfold validB
 simp only [Bool.and_eq_true,Bool.not_eq_true',Bool.or_eq_false_iff,decide_eq_true_eq,decide_eq_false_iff_not]
 constructor
 ·rintro ⟨⟨h1,h2,h3,h4⟩,h5,h6,h7⟩;exact ⟨by omega,by omega,h5,h6,h7⟩
 ·rintro ⟨h1,h2,h3,h4,h5⟩;exact ⟨⟨by omega,by omega,by omega,by omega⟩,h3,h4,h5⟩
theorem folB_some {a b:Bkg}:folB (some a) b = 0 ↔ NxtB a b:=by
 show (if b.ct > a.ct then (0:Int) else if b.ct < a.ct || b.fr <= a.fr then 9 else if b.fr < a.to then 14 else 0) = 0 ↔ _
 unfold NxtB
 simp only [Bool.or_eq_true,decide_eq_true_eq]
 (repeat' split) <;> omega
theorem NxtB.trans {a b c:Bkg} (h:NxtB a b) (hb:b.fr < b.to) (h':NxtB b c):NxtB a c:=by unfold NxtB at *;omega
theorem chkBs_ok {p:Pln}:∀ {l:List Bkg} {a:Option Bkg},chkBs p a l = 0 -> (∀ b ∈ l,OkBk p b) /\ l.Pairwise NxtB /\ ∀ x,a = some x -> ∀ b ∈ l,NxtB x b
 | [],a,_=>⟨(fun b h=>by cases h),List.Pairwise.nil,fun x _ b h=>by cases h⟩
 | b :: l,a,h=>by
  unfold chkBs at h
  split at h
  ·cases h
  ·rename_i h1
   split at h
   ·rename_i h2;rw [h] at h2;simp at h2
   ·rename_i h2
    have h1:OkBk p b:=validB_ok.1 (by simpa using h1)
    have h2:folB a b = 0:=by simpa using h2
    obtain ⟨g1,g2,g3⟩:=chkBs_ok h
    refine ⟨fun x hx=>?_,List.pairwise_cons.2 ⟨fun x hx=>g3 b rfl x hx,g2⟩,fun x hx y hy=>?_⟩
    ·rcases List.mem_cons.1 hx with rfl | hx
     ·exact h1
     ·exact g1 x hx
    ·subst hx
     have:=folB_some.1 h2
     rcases List.mem_cons.1 hy with rfl | hy
     ·exact this
     ·exact this.trans h1.lt (g3 b rfl y hy)
theorem chkB_ok {p:Pln} {l:List Bkg} (h:chkB p l = 0):OkB p l:=by
 unfold chkB at h
 split at h
 ·cases h
 ·split at h
  ·cases h
  ·rename_i h2
   have h2:¬ ((l.length:Int) > 512):=by simpa using h2
   obtain ⟨g1,g2,_⟩:=chkBs_ok h
   exact ⟨by omega,g1,g2⟩
def validH (p:Pln) (h:Hld):Bool:=decide (h.node >= 0) && (decide (h.node < (p.qs.length:Int)) && (decide (h.fr >= 0) && (decide (h.fr < h.to) && (decide (h.to <= 1099511627776) && (decide (h.size >= 1) && (decide (h.size <= 65536) && (decide (h.tk >= 0) && decide (h.tk <= 1152921504606846976))))))))
def lessH (a b:Hld):Bool:=if a.node != b.node then decide (a.node < b.node) else if a.fr != b.fr then decide (a.fr < b.fr) else if a.to != b.to then decide (a.to < b.to) else if a.tk != b.tk then decide (a.tk < b.tk) else decide (a.size < b.size)
def inH (node t:Int) (h:Hld):Bool:=h.node == node && (decide (h.fr <= t) && decide (t < h.to))
def sto (node t:Int):List Hld -> Int
 | []=>0
 | h :: l=>(if inH node t h then h.size else 0) + sto node t l
def fitH (p:Pln) (L:List Hld) (h:Hld):Bool:=decide (sto h.node h.fr L <= p.qs.getD h.node.toNat default)
def lessO:Option Hld -> Hld -> Bool
 | none,_=>false
 | some a,b=>lessH b a
def chkHs (p:Pln):Option Hld -> List Hld -> Int
 | _,[]=>0
 | a,b :: l=>if !validH p b then 2 else if lessO a b then 9 else chkHs p (some b) l
def chkHd (p:Pln) (l:List Hld):Int:=if chkP p != 0 then 1 else if decide ((l.length:Int) > 512) then 4 else if chkHs p none l != 0 then chkHs p none l else if l.all (fitH p l) then 0 else 15
structure OkHd (p:Pln) (h:Hld):Prop where
 node:0 <= h.node /\ h.node < (p.qs.length:Int)
 fr:0 <= h.fr
 lt:h.fr < h.to
 to:h.to <= 1099511627776
 size:1 <= h.size /\ h.size <= 65536
 tk:0 <= h.tk /\ h.tk <= 1152921504606846976
structure OkH (p:Pln) (l:List Hld):Prop where
 len:l.length <= 512
 all:∀ h ∈ l,OkHd p h
 ord:l.Pairwise fun a b=>lessH b a = false
 fit:∀ h ∈ l,sto h.node h.fr l <= p.qs.getD h.node.toNat default
theorem validH_ok {p:Pln} {h:Hld}:validH p h = true ↔ OkHd p h:=by
 unfold validH
 simp only [Bool.and_eq_true,decide_eq_true_eq]
 constructor
 ·rintro ⟨h1,h2,h3,h4,h5,h6,h7,h8,h9⟩;exact ⟨⟨h1,h2⟩,h3,h4,h5,⟨h6,h7⟩,h8,h9⟩
 ·rintro ⟨⟨h1,h2⟩,h3,h4,h5,⟨h6,h7⟩,h8,h9⟩;exact ⟨h1,h2,h3,h4,h5,h6,h7,h8,h9⟩
def ltH (a b:Hld):Prop:=a.node < b.node \/ (a.node = b.node /\ (a.fr < b.fr \/ (a.fr = b.fr /\ (a.to < b.to \/ (a.to = b.to /\ (a.tk < b.tk \/ (a.tk = b.tk /\ a.size < b.size)))))))
theorem lessH_iff {a b:Hld}:lessH a b = true ↔ ltH a b:=by
 unfold lessH ltH
 simp only [bne_iff_ne]
 (repeat' split) <;> simp only [decide_eq_true_eq] <;> omega
theorem lessH_trans {a b c:Hld} (h:lessH b a = false) (h':lessH c b = false):lessH c a = false:=by
 have e:∀ {x y:Hld},lessH x y = false ↔ ¬ ltH x y:=fun {x y}=>by rw [<- lessH_iff];simp
 rw [e] at *
 unfold ltH at *
 omega
theorem chkHs_ok {p:Pln}:∀ {l:List Hld} {a:Option Hld},chkHs p a l = 0 -> (∀ b ∈ l,OkHd p b) /\ (l.Pairwise fun a b=>lessH b a = false) /\ ∀ x,a = some x -> ∀ b ∈ l,lessH b x = false
 | [],a,_=>⟨(fun b h=>by cases h),List.Pairwise.nil,fun x _ b h=>by cases h⟩
 | b :: l,a,h=>by
  unfold chkHs at h
  split at h
  ·cases h
  ·rename_i h1
   split at h
   ·cases h
   ·rename_i h2
    have h1:OkHd p b:=validH_ok.1 (by simpa using h1)
    obtain ⟨g1,g2,g3⟩:=chkHs_ok h
    refine ⟨fun x hx=>?_,List.pairwise_cons.2 ⟨fun x hx=>g3 b rfl x hx,g2⟩,fun x hx y hy=>?_⟩
    ·rcases List.mem_cons.1 hx with rfl | hx
     ·exact h1
     ·exact g1 x hx
    ·subst hx
     have h2:lessH b x = false:=by simpa [lessO] using h2
     rcases List.mem_cons.1 hy with rfl | hy
     ·exact h2
     ·exact lessH_trans h2 (g3 b rfl y hy)
theorem chkHd_ok {p:Pln} {l:List Hld} (h:chkHd p l = 0):OkH p l:=by
 unfold chkHd at h
 split at h
 ·cases h
 ·split at h
  ·cases h
  ·rename_i h2
   split at h
   ·rename_i h3;rw [h] at h3;simp at h3
   ·rename_i h3
    split at h
    ·rename_i h4
     have h2:¬ ((l.length:Int) > 512):=by simpa using h2
     have h3:chkHs p none l = 0:=by simpa using h3
     obtain ⟨g1,g2,_⟩:=chkHs_ok h3
     refine ⟨by omega,g1,g2,fun x hx=>?_⟩
     have:=List.all_eq_true.1 h4 x hx
     simpa [fitH] using this
    ·cases h
def chkT (t:Tbl):Int:=if chkP t.plan != 0 then chkP t.plan else if chkB t.plan t.bks != 0 then chkB t.plan t.bks else chkHd t.plan t.hlds
structure OkT (t:Tbl):Prop where
 p:OkP t.plan
 b:OkB t.plan t.bks
 h:OkH t.plan t.hlds
theorem chkT_ok {t:Tbl} (h:chkT t = 0):OkT t:=by
 unfold chkT at h
 split at h
 ·rename_i h1;rw [h] at h1;simp at h1
 ·rename_i h1
  split at h
  ·rename_i h2;rw [h] at h2;simp at h2
  ·rename_i h2
   exact ⟨chkP_ok (by simpa using h1),chkB_ok (by simpa using h2),chkHd_ok h⟩
def demB (n:Int) (d:Dem):Bool:=if decide (d.src < 0) || (decide (d.src >= n) || (decide (d.dst < 0) || (decide (d.dst >= n) || (d.src == d.dst || (decide (d.vol < 1) || decide (d.vol > 1099511627776)))))) then false else
 decide (d.ready >= 0) && (decide (d.ready < d.dead) && (decide (d.dead <= 1099511627776) && decide (d.dead - d.ready <= 100)))
structure OkD (n:Nat) (d:Dem):Prop where
 src:0 <= d.src /\ d.src < (n:Int)
 dst:0 <= d.dst /\ d.dst < (n:Int)
 ne:d.src ≠ d.dst
 vol:1 <= d.vol /\ d.vol <= 1099511627776
 ready:0 <= d.ready
 lt:d.ready < d.dead
 dead:d.dead <= 1099511627776
 hor:d.dead - d.ready <= 100
theorem demB_iff {n:Nat} {d:Dem}:demB n d = true ↔ 0 <= d.src /\ d.src < (n:Int) /\ 0 <= d.dst /\ d.dst < (n:Int) /\ d.src ≠ d.dst /\ 1 <= d.vol /\ d.vol <= 1099511627776 /\ 0 <= d.ready /\ d.ready < d.dead /\ d.dead <= 1099511627776 /\ d.dead - d.ready <= 100:=by
 unfold demB
 split
 ·rename_i h
  simp only [Bool.or_eq_true,decide_eq_true_eq,beq_iff_eq] at h
  constructor
  ·intro h;cases h
  ·rintro ⟨h1,h2,h3,h4,h5,h6,h7,h8⟩;omega
 ·rename_i h
  simp only [Bool.or_eq_true,decide_eq_true_eq,beq_iff_eq,not_or] at h
  simp only [Bool.and_eq_true,decide_eq_true_eq]
  omega
def great29 (t:Tbl):Bool:=decide ((t.plan.qs.length:Int) > 6) || (decide ((t.plan.cts.length:Int) > 10) || (decide ((t.bks.length:Int) > 30) || decide ((t.hlds.length:Int) > 30)))
def great53 (t:Tbl) (d:Dem):Bool:=great29 t || (decide (d.dead > IntKind.i64.wrap (d.ready + 24)) && decide (d.dead <= IntKind.i64.wrap (d.ready + 100)))
theorem demB_ok {n:Nat} {d:Dem}:demB n d = true ↔ OkD n d:=by
 unfold demB
 split
 ·rename_i h
  simp only [Bool.or_eq_true,decide_eq_true_eq,beq_iff_eq] at h
  constructor
  ·intro h;cases h
  ·rintro ⟨h1,h2,h3,h4,h5,h6,h7,h8⟩;omega
 ·rename_i h
  simp only [Bool.or_eq_true,decide_eq_true_eq,beq_iff_eq,not_or] at h
  simp only [Bool.and_eq_true,decide_eq_true_eq]
  constructor
  ·rintro ⟨h1,h2,h3,h4⟩;exact ⟨by omega,by omega,h.2.2.2.2.1,by omega,h1,h2,h3,h4⟩
  ·rintro ⟨h1,h2,h3,h4,h5,h6,h7,h8⟩;exact ⟨by omega,by omega,by omega,by omega⟩
end Go.Mb
