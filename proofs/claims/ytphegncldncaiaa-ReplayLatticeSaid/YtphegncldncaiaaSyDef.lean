import Derived.Calls
import Derived.KernelRfl
set_option linter.unusedSimpArgs false
set_option linter.unusedSectionVars false
set_option linter.unusedVariables false
namespace Go.Sy

/-- Shadow values. -/
inductive A where
  | junk
  | opq
  | kb (b : Bool)
  | bool (b : Bool)
  | int (k : IntKind) (n : Int)
  | str (s : ByteArray)
  | nils
  | sl (c n : Nat) (el : Nat → Nat → A)
  | ip (c : Nat) (el : Nat → A)
  | own (id : Nat)
  | ptr (id off : Nat)
  | rp (id c i off : Nat)
  | fn (f : FuncId) (caps : List A)
  | agg (cs : List A)
  | tup (vs : List A)
  /-- some truth value -/
  | anyb
  /-- the nil pointer -/
  | nilp
  /-- the function 'yield' of a loop over a function -/
  | yld (id : Nat)
  /-- a part of a row of the call's own: from element lo on, n elements -/
  | ov (id c lo n : Nat)
  /-- the address of a cell of a box, by a number that is not worked out -/
  | ap (id i : Nat)

instance : Inhabited A := ⟨.junk⟩

/-- Decision trees. -/
inductive T (α : Type) where
  | ret (a : α)
  | ite (b : Bool) (t e : T α)
  | fail

def T.eval {α : Type} : T α → Option α
  | .ret a => some a
  | .ite b t e => match b with | true => t.eval | false => e.eval
  | .fail => none

def T.need {α : Type} (b : Bool) (t : T α) : T α := .ite b t .fail

/-- A number, worked out. -/
def litN {α : Type} (n : Nat) (k : Nat → T α) : T α :=
  match n with
  | 0 => k 0
  | m + 1 => k (m + 1)
theorem litN_eq {α : Type} (n : Nat) (k : Nat → T α) : litN n k = k n := by cases n <;> rfl

/-- Shadow objects. -/
inductive Ob where
  | virgin
  | dead
  | box (cells : List A)
  | row (e : TypeId) (c n : Nat) (el : Nat → Nat → A)
  /-- a loop over a function: the slots at its head, its variables, its two texts; its state; the jump by which it was left -/
  | lp (ts : List A) (ps : List Nat) (asg bod : Code) (sta : LoopState) (pend : Option Code)

structure St where
  tmps : List A
  objs : List Ob

def getA : List A → Nat → A
  | [], _ => .junk
  | a :: _, 0 => a
  | _ :: l, n + 1 => getA l n

def getO : List Ob → Nat → Ob
  | [], _ => .virgin
  | a :: _, 0 => a
  | _ :: l, n + 1 => getO l n

def setL {α : Type} : List α → Nat → α → List α
  | [], _, _ => []
  | _ :: l, 0, v => v :: l
  | a :: l, n + 1, v => a :: setL l n v

/-- An object at its place. -/
def setX : List Ob → Nat → Ob → List Ob
  | [], 0, v => [v]
  | [], n + 1, v => .virgin :: setX [] n v
  | _ :: l, 0, v => v :: l
  | a :: l, n + 1, v => a :: setX l n v

/-- The shadow of a constant. -/
def ofCell : Value → A
  | .bool b => .kb b
  | .int k n => .int k n
  | .string s => .str s
  | .slice none 0 0 => .nils
  | .pointer none => .nilp
  | .func (.func f) ⟨[]⟩ ⟨[]⟩ => .fn f []
  | .agg _ => .junk
  | .tuple _ => .junk
  | _ => .opq
def ofCells : List Value → List A
  | [] => []
  | v :: l => (match v with | .bool b => .bool b | v => ofCell v) :: ofCells l
def ofVal : Value → A
  | .agg cs => .agg (ofCells cs.toList)
  | .tuple ⟨[]⟩ => .tup []
  | v => ofCell v

def evA (tmps : List A) : Operand → A
  | .tmp t => getA tmps t
  | .const v => ofVal v
  | .global _ => .junk
  | .func f => .fn f []

def cellsOf : A → Option (List A)
  | .agg cs => some cs
  | .tup _ => none
  | .junk => none
  | a => some [a]

def isCell : A → Bool
  | .agg _ => false
  | .tup _ => false
  | .junk => false
  | _ => true
def allCell : List A → Bool
  | [] => true
  | a :: l => isCell a && allCell l

def isAggT (P : Program) (t : TypeId) : Option Bool :=
  match P.underlying t with
  | some (.struct _) | some (.array _ _) => some true
  | some _ => some false
  | none => none

def sizeT (P : Program) (t : TypeId) : Option Nat := (P.info? t).map (·.size)

def takeN {α : Type} : Nat → List α → Option (List α)
  | 0, _ => some []
  | _ + 1, [] => none
  | n + 1, a :: l => match takeN n l with | some m => some (a :: m) | none => none

def dropN {α : Type} : Nat → List α → List α
  | 0, l => l
  | _ + 1, [] => []
  | n + 1, _ :: l => dropN n l

def setN : List A → Nat → List A → Option (List A)
  | l, _, [] => some l
  | [], _, _ :: _ => none
  | _ :: l, 0, v :: vs => match setN l 0 vs with | some m => some (v :: m) | none => none
  | a :: l, n + 1, v :: vs => match setN l n (v :: vs) with | some m => some (a :: m) | none => none

def rangeMap (el : Nat → A) (i : Nat) : Nat → List A
  | 0 => []
  | n + 1 => el i :: rangeMap el (i + 1) n

/-- The closed view of a value (what a callee gets to see). -/
def mapOpt (f : A → Option A) : List A → Option (List A)
  | [] => some []
  | a :: l => match f a, mapOpt f l with
    | some b, some m => some (b :: m)
    | _, _ => none

def expo (objs : List Ob) : Nat → A → Option A
  | 0, _ => none
  | d + 1, a => match a with
    | .own id => match getO objs id with
      | .row _ c n el => some (.sl c n el)
      | _ => none
    | .ptr id off => match getO objs id with
      | .box cells => match mapOpt (expo objs d) cells with
        | some cs => some (.ip (cs.length - off) (getA (dropN off cs)))
        | none => none
      | _ => none
    | .rp _ _ _ _ => none
    | .yld _ => none
    | .ap _ _ => none
    | .ov id c lo n => match getO objs id with
      | .row _ c' _ el => if c = c' then some (.sl c n (fun i => el (lo + i))) else none
      | _ => none
    | .kb b => some (.bool b)
    | .fn f caps => match mapOpt (expo objs d) caps with | some l => some (.fn f l) | none => none
    | .agg cs => match mapOpt (expo objs d) cs with | some l => some (.agg l) | none => none
    | .tup cs => match mapOpt (expo objs d) cs with | some l => some (.tup l) | none => none
    | a => some a

/-- .. with object id as object 0; the objects are those without it. -/
def expo1 (id : Nat) (objs : List Ob) (a : A) : Option A :=
  match a with
  | .own j => bif Nat.beq j id then some (.own 0) else expo objs 5 (.own j)
  | a => expo objs 5 a
def expoM (id : Nat) (objs : List Ob) : List A → Option (List A)
  | [] => some []
  | a :: l => match expo1 id objs a, expoM id objs l with
    | some b, some m => some (b :: m)
    | _, _ => none

def allL (f : A → Bool) : List A → Bool
  | [] => true
  | a :: l => f a && allL f l
/-- No reference to an object of the frame. -/
def closed : Nat → A → Bool
  | 0, _ => false
  | d + 1, a => match a with
    | .own _ | .ptr _ _ | .rp _ _ _ _ | .yld _ | .ov _ _ _ _ | .ap _ _ => false
    | .fn _ l | .agg l | .tup l => allL (closed d) l
    | _ => true
/-- Holds no memory at all, but for the object 0. -/
def flat : Nat → A → Bool
  | 0, _ => false
  | d + 1, a => match a with
    | .kb _ | .bool _ | .int _ _ | .str _ | .junk | .opq | .nils | .own 0 | .anyb | .nilp => true
    | .agg l | .tup l | .fn _ l => allL (flat d) l
    | _ => false

def renL (f : A → A) : List A → List A
  | [] => []
  | a :: l => f a :: renL f l
/-- Object i of a value becomes object t. -/
def ren (i t : Nat) : Nat → A → A
  | 0, _ => .junk
  | d + 1, a => match a with
    | .own j => if j = i then .own t else .junk
    | .ptr _ _ => .junk
    | .rp _ _ _ _ => .junk
    | .yld _ => .junk
    | .ov _ _ _ _ => .junk
    | .ap _ _ => .junk
    | .agg l => .agg (renL (ren i t d) l)
    | .tup l => .tup (renL (ren i t d) l)
    | .fn f l => .fn f (renL (ren i t d) l)
    | a => a

def nth {α : Type} : List α → Nat → Option α
  | [], _ => none
  | a :: _, 0 => some a
  | _ :: l, n + 1 => nth l n

def fieldOff (P : Program) (s : TypeId) (f : Nat) : Option Nat :=
  match P.underlying s with
  | some (.struct fs) => match nth fs.toList f with
    | some fl => match P.info? fl.type with
      | some i => if i.size = 0 then none else some fl.offset
      | none => none
    | none => none
  | _ => none

def fillP (place : Nat → Option (Nat × Nat)) (cells : List A) : List (Nat × A) → Option (List A)
  | [] => some cells
  | (i, v) :: rest => match place i, cellsOf v with
    | some (off, size), some cs => if cs.length = size ∧ 0 < size then match setN cells off cs with
        | some c' => fillP place c' rest
        | none => none
      else none
    | _, _ => none

def zeroCells (P : Program) (t : TypeId) : Option (List A) :=
  match P.info? t with
  | some i => match i.zero with
    | some v => some (ofCells v.cells.toList)
    | none => none
  | none => none

def repeatL (z : List A) : Nat → List A
  | 0 => []
  | n + 1 => z ++ repeatL z n

inductive CK where
  | b
  | s
  | i (k : IntKind)

def eqA : CK → A → A → Option Bool
  | .b, .bool a, .bool b | .b, .kb a, .kb b | .b, .kb a, .bool b | .b, .bool a, .kb b => some (a == b)
  | .i q, .int k a, .int k' b => if k = q ∧ k' = q then some (a == b) else none
  | .s, .str a, .str b => some (a.toList == b.toList)
  | _, _, _ => none
def eqL : List CK → List A → List A → Option Bool
  | [], [], [] => some true
  | c :: cs, a :: l, b :: m => match eqA c a b, eqL cs l m with
    | some x, some y => some (x && y)
    | _, _ => none
  | _, _, _ => none
def eqV : CK → Value → Value → Option Bool
  | .b, .bool a, .bool b => some (a == b)
  | .i q, .int k a, .int k' b => if k = q ∧ k' = q then some (a == b) else none
  | .s, .string a, .string b => some (a.toList == b.toList)
  | _, _, _ => none
def eqVs : List CK → List Value → List Value → Option Bool
  | [], [], [] => some true
  | c :: cs, a :: l, b :: m => match eqV c a b, eqVs cs l m with
    | some x, some y => some (x && y)
    | _, _ => none
  | _, _, _ => none

def arith (op : BinOp) (k : IntKind) (a b : Int) : T A :=
  match op with
  | .add => .ret (.int k (k.wrap (a + b)))
  | .sub => .ret (.int k (k.wrap (a - b)))
  | .mul => .ret (.int k (k.wrap (a * b)))
  | .quo => .need (b != 0) (.ret (.int k (k.wrap (a.tdiv b))))
  | .rem => .need (b != 0) (.ret (.int k (a.tmod b)))
  | .eql => .ret (.bool (a == b))
  | .neq => .ret (.bool (a != b))
  | .lss => .ret (.bool (decide (a < b)))
  | .leq => .ret (.bool (decide (a ≤ b)))
  | .gtr => .ret (.bool (decide (a > b)))
  | .geq => .ret (.bool (decide (a ≥ b)))
  | .and => .ret (.int k (k.wrap ((BitVec.ofInt k.bits a &&& BitVec.ofInt k.bits b).toNat : Int)))
  | .or => .ret (.int k (k.wrap ((BitVec.ofInt k.bits a ||| BitVec.ofInt k.bits b).toNat : Int)))
  | .xor => .ret (.int k (k.wrap ((BitVec.ofInt k.bits a ^^^ BitVec.ofInt k.bits b).toNat : Int)))
  | .andNot => .ret (.int k (k.wrap ((BitVec.ofInt k.bits a &&& ~~~BitVec.ofInt k.bits b).toNat : Int)))
  | _ => .fail

def shiftA (op : BinOp) (k : IntKind) (a b : Int) : T A :=
  match op with
  | .shl => .need (decide (0 ≤ b)) (.ret (.int k (k.wrap (a * 2 ^ (min b.toNat k.bits)))))
  | .shr => .need (decide (0 ≤ b)) (.ret (.int k (a.fdiv (2 ^ (min b.toNat k.bits)))))
  | _ => .fail

def isShift : BinOp → Bool
  | .shl => true
  | .shr => true
  | _ => false

def strOp (op : BinOp) (a b : ByteArray) : T A :=
  match op with
  | .add => .need (decide (a.size + b.size ≤ 9223372036854775807)) (.ret (.str (a ++ b)))
  | .eql => .ret (.bool (a.toList == b.toList))
  | .neq => .ret (.bool (!(a.toList == b.toList)))
  | .lss => .ret (.bool (Op.bytesLess a.toList b.toList))
  | .leq => .ret (.bool (Op.bytesLess a.toList b.toList || a.toList == b.toList))
  | .gtr => .ret (.bool (!(Op.bytesLess a.toList b.toList || a.toList == b.toList)))
  | .geq => .ret (.bool (!(Op.bytesLess a.toList b.toList)))
  | _ => .fail

/-- The program, and the types whose '==' is cell by cell. -/
structure Env where
  P : Program
  eqT : TypeId → Option (List CK)
  /-- functions that change a row of their caller's: known by contracts -/
  mu : List FuncId := []
  /-- slots whose new rows nobody changes -/
  frz : List Nat := []

def boolOp (op : BinOp) (a b : Bool) : T A :=
  match op with
  | .eql => .ret (.bool (a == b))
  | .neq => .ret (.bool (!(a == b)))
  | _ => .fail

/-- A slice against nil. -/
def nilA (E : Env) (op : BinOp) (t : TypeId) (yes no : A) : T A :=
  match E.P.underlying t with
  | some (.slice _) => (match op with
    | .eql => .ret yes
    | .neq => .ret no
    | _ => .fail)
  | _ => .fail

def binA (E : Env) (op : BinOp) (t : TypeId) (x y : A) : T A :=
  match x, y with
  | .int k a, .int k' b => match isShift op with
    | true => shiftA op k a b
    | false => if k = k' then arith op k a b else .fail
  | .str a, .str b => strOp op a b
  | .bool a, .bool b | .kb a, .bool b | .bool a, .kb b | .kb a, .kb b => match E.P.underlying t with
    | some .bool => boolOp op a b
    | _ => .fail
  | .agg l, .agg m => match E.eqT t with
    | some ks => match eqL ks l m with
      | some b => (match op with
        | .eql => .ret (.bool b)
        | .neq => .ret (.bool (!b))
        | _ => .fail)
      | none => .fail
    | none => .fail
  | .nils, .nils => nilA E op t (.kb true) (.kb false)
  | .sl c n _, .nils => if 0 < c then .ite (decide (n = 0)) (nilA E op t .anyb .anyb) (nilA E op t (.kb false) (.kb true)) else .fail
  | .own _, .nils => nilA E op t .anyb .anyb
  | _, _ => .fail

def unA (op : UnOp) (x : A) : T A :=
  match op, x with
  | .neg, .int k n => .ret (.int k (k.wrap (0 - n)))
  | .not, .bool b => .ret (.bool (!b))
  | .not, .kb b => .ret (.kb (!b))
  | .not, .anyb => .ret .anyb
  | _, _ => .fail

/-- Cells that are numbers of one kind. -/
def intsK (k : IntKind) : List A → Option (List Int)
  | [] => some []
  | .int k' n :: l => if k' = k then (match intsK k l with | some m => some (n :: m) | none => none) else none
  | _ :: _ => none
/-- .. with another one at place i. -/
def setIs (k : IntKind) (i : Nat) (v : Int) : Nat → List Int → List A
  | _, [] => []
  | j, n :: l => .int k (if j = i then v else n) :: setIs k i v (j + 1) l
def kindOf : List A → IntKind
  | .int k _ :: _ => k
  | _ => .i64

def loadA (P : Program) (objs : List Ob) (t : TypeId) (a : A) : T A :=
  match isAggT P t, sizeT P t with
  | some ag, some s => match a with
    | .ptr id off => match getO objs id with
      | .box cells => match ag with
        | true => match takeN s (dropN off cells) with | some cs => .ret (.agg cs) | none => .fail
        | false => match dropN off cells with | c :: _ => .ret c | [] => .fail
      | _ => .fail
    | .ip c el => match ag with
      | true => if s ≤ c then .ret (.agg (rangeMap el 0 s)) else .fail
      | false => if 1 ≤ c then .ret (el 0) else .fail
    | .rp id c i off => match getO objs id with
      | .row _ c' n el => if c = c' then .need (decide (i < n)) (match ag with
          | true => if off + s ≤ c then .ret (.agg (rangeMap (el i) off s)) else .fail
          | false => if off + 1 ≤ c then .ret (el i off) else .fail)
        else .fail
      | _ => .fail
    | .ap id i => match getO objs id with
      | .box cells => match ag with
        | true => .fail
        | false => match intsK (kindOf cells) cells with
          | some l => .need (decide (i < l.length)) (.ret (.int (kindOf cells) (l.getD i 0)))
          | none => .fail
      | _ => .fail
    | _ => .fail
  | _, _ => .fail

def fieldA (a : A) (o : Nat) : T A :=
  match a with
  | .ptr id off => .ret (.ptr id (off + o))
  | .ip c el => .ret (.ip (c - o) (fun j => el (o + j)))
  | .rp id c i off => .ret (.rp id c i (off + o))
  | _ => .fail

/-- One of the first N places, by its number. -/
def enumT {α : Type} (i : Int) (k : Nat → T α) : Nat → Nat → T α
  | 0, _ => .fail
  | m + 1, j => .ite (i == (j : Int)) (k j) (enumT i k m (j + 1))

def indexAddrA (P : Program) (objs : List Ob) (t : TypeId) (x i : A) : T A :=
  match i with
  | .int _ n => match P.underlying t with
    | some (.slice e) => match x, sizeT P e with
      | .sl c m el, some s => if c = s ∧ 0 < s then .need (decide (0 ≤ n ∧ n < m)) (.ret (.ip c (el n.toNat))) else .fail
      | .own id, some s => match getO objs id with
        | .row _ c m _ => if c = s then .need (decide (0 ≤ n ∧ n < m)) (.ret (.rp id c n.toNat 0)) else .fail
        | _ => .fail
      | .ov id c lo m, some s => match getO objs id with
        | .row _ _ _ _ => if c = s then .need (decide (0 ≤ n ∧ n < m)) (.ret (.rp id c (lo + n.toNat) 0)) else .fail
        | _ => .fail
      | _, _ => .fail
    | some (.array len e) => match sizeT P e with
      | some s => match Nat.ble 5 len && Nat.beq s 1, x with
        | true, .ptr id 0 => .need (decide (0 ≤ n ∧ n < (len : Int))) (.ret (.ap id n.toNat))
        | _, _ => enumT n (fun j => fieldA x (j * s)) len 0
      | none => .fail
    | _ => .fail
  | _ => .fail

def partA (ag : Bool) (s : Nat) (cs : List A) (o : Nat) : T A :=
  match ag with
  | true => match takeN s (dropN o cs) with | some l => .ret (.agg l) | none => .fail
  | false => match dropN o cs with | c :: _ => .ret c | [] => .fail

def indexA (P : Program) (t : TypeId) (x i : A) : T A :=
  match i with
  | .int _ n => match P.underlying t, x with
    | some (.array len e), .agg cs => match sizeT P e, isAggT P e with
      | some s, some ag => enumT n (fun j => partA ag s cs (j * s)) len 0
      | _, _ => .fail
    | some .string, .str s => .need (decide (0 ≤ n ∧ n < s.size)) (.ret (.int .u8 ((s.data.toList.getD n.toNat 0).toNat : Int)))
    | _, _ => .fail
  | _ => .fail

def boundA (x : Option A) (d : Nat) : Option Int :=
  match x with
  | none => some d
  | some (.int _ n) => some n
  | some _ => none

def sliceA (P : Program) (objs : List Ob) (t : TypeId) (x : A) (lo hi : Option A) : T A :=
  match P.underlying t, x with
  | some .string, .str s => match boundA lo 0, boundA hi s.size with
    | some l, some h => .need (decide (0 ≤ l ∧ l ≤ h ∧ h ≤ s.size)) (.ret (.str (s.extract l.toNat h.toNat)))
    | _, _ => .fail
  | some (.slice e), .sl c n el => match sizeT P e, boundA lo 0, boundA hi n with
    | some s, some l, some h => if c = s then .need (decide (0 ≤ l ∧ l ≤ h ∧ h ≤ n)) (.ret (.sl c (h - l).toNat (fun i => el (l.toNat + i)))) else .fail
    | _, _, _ => .fail
  | some (.slice e), .own id => match getO objs id with
    | .row _ c n _ => match sizeT P e, boundA lo 0, boundA hi n with
      | some s, some l, some h => if c = s then .need (decide (0 ≤ l ∧ l ≤ h ∧ h ≤ n)) (.ret (.ov id c l.toNat (h - l).toNat)) else .fail
      | _, _, _ => .fail
    | _ => .fail
  | _, _ => .fail

def lenA (P : Program) (objs : List Ob) (t : TypeId) (x : A) : T A :=
  match P.underlying t, x with
  | some .string, .str s => .ret (.int .i64 s.size)
  | some (.slice _), .sl _ n _ => .ret (.int .i64 n)
  | some (.slice _), .nils => .ret (.int .i64 0)
  | some (.slice _), .own id => match getO objs id with
    | .row _ _ n _ => .ret (.int .i64 n)
    | _ => .fail
  | some (.slice _), .ov _ _ _ n => .ret (.int .i64 n)
  | _, _ => .fail

/-- 's[:0:0]' -/
def slice0A (P : Program) (t : TypeId) (x h m : A) : T A :=
  match P.underlying t, h, m with
  | some (.slice e), .int _ a, .int _ b => match sizeT P e with
    | some _ => if a = 0 ∧ b = 0 then (match x with
      | .nils => .ret .nils
      | _ => .fail) else .fail
    | none => .fail
  | _, _, _ => .fail

def isU8 : A → Bool
  | .int .u8 _ => true
  | _ => false
def u8Of : A → Int
  | .int _ n => n
  | _ => 0
def allN (f : Nat → Bool) : Nat → Bool
  | 0 => true
  | n + 1 => allN f n && f n
/-- The bytes of a slice, as a string. -/
def bytesOf (el : Nat → Nat → A) (n : Nat) : ByteArray := ⟨((List.range n).map fun i => UInt8.ofNat (u8Of (el i 0)).toNat).toArray⟩

def convA (P : Program) (objs : List Ob) (src dst : TypeId) (x : A) : T A :=
  match P.underlying src, P.underlying dst with
  | some (.int _), some (.int k) => match x with
    | .int _ n => .ret (.int k (k.wrap n))
    | _ => .fail
  | some .string, some .string => match x with
    | .str s => .ret (.str s)
    | _ => .fail
  | some (.slice e), some .string => match P.underlying e with
    | some (.int .u8) => match x with
      | .nils => .ret (.str .empty)
      | .sl c n el => if c = 1 then .need (allN (fun i => isU8 (el i 0)) n) (.ret (.str (bytesOf el n))) else .fail
      | .own id => match getO objs id with
        | .row _ c n el => if c = 1 then .need (allN (fun i => isU8 (el i 0)) n) (.ret (.str (bytesOf el n))) else .fail
        | _ => .fail
      | _ => .fail
    | _ => .fail
  | _, _ => .fail

def minmaxA (mx : Bool) : List A → T A
  | [.int k a, .int k' b] => if k = k' then .ret (.int k (match mx with | true => (if b > a then b else a) | false => (if b < a then b else a))) else .fail
  | _ => .fail

def T.map {α β : Type} (f : α → β) : T α → T β
  | .ret a => .ret (f a)
  | .ite b t e => .ite b (t.map f) (e.map f)
  | .fail => .fail

def mapEv (ev : Operand → A) : List Operand → List A
  | [] => []
  | x :: l => ev x :: mapEv ev l
def mapEvP (ev : Operand → A) : List (Nat × Operand) → List (Nat × A)
  | [] => []
  | (i, x) :: l => (i, ev x) :: mapEvP ev l
def mapEvO (ev : Operand → A) : Option Operand → Option A
  | none => none
  | some x => some (ev x)

def placesOf (P : Program) : List Field → Option (List (Nat × Nat))
  | [] => some []
  | f :: l => match P.info? f.type, placesOf P l with
    | some i, some m => some ((f.offset, i.size) :: m)
    | _, _ => none
/-- What an operation yields that leaves memory as it is. -/
def semV (E : Env) (objs : List Ob) (op : Op) (ev : Operand → A) : T A :=
  match op with
  | .move x | .assign x => .ret (ev x)
  | .pick c a b => match ev c with
    | .bool q => .ite q (.ret (ev a)) (.ret (ev b))
    | .kb true => .ret (ev a)
    | .kb false => .ret (ev b)
    | _ => .fail
  | .build t parts => match E.P.underlying t, zeroCells E.P t with
    | some (.struct fs), some z => match placesOf E.P fs.toList with
      | some pl => match fillP (nth pl) z (mapEvP ev parts.toList) with
        | some cs => .ret (.agg cs)
        | none => .fail
      | none => .fail
    | some (.array _ e), some z => match sizeT E.P e with
      | some s => match fillP (fun i => some (i * s, s)) z (mapEvP ev parts.toList) with
        | some cs => .ret (.agg cs)
        | none => .fail
      | none => .fail
    | _, _ => .fail
  | .load t a => loadA E.P objs t (ev a)
  | .binOp op t x y _ => binA E op t (ev x) (ev y)
  | .unOp op _ x => unA op (ev x)
  | .convert s d x => convA E.P objs s d (ev x)
  | .makeFunc (.func f) ⟨[]⟩ caps => .ret (.fn f (mapEv ev caps.toList))
  | .slice t x lo hi none => sliceA E.P objs t (ev x) (mapEvO ev lo) (mapEvO ev hi)
  | .slice t x none (some h) (some m) => slice0A E.P t (ev x) (ev h) (ev m)
  | .fieldAddr s x f => match fieldOff E.P s f with
    | some off => fieldA (ev x) off
    | none => .fail
  | .indexAddr t x i => indexAddrA E.P objs t (ev x) (ev i)
  | .index t x i => indexA E.P t (ev x) (ev i)
  | .extract x i => match ev x with
    | .tup l => match dropN i l with | a :: _ => .ret a | [] => .fail
    | _ => .fail
  | .nilCheck x => match ev x with
    | .ptr id off => .ret (.ptr id off)
    | .ip c el => .ret (.ip c el)
    | .rp id c i off => .ret (.rp id c i off)
    | .fn f l => .ret (.fn f l)
    | _ => .fail
  | .call ⟨.builtin .len, ⟨[x]⟩, ⟨[t]⟩⟩ => lenA E.P objs t (ev x)
  | .call ⟨.builtin .min, args, _⟩ => minmaxA false (mapEv ev args.toList)
  | .call ⟨.builtin .max, args, _⟩ => minmaxA true (mapEv ev args.toList)
  | _ => .fail

def maxRow : Nat := 1099511627776

/-- The bytes of a string, as elements. -/
def strEl (b : ByteArray) : Nat → Nat → A := fun i _ => .int .u8 ((b.data.toList.getD i 0).toNat : Int)
/-- []byte(s) -/
def isS2B (P : Program) : Op → Bool
  | .convert s d _ => match P.underlying s, P.underlying d with
    | some .string, some (.slice e) => (match P.underlying e with | some (.int .u8) => true | _ => false)
    | _, _ => false
  | _ => false
def s2bA (P : Program) (op : Op) (ev : Operand → A) : T Ob :=
  match op with
  | .convert _ d x => match P.underlying d, ev x with
    | some (.slice e), .str b => .need (decide (b.size ≤ maxRow)) (.ret (.row e 1 b.size (strEl b)))
    | _, _ => .fail
  | _ => .fail

/-- An operation that makes an object: what it is. -/
def semO (E : Env) (op : Op) (ev : Operand → A) : T (Bool × Ob) :=
  match op with
  | .box _ x => match cellsOf (ev x) with
    | some cs => .ret (false, .box cs)
    | none => .fail
  | .alloc t => match zeroCells E.P t with
    | some cs => .ret (false, .box cs)
    | none => .fail
  | .buildSlice t 0 parts => match E.P.underlying t, parts.toList with
    | some (.slice e), [] => match sizeT E.P e with
      | some s => .ret (true, .row e s 0 fun _ _ => .junk)
      | none => .fail
    | _, _ => .fail
  | .buildSlice t len parts => match E.P.underlying t with
    | some (.slice e) => match zeroCells E.P e, sizeT E.P e with
      | some z, some s => match fillP (fun i => some (i * s, s)) (repeatL z len) (mapEvP ev parts.toList) with
        | some cs => if allL (closed 5) cs = true ∧ allCell cs = true ∧ z.length = s ∧ 0 < s ∧ len * s ≤ 65536 ∧ 0 < len then .ret (true, .row e s len (fun i j => getA cs (i * s + j))) else .fail
        | none => .fail
      | _, _ => .fail
    | _ => .fail
  | .makeSlice t l c => match E.P.underlying t with
    | some (.slice e) => match E.P.info? e, zeroCells E.P e with
      | some i, some z => match ev l, ev c with
        | .int _ n, .int _ m => if z.length = i.size ∧ 0 < i.size ∧ allL (closed 5) z = true ∧ allCell z = true then litN i.bytes fun by_ => .need (decide (0 ≤ n ∧ n ≤ m ∧ m.toNat * (by_ + 1) ≤ maxRow)) (.ret (true, .row e i.size n.toNat (fun _ j => getA z j))) else .fail
        | _, _ => .fail
      | _, _ => .fail
    | _ => .fail
  | _ => .fail

def mkV (rw : Bool) (d : Nat) : A :=
  match rw with
  | true => .own d
  | false => .ptr d 0

def memD : List Nat → Nat → Bool
  | [], _ => false
  | a :: l, n => bif Nat.beq a n then true else memD l n
/-- A new object; a row that nobody changes is no object. -/
def frzV (fz : List Nat) (B d : Nat) : Bool × Ob → A × Ob
  | (true, .row e c n el) => match memD fz d with
    | true => (.sl c n el, .dead)
    | false => (.own (B + d), .row e c n el)
  | (rw, ob) => (mkV rw (B + d), ob)

def isMake : Op → Bool
  | .box .. => true
  | .alloc .. => true
  | .buildSlice .. => true
  | .makeSlice .. => true
  | _ => false

/-- A call of a Go function: which, with what; whether the arguments hold no object of the frame. -/
def callP (objs : List Ob) (f : A) (args : List A) : Option (FuncId × List A × Bool) :=
  match f with
  | .fn g caps => match mapOpt (expo objs 5) (args ++ caps) with
    | some vals => some (g, vals, allL (closed 5) (args ++ caps))
    | none => none
  | _ => none

/-- A store. -/
def storeA (P : Program) (objs : List Ob) (t : TypeId) (a x : A) : T (Nat × Ob) :=
  match sizeT P t, cellsOf x with
  | some s, some cs => if cs.length = s ∧ 0 < s ∧ allCell cs = true then match a with
      | .ptr id off => match getO objs id with
        | .box cells => match setN cells off cs with
          | some cells' => .ret (id, .box cells')
          | none => .fail
        | _ => .fail
      | .ap id i => match getO objs id with
        | .box cells => match cs, intsK (kindOf cells) cells with
          | [.int k v], some l => if k = kindOf cells then .need (decide (i < l.length)) (.ret (id, .box (setIs k i v 0 l))) else .fail
          | _, _ => .fail
        | _ => .fail
      | .rp id c i off => match getO objs id with
        | .row e c' n el => if c = c' ∧ off + s ≤ c ∧ allL (closed 5) cs = true then
            litN s fun s => .need (decide (i < n)) (.ret (id, .row e c n fun i' j => if i' = i ∧ off ≤ j ∧ j < off + s then getA cs (j - off) else el i' j))
          else .fail
        | _ => .fail
      | _ => .fail
    else .fail
  | _, _ => .fail

/-- clear of a part of a row. -/
def clearA (P : Program) (objs : List Ob) (t : TypeId) (x : A) : T (Nat × Ob) :=
  match P.underlying t with
  | some (.slice e) => match zeroCells P e with
    | some z => match x with
      | .ov id c lo n => match getO objs id with
        | .row e' c' m el => if c = c' ∧ z.length = c ∧ 0 < c ∧ allL (closed 5) z = true ∧ allCell z = true then
            .need (decide (0 < n)) (.ret (id, .row e' c' m fun i j => if lo ≤ i ∧ i < lo + n then getA z j else el i j)) else .fail
        | _ => .fail
      | _ => .fail
    | none => .fail
  | _ => .fail

/-- append: what is appended. -/
def rowOf (objs : List Ob) (s : Nat) : A → Option (Nat × (Nat → Nat → A))
  | .nils => some (0, fun _ _ => .junk)
  | .sl c n el => if c = s then some (n, el) else none
  | .own id => match getO objs id with
    | .row _ c n el => if c = s then some (n, el) else none
    | _ => none
  | .str b => if s = 1 then some (b.size, strEl b) else none
  | _ => none

/-- What is appended has the slice's type, or is a string. -/
def okApp (P : Program) (t t' : TypeId) : A → Bool
  | .str _ => (match P.underlying t' with | some .string => true | _ => false)
  | _ => Nat.beq t t'
/-- append: the object that dies, the new one. -/
def appendA (P : Program) (objs : List Ob) (t t' : TypeId) (x y : A) : T (Option Nat × Ob) :=
  match okApp P t t' y with
  | false => .fail
  | true => match P.underlying t with
  | some (.slice e) => match P.info? e with
    | some i => match rowOf objs i.size y, zeroCells P e with
      | some (m, ey), some z => if z.length = i.size ∧ 0 < i.size then (match x with
        | .nils => litN i.bytes fun by_ => .need (decide (m * (by_ + 1) ≤ maxRow)) (.ret (none, .row e i.size m ey))
        | .own id => match getO objs id with
          | .row e' c n ex => if c = i.size ∧ e' = e then litN i.bytes fun by_ => .need (decide ((n + m) * (by_ + 1) ≤ maxRow)) (.ret (some id, .row e c (n + m) fun q j => if q < n then ex q j else ey (q - n) j)) else .fail
          | _ => .fail
        | _ => .fail) else .fail
      | _, _ => .fail
    | none => .fail
  | _ => .fail

inductive Ex where
  | normal
  | exit (id : Nat)
  | ret

/-- What one operation comes to. -/
inductive OT where
  | more (kn : List (Nat × Bool)) (st : St)
  | ite (b : Bool) (t e : OT)
  | fail
  | call (kn : List (Nat × Bool)) (st : St) (dst : Option Tmp) (f : A) (args : List A)

def T.go {α : Type} : T α → (α → OT) → OT
  | .ret a, k => k a
  | .ite b t e, k => .ite b (t.go k) (e.go k)
  | .fail, _ => .fail

def forceL : List A → (List A → OT) → OT
  | [], k => k []
  | a :: l, k => forceL l fun l' => (match a with
    | .junk => k (.junk :: l')
    | .opq => k (.opq :: l')
    | .kb true => k (.kb true :: l')
    | .kb false => k (.kb false :: l')
    | .bool b => k (.bool b :: l')
    | .int q n => k (.int q n :: l')
    | .str s => k (.str s :: l')
    | .nils => k (.nils :: l')
    | .sl c n el => k (.sl c n el :: l')
    | .ip c el => k (.ip c el :: l')
    | .own id => k (.own id :: l')
    | .ptr id off => k (.ptr id off :: l')
    | .rp id c i off => k (.rp id c i off :: l')
    | .fn f c => k (.fn f c :: l')
    | .agg c => k (.agg c :: l')
    | .tup c => k (.tup c :: l')
    | .anyb => k (.anyb :: l')
    | .nilp => k (.nilp :: l')
    | .yld i => k (.yld i :: l')
    | .ap i j => k (.ap i j :: l')
    | .ov i c lo n => k (.ov i c lo n :: l'))
def forceA (a : A) (k : A → OT) : OT :=
  match a with
    | .junk => k .junk
    | .opq => k .opq
    | .kb true => k (.kb true)
    | .kb false => k (.kb false)
    | .bool b => k (.bool b)
    | .int q n => k (.int q n)
    | .str s => k (.str s)
    | .nils => k .nils
    | .sl c n el => k (.sl c n el)
    | .ip c el => k (.ip c el)
    | .own id => k (.own id)
    | .ptr id off => (match off with
      | 0 => k (.ptr id 0)
      | m + 1 => k (.ptr id (m + 1)))
    | .rp id c i off => (match off with
      | 0 => k (.rp id c i 0)
      | m + 1 => k (.rp id c i (m + 1)))
    | .fn f c => forceL c fun c => k (.fn f c)
    | .agg c => forceL c fun c => k (.agg c)
    | .tup c => forceL c fun c => k (.tup c)
    | .anyb => k .anyb
    | .nilp => k .nilp
    | .yld i => k (.yld i)
    | .ap i j => k (.ap i j)
    | .ov i c lo n => k (.ov i c lo n)
def forceO (o : Ob) (k : Ob → OT) : OT :=
  match o with
  | .virgin => k .virgin
  | .dead => k .dead
  | .box cs => forceL cs fun cs => k (.box cs)
  | .row e c n el => k (.row e c n el)
  | .lp ts ps a b y p => forceL ts fun ts => k (.lp ts ps a b y p)
def setXK : List Ob → Nat → Ob → (List Ob → OT) → OT
  | [], 0, v, k => k [v]
  | [], n + 1, v, k => setXK [] n v fun l => k (.virgin :: l)
  | _ :: l, 0, v, k => k (v :: l)
  | a :: l, n + 1, v, k => setXK l n v fun l' => k (a :: l')
def setK {α : Type} : List α → Nat → α → (List α → OT) → OT
  | [], _, _, k => k []
  | _ :: l, 0, v, k => k (v :: l)
  | a :: l, n + 1, v, k => setK l n v fun l' => k (a :: l')
def setA (l : List A) (n : Nat) (v : A) (k : List A → OT) : OT := forceA v fun v => setK l n v k
def setO (l : List Ob) (n : Nat) (v : Ob) (k : List Ob → OT) : OT := forceO v fun v => setXK l n v k

def putK : St → Option Tmp → A → (St → OT) → OT
  | ⟨ts, os⟩, some d, v, k => setA ts d v fun t => k ⟨t, os⟩
  | ⟨ts, os⟩, none, _, k => k ⟨ts, os⟩

/-- The value of the guarding operation. -/
inductive Gd where
  | no
  | known (b : Bool)
  | free (b : Bool) (d : Nat)
  | bad
def guardA (ops : List Oper) (tmps : List A) (j : Nat) : Gd :=
  match (dropN j ops) with
  | o :: _ => match o.dst with
    | some d => match getA tmps d with
      | .kb b => .known b
      | .bool b => .free b d
      | .tup [] => .no
      | _ => .bad
    | none => .bad
  | [] => .bad

/-- What is known of a slot's truth on this way. -/
def lookK : List (Nat × Bool) → Nat → Option Bool
  | [], _ => none
  | (d, v) :: l, n => if n = d then some v else lookK l n
def eraseK : List (Nat × Bool) → Option Nat → List (Nat × Bool)
  | l, none => l
  | [], some _ => []
  | (d, v) :: l, some n => if d = n then eraseK l (some n) else (d, v) :: eraseK l (some n)

def eraseC : List (Nat × Bool) → Option Nat → (List (Nat × Bool) → OT) → OT
  | [], _, k => k []
  | (d, v) :: l, none, k => k ((d, v) :: l)
  | (d, v) :: l, some n, k => if d = n then eraseC l (some n) k else eraseC l (some n) fun l => k ((d, v) :: l)

/-- In a region that draws, the objects that it makes are not to be looked into. -/
def maskO : List Nat → List Ob → List Ob
  | [], l => l
  | d :: F, l => setX (maskO F l) d .dead

/-- The new object at its slot. -/
def makeK (B : Nat) : St → Nat → A → Ob → (St → OT) → OT
  | ⟨ts, os⟩, d, v, ob, k => match getO os (B + d) with
    | .virgin => setO os (B + d) ob fun os => setA ts d v fun t => k ⟨t, os⟩
    | _ => .fail

def callFin (B d : Nat) (cl : Bool) (r : A × Option Ob) : Option (A × Option Ob) :=
  match flat 5 r.1 || cl with
  | true => some (ren 0 (B + d) 6 r.1, r.2)
  | false => none

def endK (kn : List (Nat × Bool)) (dst : Option Tmp) (st : St) : OT := eraseC kn dst fun kn => .more kn st

def tmpsOf : List Operand → List Nat
  | [] => []
  | .tmp t :: l => t :: tmpsOf l
  | _ :: l => tmpsOf l

def memB (B : Nat) : List Nat → Nat → Bool
  | [], _ => false
  | t :: l, s => Nat.beq s (B + t) || memB B l s
/-- The sites of a region, without those whose slots are read. -/
def delF (B : Nat) : List Nat → List Nat → List Nat
  | [], _ => []
  | s :: F, ts => match memB B ts s with
    | true => delF B F ts
    | false => s :: delF B F ts
def foM (B : Nat) (F : List Nat) (o : Oper) : List Nat :=
  match F with
  | [] => []
  | s :: F => delF B (s :: F) (tmpsOf o.op.operands.toList)
def opAt (all : Array Oper) (B : Nat) (F : List Nat) : Nat → List Nat
  | 0 => F
  | j + 1 => match F with
    | [] => []
    | s :: F => match dropN j all.toList with
      | o :: _ => foM B (s :: F) o
      | [] => s :: F

/-- One operation whose guard is met. -/
def execK (E : Env) (B : Nat) (F : List Nat) : St → List (Nat × Bool) → Oper → OT
  | ⟨ts, os⟩, kn, o => match o.op with
  | .store t a x => (storeA E.P os t (evA ts a) (evA ts x)).go fun r => setO os r.1 r.2 fun os => putK ⟨ts, os⟩ o.dst (.tup []) (endK kn o.dst)
  | .call ⟨.builtin .clear, ⟨[x]⟩, ⟨[t]⟩⟩ => (clearA E.P os t (evA ts x)).go fun r => setO os r.1 r.2 fun os => putK ⟨ts, os⟩ o.dst (.tup []) (endK kn o.dst)
  | .call ⟨.builtin .append, ⟨[x, y]⟩, ⟨[t, t']⟩⟩ => match o.dst with
    | some d => (appendA E.P os t t' (evA ts x) (evA ts y)).go fun r => match r.1 with
        | none => makeK B ⟨ts, os⟩ d (.own (B + d)) r.2 (endK kn o.dst)
        | some id => setO os id .dead fun os => makeK B ⟨ts, os⟩ d (.own (B + d)) r.2 (endK kn o.dst)
    | none => .fail
  | .call ⟨.value f, args, _⟩ => .call kn ⟨ts, os⟩ o.dst (evA ts f) (mapEv (evA ts) args.toList)
  | .pick (.tmp c) a b => match lookK kn c with
    | some true => putK ⟨ts, os⟩ o.dst (evA ts a) (endK kn o.dst)
    | some false => putK ⟨ts, os⟩ o.dst (evA ts b) (endK kn o.dst)
    | none => (semV E (maskO (foM B F o) os) (.pick (.tmp c) a b) (evA ts)).go fun v => putK ⟨ts, os⟩ o.dst v (endK kn o.dst)
  | op => match isMake op with
    | true => match o.dst with
      | some d => (semO E op (evA ts)).go fun r => match frzV E.frz B d r with | (v, ob) => makeK B ⟨ts, os⟩ d v ob (endK kn o.dst)
      | none => .fail
    | false => match isS2B E.P op with
      | true => (match o.dst with
        | some d => (s2bA E.P op (evA ts)).go fun r => match frzV E.frz B d (true, r) with | (v, ob) => makeK B ⟨ts, os⟩ d v ob (endK kn o.dst)
        | none => .fail)
      | false => (semV E (maskO (foM B F o) os) op (evA ts)).go fun v => putK ⟨ts, os⟩ o.dst v (endK kn o.dst)

/-- The operation that makes a slot's value. -/
def opDef : List Oper → Nat → Option Op
  | [], _ => none
  | o :: l, t => match o.dst with
    | some d => (match Nat.beq d t with | true => some o.op | false => opDef l t)
    | none => opDef l t
/-- The variable that an address comes from. -/
def rootT (ops : List Oper) : Nat → Nat → Nat
  | 0, t => t
  | n + 1, t => match opDef ops t with
    | some (.fieldAddr _ (.tmp u) _) => rootT ops n u
    | some (.nilCheck (.tmp u)) => rootT ops n u
    | some (.move (.tmp u)) => rootT ops n u
    | _ => t
def rootA (ops : List Oper) : Operand → Option Nat
  | .tmp t => (match opDef ops (rootT ops 6 t) with | none => some (rootT ops 6 t) | some _ => none)
  | _ => none
/-- A load and a store, through different variables: that of the store. -/
def pairM (ops : List Oper) (o c : Oper) : Option Nat :=
  match o.op, c.op with
  | .load _ a, .store _ b _ => (match rootA ops a, rootA ops b with
    | some r, some q => (match Nat.beq r q with | true => none | false => some q)
    | _, _ => none)
  | _, _ => none
/-- What lies there is not what is stored through that variable. -/
def sepB : A → A → Bool
  | .ip _ _, _ => true
  | .ptr i _, .ptr j _ => !Nat.beq i j
  | .ptr _ _, .rp _ _ _ _ => true
  | .rp _ _ _ _, .ptr _ _ => true
  | .ap i _, .ptr j _ => !Nat.beq i j
  | .ap _ _, .rp _ _ _ _ => true
  | _, _ => false
def sameR : A → A → Bool
  | .ptr i _, .ptr j _ => Nat.beq i j
  | .rp i _ _ _, .rp j _ _ _ => Nat.beq i j
  | _, _ => false
def qsOf (ops : List Oper) (o : Oper) : List Oper → List Nat
  | [] => []
  | c :: l => match pairM ops o c with | some q => q :: qsOf ops o l | none => qsOf ops o l
/-- The variables that are looked at besides. -/
def rootsOf (ops : List Oper) (o : Oper) : List Nat :=
  match o.op with
  | .load .. => qsOf ops o ops
  | .store _ b _ => (match rootA ops b with | some q => [q] | none => [])
  | _ => []
def allQ (f : Nat → Bool) : List Nat → Bool
  | [] => true
  | q :: l => f q && allQ f l
def ldM (ops : List Oper) (ts : List A) (o : Oper) (a : Operand) : Bool := allQ (fun q => sepB (evA ts a) (getA ts q)) (qsOf ops o ops)
def stM (ops : List Oper) (ts : List A) (b : Operand) : Bool :=
  match rootA ops b with
  | some q => sameR (evA ts b) (getA ts q)
  | none => true

/-- The variable of the region's own that a store writes. -/
def isAlloc : Op → Bool
  | .alloc _ => true
  | .box _ _ => true
  | _ => false
def freshT : List Oper → Nat → Bool
  | [], _ => false
  | o :: l, t => (match o.dst with | some d => Nat.beq d t && isAlloc o.op | none => false) || freshT l t
def freshSt (ops : List Oper) (o : Oper) : Option Nat :=
  match o.op with
  | .store _ (.tmp t) _ => match freshT ops t with | true => some t | false => none
  | _ => none
def freshOK0 (B : Nat) (F : List Nat) (ops : List Oper) (ts : List A) (o : Oper) : Bool :=
  match F with
  | [] => true
  | _ :: _ => match freshSt ops o with
    | none => true
    | some t => match getA ts t with
      | .ptr id _ => Nat.beq id (B + t)
      | _ => false
def stOK (F : List Nat) (ops : List Oper) (ts : List A) (o : Oper) : Bool :=
  match F with
  | [] => true
  | _ :: _ => match o.op with
    | .store _ b _ => stM ops ts b
    | _ => true
def freshOK (B : Nat) (F : List Nat) (ops : List Oper) (ts : List A) (o : Oper) : Bool := freshOK0 B F ops ts o && stOK F ops ts o
def immA : A → Bool
  | .own _ => false
  | .ov _ _ _ _ => false
  | _ => true
/-- 0: looks at no object and makes none; 1: looks at objects (not at those of the region) or makes one; 2: changes objects. -/
def cls : Op → Nat
  | .store .. => 2
  | .call ⟨.builtin .append, _, _⟩ => 2
  | .call ⟨.builtin .clear, _, _⟩ => 2
  | .call _ => 1
  | .load .. | .indexAddr .. | .box .. | .alloc .. | .buildSlice .. | .makeSlice .. | .convert .. | .slice .. => 1
  | _ => 0

def readsOf (ops : List Oper) (o : Oper) : List Nat :=
  tmpsOf o.op.operands.toList ++ ((match o.guard with
    | some (j, _) => (match dropN j ops with | g :: _ => g.dst.toList | [] => [])
    | none => []) ++ rootsOf ops o)
/-- Something else that changes objects does not read what this yields. -/
def watchS (ops : List Oper) (o : Oper) : Bool :=
  match o.dst with
  | some d => ops.any fun c => cls c.op == 2 && !(readsOf ops c).contains d
  | none => false
/-- Each number once. -/
def ded : List Nat → List Nat → List Nat
  | [], acc => acc
  | x :: l, acc => ded l (if acc.contains x then acc else x :: acc)
def isApp : Op → Bool
  | .call ⟨.builtin .append, _, _⟩ => true
  | _ => false
/-- An address that lies in no row of the call's own. -/
def ldA : A → Bool
  | .ptr _ _ => true
  | .ip _ _ => true
  | _ => false
/-- What some slots are made of. -/
def clos (ops : List Oper) : Nat → List Nat → List Nat
  | 0, ts => ts
  | n + 1, ts => clos ops n (ded (ops.flatMap fun o => match o.dst with | some d => (match ts.contains d with | true => readsOf ops o | false => []) | none => []) ts)
/-- Some append does not use what this yields. -/
def watchL (ops : List Oper) (o : Oper) : Bool :=
  match o.dst with
  | some d => ops.any fun c => isApp c.op && !(clos ops 8 (readsOf ops c)).contains d
  | none => false
/-- A part of a slice that is no row of the call's own; a load that does not look into such rows. -/
def slOK (F : List Nat) (ops : List Oper) (ts : List A) (o : Oper) : Bool :=
  match F with
  | [] => true
  | _ :: _ => match o.op with
    | .slice _ x _ _ _ => (match watchS ops o with
      | true => immA (evA ts x)
      | false => true)
    | .load _ x => (match ldA (evA ts x) with
      | true => true
      | false => !watchL ops o) && ldM ops ts o x
    | _ => true
def execF (E : Env) (B : Nat) (F : List Nat) (ops : List Oper) : St → List (Nat × Bool) → Oper → OT
  | ⟨ts, os⟩, kn, o => match freshOK B F ops ts o with
    | true => (match slOK F ops ts o with
      | true => execK E B F ⟨ts, os⟩ kn o
      | false => .fail)
    | false => .fail

def guardK (b want : Bool) (x y : OT) : OT :=
  match b, want with
  | true, true => x
  | false, false => x
  | _, _ => y

def stepK (E : Env) (B : Nat) (F : List Nat) (ops : List Oper) : St → List (Nat × Bool) → Oper → OT
  | ⟨ts, os⟩, kn, o => match o.guard with
  | none => execF E B F ops ⟨ts, os⟩ kn o
  | some (j, want) => match guardA ops ts j with
    | .free b d => match lookK kn d with
      | some v => guardK v want (execF E B F ops ⟨ts, os⟩ kn o) (putK ⟨ts, os⟩ o.dst (.tup []) (endK kn o.dst))
      | none => .ite b
        (guardK true want (execF E B F ops ⟨ts, os⟩ ((d, true) :: kn) o) (putK ⟨ts, os⟩ o.dst (.tup []) (endK ((d, true) :: kn) o.dst)))
        (guardK false want (execF E B F ops ⟨ts, os⟩ ((d, false) :: kn) o) (putK ⟨ts, os⟩ o.dst (.tup []) (endK ((d, false) :: kn) o.dst)))
    | .known b => guardK b want (execF E B F ops ⟨ts, os⟩ kn o) (putK ⟨ts, os⟩ o.dst (.tup []) (endK kn o.dst))
    | .no => putK ⟨ts, os⟩ o.dst (.tup []) (endK kn o.dst)
    | .bad => .fail

/-- A store into a variable of the region's own, and something that does not look at it. -/
def indepF (ops : List Oper) (a b : Oper) : Bool :=
  match cls a.op, cls b.op with
  | 2, 1 => (match freshSt ops a with | some t => !(readsOf ops b).contains t | none => false)
  | 1, 2 => (match freshSt ops b with | some t => !(readsOf ops a).contains t | none => false)
  | 2, 2 => (match freshSt ops a, freshSt ops b with | some t, some u => t != u | _, _ => false)
  | _, _ => false
def isSlW (ops : List Oper) (o : Oper) : Bool :=
  match o.op with
  | .slice .. => watchS ops o
  | _ => false
def indepS (ops : List Oper) (a b : Oper) : Bool :=
  match cls a.op, cls b.op with
  | 2, 1 => isSlW ops b
  | 1, 2 => isSlW ops a
  | _, _ => false
def isLdW (ops : List Oper) (o : Oper) : Bool :=
  match o.op with
  | .load .. => watchL ops o
  | _ => false
/-- A load that does not look into rows, and an append. -/
def indepL (ops : List Oper) (a b : Oper) : Bool :=
  match cls a.op, cls b.op with
  | 2, 1 => isApp a.op && isLdW ops b
  | 1, 2 => isApp b.op && isLdW ops a
  | _, _ => false
/-- A load and a store through different variables. -/
def indepM (ops : List Oper) (a b : Oper) : Bool :=
  match cls a.op, cls b.op with
  | 2, 1 => b.dst.isSome && (pairM ops b a).isSome && ops.any (fun o => match o.op, a.op with | .store _ x _, .store _ y _ => rootA ops x == rootA ops y | _, _ => false)
  | 1, 2 => a.dst.isSome && (pairM ops a b).isSome && ops.any (fun o => match o.op, b.op with | .store _ x _, .store _ y _ => rootA ops x == rootA ops y | _, _ => false)
  | _, _ => false
def indep (ops : List Oper) (a b : Oper) : Bool :=
  (match a.dst with | some d => !(readsOf ops b).contains d && b.dst != some d | none => true) &&
  (match b.dst with | some d => !(readsOf ops a).contains d | none => true) &&
  ((cls a.op + cls b.op ≤ 2 && !(cls a.op == 2 && cls b.op == 2)) && !(cls a.op == 1 && cls b.op == 2) && !(cls a.op == 2 && cls b.op == 1) || (indepF ops a b || (indepS ops a b || (indepL ops a b || indepM ops a b))))

/-- The numbers that must come before each operation, by the edges that always bind. -/
def ancs : List Oper → List (List Nat) → List (List Nat)
  | [], acc => acc
  | o :: rest, acc => ancs rest (acc ++ [o.after.toList.flatMap fun e => if Region.binds .any e then e.on :: (acc[e.on]?).getD [] else []])

/-- The same, without repetitions. -/
def ancsD : List Oper → List (List Nat) → List (List Nat)
  | [], acc => acc
  | o :: rest, acc => ancsD rest (acc ++ [ded (o.after.toList.flatMap fun e => if Region.binds .any e then e.on :: (acc[e.on]?).getD [] else []) []])

def chkPairs (ops : List Oper) (an : List (List Nat)) : Bool :=
  (List.range ops.length).all fun j => (List.range j).all fun i => ((an[j]?).getD []).contains i || (match ops[i]?, ops[j]? with | some a, some b => indep ops a b | _, _ => false)

def chkD (ops : Array Oper) : Bool :=
  chkPairs ops.toList (ancsD ops.toList []) &&
  ((List.range ops.size).all fun i => ((ops[i]?).map fun o => o.after.all fun e => e.on < i || !(Region.binds .text e)).getD false) &&
  (Region.linearise .gc ops 0).length == ops.size

/-- From operation k on, each one comes behind all that stand before it. -/
def tailB (ops : Array Oper) (k : Nat) : Bool :=
  match ancsD ops.toList [] with
  | an => (List.range ops.size).all fun j => Nat.blt j k || (List.range j).all fun i => ((an[j]?).getD []).contains i
def seqB (dr : Bool) (ops : Array Oper) (i : Nat) : Bool :=
  match dr with
  | false => true
  | true => tailB ops (i - 1)

def sitesOf (B : Nat) : List Oper → List Nat
  | [] => []
  | o :: l => if cls o.op = 1 then (match o.dst with | some d => (B + d) :: sitesOf B l | none => sitesOf B l) else sitesOf B l


end Go.Sy
