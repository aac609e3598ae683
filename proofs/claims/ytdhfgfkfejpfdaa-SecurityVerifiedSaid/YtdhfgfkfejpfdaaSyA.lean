import Derived.Calls
import Derived.KernelRfl
import Derived.Below
import Derived.Maps.AppendAt
import Derived.Laws.CopyRow
import Derived.Laws.IdiomCopy
import Derived.Laws.Cells
import Derived.Laws.Entries
import Derived.Laws.IdiomStrings
import Derived.Deep.AppendSrc
import Derived.Laws.Build
import Derived.Laws.StructEq
import Derived.Laws.BytesString
set_option linter.unusedSimpArgs false
set_option linter.unusedSectionVars false
set_option linter.unusedVariables false
namespace Go.Sy

/-- Shadow values. -/
inductive A where
  | junk
  | opq
  | kb (b : Bool)
  | bool (b : Bool)
  | int (k : IntKind) (n : Int)
  | str (s : ByteArray)
  | nils
  | sl (c n : Nat) (el : Nat → Nat → A)
  | ip (c : Nat) (el : Nat → A)
  | own (id : Nat)
  | ptr (id off : Nat)
  | rp (id c i off : Nat)
  | fn (f : FuncId) (caps : List A)
  | agg (cs : List A)
  | tup (vs : List A)
  /-- some truth value -/
  | anyb
  /-- the nil pointer -/
  | nilp
  /-- the function 'yield' of a loop over a function -/
  | yld (id : Nat)
  /-- a part of a row of the call's own: from element lo on, n elements -/
  | ov (id c lo n : Nat)
  /-- the address of a cell of a box, by a number that is not worked out -/
  | ap (id i : Nat)

instance : Inhabited A := ⟨.junk⟩

/-- Decision trees. -/
inductive T (α : Type) where
  | ret (a : α)
  | ite (b : Bool) (t e : T α)
  | fail

def T.eval {α : Type} : T α → Option α
  | .ret a => some a
  | .ite b t e => match b with | true => t.eval | false => e.eval
  | .fail => none

def T.need {α : Type} (b : Bool) (t : T α) : T α := .ite b t .fail

/-- A number, worked out. -/
def litN {α : Type} (n : Nat) (k : Nat → T α) : T α :=
  match n with
  | 0 => k 0
  | m + 1 => k (m + 1)
theorem litN_eq {α : Type} (n : Nat) (k : Nat → T α) : litN n k = k n := by cases n <;> rfl

/-- Shadow objects. -/
inductive Ob where
  | virgin
  | dead
  | box (cells : List A)
  | row (e : TypeId) (c n : Nat) (el : Nat → Nat → A)
  /-- a loop over a function: the slots at its head, its variables, its two texts; its state; the jump by which it was left -/
  | lp (ts : List A) (ps : List Nat) (asg bod : Code) (sta : LoopState) (pend : Option Code)
  /-- a map whose keys are n numbers (ag: in a struct); cl: its values hold no object of the frame: what was changed last, newest first (none: deleted); which keys it had before, and their values -/
  | mp (t : TypeId) (ag : Bool) (n : Nat) (cl : Bool) (u : List (List Int × Option A)) (h : List Int → Bool) (v : List Int → A)

structure St where
  tmps : List A
  objs : List Ob

def getA : List A → Nat → A
  | [], _ => .junk
  | a :: _, 0 => a
  | _ :: l, n + 1 => getA l n

def getO : List Ob → Nat → Ob
  | [], _ => .virgin
  | a :: _, 0 => a
  | _ :: l, n + 1 => getO l n

def setL {α : Type} : List α → Nat → α → List α
  | [], _, _ => []
  | _ :: l, 0, v => v :: l
  | a :: l, n + 1, v => a :: setL l n v

/-- An object at its place. -/
def setX : List Ob → Nat → Ob → List Ob
  | [], 0, v => [v]
  | [], n + 1, v => .virgin :: setX [] n v
  | _ :: l, 0, v => v :: l
  | a :: l, n + 1, v => a :: setX l n v

/-- The shadow of a constant. -/
def ofCell : Value → A
  | .bool b => .kb b
  | .int k n => .int k n
  | .string s => .str s
  | .slice none 0 0 => .nils
  | .pointer none => .nilp
  | .func (.func f) ⟨[]⟩ ⟨[]⟩ => .fn f []
  | .agg _ => .junk
  | .tuple _ => .junk
  | _ => .opq
def ofCells : List Value → List A
  | [] => []
  | v :: l => (match v with | .bool b => .bool b | v => ofCell v) :: ofCells l
def ofVal : Value → A
  | .agg cs => .agg (ofCells cs.toList)
  | .tuple ⟨[]⟩ => .tup []
  | v => ofCell v

def evA (tmps : List A) : Operand → A
  | .tmp t => getA tmps t
  | .const v => ofVal v
  | .global _ => .junk
  | .func f => .fn f []

def cellsOf : A → Option (List A)
  | .agg cs => some cs
  | .tup _ => none
  | .junk => none
  | a => some [a]

def isCell : A → Bool
  | .agg _ => false
  | .tup _ => false
  | .junk => false
  | _ => true
def allCell : List A → Bool
  | [] => true
  | a :: l => isCell a && allCell l

def isAggT (P : Program) (t : TypeId) : Option Bool :=
  match P.underlying t with
  | some (.struct _) | some (.array _ _) => some true
  | some _ => some false
  | none => none

def sizeT (P : Program) (t : TypeId) : Option Nat := (P.info? t).map (·.size)

def takeN {α : Type} : Nat → List α → Option (List α)
  | 0, _ => some []
  | _ + 1, [] => none
  | n + 1, a :: l => match takeN n l with | some m => some (a :: m) | none => none

def dropN {α : Type} : Nat → List α → List α
  | 0, l => l
  | _ + 1, [] => []
  | n + 1, _ :: l => dropN n l

def setN : List A → Nat → List A → Option (List A)
  | l, _, [] => some l
  | [], _, _ :: _ => none
  | _ :: l, 0, v :: vs => match setN l 0 vs with | some m => some (v :: m) | none => none
  | a :: l, n + 1, v :: vs => match setN l n (v :: vs) with | some m => some (a :: m) | none => none

def rangeMap (el : Nat → A) (i : Nat) : Nat → List A
  | 0 => []
  | n + 1 => el i :: rangeMap el (i + 1) n

/-- The closed view of a value (what a callee gets to see). -/
def mapOpt (f : A → Option A) : List A → Option (List A)
  | [] => some []
  | a :: l => match f a, mapOpt f l with
    | some b, some m => some (b :: m)
    | _, _ => none

/-- Cells that are numbers of one kind. -/
def intsK (k : IntKind) : List A → Option (List Int)
  | [] => some []
  | .int k' n :: l => if k' = k then (match intsK k l with | some m => some (n :: m) | none => none) else none
  | _ :: _ => none
def kindOf : List A → IntKind
  | .int k _ :: _ => k
  | _ => .i64

def expo (objs : List Ob) : Nat → A → Option A
  | 0, _ => none
  | d + 1, a => match a with
    | .own id => match getO objs id with
      | .row _ c n el => some (.sl c n el)
      | _ => none
    | .ptr id off => match getO objs id with
      | .box cells => match mapOpt (expo objs d) cells with
        | some cs => some (.ip (cs.length - off) (getA (dropN off cs)))
        | none => none
      | _ => none
    | .rp _ _ _ _ => none
    | .yld _ => none
    | .ap _ _ => none
    | .ov id c lo n => match getO objs id with
      | .row _ c' _ el => if c = c' then some (.sl c n (fun i => el (lo + i))) else none
      | .box cells => match intsK (kindOf cells) cells with
        | some l => if c = 1 ∧ lo + n ≤ l.length then some (.sl 1 n (fun i _ => .int (kindOf cells) (l.getD (lo + i) 0))) else none
        | none => none
      | _ => none
    | .kb b => some (.bool b)
    | .fn f caps => match mapOpt (expo objs d) caps with | some l => some (.fn f l) | none => none
    | .agg cs => match mapOpt (expo objs d) cs with | some l => some (.agg l) | none => none
    | .tup cs => match mapOpt (expo objs d) cs with | some l => some (.tup l) | none => none
    | a => some a

/-- .. with object id as object 0; the objects are those without it. -/
def expo1 (id : Nat) (objs : List Ob) (a : A) : Option A :=
  match a with
  | .own j => bif Nat.beq j id then some (.own 0) else expo objs 5 (.own j)
  | a => expo objs 5 a
def expoM (id : Nat) (objs : List Ob) : List A → Option (List A)
  | [] => some []
  | a :: l => match expo1 id objs a, expoM id objs l with
    | some b, some m => some (b :: m)
    | _, _ => none

def allL (f : A → Bool) : List A → Bool
  | [] => true
  | a :: l => f a && allL f l
/-- No reference to an object of the frame. -/
def closed : Nat → A → Bool
  | 0, _ => false
  | d + 1, a => match a with
    | .own _ | .ptr _ _ | .rp _ _ _ _ | .yld _ | .ov _ _ _ _ | .ap _ _ => false
    | .fn _ l | .agg l | .tup l => allL (closed d) l
    | _ => true
/-- Holds no memory at all, but for the object 0. -/
def flat : Nat → A → Bool
  | 0, _ => false
  | d + 1, a => match a with
    | .kb _ | .bool _ | .int _ _ | .str _ | .junk | .opq | .nils | .own 0 | .anyb | .nilp => true
    | .agg l | .tup l | .fn _ l => allL (flat d) l
    | _ => false

def renL (f : A → A) : List A → List A
  | [] => []
  | a :: l => f a :: renL f l
/-- Object i of a value becomes object t. -/
def ren (i t : Nat) : Nat → A → A
  | 0, _ => .junk
  | d + 1, a => match a with
    | .own j => if j = i then .own t else .junk
    | .ptr _ _ => .junk
    | .rp _ _ _ _ => .junk
    | .yld _ => .junk
    | .ov _ _ _ _ => .junk
    | .ap _ _ => .junk
    | .agg l => .agg (renL (ren i t d) l)
    | .tup l => .tup (renL (ren i t d) l)
    | .fn f l => .fn f (renL (ren i t d) l)
    | a => a

def nth {α : Type} : List α → Nat → Option α
  | [], _ => none
  | a :: _, 0 => some a
  | _ :: l, n + 1 => nth l n

def fieldOff (P : Program) (s : TypeId) (f : Nat) : Option Nat :=
  match P.underlying s with
  | some (.struct fs) => match nth fs.toList f with
    | some fl => match P.info? fl.type with
      | some i => if i.size = 0 then none else some fl.offset
      | none => none
    | none => none
  | _ => none

def fillP (place : Nat → Option (Nat × Nat)) (cells : List A) : List (Nat × A) → Option (List A)
  | [] => some cells
  | (i, v) :: rest => match place i, cellsOf v with
    | some (off, size), some cs => if cs.length = size ∧ 0 < size then match setN cells off cs with
        | some c' => fillP place c' rest
        | none => none
      else none
    | _, _ => none

def zeroCells (P : Program) (t : TypeId) : Option (List A) :=
  match P.info? t with
  | some i => match i.zero with
    | some v => some (ofCells v.cells.toList)
    | none => none
  | none => none

def repeatL (z : List A) : Nat → List A
  | 0 => []
  | n + 1 => z ++ repeatL z n

inductive CK where
  | b
  | s
  | i (k : IntKind)

def eqA : CK → A → A → Option Bool
  | .b, .bool a, .bool b | .b, .kb a, .kb b | .b, .kb a, .bool b | .b, .bool a, .kb b => some (a == b)
  | .i q, .int k a, .int k' b => if k = q ∧ k' = q then some (a == b) else none
  | .s, .str a, .str b => some (a.toList == b.toList)
  | _, _, _ => none
def eqL : List CK → List A → List A → Option Bool
  | [], [], [] => some true
  | c :: cs, a :: l, b :: m => match eqA c a b, eqL cs l m with
    | some x, some y => some (x && y)
    | _, _ => none
  | _, _, _ => none
def eqV : CK → Value → Value → Option Bool
  | .b, .bool a, .bool b => some (a == b)
  | .i q, .int k a, .int k' b => if k = q ∧ k' = q then some (a == b) else none
  | .s, .string a, .string b => some (a.toList == b.toList)
  | _, _, _ => none
def eqVs : List CK → List Value → List Value → Option Bool
  | [], [], [] => some true
  | c :: cs, a :: l, b :: m => match eqV c a b, eqVs cs l m with
    | some x, some y => some (x && y)
    | _, _ => none
  | _, _, _ => none

def arith (op : BinOp) (k : IntKind) (a b : Int) : T A :=
  match op with
  | .add => .ret (.int k (k.wrap (a + b)))
  | .sub => .ret (.int k (k.wrap (a - b)))
  | .mul => .ret (.int k (k.wrap (a * b)))
  | .quo => .need (b != 0) (.ret (.int k (k.wrap (a.tdiv b))))
  | .rem => .need (b != 0) (.ret (.int k (a.tmod b)))
  | .eql => .ret (.bool (a == b))
  | .neq => .ret (.bool (a != b))
  | .lss => .ret (.bool (decide (a < b)))
  | .leq => .ret (.bool (decide (a ≤ b)))
  | .gtr => .ret (.bool (decide (a > b)))
  | .geq => .ret (.bool (decide (a ≥ b)))
  | .and => .ret (.int k (k.wrap ((BitVec.ofInt k.bits a &&& BitVec.ofInt k.bits b).toNat : Int)))
  | .or => .ret (.int k (k.wrap ((BitVec.ofInt k.bits a ||| BitVec.ofInt k.bits b).toNat : Int)))
  | .xor => .ret (.int k (k.wrap ((BitVec.ofInt k.bits a ^^^ BitVec.ofInt k.bits b).toNat : Int)))
  | .andNot => .ret (.int k (k.wrap ((BitVec.ofInt k.bits a &&& ~~~BitVec.ofInt k.bits b).toNat : Int)))
  | _ => .fail

def shiftA (op : BinOp) (k : IntKind) (a b : Int) : T A :=
  match op with
  | .shl => .need (decide (0 ≤ b)) (.ret (.int k (k.wrap (a * 2 ^ (min b.toNat k.bits)))))
  | .shr => .need (decide (0 ≤ b)) (.ret (.int k (a.fdiv (2 ^ (min b.toNat k.bits)))))
  | _ => .fail

def isShift : BinOp → Bool
  | .shl => true
  | .shr => true
  | _ => false

def strOp (op : BinOp) (a b : ByteArray) : T A :=
  match op with
  | .add => .need (decide (a.size + b.size ≤ 9223372036854775807)) (.ret (.str (a ++ b)))
  | .eql => .ret (.bool (a.toList == b.toList))
  | .neq => .ret (.bool (!(a.toList == b.toList)))
  | .lss => .ret (.bool (Op.bytesLess a.toList b.toList))
  | .leq => .ret (.bool (Op.bytesLess a.toList b.toList || a.toList == b.toList))
  | .gtr => .ret (.bool (!(Op.bytesLess a.toList b.toList || a.toList == b.toList)))
  | .geq => .ret (.bool (!(Op.bytesLess a.toList b.toList)))
  | _ => .fail

/-- The program, and the types whose '==' is cell by cell. -/
structure Env where
  P : Program
  eqT : TypeId → Option (List CK)
  /-- functions that change a row of their caller's: known by contracts -/
  mu : List FuncId := []
  /-- slots whose new rows nobody changes -/
  frz : List Nat := []
  /-- types of maps: whether the keys are structs, how many numbers they have -/
  mps : TypeId → Option (Bool × Nat) := fun _ => none

def boolOp (op : BinOp) (a b : Bool) : T A :=
  match op with
  | .eql => .ret (.bool (a == b))
  | .neq => .ret (.bool (!(a == b)))
  | _ => .fail

/-- A slice against nil. -/
def nilA (E : Env) (op : BinOp) (t : TypeId) (yes no : A) : T A :=
  match E.P.underlying t with
  | some (.slice _) => (match op with
    | .eql => .ret yes
    | .neq => .ret no
    | _ => .fail)
  | _ => .fail

/-- A pointer against nil. -/
def nilP (E : Env) (op : BinOp) (t : TypeId) (b : Bool) : T A :=
  match E.P.underlying t with
  | some (.pointer _) => (match op with
    | .eql => .ret (.kb b)
    | .neq => .ret (.kb (!b))
    | _ => .fail)
  | _ => .fail

def binA (E : Env) (op : BinOp) (t : TypeId) (x y : A) : T A :=
  match x, y with
  | .int k a, .int k' b => match isShift op with
    | true => shiftA op k a b
    | false => if k = k' then arith op k a b else .fail
  | .str a, .str b => strOp op a b
  | .bool a, .bool b | .kb a, .bool b | .bool a, .kb b | .kb a, .kb b => match E.P.underlying t with
    | some .bool => boolOp op a b
    | _ => .fail
  | .agg l, .agg m => match E.eqT t with
    | some ks => match eqL ks l m with
      | some b => (match op with
        | .eql => .ret (.bool b)
        | .neq => .ret (.bool (!b))
        | _ => .fail)
      | none => .fail
    | none => .fail
  | .nils, .nils => nilA E op t (.kb true) (.kb false)
  | .sl c n _, .nils => if 0 < c then .ite (decide (n = 0)) (nilA E op t .anyb .anyb) (nilA E op t (.kb false) (.kb true)) else .fail
  | .own _, .nils => nilA E op t .anyb .anyb
  | .nilp, .nilp => nilP E op t true
  | .ip _ _, .nilp | .ptr _ _, .nilp | .rp _ _ _ _, .nilp => nilP E op t false
  | _, _ => .fail

def unA (op : UnOp) (x : A) : T A :=
  match op, x with
  | .neg, .int k n => .ret (.int k (k.wrap (0 - n)))
  | .not, .bool b => .ret (.bool (!b))
  | .not, .kb b => .ret (.kb (!b))
  | .not, .anyb => .ret .anyb
  | _, _ => .fail

/-- .. with another one at place i. -/
def setIs (k : IntKind) (i : Nat) (v : Int) : Nat → List Int → List A
  | _, [] => []
  | j, n :: l => .int k (if j = i then v else n) :: setIs k i v (j + 1) l
def loadA (P : Program) (objs : List Ob) (t : TypeId) (a : A) : T A :=
  match isAggT P t, sizeT P t with
  | some ag, some s => match a with
    | .ptr id off => match getO objs id with
      | .box cells => match ag with
        | true => match takeN s (dropN off cells) with | some cs => .ret (.agg cs) | none => .fail
        | false => match dropN off cells with | c :: _ => .ret c | [] => .fail
      | _ => .fail
    | .ip c el => match ag with
      | true => if s ≤ c then .ret (.agg (rangeMap el 0 s)) else .fail
      | false => if 1 ≤ c then .ret (el 0) else .fail
    | .rp id c i off => match getO objs id with
      | .row _ c' n el => if c = c' then .need (decide (i < n)) (match ag with
          | true => if off + s ≤ c then .ret (.agg (rangeMap (el i) off s)) else .fail
          | false => if off + 1 ≤ c then .ret (el i off) else .fail)
        else .fail
      | _ => .fail
    | .ap id i => match getO objs id with
      | .box cells => match ag with
        | true => .fail
        | false => match intsK (kindOf cells) cells with
          | some l => .need (decide (i < l.length)) (.ret (.int (kindOf cells) (l.getD i 0)))
          | none => .fail
      | _ => .fail
    | _ => .fail
  | _, _ => .fail

def fieldA (a : A) (o : Nat) : T A :=
  match a with
  | .ptr id off => .ret (.ptr id (off + o))
  | .ip c el => .ret (.ip (c - o) (fun j => el (o + j)))
  | .rp id c i off => .ret (.rp id c i (off + o))
  | _ => .fail

/-- One of the first N places, by its number. -/
def enumT {α : Type} (i : Int) (k : Nat → T α) : Nat → Nat → T α
  | 0, _ => .fail
  | m + 1, j => .ite (i == (j : Int)) (k j) (enumT i k m (j + 1))

def indexAddrA (P : Program) (objs : List Ob) (t : TypeId) (x i : A) : T A :=
  match i with
  | .int _ n => match P.underlying t with
    | some (.slice e) => match x, sizeT P e with
      | .sl c m el, some s => if c = s ∧ 0 < s then .need (decide (0 ≤ n ∧ n < m)) (.ret (.ip c (el n.toNat))) else .fail
      | .own id, some s => match getO objs id with
        | .row _ c m _ => if c = s then .need (decide (0 ≤ n ∧ n < m)) (.ret (.rp id c n.toNat 0)) else .fail
        | _ => .fail
      | .ov id c lo m, some s => match getO objs id with
        | .row _ _ _ _ => if c = s then .need (decide (0 ≤ n ∧ n < m)) (.ret (.rp id c (lo + n.toNat) 0)) else .fail
        | _ => .fail
      | _, _ => .fail
    | some (.array len e) => match sizeT P e with
      | some s => match Nat.ble 5 len && Nat.beq s 1, x with
        | true, .ptr id 0 => .need (decide (0 ≤ n ∧ n < (len : Int))) (.ret (.ap id n.toNat))
        | _, _ => enumT n (fun j => fieldA x (j * s)) len 0
      | none => .fail
    | _ => .fail
  | _ => .fail

def partA (ag : Bool) (s : Nat) (cs : List A) (o : Nat) : T A :=
  match ag with
  | true => match takeN s (dropN o cs) with | some l => .ret (.agg l) | none => .fail
  | false => match dropN o cs with | c :: _ => .ret c | [] => .fail

def indexA (P : Program) (t : TypeId) (x i : A) : T A :=
  match i with
  | .int _ n => match P.underlying t, x with
    | some (.array len e), .agg cs => match sizeT P e, isAggT P e with
      | some s, some ag => enumT n (fun j => partA ag s cs (j * s)) len 0
      | _, _ => .fail
    | some .string, .str s => .need (decide (0 ≤ n ∧ n < s.size)) (.ret (.int .u8 ((s.data.toList.getD n.toNat 0).toNat : Int)))
    | _, _ => .fail
  | _ => .fail

def boundA (x : Option A) (d : Nat) : Option Int :=
  match x with
  | none => some d
  | some (.int _ n) => some n
  | some _ => none

def sliceA (P : Program) (objs : List Ob) (t : TypeId) (x : A) (lo hi : Option A) : T A :=
  match P.underlying t, x with
  | some .string, .str s => match boundA lo 0, boundA hi s.size with
    | some l, some h => .need (decide (0 ≤ l ∧ l ≤ h ∧ h ≤ s.size)) (.ret (.str (s.extract l.toNat h.toNat)))
    | _, _ => .fail
  | some (.slice e), .sl c n el => match sizeT P e, boundA lo 0, boundA hi n with
    | some s, some l, some h => if c = s then .need (decide (0 ≤ l ∧ l ≤ h ∧ h ≤ n)) (.ret (.sl c (h - l).toNat (fun i => el (l.toNat + i)))) else .fail
    | _, _, _ => .fail
  | some (.slice e), .own id => match getO objs id with
    | .row _ c n _ => match sizeT P e, boundA lo 0, boundA hi n with
      | some s, some l, some h => if c = s then .need (decide (0 ≤ l ∧ l ≤ h ∧ h ≤ n)) (.ret (.ov id c l.toNat (h - l).toNat)) else .fail
      | _, _, _ => .fail
    | _ => .fail
  | some (.array m e), .ptr id off => match lo, hi, sizeT P e with
    | none, none, some s => if s = 1 ∧ off = 0 ∧ m ≤ 65536 then .ret (.ov id 1 0 m) else .fail
    | _, _, _ => .fail
  | _, _ => .fail

def lenA (P : Program) (objs : List Ob) (t : TypeId) (x : A) : T A :=
  match P.underlying t, x with
  | some .string, .str s => .ret (.int .i64 s.size)
  | some (.slice _), .sl _ n _ => .ret (.int .i64 n)
  | some (.slice _), .nils => .ret (.int .i64 0)
  | some (.slice _), .own id => match getO objs id with
    | .row _ _ n _ => .ret (.int .i64 n)
    | _ => .fail
  | some (.slice _), .ov _ _ _ n => .ret (.int .i64 n)
  | _, _ => .fail

/-- 's[:0:0]' -/
def slice0A (P : Program) (t : TypeId) (x h m : A) : T A :=
  match P.underlying t, h, m with
  | some (.slice e), .int _ a, .int _ b => match sizeT P e with
    | some _ => if a = 0 ∧ b = 0 then (match x with
      | .nils => .ret .nils
      | _ => .fail) else .fail
    | none => .fail
  | _, _, _ => .fail

def isU8 : A → Bool
  | .int .u8 _ => true
  | _ => false
def u8Of : A → Int
  | .int _ n => n
  | _ => 0
def allN (f : Nat → Bool) : Nat → Bool
  | 0 => true
  | n + 1 => allN f n && f n
/-- The bytes of a slice, as a string. -/
def bytesOf (el : Nat → Nat → A) (n : Nat) : ByteArray := ⟨((List.range n).map fun i => UInt8.ofNat (u8Of (el i 0)).toNat).toArray⟩

def convA (P : Program) (objs : List Ob) (src dst : TypeId) (x : A) : T A :=
  match P.underlying src, P.underlying dst with
  | some (.int _), some (.int k) => match x with
    | .int _ n => .ret (.int k (k.wrap n))
    | _ => .fail
  | some .string, some .string => match x with
    | .str s => .ret (.str s)
    | _ => .fail
  | some (.slice e), some .string => match P.underlying e with
    | some (.int .u8) => match x with
      | .nils => .ret (.str .empty)
      | .sl c n el => if c = 1 then .need (allN (fun i => isU8 (el i 0)) n) (.ret (.str (bytesOf el n))) else .fail
      | .own id => match getO objs id with
        | .row _ c n el => if c = 1 then .need (allN (fun i => isU8 (el i 0)) n) (.ret (.str (bytesOf el n))) else .fail
        | _ => .fail
      | _ => .fail
    | _ => .fail
  | _, _ => .fail

def minmaxA (mx : Bool) : List A → T A
  | [.int k a, .int k' b] => if k = k' then .ret (.int k (match mx with | true => (if b > a then b else a) | false => (if b < a then b else a))) else .fail
  | _ => .fail

def T.map {α β : Type} (f : α → β) : T α → T β
  | .ret a => .ret (f a)
  | .ite b t e => .ite b (t.map f) (e.map f)
  | .fail => .fail

def mapEv (ev : Operand → A) : List Operand → List A
  | [] => []
  | x :: l => ev x :: mapEv ev l
def mapEvP (ev : Operand → A) : List (Nat × Operand) → List (Nat × A)
  | [] => []
  | (i, x) :: l => (i, ev x) :: mapEvP ev l
def mapEvO (ev : Operand → A) : Option Operand → Option A
  | none => none
  | some x => some (ev x)

def placesOf (P : Program) : List Field → Option (List (Nat × Nat))
  | [] => some []
  | f :: l => match P.info? f.type, placesOf P l with
    | some i, some m => some ((f.offset, i.size) :: m)
    | _, _ => none
/-- The numbers of a key. -/
def intsOf : List A → Option (List Int)
  | [] => some []
  | .int .i64 n :: l => match intsOf l with | some m => some (n :: m) | none => none
  | _ :: _ => none
def keyA : Bool → A → Option (List Int)
  | false, .int .i64 n => some [n]
  | true, .agg cs => intsOf cs
  | _, _ => none
def eqKs : List Int → List Int → Bool
  | [], [] => true
  | [a], [b] => a == b
  | a :: l, b :: m => a == b && eqKs l m
  | _, _ => false
/-- What a map holds for a key. -/
def lookM (h : List Int → Bool) (v : List Int → A) : List (List Int × Option A) → List Int → Option A
  | [], q => match h q with | true => some (v q) | false => none
  | (k, x) :: u, q => match eqKs q k with | true => x | false => lookM h v u q
def lookQ (h : List Int → Bool) (v : List Int → A) (q : List Int) (k : Option A → T A) : List (List Int × Option A) → T A
  | [] => .ite (h q) (k (some (v q))) (k none)
  | (p, x) :: u => .ite (eqKs q p) (k x) (lookQ h v q k u)
def mkMapA (E : Env) (t : TypeId) (r : Option A) : Option Ob :=
  match E.mps t with
  | some (ag, n) => match r with
    | none => some (.mp t ag n true [] (fun _ => false) (fun _ => .junk))
    | some (.int _ _) => some (.mp t ag n true [] (fun _ => false) (fun _ => .junk))
    | _ => none
  | none => none
def lookupA (E : Env) (objs : List Ob) (t : TypeId) (m key : A) (ok : Bool) : T A :=
  match E.P.underlying t with
  | some (.map _ e) => match E.P.info? e with
    | some i => match i.zero, m with
      | some z, .yld id => match getO objs id with
        | .mp t' ag n cl u h v => match keyA ag key with
          | some q => if t' = t ∧ q.length = n ∧ E.mps t = some (ag, n) then lookQ h v q (fun r => match r with
              | some x => (match ok with | true => .ret (.tup [x, .kb true]) | false => .ret x)
              | none => (match ok with | true => .ret (.tup [ofVal z, .kb false]) | false => .ret (ofVal z))) u else .fail
          | none => .fail
        | _ => .fail
      | _, _ => .fail
    | none => .fail
  | _ => .fail
/-- What an operation yields that leaves memory as it is. -/
def semV (E : Env) (objs : List Ob) (op : Op) (ev : Operand → A) : T A :=
  match op with
  | .move x | .assign x => .ret (ev x)
  | .pick c a b => match ev c with
    | .bool q => .ite q (.ret (ev a)) (.ret (ev b))
    | .kb true => .ret (ev a)
    | .kb false => .ret (ev b)
    | _ => .fail
  | .build t parts => match E.P.underlying t, zeroCells E.P t with
    | some (.struct fs), some z => match placesOf E.P fs.toList with
      | some pl => match fillP (nth pl) z (mapEvP ev parts.toList) with
        | some cs => .ret (.agg cs)
        | none => .fail
      | none => .fail
    | some (.array _ e), some z => match sizeT E.P e with
      | some s => match fillP (fun i => some (i * s, s)) z (mapEvP ev parts.toList) with
        | some cs => .ret (.agg cs)
        | none => .fail
      | none => .fail
    | _, _ => .fail
  | .load t a => loadA E.P objs t (ev a)
  | .binOp op t x y _ => binA E op t (ev x) (ev y)
  | .unOp op _ x => unA op (ev x)
  | .convert s d x => convA E.P objs s d (ev x)
  | .makeFunc (.func f) ⟨[]⟩ caps => .ret (.fn f (mapEv ev caps.toList))
  | .slice t x lo hi none => sliceA E.P objs t (ev x) (mapEvO ev lo) (mapEvO ev hi)
  | .slice t x none (some h) (some m) => slice0A E.P t (ev x) (ev h) (ev m)
  | .fieldAddr s x f => match fieldOff E.P s f with
    | some off => fieldA (ev x) off
    | none => .fail
  | .indexAddr t x i => indexAddrA E.P objs t (ev x) (ev i)
  | .index t x i => indexA E.P t (ev x) (ev i)
  | .extract x i => match ev x with
    | .tup l => match dropN i l with | a :: _ => .ret a | [] => .fail
    | _ => .fail
  | .nilCheck x => match ev x with
    | .ptr id off => .ret (.ptr id off)
    | .ip c el => .ret (.ip c el)
    | .rp id c i off => .ret (.rp id c i off)
    | .fn f l => .ret (.fn f l)
    | _ => .fail
  | .call ⟨.builtin .len, ⟨[x]⟩, ⟨[t]⟩⟩ => lenA E.P objs t (ev x)
  | .call ⟨.builtin .min, args, _⟩ => minmaxA false (mapEv ev args.toList)
  | .call ⟨.builtin .max, args, _⟩ => minmaxA true (mapEv ev args.toList)
  | .lookup t m q ok => lookupA E objs t (ev m) (ev q) ok
  | _ => .fail

def maxRow : Nat := 1099511627776

/-- The bytes of a string, as elements. -/
def strEl (b : ByteArray) : Nat → Nat → A := fun i _ => .int .u8 ((b.data.toList.getD i 0).toNat : Int)
/-- []byte(s) -/
def isS2B (P : Program) : Op → Bool
  | .convert s d _ => match P.underlying s, P.underlying d with
    | some .string, some (.slice e) => (match P.underlying e with | some (.int .u8) => true | _ => false)
    | _, _ => false
  | _ => false
def s2bA (P : Program) (op : Op) (ev : Operand → A) : T Ob :=
  match op with
  | .convert _ d x => match P.underlying d, ev x with
    | some (.slice e), .str b => .need (decide (b.size ≤ maxRow)) (.ret (.row e 1 b.size (strEl b)))
    | _, _ => .fail
  | _ => .fail

/-- An operation that makes an object: what it is. -/
def semO (E : Env) (op : Op) (ev : Operand → A) : T (Bool × Ob) :=
  match op with
  | .box _ x => match cellsOf (ev x) with
    | some cs => .ret (false, .box cs)
    | none => .fail
  | .alloc t => match zeroCells E.P t with
    | some cs => .ret (false, .box cs)
    | none => .fail
  | .buildSlice t 0 parts => match E.P.underlying t, parts.toList with
    | some (.slice e), [] => match sizeT E.P e with
      | some s => .ret (true, .row e s 0 fun _ _ => .junk)
      | none => .fail
    | _, _ => .fail
  | .buildSlice t len parts => match E.P.underlying t with
    | some (.slice e) => match zeroCells E.P e, sizeT E.P e with
      | some z, some s => match fillP (fun i => some (i * s, s)) (repeatL z len) (mapEvP ev parts.toList) with
        | some cs => if allL (closed 5) cs = true ∧ allCell cs = true ∧ z.length = s ∧ 0 < s ∧ len * s ≤ 65536 ∧ 0 < len then .ret (true, .row e s len (fun i j => getA cs (i * s + j))) else .fail
        | none => .fail
      | _, _ => .fail
    | _ => .fail
  | .makeSlice t l c => match E.P.underlying t with
    | some (.slice e) => match E.P.info? e, zeroCells E.P e with
      | some i, some z => match ev l, ev c with
        | .int _ n, .int _ m => if z.length = i.size ∧ 0 < i.size ∧ allL (closed 5) z = true ∧ allCell z = true then litN i.bytes fun by_ => .need (decide (0 ≤ n ∧ n ≤ m ∧ m.toNat * (by_ + 1) ≤ maxRow)) (.ret (true, .row e i.size n.toNat (fun _ j => getA z j))) else .fail
        | _, _ => .fail
      | _, _ => .fail
    | _ => .fail
  | _ => .fail

def mkV (rw : Bool) (d : Nat) : A :=
  match rw with
  | true => .own d
  | false => .ptr d 0

def memD : List Nat → Nat → Bool
  | [], _ => false
  | a :: l, n => bif Nat.beq a n then true else memD l n
/-- A new object; a row that nobody changes is no object. -/
def frzV (fz : List Nat) (B d : Nat) : Bool × Ob → A × Ob
  | (true, .row e c n el) => match memD fz d with
    | true => (.sl c n el, .dead)
    | false => (.own (B + d), .row e c n el)
  | (rw, ob) => (mkV rw (B + d), ob)

def isMake : Op → Bool
  | .box .. => true
  | .alloc .. => true
  | .buildSlice .. => true
  | .makeSlice .. => true
  | _ => false

/-- A call of a Go function: which, with what; whether the arguments hold no object of the frame. -/
def callP (objs : List Ob) (f : A) (args : List A) : Option (FuncId × List A × Bool) :=
  match f with
  | .fn g caps => match mapOpt (expo objs 5) (args ++ caps) with
    | some vals => some (g, vals, allL (closed 5) (args ++ caps))
    | none => none
  | _ => none

/-- A store. -/
def storeA (P : Program) (objs : List Ob) (t : TypeId) (a x : A) : T (Nat × Ob) :=
  match sizeT P t, cellsOf x with
  | some s, some cs => if cs.length = s ∧ 0 < s ∧ allCell cs = true then match a with
      | .ptr id off => match getO objs id with
        | .box cells => match setN cells off cs with
          | some cells' => .ret (id, .box cells')
          | none => .fail
        | _ => .fail
      | .ap id i => match getO objs id with
        | .box cells => match cs, intsK (kindOf cells) cells with
          | [.int k v], some l => if k = kindOf cells then .need (decide (i < l.length)) (.ret (id, .box (setIs k i v 0 l))) else .fail
          | _, _ => .fail
        | _ => .fail
      | .rp id c i off => match getO objs id with
        | .row e c' n el => if c = c' ∧ off + s ≤ c ∧ allL (closed 5) cs = true then
            litN s fun s => .need (decide (i < n)) (.ret (id, .row e c n fun i' j => if i' = i ∧ off ≤ j ∧ j < off + s then getA cs (j - off) else el i' j))
          else .fail
        | _ => .fail
      | _ => .fail
    else .fail
  | _, _ => .fail

/-- clear of a part of a row. -/
def clearA (P : Program) (objs : List Ob) (t : TypeId) (x : A) : T (Nat × Ob) :=
  match P.underlying t with
  | some (.slice e) => match zeroCells P e with
    | some z => match x with
      | .ov id c lo n => match getO objs id with
        | .row e' c' m el => if c = c' ∧ z.length = c ∧ 0 < c ∧ allL (closed 5) z = true ∧ allCell z = true then
            .need (decide (0 < n)) (.ret (id, .row e' c' m fun i j => if lo ≤ i ∧ i < lo + n then getA z j else el i j)) else .fail
        | _ => .fail
      | _ => .fail
    | none => .fail
  | _ => .fail

/-- An array of numbers, into whose beginning elements are copied. -/
def cpI (k : IntKind) (m : Nat) (ey : Nat → Nat → A) : Nat → List Int → List A
  | _, [] => []
  | j, n :: l => .int k (if j < m then u8Of (ey j 0) else n) :: cpI k m ey (j + 1) l
def isK (k : IntKind) : A → Bool
  | .int k' _ => if k' = k then true else false
  | _ => false
/-- copy, into a variable that is an array of numbers. -/
def copyA (P : Program) (objs : List Ob) (t t' : TypeId) (x y : A) : T (Nat × Ob × Nat) :=
  match P.underlying t, P.underlying t', x, y with
  | some (.slice e), some (.slice e'), .ov id c lo n, .sl c' m ey => match getO objs id, sizeT P e, sizeT P e' with
    | .box cells, some s, some s' => match intsK (kindOf cells) cells with
      | some l => if s = 1 ∧ s' = 1 ∧ c = 1 ∧ c' = 1 ∧ lo = 0 ∧ l.length = n then .need (allN (fun i => isK (kindOf cells) (ey i 0)) (min m n)) (.ret (id, .box (cpI (kindOf cells) m ey 0 l), min m n)) else .fail
      | none => .fail
    | _, _, _ => .fail
  | _, _, _, _ => .fail

/-- append: what is appended. -/
def rowOf (objs : List Ob) (s : Nat) : A → Option (Nat × (Nat → Nat → A))
  | .nils => some (0, fun _ _ => .junk)
  | .sl c n el => if c = s then some (n, el) else none
  | .own id => match getO objs id with
    | .row _ c n el => if c = s then some (n, el) else none
    | _ => none
  | .str b => if s = 1 then some (b.size, strEl b) else none
  | _ => none

/-- What is appended has the slice's type, or is a string. -/
def okApp (P : Program) (t t' : TypeId) : A → Bool
  | .str _ => (match P.underlying t' with | some .string => true | _ => false)
  | _ => Nat.beq t t'
/-- append: the object that dies, the new one. -/
def appendA (P : Program) (objs : List Ob) (t t' : TypeId) (x y : A) : T (Option Nat × Ob) :=
  match okApp P t t' y with
  | false => .fail
  | true => match P.underlying t with
  | some (.slice e) => match P.info? e with
    | some i => match rowOf objs i.size y, zeroCells P e with
      | some (m, ey), some z => if z.length = i.size ∧ 0 < i.size then (match x with
        | .nils => litN i.bytes fun by_ => .need (decide (m * (by_ + 1) ≤ maxRow)) (.ret (none, .row e i.size m ey))
        | .own id => match getO objs id with
          | .row e' c n ex => if c = i.size ∧ e' = e then litN i.bytes fun by_ => .need (decide ((n + m) * (by_ + 1) ≤ maxRow)) (.ret (some id, .row e c (n + m) fun q j => if q < n then ex q j else ey (q - n) j)) else .fail
          | _ => .fail
        | _ => .fail) else .fail
      | _, _ => .fail
    | none => .fail
  | _ => .fail

def clO : Option A → Bool
  | none => true
  | some x => closed 5 x
/-- A map changes at a key. -/
def updA (E : Env) (objs : List Ob) (t : TypeId) (m key : A) (x : Option A) : T (Nat × Ob) :=
  match m with
  | .yld id => match getO objs id with
    | .mp t' ag n cl u h v => match keyA ag key with
      | some q => if t' = t ∧ q.length = n ∧ E.mps t = some (ag, n) then .ret (id, .mp t ag n (cl && clO x) ((q, x) :: u) h v) else .fail
      | none => .fail
    | _ => .fail
  | _ => .fail

inductive Ex where
  | normal
  | exit (id : Nat)
  | ret

/-- What one operation comes to. -/
inductive OT where
  | more (kn : List (Nat × Bool)) (st : St)
  | ite (b : Bool) (t e : OT)
  | fail
  | call (kn : List (Nat × Bool)) (st : St) (dst : Option Tmp) (f : A) (args : List A)

def T.go {α : Type} : T α → (α → OT) → OT
  | .ret a, k => k a
  | .ite b t e, k => .ite b (t.go k) (e.go k)
  | .fail, _ => .fail

def forceL : List A → (List A → OT) → OT
  | [], k => k []
  | a :: l, k => forceL l fun l' => (match a with
    | .junk => k (.junk :: l')
    | .opq => k (.opq :: l')
    | .kb true => k (.kb true :: l')
    | .kb false => k (.kb false :: l')
    | .bool b => k (.bool b :: l')
    | .int q n => k (.int q n :: l')
    | .str s => k (.str s :: l')
    | .nils => k (.nils :: l')
    | .sl c n el => k (.sl c n el :: l')
    | .ip c el => k (.ip c el :: l')
    | .own id => k (.own id :: l')
    | .ptr id off => k (.ptr id off :: l')
    | .rp id c i off => k (.rp id c i off :: l')
    | .fn f c => k (.fn f c :: l')
    | .agg c => k (.agg c :: l')
    | .tup c => k (.tup c :: l')
    | .anyb => k (.anyb :: l')
    | .nilp => k (.nilp :: l')
    | .yld i => k (.yld i :: l')
    | .ap i j => k (.ap i j :: l')
    | .ov i c lo n => k (.ov i c lo n :: l'))
def forceA (a : A) (k : A → OT) : OT :=
  match a with
    | .junk => k .junk
    | .opq => k .opq
    | .kb true => k (.kb true)
    | .kb false => k (.kb false)
    | .bool b => k (.bool b)
    | .int q n => k (.int q n)
    | .str s => k (.str s)
    | .nils => k .nils
    | .sl c n el => k (.sl c n el)
    | .ip c el => k (.ip c el)
    | .own id => k (.own id)
    | .ptr id off => (match off with
      | 0 => k (.ptr id 0)
      | m + 1 => k (.ptr id (m + 1)))
    | .rp id c i off => (match off with
      | 0 => k (.rp id c i 0)
      | m + 1 => k (.rp id c i (m + 1)))
    | .fn f c => forceL c fun c => k (.fn f c)
    | .agg c => forceL c fun c => k (.agg c)
    | .tup c => forceL c fun c => k (.tup c)
    | .anyb => k .anyb
    | .nilp => k .nilp
    | .yld i => k (.yld i)
    | .ap i j => k (.ap i j)
    | .ov i c lo n => k (.ov i c lo n)
def forceO (o : Ob) (k : Ob → OT) : OT :=
  match o with
  | .virgin => k .virgin
  | .dead => k .dead
  | .box cs => forceL cs fun cs => k (.box cs)
  | .row e c n el => k (.row e c n el)
  | .lp ts ps a b y p => forceL ts fun ts => k (.lp ts ps a b y p)
  | .mp t ag n true u h v => k (.mp t ag n true u h v)
  | .mp t ag n false u h v => k (.mp t ag n false u h v)
def setXK : List Ob → Nat → Ob → (List Ob → OT) → OT
  | [], 0, v, k => k [v]
  | [], n + 1, v, k => setXK [] n v fun l => k (.virgin :: l)
  | _ :: l, 0, v, k => k (v :: l)
  | a :: l, n + 1, v, k => setXK l n v fun l' => k (a :: l')
def setK {α : Type} : List α → Nat → α → (List α → OT) → OT
  | [], _, _, k => k []
  | _ :: l, 0, v, k => k (v :: l)
  | a :: l, n + 1, v, k => setK l n v fun l' => k (a :: l')
def setA (l : List A) (n : Nat) (v : A) (k : List A → OT) : OT := forceA v fun v => setK l n v k
def setO (l : List Ob) (n : Nat) (v : Ob) (k : List Ob → OT) : OT := forceO v fun v => setXK l n v k

def putK : St → Option Tmp → A → (St → OT) → OT
  | ⟨ts, os⟩, some d, v, k => setA ts d v fun t => k ⟨t, os⟩
  | ⟨ts, os⟩, none, _, k => k ⟨ts, os⟩

/-- The value of the guarding operation. -/
inductive Gd where
  | no
  | known (b : Bool)
  | free (b : Bool) (d : Nat)
  | bad
def guardA (ops : List Oper) (tmps : List A) (j : Nat) : Gd :=
  match (dropN j ops) with
  | o :: _ => match o.dst with
    | some d => match getA tmps d with
      | .kb b => .known b
      | .bool b => .free b d
      | .tup [] => .no
      | _ => .bad
    | none => .bad
  | [] => .bad

/-- What is known of a slot's truth on this way. -/
def lookK : List (Nat × Bool) → Nat → Option Bool
  | [], _ => none
  | (d, v) :: l, n => if n = d then some v else lookK l n
def eraseK : List (Nat × Bool) → Option Nat → List (Nat × Bool)
  | l, none => l
  | [], some _ => []
  | (d, v) :: l, some n => if d = n then eraseK l (some n) else (d, v) :: eraseK l (some n)

def eraseC : List (Nat × Bool) → Option Nat → (List (Nat × Bool) → OT) → OT
  | [], _, k => k []
  | (d, v) :: l, none, k => k ((d, v) :: l)
  | (d, v) :: l, some n, k => if d = n then eraseC l (some n) k else eraseC l (some n) fun l => k ((d, v) :: l)

/-- In a region that draws, the objects that it makes are not to be looked into. -/
def maskO : List Nat → List Ob → List Ob
  | [], l => l
  | d :: F, l => setX (maskO F l) d .dead

/-- The new object at its slot. -/
def makeK (B : Nat) : St → Nat → A → Ob → (St → OT) → OT
  | ⟨ts, os⟩, d, v, ob, k => match getO os (B + d) with
    | .virgin => setO os (B + d) ob fun os => setA ts d v fun t => k ⟨t, os⟩
    | _ => .fail

def callFin (B d : Nat) (cl : Bool) (r : A × Option Ob) : Option (A × Option Ob) :=
  match flat 5 r.1 || cl with
  | true => some (ren 0 (B + d) 6 r.1, r.2)
  | false => none

def endK (kn : List (Nat × Bool)) (dst : Option Tmp) (st : St) : OT := eraseC kn dst fun kn => .more kn st

def tmpsOf : List Operand → List Nat
  | [] => []
  | .tmp t :: l => t :: tmpsOf l
  | _ :: l => tmpsOf l

def memB (B : Nat) : List Nat → Nat → Bool
  | [], _ => false
  | t :: l, s => Nat.beq s (B + t) || memB B l s
/-- The sites of a region, without those whose slots are read. -/
def delF (B : Nat) : List Nat → List Nat → List Nat
  | [], _ => []
  | s :: F, ts => match memB B ts s with
    | true => delF B F ts
    | false => s :: delF B F ts
def foM (B : Nat) (F : List Nat) (o : Oper) : List Nat :=
  match F with
  | [] => []
  | s :: F => delF B (s :: F) (tmpsOf o.op.operands.toList)
def opAt (all : Array Oper) (B : Nat) (F : List Nat) : Nat → List Nat
  | 0 => F
  | j + 1 => match F with
    | [] => []
    | s :: F => match dropN j all.toList with
      | o :: _ => foM B (s :: F) o
      | [] => s :: F

/-- One operation whose guard is met. -/
def execK (E : Env) (B : Nat) (F : List Nat) : St → List (Nat × Bool) → Oper → OT
  | ⟨ts, os⟩, kn, o => match o.op with
  | .store t a x => (storeA E.P os t (evA ts a) (evA ts x)).go fun r => setO os r.1 r.2 fun os => putK ⟨ts, os⟩ o.dst (.tup []) (endK kn o.dst)
  | .call ⟨.builtin .clear, ⟨[x]⟩, ⟨[t]⟩⟩ => (clearA E.P os t (evA ts x)).go fun r => setO os r.1 r.2 fun os => putK ⟨ts, os⟩ o.dst (.tup []) (endK kn o.dst)
  | .call ⟨.builtin .copy, ⟨[x, y]⟩, ⟨[t, t']⟩⟩ => (copyA E.P os t t' (evA ts x) (evA ts y)).go fun r => setO os r.1 r.2.1 fun os => putK ⟨ts, os⟩ o.dst (.int .i64 (r.2.2 : Nat)) (endK kn o.dst)
  | .call ⟨.builtin .append, ⟨[x, y]⟩, ⟨[t, t']⟩⟩ => match o.dst with
    | some d => (appendA E.P os t t' (evA ts x) (evA ts y)).go fun r => match r.1 with
        | none => makeK B ⟨ts, os⟩ d (.own (B + d)) r.2 (endK kn o.dst)
        | some id => setO os id .dead fun os => makeK B ⟨ts, os⟩ d (.own (B + d)) r.2 (endK kn o.dst)
    | none => .fail
  | .call ⟨.builtin .delete, ⟨[m, q]⟩, ⟨[t, _]⟩⟩ => (updA E os t (evA ts m) (evA ts q) none).go fun r => setO os r.1 r.2 fun os => putK ⟨ts, os⟩ o.dst (.tup []) (endK kn o.dst)
  | .makeMap t r => match o.dst with
    | some d => match mkMapA E t (mapEvO (evA ts) r) with
      | some ob => makeK B ⟨ts, os⟩ d (.yld (B + d)) ob (endK kn o.dst)
      | none => .fail
    | none => .fail
  | .mapUpdate t m q x => (updA E os t (evA ts m) (evA ts q) (some (evA ts x))).go fun r => setO os r.1 r.2 fun os => putK ⟨ts, os⟩ o.dst (.tup []) (endK kn o.dst)
  | .insert t m q x => (updA E os t (evA ts m) (evA ts q) (some (evA ts x))).go fun r => setO os r.1 r.2 fun os => putK ⟨ts, os⟩ o.dst (.tup []) (endK kn o.dst)
  | .call ⟨.value f, args, _⟩ => .call kn ⟨ts, os⟩ o.dst (evA ts f) (mapEv (evA ts) args.toList)
  | .pick (.tmp c) a b => match lookK kn c with
    | some true => putK ⟨ts, os⟩ o.dst (evA ts a) (endK kn o.dst)
    | some false => putK ⟨ts, os⟩ o.dst (evA ts b) (endK kn o.dst)
    | none => (semV E (maskO (foM B F o) os) (.pick (.tmp c) a b) (evA ts)).go fun v => putK ⟨ts, os⟩ o.dst v (endK kn o.dst)
  | op => match isMake op with
    | true => match o.dst with
      | some d => (semO E op (evA ts)).go fun r => match frzV E.frz B d r with | (v, ob) => makeK B ⟨ts, os⟩ d v ob (endK kn o.dst)
      | none => .fail
    | false => match isS2B E.P op with
      | true => (match o.dst with
        | some d => (s2bA E.P op (evA ts)).go fun r => match frzV E.frz B d (true, r) with | (v, ob) => makeK B ⟨ts, os⟩ d v ob (endK kn o.dst)
        | none => .fail)
      | false => (semV E (maskO (foM B F o) os) op (evA ts)).go fun v => putK ⟨ts, os⟩ o.dst v (endK kn o.dst)

/-- The operation that makes a slot's value. -/
def opDef : List Oper → Nat → Option Op
  | [], _ => none
  | o :: l, t => match o.dst with
    | some d => (match Nat.beq d t with | true => some o.op | false => opDef l t)
    | none => opDef l t
/-- The variable that an address comes from. -/
def rootT (ops : List Oper) : Nat → Nat → Nat
  | 0, t => t
  | n + 1, t => match opDef ops t with
    | some (.fieldAddr _ (.tmp u) _) => rootT ops n u
    | some (.nilCheck (.tmp u)) => rootT ops n u
    | some (.move (.tmp u)) => rootT ops n u
    | _ => t
def rootA (ops : List Oper) : Operand → Option Nat
  | .tmp t => (match opDef ops (rootT ops 6 t) with | none => some (rootT ops 6 t) | some _ => none)
  | _ => none
/-- An address that comes from an element's. -/
def rootI (ops : List Oper) : Operand → Bool
  | .tmp t => (match opDef ops (rootT ops 6 t) with | some (.indexAddr _ _ _) => true | _ => false)
  | _ => false
/-- A load and a store, through different variables: that of the store. -/
def pairM (ops : List Oper) (o c : Oper) : Option Nat :=
  match o.op, c.op with
  | .load _ a, .store _ b _ => (match rootA ops b with
    | some q => (match rootA ops a with
      | some r => (match Nat.beq r q with | true => none | false => some q)
      | none => (match rootI ops a with | true => some q | false => none))
    | none => none)
  | _, _ => none
/-- What lies there is not what is stored through that variable. -/
def sepB : A → A → Bool
  | .ip _ _, _ => true
  | .ptr i _, .ptr j _ => !Nat.beq i j
  | .ptr _ _, .rp _ _ _ _ => true
  | .rp _ _ _ _, .ptr _ _ => true
  | .ap i _, .ptr j _ => !Nat.beq i j
  | .ap _ _, .rp _ _ _ _ => true
  | _, _ => false
def sameR : A → A → Bool
  | .ptr i _, .ptr j _ => Nat.beq i j
  | .rp i _ _ _, .rp j _ _ _ => Nat.beq i j
  | _, _ => false
def qsOf (ops : List Oper) (o : Oper) : List Oper → List Nat
  | [] => []
  | c :: l => match pairM ops o c with | some q => q :: qsOf ops o l | none => qsOf ops o l
/-- The variables that are looked at besides. -/
def rootsOf (ops : List Oper) (o : Oper) : List Nat :=
  match o.op with
  | .load .. => qsOf ops o ops
  | .store _ b _ => (match rootA ops b with | some q => [q] | none => [])
  | _ => []
def allQ (f : Nat → Bool) : List Nat → Bool
  | [] => true
  | q :: l => f q && allQ f l
def ldM (ops : List Oper) (ts : List A) (o : Oper) (a : Operand) : Bool := allQ (fun q => sepB (evA ts a) (getA ts q)) (qsOf ops o ops)
def stM (ops : List Oper) (ts : List A) (b : Operand) : Bool :=
  match rootA ops b with
  | some q => sameR (evA ts b) (getA ts q)
  | none => true

/-- The variable of the region's own that a store writes. -/
def isAlloc : Op → Bool
  | .alloc _ => true
  | .box _ _ => true
  | _ => false
def freshT : List Oper → Nat → Bool
  | [], _ => false
  | o :: l, t => (match o.dst with | some d => Nat.beq d t && isAlloc o.op | none => false) || freshT l t
def freshSt (ops : List Oper) (o : Oper) : Option Nat :=
  match o.op with
  | .store _ (.tmp t) _ => match freshT ops t with | true => some t | false => none
  | _ => none
def freshOK0 (B : Nat) (F : List Nat) (ops : List Oper) (ts : List A) (o : Oper) : Bool :=
  match F with
  | [] => true
  | _ :: _ => match freshSt ops o with
    | none => true
    | some t => match getA ts t with
      | .ptr id _ => Nat.beq id (B + t)
      | _ => false
def stOK (F : List Nat) (ops : List Oper) (ts : List A) (o : Oper) : Bool :=
  match F with
  | [] => true
  | _ :: _ => match o.op with
    | .store _ b _ => stM ops ts b
    | _ => true
def freshOK (B : Nat) (F : List Nat) (ops : List Oper) (ts : List A) (o : Oper) : Bool := freshOK0 B F ops ts o && stOK F ops ts o
def immA : A → Bool
  | .own _ => false
  | .ov _ _ _ _ => false
  | _ => true
/-- 0: looks at no object and makes none; 1: looks at objects (not at those of the region) or makes one; 2: changes objects. -/
def cls : Op → Nat
  | .store .. => 2
  | .call ⟨.builtin .append, _, _⟩ => 2
  | .call ⟨.builtin .clear, _, _⟩ => 2
  | .call ⟨.builtin .copy, _, _⟩ => 2
  | .call ⟨.builtin .delete, _, _⟩ => 2
  | .makeMap .. | .mapUpdate .. | .insert .. => 2
  | .call _ => 1
  | .lookup .. | .load .. | .indexAddr .. | .box .. | .alloc .. | .buildSlice .. | .makeSlice .. | .convert .. | .slice .. => 1
  | _ => 0

def readsOf (ops : List Oper) (o : Oper) : List Nat :=
  tmpsOf o.op.operands.toList ++ ((match o.guard with
    | some (j, _) => (match dropN j ops with | g :: _ => g.dst.toList | [] => [])
    | none => []) ++ rootsOf ops o)
/-- Something else that changes objects does not read what this yields. -/
def watchS (ops : List Oper) (o : Oper) : Bool :=
  match o.dst with
  | some d => ops.any fun c => cls c.op == 2 && !(readsOf ops c).contains d
  | none => false
/-- Each number once. -/
def ded : List Nat → List Nat → List Nat
  | [], acc => acc
  | x :: l, acc => ded l (if acc.contains x then acc else x :: acc)
def isApp : Op → Bool
  | .call ⟨.builtin .append, _, _⟩ => true
  | _ => false
/-- An address that lies in no row of the call's own. -/
def ldA : A → Bool
  | .ptr _ _ => true
  | .ip _ _ => true
  | _ => false
/-- What some slots are made of. -/
def clos (ops : List Oper) : Nat → List Nat → List Nat
  | 0, ts => ts
  | n + 1, ts => clos ops n (ded (ops.flatMap fun o => match o.dst with | some d => (match ts.contains d with | true => readsOf ops o | false => []) | none => []) ts)
/-- Some append does not use what this yields. -/
def watchL (ops : List Oper) (o : Oper) : Bool :=
  match o.dst with
  | some d => ops.any fun c => isApp c.op && !(clos ops 8 (readsOf ops c)).contains d
  | none => false
/-- A part of a slice that is no row of the call's own; a load that does not look into such rows. -/
def slOK (F : List Nat) (ops : List Oper) (ts : List A) (o : Oper) : Bool :=
  match F with
  | [] => true
  | _ :: _ => match o.op with
    | .slice _ x _ _ _ => (match watchS ops o with
      | true => immA (evA ts x)
      | false => true)
    | .load _ x => (match ldA (evA ts x) with
      | true => true
      | false => !watchL ops o) && ldM ops ts o x
    | _ => true
def execF (E : Env) (B : Nat) (F : List Nat) (ops : List Oper) : St → List (Nat × Bool) → Oper → OT
  | ⟨ts, os⟩, kn, o => match freshOK B F ops ts o with
    | true => (match slOK F ops ts o with
      | true => execK E B F ⟨ts, os⟩ kn o
      | false => .fail)
    | false => .fail

def guardK (b want : Bool) (x y : OT) : OT :=
  match b, want with
  | true, true => x
  | false, false => x
  | _, _ => y

def stepK (E : Env) (B : Nat) (F : List Nat) (ops : List Oper) : St → List (Nat × Bool) → Oper → OT
  | ⟨ts, os⟩, kn, o => match o.guard with
  | none => execF E B F ops ⟨ts, os⟩ kn o
  | some (j, want) => match guardA ops ts j with
    | .free b d => match lookK kn d with
      | some v => guardK v want (execF E B F ops ⟨ts, os⟩ kn o) (putK ⟨ts, os⟩ o.dst (.tup []) (endK kn o.dst))
      | none => .ite b
        (guardK true want (execF E B F ops ⟨ts, os⟩ ((d, true) :: kn) o) (putK ⟨ts, os⟩ o.dst (.tup []) (endK ((d, true) :: kn) o.dst)))
        (guardK false want (execF E B F ops ⟨ts, os⟩ ((d, false) :: kn) o) (putK ⟨ts, os⟩ o.dst (.tup []) (endK ((d, false) :: kn) o.dst)))
    | .known b => guardK b want (execF E B F ops ⟨ts, os⟩ kn o) (putK ⟨ts, os⟩ o.dst (.tup []) (endK kn o.dst))
    | .no => putK ⟨ts, os⟩ o.dst (.tup []) (endK kn o.dst)
    | .bad => .fail

/-- A store into a variable of the region's own, and something that does not look at it. -/
def indepF (ops : List Oper) (a b : Oper) : Bool :=
  match cls a.op, cls b.op with
  | 2, 1 => (match freshSt ops a with | some t => !(readsOf ops b).contains t | none => false)
  | 1, 2 => (match freshSt ops b with | some t => !(readsOf ops a).contains t | none => false)
  | 2, 2 => (match freshSt ops a, freshSt ops b with | some t, some u => t != u | _, _ => false)
  | _, _ => false
def isSlW (ops : List Oper) (o : Oper) : Bool :=
  match o.op with
  | .slice .. => watchS ops o
  | _ => false
def indepS (ops : List Oper) (a b : Oper) : Bool :=
  match cls a.op, cls b.op with
  | 2, 1 => isSlW ops b
  | 1, 2 => isSlW ops a
  | _, _ => false
def isLdW (ops : List Oper) (o : Oper) : Bool :=
  match o.op with
  | .load .. => watchL ops o
  | _ => false
/-- A load that does not look into rows, and an append. -/
def indepL (ops : List Oper) (a b : Oper) : Bool :=
  match cls a.op, cls b.op with
  | 2, 1 => isApp a.op && isLdW ops b
  | 1, 2 => isApp b.op && isLdW ops a
  | _, _ => false
/-- A load and a store through different variables. -/
def indepM (ops : List Oper) (a b : Oper) : Bool :=
  match cls a.op, cls b.op with
  | 2, 1 => b.dst.isSome && (pairM ops b a).isSome && ops.any (fun o => match o.op, a.op with | .store _ x _, .store _ y _ => rootA ops x == rootA ops y | _, _ => false)
  | 1, 2 => a.dst.isSome && (pairM ops a b).isSome && ops.any (fun o => match o.op, b.op with | .store _ x _, .store _ y _ => rootA ops x == rootA ops y | _, _ => false)
  | _, _ => false
def isIdx (o : Oper) : Bool :=
  match o.op with
  | .indexAddr .. => true
  | _ => false
def isSto (o : Oper) : Bool :=
  match o.op with
  | .store .. => true
  | _ => false
/-- An element's address, and a store. -/
def indepN (a b : Oper) : Bool :=
  match cls a.op, cls b.op with
  | 2, 1 => isSto a && isIdx b
  | 1, 2 => isSto b && isIdx a
  | _, _ => false
def indep (ops : List Oper) (a b : Oper) : Bool :=
  (match a.dst with | some d => !(readsOf ops b).contains d && b.dst != some d | none => true) &&
  (match b.dst with | some d => !(readsOf ops a).contains d | none => true) &&
  ((cls a.op + cls b.op ≤ 2 && !(cls a.op == 2 && cls b.op == 2)) && !(cls a.op == 1 && cls b.op == 2) && !(cls a.op == 2 && cls b.op == 1) || (indepF ops a b || (indepS ops a b || (indepL ops a b || (indepM ops a b || indepN a b)))))

/-- The numbers that must come before each operation, by the edges that always bind. -/
def ancs : List Oper → List (List Nat) → List (List Nat)
  | [], acc => acc
  | o :: rest, acc => ancs rest (acc ++ [o.after.toList.flatMap fun e => if Region.binds .any e then e.on :: (acc[e.on]?).getD [] else []])

/-- The same, without repetitions. -/
def ancsD : List Oper → List (List Nat) → List (List Nat)
  | [], acc => acc
  | o :: rest, acc => ancsD rest (acc ++ [ded (o.after.toList.flatMap fun e => if Region.binds .any e then e.on :: (acc[e.on]?).getD [] else []) []])

def chkPairs (ops : List Oper) (an : List (List Nat)) : Bool :=
  (List.range ops.length).all fun j => (List.range j).all fun i => ((an[j]?).getD []).contains i || (match ops[i]?, ops[j]? with | some a, some b => indep ops a b | _, _ => false)

def chkD (ops : Array Oper) : Bool :=
  chkPairs ops.toList (ancsD ops.toList []) &&
  ((List.range ops.size).all fun i => ((ops[i]?).map fun o => o.after.all fun e => e.on < i || !(Region.binds .text e)).getD false) &&
  (Region.linearise .gc ops 0).length == ops.size

/-- From operation k on, each one comes behind all that stand before it. -/
def tailB (ops : Array Oper) (k : Nat) : Bool :=
  match ancsD ops.toList [] with
  | an => (List.range ops.size).all fun j => Nat.blt j k || (List.range j).all fun i => ((an[j]?).getD []).contains i
def seqB (dr : Bool) (ops : Array Oper) (i : Nat) : Bool :=
  match dr with
  | false => true
  | true => tailB ops (i - 1)

def sitesOf (B : Nat) : List Oper → List Nat
  | [] => []
  | o :: l => if cls o.op = 1 then (match o.dst with | some d => (B + d) :: sitesOf B l | none => sitesOf B l) else sitesOf B l


end Go.Sy

namespace Go.Sy
open Go.RowKit

/-- Where an object lies. -/
inductive Loc where
  | virgin
  | dead
  | blk (b : Nat)
  | row (v : Value)
  | loop (b : Nat)
  | map (b : Nat)

/-- The block of a row; one without capacity has none. -/
def rowB : Value → Option Nat
  | .slice (some a) _ (_ + 1) => some a.block
  | _ => none

def Loc.block : Loc → Option Nat
  | .blk b => some b
  | .row v => rowB v
  | .loop b => some b
  | .map b => some b
  | _ => none

/-- A block that holds these cells, of which none is frozen. -/
def cellsAt (w : World) (g : Nat) (cur : Array Value) (e : TypeId) : Prop := ∃ fz, w.heap[g]? = some (.cells cur e fz) ∧ (cur.size ≤ fz.1 ∨ fz.2 = 0)

/-- A row of the call's own: without capacity (nil among these), or a block of its own. -/
def rowR (w : World) (e : TypeId) (c : Nat) (v : Value) (n : Nat) (xs : List Value) : Prop :=
  xs.length = n * c ∧ ((n = 0 ∧ ∃ a, v = .slice a 0 0) ∨
    ∃ g cap cur, v = .slice (some ⟨g, 0, none⟩) n (cap + 1) ∧ cellsAt w g cur e ∧ n ≤ cap + 1 ∧ cap + 1 ≤ maxLen ∧ cur.size = (cap + 1) * c ∧ cur.toList.take (n * c) = xs)

def virg : Nat → Loc := fun _ => .virgin

def Imm (w : World) (O : Nat → Prop) (b : Nat) : Prop := b < w.heap.size ∧ ¬ O b

mutual
def R (w : World) (O : Nat → Prop) : A → (Nat → Loc) → Value → Prop
  | .junk, _, _ => True
  | .opq, _, v => v.oneCell' = true
  | .kb b, _, v => v = .bool b
  | .bool b, _, v => v = .bool b
  | .int k n, _, v => v = .int k n
  | .str s, _, v => v = .string s
  | .nils, _, v => v = .slice none 0 0
  | .sl c n el, _, v => ∃ a cap, v = .slice a n cap ∧ n ≤ cap ∧ cap ≤ maxLen ∧
      (0 < n * c → ∃ ad, a = some ad ∧ Imm w O ad.block ∧ ∀ i, i < n → ∀ j, j < c → ∃ u, w.cell? (ad.add (i * c + j)) = some u ∧ u.oneCell' = true ∧ R w O (el i j) virg u)
  | .ip c el, _, v => ∃ ad, v = .pointer (some ad) ∧ (0 < c → Imm w O ad.block ∧ ∀ j, j < c → ∃ u, w.cell? (ad.add j) = some u ∧ R w O (el j) virg u)
  | .own id, ρ, v => match ρ id with
    | .row v' => v = v' ∧ ∃ a n c, v = .slice a n c
    | .dead => ∃ a n c, v = .slice a n c
    | _ => False
  | .ptr id off, ρ, v => match ρ id with
    | .blk b => v = .pointer (some ⟨b, off, none⟩)
    | .dead => ∃ ad, v = .pointer (some ad)
    | _ => False
  | .rp id c i off, ρ, v => match ρ id with
    | .row v' => ∃ ad n cap, v' = .slice (some ad) n cap ∧ v = .pointer (some (ad.add (i * c + off)))
    | .dead => ∃ ad, v = .pointer (some ad)
    | _ => False
  | .fn f caps, ρ, v => ∃ vs, v = .func (.func f) #[] (List.toArray vs) ∧ RL w O caps ρ vs
  | .agg cs, ρ, v => ∃ vs, v = .agg (List.toArray vs) ∧ RL w O cs ρ vs
  | .tup cs, ρ, v => ∃ vs, v = .tuple (List.toArray vs) ∧ RL w O cs ρ vs
  | .anyb, _, v => ∃ b, v = .bool b
  | .nilp, _, v => v = .pointer none
  | .yld id, ρ, v => match ρ id with
    | .loop b => v = .func (.yield b) #[] #[]
    | .map b => v = .map (some b)
    | .dead => v.oneCell' = true
    | _ => False
  | .ov id c lo n, ρ, v => match ρ id with
    | .row v' => ∃ a N cap a', v' = .slice a N cap ∧ lo + n ≤ N ∧ v = .slice a' n (cap - lo) ∧ (lo = 0 → a' = a) ∧ (0 < n → ∃ ad, a = some ad ∧ a' = some (ad.add (lo * c)))
    | .blk b => ∃ cap, v = .slice (some ⟨b, lo * c, none⟩) n cap ∧ n ≤ cap ∧ cap ≤ maxLen
    | .dead => ∃ a cap, v = .slice a n cap
    | _ => False
  | .ap id off, ρ, v => match ρ id with
    | .blk b => v = .pointer (some ⟨b, off, none⟩)
    | .dead => ∃ ad, v = .pointer (some ad)
    | _ => False
def RL (w : World) (O : Nat → Prop) : List A → (Nat → Loc) → List Value → Prop
  | [], _, vs => vs = []
  | a :: l, ρ, vs => ∃ v vs', vs = v :: vs' ∧ R w O a ρ v ∧ RL w O l ρ vs'
end

/-- Below block B the world is as it was, the streams too; no block has gone; the count of draws has not gone back. -/
structure Bel (B : Nat) (w w' : World) : Prop where
  os : w'.os = w.os
  tape : w'.tape = w.tape
  output : w'.output = w.output
  size : w.heap.size ≤ w'.heap.size
  block : ∀ k, k < B → w'.heap[k]? = w.heap[k]?
  drawn : w.drawn ≤ w'.drawn
/-- A row may have been written or made; nothing else has turned. -/
structure GB (w w' : World) (row : Option Nat) : Prop where
  os : w'.os = w.os
  tape : w'.tape = w.tape
  output : w'.output = w.output
  size : w.heap.size ≤ w'.heap.size
  block : ∀ k, k < w.heap.size → some k ≠ row → w'.heap[k]? = w.heap[k]?
  drawn : w.drawn ≤ w'.drawn
theorem GB.refl (w : World) (row : Option Nat) : GB w w row := ⟨rfl, rfl, rfl, Nat.le_refl _, fun _ _ _ => rfl, Nat.le_refl _⟩
theorem Bel.refl (B : Nat) (w : World) : Bel B w w := ⟨rfl, rfl, rfl, Nat.le_refl _, fun _ _ => rfl, Nat.le_refl _⟩
theorem Bel.trans {B : Nat} {a b c : World} (h : Bel B a b) (k : Bel B b c) : Bel B a c :=
  ⟨k.os.trans h.os, k.tape.trans h.tape, k.output.trans h.output, Nat.le_trans h.size k.size, fun i hi => (k.block i hi).trans (h.block i hi), Nat.le_trans h.drawn k.drawn⟩
theorem Bel.mono {B B' : Nat} {w w' : World} (h : Bel B w w') (hB : B' ≤ B) : Bel B' w w' := ⟨h.os, h.tape, h.output, h.size, fun k hk => h.block k (Nat.lt_of_lt_of_le hk hB), h.drawn⟩
theorem Bel.below {B : Nat} {w w' : World} (h : Bel B w w') : Go.RowKit.Below B w w' := ⟨h.os, h.tape, h.output, h.size, h.block⟩
theorem Bel.alloc {B : Nat} {a w : World} (h : Bel B a w) (hB : B ≤ w.heap.size) (o : Obj) : Bel B a (w.alloc o) :=
  h.trans ⟨rfl, rfl, rfl, by simp, fun k hk => Go.RowKit.Below.heap_alloc _ _ _ (by omega), Nat.le_refl _⟩
theorem Bel.grown {B : Nat} {a w w' : World} {row : Option Nat} (h : Bel B a w) (hg : GB w w' row) (hB : B ≤ w.heap.size) (hr : ∀ k, row = some k → B ≤ k) : Bel B a w' :=
  h.trans ⟨hg.os, hg.tape, hg.output, hg.size, fun k hk => hg.block k (by omega) (fun e => by have := hr k e.symm; omega), hg.drawn⟩

/-- What keeps readings: old blocks that nobody owns are as they were; an object may die, a virgin one may be made. -/
structure Later (w w' : World) (O O' : Nat → Prop) (ρ ρ' : Nat → Loc) : Prop where
  size : w.heap.size ≤ w'.heap.size
  same : ∀ b, b < w.heap.size → ¬ O b → w'.heap[b]? = w.heap[b]?
  own : ∀ b, b < w.heap.size → O' b → O b
  loc : ∀ id, ρ' id = ρ id ∨ ρ id = .virgin ∨ ρ' id = .dead

theorem Later.virg {w w' : World} {O O' : Nat → Prop} {ρ ρ' : Nat → Loc} (h : Later w w' O O' ρ ρ') : Later w w' O O' virg virg :=
  ⟨h.size, h.same, h.own, fun _ => .inl rfl⟩

theorem Later.imm {w w' : World} {O O' : Nat → Prop} {ρ ρ' : Nat → Loc} (h : Later w w' O O' ρ ρ') {b : Nat} (hb : Imm w O b) : Imm w' O' b :=
  ⟨Nat.lt_of_lt_of_le hb.1 h.size, fun ho => hb.2 (h.own b hb.1 ho)⟩

theorem Later.cell {w w' : World} {O O' : Nat → Prop} {ρ ρ' : Nat → Loc} (h : Later w w' O O' ρ ρ') {p : Addr} (hb : Imm w O p.block) : w'.cell? p = w.cell? p :=
  World.cell?_of_block (w := w) (h.same p.block hb.1 hb.2)

theorem add_block (a : Addr) (n : Nat) : (a.add n).block = a.block := by unfold Addr.add; split <;> rfl
theorem add_add (a : Addr) (i j : Nat) : (a.add i).add j = a.add (i + j) := by
  unfold Addr.add
  by_cases hi : i = 0 <;> by_cases hj : j = 0 <;> simp [hi, hj, Nat.add_assoc]

theorem R.own_shape {w : World} {O : Nat → Prop} {id : Nat} {ρ : Nat → Loc} {v : Value} (h : R w O (.own id) ρ v) : ∃ a n c, v = .slice a n c := by
  simp only [R] at h
  split at h
  · exact h.2
  · exact h
  · exact h.elim
theorem R.ptr_shape {w : World} {O : Nat → Prop} {id off : Nat} {ρ : Nat → Loc} {v : Value} (h : R w O (.ptr id off) ρ v) : ∃ ad, v = .pointer (some ad) := by
  simp only [R] at h
  split at h
  · exact ⟨_, h⟩
  · exact h
  · exact h.elim
theorem R.ap_shape {w : World} {O : Nat → Prop} {id off : Nat} {ρ : Nat → Loc} {v : Value} (h : R w O (.ap id off) ρ v) : ∃ ad, v = .pointer (some ad) := by
  simp only [R] at h
  split at h
  · exact ⟨_, h⟩
  · exact h
  · exact h.elim
theorem R.rp_shape {w : World} {O : Nat → Prop} {id c i off : Nat} {ρ : Nat → Loc} {v : Value} (h : R w O (.rp id c i off) ρ v) : ∃ ad, v = .pointer (some ad) := by
  simp only [R] at h
  split at h
  · obtain ⟨_, _, _, _, rfl⟩ := h; exact ⟨_, rfl⟩
  · exact h
  · exact h.elim

theorem R.yld_shape {w : World} {O : Nat → Prop} {id : Nat} {ρ : Nat → Loc} {v : Value} (h : R w O (.yld id) ρ v) : v.oneCell' = true := by
  simp only [R] at h
  split at h
  · subst h; rfl
  · subst h; rfl
  · exact h
  · exact h.elim
theorem R.ov_shape {w : World} {O : Nat → Prop} {id c lo n : Nat} {ρ : Nat → Loc} {v : Value} (h : R w O (.ov id c lo n) ρ v) : ∃ a cap, v = .slice a n cap := by
  simp only [R] at h
  split at h
  · obtain ⟨_, _, _, _, _, _, rfl, _⟩ := h; exact ⟨_, _, rfl⟩
  · obtain ⟨_, rfl, _⟩ := h; exact ⟨_, _, rfl⟩
  · exact h
  · exact h.elim

theorem R.cell_of {w : World} {O : Nat → Prop} {a : A} {ρ : Nat → Loc} {v : Value} (h : R w O a ρ v) (hc : isCell a = true) : v.oneCell' = true := by
  cases a with
  | junk => cases hc
  | agg _ => cases hc
  | tup _ => cases hc
  | own id => obtain ⟨_, _, _, rfl⟩ := h.own_shape; rfl
  | ptr id off => obtain ⟨_, rfl⟩ := h.ptr_shape; rfl
  | rp id c i off => obtain ⟨_, rfl⟩ := h.rp_shape; rfl
  | yld id => exact h.yld_shape
  | ov id c lo n => obtain ⟨_, _, rfl⟩ := h.ov_shape; rfl
  | ap id off => obtain ⟨_, rfl⟩ := h.ap_shape; rfl
  | anyb => simp only [R] at h; obtain ⟨_, rfl⟩ := h; rfl
  | nilp => simp only [R] at h; subst h; rfl
  | opq => simpa only [R] using h
  | kb b => simp only [R] at h; subst h; rfl
  | bool b => simp only [R] at h; subst h; rfl
  | int k n => simp only [R] at h; subst h; rfl
  | str s => simp only [R] at h; subst h; rfl
  | nils => simp only [R] at h; subst h; rfl
  | sl c n el => simp only [R] at h; obtain ⟨_, _, rfl, _⟩ := h; rfl
  | ip c el => simp only [R] at h; obtain ⟨_, rfl, _⟩ := h; rfl
  | fn f l => simp only [R] at h; obtain ⟨_, rfl, _⟩ := h; rfl

mutual
theorem R.later {w w' : World} {O O' : Nat → Prop} : ∀ (a : A) (ρ ρ' : Nat → Loc) (v : Value), Later w w' O O' ρ ρ' → R w O a ρ v → R w' O' a ρ' v
  | .junk, _, _, _, _, _ => by simp only [R]
  | .opq, _, _, _, _, h => by simpa only [R] using h
  | .kb _, _, _, _, _, h => by simpa only [R] using h
  | .bool _, _, _, _, _, h => by simpa only [R] using h
  | .int _ _, _, _, _, _, h => by simpa only [R] using h
  | .str _, _, _, _, _, h => by simpa only [R] using h
  | .nils, _, _, _, _, h => by simpa only [R] using h
  | .sl c n el, _, _, _, hl, h => by
    simp only [R] at h ⊢
    obtain ⟨a, cap, rfl, h1, h2, h3⟩ := h
    refine ⟨a, cap, rfl, h1, h2, fun hp => ?_⟩
    obtain ⟨ad, rfl, hi, hc⟩ := h3 hp
    refine ⟨ad, rfl, hl.imm hi, fun i hin j hj => ?_⟩
    obtain ⟨u, hu, h1, hr⟩ := hc i hin j hj
    exact ⟨u, (hl.cell (by rw [add_block]; exact hi)).trans hu, h1, R.later (el i j) virg virg u hl.virg hr⟩
  | .ip c el, _, _, _, hl, h => by
    simp only [R] at h ⊢
    obtain ⟨ad, rfl, h3⟩ := h
    refine ⟨ad, rfl, fun hp => ?_⟩
    obtain ⟨hi, hc⟩ := h3 hp
    refine ⟨hl.imm hi, fun j hj => ?_⟩
    obtain ⟨u, hu, hr⟩ := hc j hj
    exact ⟨u, (hl.cell (by rw [add_block]; exact hi)).trans hu, R.later (el j) virg virg u hl.virg hr⟩
  | .own id, ρ, ρ', v, hl, h => by
    have hc := h.own_shape
    simp only [R] at h ⊢
    rcases hl.loc id with e | e | e
    · rw [e]; exact h
    · rw [e] at h; exact h.elim
    · rw [e]; exact hc
  | .ptr id off, ρ, ρ', v, hl, h => by
    have hc := h.ptr_shape
    simp only [R] at h ⊢
    rcases hl.loc id with e | e | e
    · rw [e]; exact h
    · rw [e] at h; exact h.elim
    · rw [e]; exact hc
  | .rp id c i off, ρ, ρ', v, hl, h => by
    have hc := h.rp_shape
    simp only [R] at h ⊢
    rcases hl.loc id with e | e | e
    · rw [e]; exact h
    · rw [e] at h; exact h.elim
    · rw [e]; exact hc
  | .fn f l, ρ, ρ', v, hl, h => by
    simp only [R] at h ⊢
    obtain ⟨vs, rfl, h⟩ := h
    exact ⟨vs, rfl, RL.later l ρ ρ' vs hl h⟩
  | .agg l, ρ, ρ', v, hl, h => by
    simp only [R] at h ⊢
    obtain ⟨vs, rfl, h⟩ := h
    exact ⟨vs, rfl, RL.later l ρ ρ' vs hl h⟩
  | .tup l, ρ, ρ', v, hl, h => by
    simp only [R] at h ⊢
    obtain ⟨vs, rfl, h⟩ := h
    exact ⟨vs, rfl, RL.later l ρ ρ' vs hl h⟩
  | .anyb, _, _, _, _, h => by simpa only [R] using h
  | .nilp, _, _, _, _, h => by simpa only [R] using h
  | .yld id, ρ, ρ', v, hl, h => by
    have hc := h.yld_shape
    simp only [R] at h ⊢
    rcases hl.loc id with e | e | e
    · rw [e]; exact h
    · rw [e] at h; exact h.elim
    · rw [e]; exact hc
  | .ov id c lo n, ρ, ρ', v, hl, h => by
    have hc := h.ov_shape
    simp only [R] at h ⊢
    rcases hl.loc id with e | e | e
    · rw [e]; exact h
    · rw [e] at h; exact h.elim
    · rw [e]; exact hc
  | .ap id off, ρ, ρ', v, hl, h => by
    have hc := h.ap_shape
    simp only [R] at h ⊢
    rcases hl.loc id with e | e | e
    · rw [e]; exact h
    · rw [e] at h; exact h.elim
    · rw [e]; exact hc
theorem RL.later {w w' : World} {O O' : Nat → Prop} : ∀ (l : List A) (ρ ρ' : Nat → Loc) (vs : List Value), Later w w' O O' ρ ρ' → RL w O l ρ vs → RL w' O' l ρ' vs
  | [], _, _, _, _, h => by simpa only [RL] using h
  | a :: l, ρ, ρ', vs, hl, h => by
    simp only [RL] at h ⊢
    obtain ⟨v, vs', rfl, h1, h2⟩ := h
    exact ⟨v, vs', rfl, R.later a ρ ρ' v hl h1, RL.later l ρ ρ' vs' hl h2⟩
end

section lists
variable {w : World} {O : Nat → Prop} {ρ : Nat → Loc}
theorem RL.len : ∀ {l : List A} {vs : List Value}, RL w O l ρ vs → vs.length = l.length
  | [], vs, h => by simp only [RL] at h; subst h; rfl
  | a :: l, vs, h => by simp only [RL] at h; obtain ⟨v, vs', rfl, _, h2⟩ := h; simp [RL.len h2]
theorem RL.get : ∀ {l : List A} {vs : List Value} (i : Nat) (v : Value), RL w O l ρ vs → vs[i]? = some v → R w O (getA l i) ρ v
  | [], vs, i, v, h, hv => by simp only [RL] at h; subst h; simp at hv
  | a :: l, vs, i, v, h, hv => by
    simp only [RL] at h; obtain ⟨v', vs', rfl, h1, h2⟩ := h
    cases i with
    | zero => simp at hv; subst hv; exact h1
    | succ i => simp at hv; exact RL.get i v h2 hv
theorem RL.append : ∀ {l m : List A} {vs us : List Value}, RL w O l ρ vs → RL w O m ρ us → RL w O (l ++ m) ρ (vs ++ us)
  | [], m, vs, us, h, h' => by simp only [RL] at h; subst h; simpa using h'
  | a :: l, m, vs, us, h, h' => by
    simp only [RL] at h; obtain ⟨v, vs', rfl, h1, h2⟩ := h
    simp only [List.cons_append, RL]
    exact ⟨v, vs' ++ us, rfl, h1, RL.append h2 h'⟩
theorem RL.drop : ∀ (n : Nat) {l : List A} {vs : List Value}, RL w O l ρ vs → RL w O (dropN n l) ρ (vs.drop n)
  | 0, l, vs, h => by simpa [dropN] using h
  | n + 1, [], vs, h => by simp only [RL] at h; subst h; simp [dropN, RL]
  | n + 1, a :: l, vs, h => by
    simp only [RL] at h; obtain ⟨v, vs', rfl, h1, h2⟩ := h
    simpa [dropN] using RL.drop n h2
theorem RL.take : ∀ (n : Nat) {l m : List A} {vs : List Value}, RL w O l ρ vs → takeN n l = some m → RL w O m ρ (vs.take n) ∧ (vs.take n).length = n
  | 0, l, m, vs, h, hm => by simp [takeN] at hm; subst hm; simp [RL]
  | n + 1, [], m, vs, h, hm => by simp [takeN] at hm
  | n + 1, a :: l, m, vs, h, hm => by
    simp only [RL] at h; obtain ⟨v, vs', rfl, h1, h2⟩ := h
    simp only [takeN] at hm
    split at hm
    · rename_i m' hm'
      simp at hm; subst hm
      obtain ⟨h3, h4⟩ := RL.take n h2 hm'
      simp only [List.take_succ_cons, RL]
      exact ⟨⟨v, vs'.take n, rfl, h1, h3⟩, by simp [h4]⟩
    · cases hm
theorem RL.setN : ∀ {l : List A} {o : Nat} {cs m : List A} {vs us : List Value}, RL w O l ρ vs → RL w O cs ρ us → Sy.setN l o cs = some m →
    RL w O m ρ (vs.take o ++ us ++ vs.drop (o + us.length)) ∧ o + us.length ≤ vs.length ∨ (cs = [] ∧ m = l)
  | l, o, [], m, vs, us, h, h', hm => by simp [Sy.setN] at hm; exact .inr ⟨rfl, hm.symm⟩
  | [], o, c :: cs, m, vs, us, h, h', hm => by simp [Sy.setN] at hm
  | a :: l, 0, c :: cs, m, vs, us, h, h', hm => by
    simp only [RL] at h h'
    obtain ⟨v, vs', rfl, h1, h2⟩ := h
    obtain ⟨u, us', rfl, h3, h4⟩ := h'
    simp only [Sy.setN] at hm
    split at hm
    · rename_i m' hm'
      simp at hm; subst hm
      left
      rcases RL.setN h2 h4 hm' with ⟨h5, h6⟩ | ⟨rfl, rfl⟩
      · simp only [RL]
        refine ⟨⟨u, us' ++ vs'.drop us'.length, by simp, h3, by simpa using h5⟩, by simp; omega⟩
      · simp only [RL] at h4
        subst h4
        simp only [RL]
        exact ⟨⟨u, vs', by simp, h3, h2⟩, by simp⟩
    · cases hm
  | a :: l, o + 1, c :: cs, m, vs, us, h, h', hm => by
    simp only [RL] at h
    obtain ⟨v, vs', rfl, h1, h2⟩ := h
    simp only [Sy.setN] at hm
    split at hm
    · rename_i m' hm'
      simp at hm; subst hm
      left
      rcases RL.setN h2 h' hm' with ⟨h5, h6⟩ | ⟨h7, _⟩
      · simp only [RL]
        refine ⟨⟨v, _, rfl, h1, ?_⟩, by simp; omega⟩
        have e : o + 1 + us.length = (o + us.length) + 1 := by omega
        simpa [e] using h5
      · cases h7
    · cases hm
theorem RL.mem_cell : ∀ {l : List A} {vs : List Value}, RL w O l ρ vs → allCell l = true → ∀ v ∈ vs, v.oneCell' = true
  | [], vs, h, _ => by simp only [RL] at h; subst h; simp
  | a :: l, vs, h, hc => by
    simp only [RL] at h; obtain ⟨v, vs', rfl, h1, h2⟩ := h
    simp only [allCell, Bool.and_eq_true] at hc
    intro u hu
    rcases List.mem_cons.1 hu with rfl | hu
    · exact h1.cell_of hc.1
    · exact RL.mem_cell h2 hc.2 u hu
end lists

theorem allL_spec {f : A → Bool} : ∀ {l : List A}, allL f l = true → ∀ i, i < l.length → f (getA l i) = true
  | [], _, i, hi => by simp at hi
  | a :: l, h, i, hi => by
    simp only [allL, Bool.and_eq_true] at h
    cases i with
    | zero => exact h.1
    | succ i => exact allL_spec h.2 i (by simpa using hi)

theorem R.closed {w : World} {O : Nat → Prop} {ρ : Nat → Loc} (ρ' : Nat → Loc) : ∀ (d : Nat),
    (∀ (a : A) (v : Value), Sy.closed d a = true → R w O a ρ v → R w O a ρ' v) ∧ (∀ (l : List A) (vs : List Value), allL (Sy.closed d) l = true → RL w O l ρ vs → RL w O l ρ' vs)
  | 0 => ⟨fun a v h => by simp [Sy.closed] at h, fun l vs h hr => by
      cases l with
      | nil => simpa only [RL] using hr
      | cons a l => simp [allL, Sy.closed] at h⟩
  | d + 1 => by
    obtain ⟨_, ih2⟩ := R.closed ρ' d
    have H : ∀ (a : A) (v : Value), Sy.closed (d + 1) a = true → R w O a ρ v → R w O a ρ' v := by
      intro a v hc hr
      cases a with
      | own id => simp [Sy.closed] at hc
      | ptr id off => simp [Sy.closed] at hc
      | rp id c i off => simp [Sy.closed] at hc
      | yld id => simp [Sy.closed] at hc
      | ov id c lo n => simp [Sy.closed] at hc
      | ap id off => simp [Sy.closed] at hc
      | fn f l =>
        simp only [R] at hr ⊢
        obtain ⟨vs, rfl, h⟩ := hr
        exact ⟨vs, rfl, ih2 l vs hc h⟩
      | agg l =>
        simp only [R] at hr ⊢
        obtain ⟨vs, rfl, h⟩ := hr
        exact ⟨vs, rfl, ih2 l vs hc h⟩
      | tup l =>
        simp only [R] at hr ⊢
        obtain ⟨vs, rfl, h⟩ := hr
        exact ⟨vs, rfl, ih2 l vs hc h⟩
      | junk => simp only [R]
      | _ => simpa only [R] using hr
    refine ⟨H, ?_⟩
    intro l
    induction l with
    | nil => intro vs _ h; simpa only [RL] using h
    | cons a l ih =>
      intro vs hc h
      simp only [allL, Bool.and_eq_true] at hc
      simp only [RL] at h ⊢
      obtain ⟨v, vs', rfl, h1, h2⟩ := h
      exact ⟨v, vs', rfl, H a v hc.1 h1, ih vs' hc.2 h2⟩

/-- A key out of numbers. -/
def kvOf : Bool → List Int → Value
  | true, q => .agg (q.map (Value.int .i64)).toArray
  | false, q => .int .i64 (q.headD 0)
/-- What a map's entries are. -/
def MapR (w : World) (O : Nat → Prop) (ρ : Nat → Loc) (ag : Bool) (n : Nat) (f : List Int → Option A) (es : List MapEntry) : Prop :=
  (∀ e ∈ es, ∃ q, q.length = n ∧ e.key = kvOf ag q) ∧ es.Pairwise (fun a b => a.key ≠ b.key) ∧
  ∀ q, q.length = n → match f q with
    | some a => ∃ e ∈ es, e.key = kvOf ag q ∧ R w O a ρ e.val
    | none => ∀ e ∈ es, e.key ≠ kvOf ag q

/-- What an object of the frame is. -/
def ObR (w : World) (O : Nat → Prop) (ρ : Nat → Loc) (o : Ob) (l : Loc) : Prop :=
  match o with
  | .virgin => l = .virgin
  | .dead => l = .dead
  | .box cells => ∃ b vs t, l = .blk b ∧ w.heap[b]? = some (.cells (List.toArray vs) t (0, 0)) ∧ RL w O cells ρ vs
  | .row e c n el => ∃ v xs, l = .row v ∧ rowR w e c v n xs ∧ (∀ u ∈ xs, u.oneCell' = true) ∧
      ∀ i, i < n → ∀ j, j < c → ∃ u, xs[i * c + j]? = some u ∧ R w O (el i j) virg u
  | .lp ts ps asg bod sta pend => ∃ b r vs, l = .loop b ∧ w.heap[b]? = some (.loop r) ∧ r.tmps = List.toArray vs ∧ RL w O ts ρ vs ∧ r.params.toList = ps ∧ r.assign = asg ∧ r.body = bod ∧ r.state = sta ∧ r.pending = pend
  | .mp _ ag n cl u h v => ∃ b es clock, l = .map b ∧ w.heap[b]? = some (.map es clock) ∧ MapR w O ρ ag n (lookM h v u) es.toList ∧ (cl = true → ∀ q a, q.length = n → lookM h v u q = some a → closed 5 a = true)

def owned (ρ : Nat → Loc) (b : Nat) : Prop := ∃ id, (ρ id).block = some b

def markOf (D : Nat) : Deferred := { target := .collected D, args := #[] }

/-- The frame's state: w0: the world when the call began; X: the blocks that the call's results must not lie in. -/
structure Rel (w0 : World) (X : Nat → Prop) (st : St) (a : Act) (w : World) (ρ : Nat → Loc) : Prop where
  len : a.tmps.size = st.tmps.length
  tmp : ∀ i, R w (fun b => X b ∨ owned ρ b) (getA st.tmps i) ρ (a.tmps.getD i undef)
  obj : ∀ id, ObR w (fun b => X b ∨ owned ρ b) ρ (getO st.objs id) (ρ id)
  dis : ∀ i j b, (ρ i).block = some b → (ρ j).block = some b → i = j
  kept : Bel w0.heap.size w0 w
  new : ∀ b, owned ρ b → w0.heap.size ≤ b ∧ b < w.heap.size
  old : ∀ b, X b → b < w0.heap.size
  dfr : ∃ Ds : List Nat, a.defers = Ds.map markOf ∧ Ds.Nodup ∧ ∀ D ∈ Ds, w.heap[D]? = some (.deferred (some [])) ∧ w0.heap.size ≤ D

end Go.Sy

namespace Go.Sy
open Go.RowKit

theorem ofCell_R (w : World) (O : Nat → Prop) (ρ : Nat → Loc) (v : Value) : R w O (ofCell v) ρ v := by
  unfold ofCell
  split <;> simp [R, RL, Value.oneCell']

theorem ofCells_R (w : World) (O : Nat → Prop) (ρ : Nat → Loc) : ∀ vs : List Value, RL w O (ofCells vs) ρ vs
  | [] => by simp [ofCells, RL]
  | v :: vs => by
    simp only [ofCells, RL]
    refine ⟨v, vs, rfl, ?_, ofCells_R w O ρ vs⟩
    split
    · simp only [R]
    · exact ofCell_R w O ρ _

theorem ofVal_R (w : World) (O : Nat → Prop) (ρ : Nat → Loc) (v : Value) : R w O (ofVal v) ρ v := by
  unfold ofVal
  split
  · rename_i cs
    simp only [R]
    exact ⟨cs.toList, by simp, ofCells_R w O ρ _⟩
  · simp [R, RL]
  · exact ofCell_R w O ρ v

theorem evA_R {w : World} {O : Nat → Prop} {ρ : Nat → Loc} {tmps : List A} {a : Act} (h : ∀ i, R w O (getA tmps i) ρ (a.tmps.getD i undef)) (x : Operand) : R w O (evA tmps x) ρ (a.eval x) := by
  cases x with
  | tmp t => exact h t
  | const v => exact ofVal_R w O ρ v
  | global g => simp [evA, R]
  | func f => simp [evA, R, Act.eval, RL]

section
variable {P : Program} {w : World} {O : Nat → Prop} {ρ : Nat → Loc}

theorem isAggT_run {t : TypeId} {b : Bool} (h : isAggT P t = some b) : (isAgg t).run P w = .ok b w := by
  unfold isAggT at h
  unfold isAgg
  split at h <;> simp at h <;> subst h <;> rename_i hu <;> simp [run_underlying hu]

theorem sizeT_run {t : TypeId} {s : Nat} (h : sizeT P t = some s) : (sizeOf t).run P w = .ok s w := by
  unfold sizeT at h
  simp only [Option.map_eq_some_iff] at h
  obtain ⟨i, hi, rfl⟩ := h
  simp [sizeOf, typeInfo, hi]

theorem run_loadVar_list {t : TypeId} {s : Nat} (h : isAggT P t = some true) (hs : sizeT P t = some s) (ad : Addr) (vs : List Value) (hl : vs.length = s)
    (hc : ∀ j v, vs[j]? = some v → w.cell? (ad.add j) = some v) : (loadVar t ad).run P w = .ok (.agg vs.toArray) w := by
  subst hl
  simp [loadVar, isAggT_run h, sizeT_run hs, run_loadCells_list w ad vs hc]

theorem run_loadVar_cell {t : TypeId} (h : isAggT P t = some false) (ad : Addr) (v : Value) (hc : w.cell? ad = some v) : (loadVar t ad).run P w = .ok v w := by
  simp [loadVar, isAggT_run h, hc]

theorem add_zero (a : Addr) : a.add 0 = a := by simp [Addr.add]

theorem RL_rangeMap {vs : List Value} {el : Nat → A} : ∀ (n i : Nat), vs.length = n → (∀ j v, vs[j]? = some v → R w O (el (i + j)) ρ v) → RL w O (rangeMap el i n) ρ vs := by
  intro n
  induction n generalizing vs with
  | zero => intro i hl _; simp [rangeMap, RL]; exact List.eq_nil_of_length_eq_zero hl
  | succ n ih =>
    intro i hl h
    cases vs with
    | nil => simp at hl
    | cons v vs =>
      simp only [rangeMap, RL]
      refine ⟨v, vs, rfl, by simpa using h 0 v rfl, ih (i + 1) (by simpa using hl) fun j u hu => ?_⟩
      have := h (j + 1) u (by simpa using hu)
      rwa [show i + (j + 1) = i + 1 + j by omega] at this

/-- A list of values out of 'for each j there is one'. -/
theorem exists_list (n : Nat) (p : Nat → Value → Prop) (h : ∀ j, j < n → ∃ u, p j u) : ∃ vs : List Value, vs.length = n ∧ ∀ j v, vs[j]? = some v → p j v := by
  induction n with
  | zero => exact ⟨[], rfl, fun j v h => by simp at h⟩
  | succ n ih =>
    obtain ⟨vs, hl, hv⟩ := ih fun j hj => h j (by omega)
    obtain ⟨u, hu⟩ := h n (by omega)
    refine ⟨vs ++ [u], by simp [hl], fun j v hj => ?_⟩
    rw [List.getElem?_append] at hj
    split at hj
    · exact hv j v hj
    · rename_i hge
      have : j - vs.length = 0 := by
        rcases Nat.eq_zero_or_pos (j - vs.length) with h0 | h0
        · exact h0
        · rw [List.getElem?_eq_none (by simp; omega)] at hj; cases hj
      rw [this] at hj
      simp at hj
      subst hj
      have : j = n := by omega
      subst this
      exact hu

theorem R_virg {a : A} {v : Value} (h : R w O a virg v) : R w O a ρ v := R.later a virg ρ v ⟨Nat.le_refl _, fun _ _ _ => rfl, fun _ _ h => h, fun _ => .inr (.inl rfl)⟩ h
theorem RL_virg {l : List A} {vs : List Value} (h : RL w O l virg vs) : RL w O l ρ vs := RL.later l virg ρ vs ⟨Nat.le_refl _, fun _ _ _ => rfl, fun _ _ h => h, fun _ => .inr (.inl rfl)⟩ h

theorem ownsRow_cell {e c n : Nat} {v : Value} {xs : List Value} (h : rowR w e c v n xs) (hn : 0 < n) :
    ∃ g cap, v = .slice (some ⟨g, 0, none⟩) n (cap + 1) ∧ n ≤ cap + 1 ∧ cap + 1 ≤ maxLen ∧ ∀ j u, xs[j]? = some u → w.cell? ⟨g, j, none⟩ = some u := by
  obtain ⟨hl, h⟩ := h
  rcases h with ⟨rfl, _⟩ | ⟨g, cap, cur, rfl, ⟨fz, hg, _⟩, hnc, hcm, hcs, ht⟩
  · omega
  · refine ⟨g, cap, rfl, hnc, hcm, fun j u hu => ?_⟩
    simp only [World.cell?, hg]
    have hj : j < n * c := by
      rw [← hl]
      rcases Nat.lt_or_ge j xs.length with h | h
      · exact h
      · rw [List.getElem?_eq_none h] at hu; cases hu
    rw [← ht, List.getElem?_take] at hu
    rw [if_pos hj] at hu
    simpa using hu

/-- The objects that may be looked into. -/
def Obs (w : World) (O : Nat → Prop) (ρ : Nat → Loc) (objs : List Ob) : Prop := ∀ id, getO objs id = .dead ∨ ObR w O ρ (getO objs id) (ρ id)

theorem box_cells {cells : List A} {l : Loc} (h : ObR w O ρ (.box cells) l) : ∃ b vs t, l = .blk b ∧ w.heap[b]? = some (.cells (List.toArray vs) t (0, 0)) ∧ RL w O cells ρ vs := h

theorem cell_of_block {b : Nat} {vs : List Value} {t : TypeId} {f : Nat × Nat} (h : w.heap[b]? = some (.cells (List.toArray vs) t f)) (j : Nat) : w.cell? ⟨b, j, none⟩ = vs[j]? := by
  simp [World.cell?, h]

theorem add_at (b off j : Nat) : (⟨b, off, none⟩ : Addr).add j = ⟨b, off + j, none⟩ := by
  unfold Addr.add
  split
  · rename_i h; subst h; rfl
  · rfl

theorem intsK_R {k : IntKind} : ∀ {cells : List A} {l : List Int} {vs : List Value}, RL w O cells ρ vs → intsK k cells = some l → vs = l.map (Value.int k)
  | [], l, vs, h, hl => by simp only [intsK, Option.some.injEq] at hl; subst hl; simp only [RL] at h; subst h; rfl
  | a :: cells, l, vs, h, hl => by
    cases a with
    | int k' n =>
      simp only [intsK] at hl
      split at hl
      · rename_i hk
        subst hk
        split at hl
        · rename_i m hm
          simp only [Option.some.injEq] at hl; subst hl
          simp only [RL] at h
          obtain ⟨v, vs', rfl, h1, h2⟩ := h
          simp only [R] at h1
          subst h1
          rw [intsK_R h2 hm]; rfl
        · cases hl
      · cases hl
    | _ => simp [intsK] at hl
theorem RL_ints {k : IntKind} : ∀ (l : List Int), RL w O (l.map (A.int k)) ρ (l.map (Value.int k))
  | [] => by simp [RL]
  | n :: l => by simp only [List.map_cons, RL]; exact ⟨_, _, rfl, rfl, RL_ints l⟩
theorem setIs_eq (k : IntKind) (i : Nat) (v : Int) : ∀ (j : Nat) (l : List Int), setIs k i v j l = if j ≤ i then (l.set (i - j) v).map (A.int k) else l.map (A.int k)
  | j, [] => by simp [setIs]
  | j, n :: l => by
    rw [setIs, setIs_eq k i v (j + 1) l]
    by_cases h : j = i
    · subst h
      rw [if_pos rfl, if_neg (by omega), if_pos (Nat.le_refl _)]
      simp
    · rw [if_neg h]
      by_cases h2 : j < i
      · rw [if_pos (by omega), if_pos (by omega)]
        obtain ⟨m, hm⟩ : ∃ m, i - j = m + 1 := ⟨i - j - 1, by omega⟩
        rw [hm, show i - (j + 1) = m by omega]
        simp
      · rw [if_neg (by omega), if_neg (by omega)]
        simp
theorem setIs_R (k : IntKind) (i : Nat) (v : Int) (l : List Int) (hi : i < l.length) : (l.map (Value.int k)).take i ++ [Value.int k v] ++ (l.map (Value.int k)).drop (i + [Value.int k v].length) = (l.set i v).map (Value.int k) := by
  rw [← List.map_take, ← List.map_drop, List.set_eq_take_append_cons_drop, if_pos hi]
  simp
theorem loadA_sound {objs : List Ob} {t : TypeId} {a a' : A} {v : Value} (hob : Obs w O ρ objs) (ha : R w O a ρ v) (h : (loadA P objs t a).eval = some a') :
    ∃ v', (Instr.loadAt t v).run P w = .ok v' w ∧ R w O a' ρ v' := by
  unfold loadA at h
  split at h
  · rename_i ag s hag hs
    cases a with
    | ptr id off =>
      simp only at h
      split at h
      · rename_i cells hcells
        rcases hob id with hd | hob'
        · rw [hcells] at hd; cases hd
        · rw [hcells] at hob'
          obtain ⟨b, vs, bt, hρ, hg, hr⟩ := hob'
          simp only [R, hρ] at ha
          subst ha
          simp only [Instr.loadAt, Instr.sureAddr, Sem.run_bind, Sem.run_pure, Result.andThen_ok]
          cases ag with
          | true =>
            simp only at h
            split at h
            · rename_i cs hcs
              simp [T.eval] at h; subst h
              obtain ⟨h1, h2⟩ := RL.take s (RL.drop off hr) hcs
              refine ⟨_, run_loadVar_list hag hs _ _ h2 (fun j v hj => ?_), ?_⟩
              · rw [add_at, cell_of_block hg]
                rw [List.getElem?_take] at hj
                split at hj
                · simpa using hj
                · cases hj
              · simp only [R]; exact ⟨_, rfl, h1⟩
            · simp [T.eval] at h
          | false =>
            simp only at h
            split at h
            · rename_i c rest hd
              simp [T.eval] at h; subst h
              have h1 := RL.drop off hr
              rw [hd] at h1
              simp only [RL] at h1
              obtain ⟨u, us, hu, h2, _⟩ := h1
              refine ⟨u, run_loadVar_cell hag _ _ ?_, h2⟩
              rw [cell_of_block hg]
              have : (vs.drop off)[0]? = some u := by rw [hu]; rfl
              simpa using this
            · simp [T.eval] at h
      · simp [T.eval] at h
    | ip c el =>
      simp only [R] at ha
      obtain ⟨ad, rfl, hc⟩ := ha
      simp only [Instr.loadAt, Instr.sureAddr, Sem.run_bind, Sem.run_pure, Result.andThen_ok]
      cases ag with
      | true =>
        simp only at h
        split at h
        · rename_i hsc
          simp [T.eval] at h; subst h
          obtain ⟨vs, hl, hv⟩ := exists_list s (fun j u => w.cell? (ad.add j) = some u ∧ R w O (el j) virg u) (fun j hj => (hc (by omega)).2 j (by omega))
          refine ⟨_, run_loadVar_list hag hs _ vs hl (fun j v hj => (hv j v hj).1), ?_⟩
          simp only [R]
          exact ⟨vs, rfl, RL_rangeMap s 0 hl fun j v hj => by simpa using R_virg (hv j v hj).2⟩
        · simp [T.eval] at h
      | false =>
        simp only at h
        split at h
        · rename_i hsc
          simp [T.eval] at h; subst h
          obtain ⟨u, hu, hr⟩ := (hc (by omega)).2 0 (by omega)
          rw [add_zero] at hu
          exact ⟨u, run_loadVar_cell hag _ _ hu, R_virg hr⟩
        · simp [T.eval] at h
    | ap id i =>
      simp only at h
      split at h
      · rename_i cells hcells
        cases ag with
        | true => simp [T.eval] at h
        | false =>
          simp only at h
          split at h
          · rename_i l hint
            simp only [T.need, T.eval] at h
            split at h
            · rename_i hin
              simp only [decide_eq_true_eq] at hin
              simp only [Option.some.injEq] at h
              subst h
              rcases hob id with hd | hob'
              · rw [hcells] at hd; cases hd
              · rw [hcells] at hob'
                obtain ⟨b, vs, bt, hρ, hg, hr⟩ := hob'
                simp only [R, hρ] at ha
                subst ha
                simp only [Instr.loadAt, Instr.sureAddr, Sem.run_bind, Sem.run_pure, Result.andThen_ok]
                have hvs := intsK_R hr hint
                refine ⟨_, run_loadVar_cell hag _ (.int (kindOf cells) (l.getD i 0)) ?_, by simp only [R]⟩
                rw [cell_of_block hg, hvs]
                simp [List.getD, hin]
            · cases h
          · simp [T.eval] at h
      · simp [T.eval] at h
    | rp id c i off =>
      simp only at h
      split at h
      · rename_i e c' n el hrow
        rcases hob id with hd | hob'
        · rw [hrow] at hd; cases hd
        · rw [hrow] at hob'
          obtain ⟨rv, xs, hρ, hown, hxs, hel⟩ := hob'
          split at h
          · rename_i hcc
            subst hcc
            simp only [T.need, T.eval] at h
            split at h
            · rename_i hin
              simp only [decide_eq_true_eq] at hin
              obtain ⟨g, cap, rfl, _, _, hcell⟩ := ownsRow_cell hown (by omega)
              simp only [R, hρ] at ha
              obtain ⟨ad, n', cap', hv', rfl⟩ := ha
              simp only [Value.slice.injEq, Option.some.injEq] at hv'
              obtain ⟨rfl, _, _⟩ := hv'
              simp only [Instr.loadAt, Instr.sureAddr, Sem.run_bind, Sem.run_pure, Result.andThen_ok]
              cases ag with
              | true =>
                simp only at h
                split at h
                · rename_i hsc
                  simp [T.eval] at h; subst h
                  obtain ⟨vs, hl, hv⟩ := exists_list s (fun j u => w.cell? ⟨g, i * c + off + j, none⟩ = some u ∧ R w O (el i (off + j)) virg u) (fun j hj => by
                    obtain ⟨u, hu, hr⟩ := hel i hin (off + j) (by omega)
                    exact ⟨u, hcell _ _ (by rw [← hu]; congr 1; omega), hr⟩)
                  refine ⟨_, run_loadVar_list hag hs _ vs hl (fun j v hj => ?_), ?_⟩
                  · rw [add_at, add_at]; have := (hv j v hj).1; rw [show 0 + (i * c + off) + j = i * c + off + j by omega]; exact this
                  · simp only [R]
                    exact ⟨vs, rfl, RL_rangeMap s off hl fun j v hj => R_virg (hv j v hj).2⟩
                · simp [T.eval] at h
              | false =>
                simp only at h
                split at h
                · rename_i hsc
                  simp [T.eval] at h; subst h
                  obtain ⟨u, hu, hr⟩ := hel i hin off (by omega)
                  refine ⟨u, run_loadVar_cell hag _ _ ?_, R_virg hr⟩
                  rw [add_at]
                  have := hcell _ _ hu
                  rwa [show 0 + (i * c + off) = i * c + off by omega]
                · simp [T.eval] at h
            · simp at h
          · simp [T.eval] at h
      · simp [T.eval] at h
    | _ => simp [T.eval] at h
  · simp [T.eval] at h

theorem nth_eq {α : Type} : ∀ (l : List α), nth l = fun i => l[i]?
  | [] => by funext i; simp [nth]
  | a :: l => by funext i; cases i <;> simp [nth, nth_eq l]

theorem fieldA_sound {s : TypeId} {f off : Nat} {a a' : A} {v : Value} (ha : R w O a ρ v) (hf : fieldOff P s f = some off) (h : (fieldA a off).eval = some a') :
    ∃ v', (Instr.fieldAt s v f).run P w = .ok v' w ∧ R w O a' ρ v' := by
  unfold fieldOff at hf
  split at hf
  · rename_i fs hu
    split at hf
    · rename_i fl hfl
      have hfl : fs[f]? = some fl := by rw [nth_eq] at hfl; simpa using hfl
      split at hf
      · rename_i i hi
        split at hf
        · cases hf
        · rename_i hsz
          simp at hf; subst hf
          have key : ∀ ad : Addr, (Instr.fieldAt s (.pointer (some ad)) f).run P w = .ok (.pointer (some (ad.add fl.offset))) w := by
            intro ad
            simp [Instr.fieldAt, run_underlying hu, hfl, Instr.sureAddr, fieldPlace, sizeOf, typeInfo, hi, hsz]
          cases a with
          | ptr id o =>
            simp [fieldA, T.eval] at h; subst h
            simp only [R] at ha ⊢
            split at ha
            · subst ha; exact ⟨_, key _, by simp [add_at]⟩
            · obtain ⟨ad, rfl⟩ := ha; exact ⟨_, key _, _, rfl⟩
            · exact ha.elim
          | ip c el =>
            simp [fieldA, T.eval] at h; subst h
            simp only [R] at ha ⊢
            obtain ⟨ad, rfl, hc⟩ := ha
            refine ⟨_, key _, _, rfl, fun hp => ?_⟩
            obtain ⟨hi, hc⟩ := hc (by omega)
            refine ⟨by rw [add_block]; exact hi, fun j hj => ?_⟩
            rw [add_add]
            exact hc _ (by omega)
          | rp id c i o =>
            simp [fieldA, T.eval] at h; subst h
            simp only [R] at ha ⊢
            split at ha
            · obtain ⟨ad, n, cap, rfl, rfl⟩ := ha
              exact ⟨_, key _, ad, n, cap, rfl, by rw [add_add, Nat.add_assoc]⟩
            · obtain ⟨ad, rfl⟩ := ha; exact ⟨_, key _, _, rfl⟩
            · exact ha.elim
          | _ => simp [fieldA, T.eval] at h
      · cases hf
    · cases hf
  · cases hf

theorem enumT_spec {α : Type} {i : Int} {k : Nat → T α} {x : α} : ∀ (m j : Nat), (enumT i k m j).eval = some x → ∃ q : Nat, j ≤ q ∧ q < j + m ∧ i = (q : Int) ∧ (k q).eval = some x
  | 0, j, h => by simp [enumT, T.eval] at h
  | m + 1, j, h => by
    simp only [enumT, T.eval] at h
    split at h
    · rename_i hb
      exact ⟨j, Nat.le_refl _, by omega, by simpa using hb, h⟩
    · obtain ⟨q, h1, h2, h3, h4⟩ := enumT_spec m (j + 1) h
      exact ⟨q, by omega, by omega, h3, h4⟩

theorem fieldA_addr {a a' : A} {v : Value} {o : Nat} (ha : R w O a ρ v) (h : (fieldA a o).eval = some a') :
    ∃ ad, v = .pointer (some ad) ∧ R w O a' ρ (.pointer (some (ad.add o))) := by
  cases a with
  | ptr id off =>
    simp [fieldA, T.eval] at h; subst h
    simp only [R] at ha ⊢
    split at ha
    · subst ha; exact ⟨_, rfl, by simp [add_at]⟩
    · obtain ⟨ad, rfl⟩ := ha; exact ⟨_, rfl, _, rfl⟩
    · exact ha.elim
  | ip c el =>
    simp [fieldA, T.eval] at h; subst h
    simp only [R] at ha ⊢
    obtain ⟨ad, rfl, hc⟩ := ha
    refine ⟨_, rfl, _, rfl, fun hp => ?_⟩
    obtain ⟨hi, hc⟩ := hc (by omega)
    refine ⟨by rw [add_block]; exact hi, fun j hj => ?_⟩
    rw [add_add]
    exact hc _ (by omega)
  | rp id c i off =>
    simp [fieldA, T.eval] at h; subst h
    simp only [R] at ha ⊢
    split at ha
    · obtain ⟨ad, n, cap, rfl, rfl⟩ := ha
      exact ⟨_, rfl, ad, n, cap, rfl, by rw [add_add, Nat.add_assoc]⟩
    · obtain ⟨ad, rfl⟩ := ha; exact ⟨_, rfl, _, rfl⟩
    · exact ha.elim
  | _ => simp [fieldA, T.eval] at h

theorem indexAddrA_sound {objs : List Ob} {t : TypeId} {x i a' : A} {vx vi : Value} (hob : Obs w O ρ objs) (hx : R w O x ρ vx) (hi : R w O i ρ vi) (h : (indexAddrA P objs t x i).eval = some a') :
    ∃ v', (Instr.indexAt t vx vi).run P w = .ok v' w ∧ R w O a' ρ v' := by
  unfold indexAddrA at h
  split at h
  · rename_i k n
    simp only [R] at hi
    subst hi
    split at h
    · rename_i e hu
      split at h
      · rename_i c m el s hs
        split at h
        · rename_i hcs
          obtain ⟨rfl, hc0⟩ := hcs
          simp only [T.need, T.eval] at h
          split at h
          · rename_i hb
            simp only [decide_eq_true_eq] at hb
            simp at h; subst h
            simp only [R] at hx ⊢
            obtain ⟨a, cap, rfl, h1, h2, h3⟩ := hx
            have hm : 0 < m := by omega
            cases a with
            | none => obtain ⟨ad, hh, _⟩ := h3 (Nat.mul_pos hm hc0); cases hh
            | some ad =>
              refine ⟨_, by simp [Instr.indexAt, asIntOf, run_underlying hu, sizeT_run hs, hb.1, hb.2]; rfl, _, rfl, fun hc => ?_⟩
              obtain ⟨ad', hh, him, hcell⟩ := h3 (Nat.mul_pos hm hc)
              cases hh
              refine ⟨by rw [add_block]; exact him, fun j hj => ?_⟩
              obtain ⟨u, hu1, _, hu2⟩ := hcell n.toNat (by omega) j hj
              exact ⟨u, by rw [add_add]; exact hu1, hu2⟩
          · cases h
        · simp [T.eval] at h
      · rename_i id s hs
        split at h
        · rename_i e' c m el hrow
          split at h
          · rename_i hcs
            subst hcs
            simp only [T.need, T.eval] at h
            split at h
            · rename_i hb
              simp only [decide_eq_true_eq] at hb
              simp at h; subst h
              rcases hob id with hd | hob'
              · rw [hrow] at hd; cases hd
              · rw [hrow] at hob'
                obtain ⟨rv, xs, hρ, hown, hxs, hel⟩ := hob'
                obtain ⟨g, cap, rfl, _, _, hcell⟩ := ownsRow_cell hown (by omega)
                simp only [R, hρ] at hx ⊢
                obtain ⟨rfl, _⟩ := hx
                refine ⟨_, by simp [Instr.indexAt, asIntOf, run_underlying hu, sizeT_run hs, hb.1, hb.2]; rfl, _, _, _, rfl, by simp⟩
            · cases h
          · simp [T.eval] at h
        · simp [T.eval] at h
      · rename_i id c lo m s hs
        split at h
        · rename_i e' c' m' el hrow
          split at h
          · rename_i hcs
            subst hcs
            simp only [T.need, T.eval] at h
            split at h
            · rename_i hb
              simp only [decide_eq_true_eq] at hb
              simp at h; subst h
              rcases hob id with hd | hob'
              · rw [hrow] at hd; cases hd
              · rw [hrow] at hob'
                obtain ⟨rv, xs, hρ, hown, hxs, hel⟩ := hob'
                simp only [R, hρ] at hx ⊢
                obtain ⟨a, N, cap, a', h1, h2, rfl, h4, h5⟩ := hx
                obtain ⟨ad, rfl, rfl⟩ := h5 (by omega)
                refine ⟨_, by simp [Instr.indexAt, asIntOf, run_underlying hu, sizeT_run hs, hb.1, hb.2]; rfl, ad, N, cap, h1, ?_⟩
                rw [add_add, Nat.add_mul, Nat.add_zero]
            · cases h
          · simp [T.eval] at h
        · simp [T.eval] at h
      · simp [T.eval] at h
    · rename_i len e hu
      split at h
      · rename_i s hs
        split at h
        · rename_i id hw
          simp only [T.need, T.eval] at h
          split at h
          · rename_i hb
            simp only [decide_eq_true_eq] at hb
            simp only [Option.some.injEq] at h
            subst h
            rw [Bool.and_eq_true] at hw
            have hs1 : s = 1 := Nat.eq_of_beq_eq_true hw.2
            subst hs1
            have hq : ¬ (n < 0 ∨ n ≥ (len : Int)) := by omega
            have hn : ((n.toNat : Nat) : Int) = n := Int.toNat_of_nonneg hb.1
            simp only [R] at hx ⊢
            split at hx
            · rename_i b _
              subst hx
              refine ⟨.pointer (some ⟨b, n.toNat, none⟩), ?_, rfl⟩
              have : (Instr.indexAt t (.pointer (some ⟨b, 0, none⟩)) (.int k n)).run P w = .ok (.pointer (some ((⟨b, 0, none⟩ : Addr).add (n.toNat * 1)))) w := by
                simp [Instr.indexAt, asIntOf, run_underlying hu, sizeT_run hs, Instr.sureAddr, hb.1, hb.2]
              rw [this, add_at]; simp
            · obtain ⟨ad, rfl⟩ := hx
              refine ⟨.pointer (some (ad.add (n.toNat * 1))), ?_, _, rfl⟩
              simp [Instr.indexAt, asIntOf, run_underlying hu, sizeT_run hs, Instr.sureAddr, hb.1, hb.2]
            · exact hx.elim
          · cases h
        · obtain ⟨q, h1, h2, rfl, h4⟩ := enumT_spec len 0 h
          obtain ⟨ad, rfl, hr⟩ := fieldA_addr hx h4
          have hq : q < len := by omega
          exact ⟨_, by simp [Instr.indexAt, asIntOf, run_underlying hu, sizeT_run hs, Instr.sureAddr, hq], hr⟩
      · simp [T.eval] at h
    · simp [T.eval] at h
  · simp [T.eval] at h

theorem partA_sound {e : TypeId} {ag : Bool} {s o : Nat} {cs : List A} {vs : List Value} {a' : A} (hag : isAggT P e = some ag) (hs : sizeT P e = some s) (hr : RL w O cs ρ vs)
    (h : (partA ag s cs o).eval = some a') : ∃ v', (part e vs.toArray o).run P w = .ok v' w ∧ R w O a' ρ v' := by
  cases ag with
  | true =>
    simp only [partA] at h
    split at h
    · rename_i l hl
      simp [T.eval] at h; subst h
      obtain ⟨h1, h2⟩ := RL.take s (RL.drop o hr) hl
      refine ⟨.agg (List.toArray ((vs.drop o).take s)), ?_, by simp only [R]; exact ⟨_, rfl, h1⟩⟩
      simp only [part, Sem.run_bind, isAggT_run hag, Result.andThen_ok, sizeT_run hs, if_true, Sem.run_pure, List.extract_toArray, List.extract_eq_take_drop, Nat.add_sub_cancel_left]
    · simp [T.eval] at h
  | false =>
    simp only [partA] at h
    split at h
    · rename_i c rest hd
      simp [T.eval] at h; subst h
      have h1 := RL.drop o hr
      rw [hd] at h1
      simp only [RL] at h1
      obtain ⟨u, us, hu, h2, _⟩ := h1
      have hv : vs[o]? = some u := by
        have : (vs.drop o)[0]? = some u := by rw [hu]; rfl
        simpa using this
      exact ⟨u, by simp [part, isAggT_run hag, hv], h2⟩
    · simp [T.eval] at h

theorem indexA_sound {t : TypeId} {x i a' : A} {vx vi : Value} (hx : R w O x ρ vx) (hi : R w O i ρ vi) (h : (indexA P t x i).eval = some a') :
    ∃ v', (Instr.index t vx vi).run P w = .ok v' w ∧ R w O a' ρ v' := by
  unfold indexA at h
  split at h
  · rename_i k n
    simp only [R] at hi
    subst hi
    split at h
    · rename_i len e cs hu
      simp only [R] at hx
      obtain ⟨vs, rfl, hr⟩ := hx
      split at h
      · rename_i s ag hs hag
        obtain ⟨q, h1, h2, rfl, h4⟩ := enumT_spec len 0 h
        obtain ⟨v', hv, hrv⟩ := partA_sound hag hs hr h4
        refine ⟨v', ?_, hrv⟩
        have hq : q < len := by omega
        simp [Instr.index, asIntOf, run_underlying hu, hq, sizeT_run hs, hv]
      · simp [T.eval] at h
    · rename_i s hu
      simp only [R] at hx
      subst hx
      simp only [T.need, T.eval] at h
      split at h
      · rename_i hb
        simp only [decide_eq_true_eq] at hb
        simp only [Option.some.injEq] at h; subst h
        have hlt : n.toNat < s.size := by omega
        refine ⟨_, ?_, by simp only [R]; rfl⟩
        have hg : s[n.toNat]? = some s[n.toNat] := ByteArray.getElem?_lt' s _ hlt
        have hd : s.data.toList.getD n.toNat 0 = s[n.toNat] := by
          have : n.toNat < s.data.toList.length := by simpa using hlt
          rw [List.getD_eq_getElem?_getD, List.getElem?_eq_getElem this]
          rfl
        simp only [Instr.index, asIntOf, Sem.run_bind, Sem.run_pure, Result.andThen_ok, run_underlying hu, if_pos hb.1, hg, hd]
      · cases h
    · simp [T.eval] at h
  · simp [T.eval] at h

theorem boundA_R {lo : Option A} {vlo : Option Value} {d : Nat} {l : Int} (hlo : match lo, vlo with | none, none => True | some a, some v => R w O a ρ v | _, _ => False) (h : boundA lo d = some l) :
    (vlo = none ∧ l = d) ∨ ∃ k, vlo = some (.int k l) := by
  cases lo with
  | none =>
    cases vlo with
    | none => simp [boundA] at h; exact .inl ⟨rfl, h.symm⟩
    | some v => exact hlo.elim
  | some a =>
    cases vlo with
    | none => exact hlo.elim
    | some v =>
      cases a with
      | int k n =>
        simp [boundA] at h; subst h
        simp only [R] at hlo
        subst hlo
        exact .inr ⟨k, rfl⟩
      | _ => simp [boundA] at h

theorem run_sliceBounds {isS : Bool} {len cap : Nat} {vlo vhi : Option Value} {l h : Int} (hl : (vlo = none ∧ l = ((0 : Nat) : Int)) ∨ ∃ k, vlo = some (.int k l)) (hh : (vhi = none ∧ h = (len : Int)) ∨ ∃ k, vhi = some (.int k h))
    (h0 : 0 ≤ l) (h1 : l ≤ h) (h2 : h ≤ cap) : (Instr.sliceBounds isS len cap vlo vhi none).run P w = .ok (l.toNat, h.toNat, cap) w := by
  have e2 : (h.toNat : Int) = h := by omega
  rcases hl with ⟨rfl, rfl⟩ | ⟨k, rfl⟩ <;> rcases hh with ⟨rfl, rfl⟩ | ⟨k', rfl⟩ <;>
    simp [Instr.sliceBounds, Instr.sliceBound, asIntOf, h0, h2, e2, h1] <;> omega

theorem sliceA_sound {objs : List Ob} {t : TypeId} {x a' : A} {vx : Value} {lo hi : Option A} {vlo vhi : Option Value} (hob : Obs w O ρ objs) (hx : R w O x ρ vx)
    (hlo : match lo, vlo with | none, none => True | some a, some v => R w O a ρ v | _, _ => False) (hhi : match hi, vhi with | none, none => True | some a, some v => R w O a ρ v | _, _ => False)
    (h : (sliceA P objs t x lo hi).eval = some a') : ∃ v', (Instr.sliceAt t vx vlo vhi none).run P w = .ok v' w ∧ R w O a' ρ v' := by
  unfold sliceA at h
  split at h
  · rename_i s hu
    simp only [R] at hx
    subst hx
    split at h
    · rename_i l hh hl' hh'
      simp only [T.need, T.eval] at h
      split at h
      · rename_i hb
        simp only [decide_eq_true_eq] at hb
        simp at h; subst h
        have hbs := run_sliceBounds (P := P) (w := w) (isS := false) (len := s.size) (cap := s.size) (boundA_R hlo hl') (boundA_R hhi hh') hb.1 hb.2.1 hb.2.2
        refine ⟨_, ?_, by simp only [R]; rfl⟩
        simp [Instr.sliceAt, Instr.slice, run_underlying hu, hbs]
      · cases h
    · simp [T.eval] at h
  · rename_i e c n el hu
    simp only [R] at hx
    obtain ⟨a, cap, rfl, h1, h2, h3⟩ := hx
    split at h
    · rename_i s l hh hs hl' hh'
      split at h
      · rename_i hcs
        subst hcs
        simp only [T.need, T.eval] at h
        split at h
        · rename_i hb
          simp only [decide_eq_true_eq] at hb
          simp at h; subst h
          have hbs := run_sliceBounds (P := P) (w := w) (isS := true) (len := n) (cap := cap) (boundA_R hlo hl') (boundA_R hhi hh') hb.1 hb.2.1 (by omega)
          refine ⟨.slice (if cap = l.toNat then a else a.map (·.add (l.toNat * c))) (hh.toNat - l.toNat) (cap - l.toNat), ?_, ?_⟩
          · simp [Instr.sliceAt, Instr.slice, run_underlying hu, hbs, sizeT_run hs]
          · simp only [R]
            refine ⟨_, _, by rw [show hh.toNat - l.toNat = (hh - l).toNat by omega], by omega, by omega, fun hp => ?_⟩
            have hlt : 0 < (hh - l).toNat := Nat.pos_of_mul_pos_right hp
            have hc : 0 < c := Nat.pos_of_mul_pos_left hp
            obtain ⟨ad, rfl, hi, hcell⟩ := h3 (Nat.mul_pos (by omega) hc)
            rw [if_neg (by omega)]
            refine ⟨ad.add (l.toNat * c), rfl, by rw [add_block]; exact hi, fun i hi j hj => ?_⟩
            obtain ⟨u, hu1, hu2, hu3⟩ := hcell (l.toNat + i) (by omega) j hj
            refine ⟨u, ?_, hu2, hu3⟩
            rw [add_add, ← hu1, Nat.add_mul]
            congr 2
            omega
        · cases h
      · simp [T.eval] at h
    · simp [T.eval] at h
  · rename_i e id hu
    split at h
    · rename_i e' c n el hrow
      split at h
      · rename_i s l hh hs hl' hh'
        split at h
        · rename_i hcs
          subst hcs
          simp only [T.need, T.eval] at h
          split at h
          · rename_i hb
            simp only [decide_eq_true_eq] at hb
            simp at h; subst h
            rcases hob id with hd | hob'
            · rw [hrow] at hd; cases hd
            · rw [hrow] at hob'
              obtain ⟨rv, xs, hρ, hown, hxs, hel⟩ := hob'
              simp only [R, hρ] at hx ⊢
              obtain ⟨rfl, _⟩ := hx
              have key : ∃ a cap, vx = .slice a n cap ∧ n ≤ cap ∧ (0 < n → ∃ ad, a = some ad) := by
                rcases hown.2 with ⟨rfl, a, rfl⟩ | ⟨g, cap, cur, rfl, _, hnc, _⟩
                · exact ⟨a, 0, rfl, Nat.le_refl _, fun h => absurd h (Nat.lt_irrefl _)⟩
                · exact ⟨_, _, rfl, hnc, fun _ => ⟨_, rfl⟩⟩
              obtain ⟨a, cap, rfl, hnc, had⟩ := key
              have hbs := run_sliceBounds (P := P) (w := w) (isS := true) (len := n) (cap := cap) (boundA_R hlo hl') (boundA_R hhi hh') hb.1 hb.2.1 (by omega)
              refine ⟨.slice (if cap = l.toNat then a else a.map (·.add (l.toNat * c))) (hh.toNat - l.toNat) (cap - l.toNat), ?_, a, n, cap, _, rfl, by omega, by rw [show hh.toNat - l.toNat = (hh - l).toNat by omega], fun h0 => ?_, fun hp => ?_⟩
              · simp [Instr.sliceAt, Instr.slice, run_underlying hu, hbs, sizeT_run hs]
              · rw [h0]
                split
                · rfl
                · cases a with
                  | none => rfl
                  | some ad => simp [add_zero]
              · obtain ⟨ad, rfl⟩ := had (by omega)
                exact ⟨ad, rfl, by rw [if_neg (by omega)]; rfl⟩
          · cases h
        · simp [T.eval] at h
      · simp [T.eval] at h
    · simp [T.eval] at h
  · rename_i m e id off hu
    split at h
    · rename_i s hs
      split at h
      · rename_i hc
        obtain ⟨rfl, rfl, hm⟩ := hc
        simp only [T.eval, Option.some.injEq] at h
        subst h
        have hxs := hx.ptr_shape
        obtain ⟨ad, rfl⟩ := hxs
        have e1 : vlo = none := by cases vlo with | none => rfl | some v => exact hlo.elim
        have e2 : vhi = none := by cases vhi with | none => rfl | some v => exact hhi.elim
        subst e1 e2
        refine ⟨.slice (some (if m = 0 then ad else ad.add (0 * 1))) (m - 0) (m - 0), ?_, ?_⟩
        · simp [Instr.sliceAt, Instr.sureAddr, Instr.sliceBounds, run_underlying hu, sizeT_run hs]
        · simp only [R] at hx ⊢
          cases hρ : ρ id with
          | blk b =>
            rw [hρ] at hx
            simp only [Value.pointer.injEq, Option.some.injEq] at hx ⊢
            subst hx
            refine ⟨m, ?_, Nat.le_refl _, by unfold maxLen; omega⟩
            simp [add_zero]
          | dead => exact ⟨_, _, rfl⟩
          | _ => rw [hρ] at hx; exact hx.elim
      · simp [T.eval] at h
    · simp [T.eval] at h
  · simp [T.eval] at h

theorem lenA_sound {objs : List Ob} {t ty : TypeId} {x a' : A} {vx : Value} (hob : Obs w O ρ objs) (hx : R w O x ρ vx) (h : (lenA P objs t x).eval = some a') :
    ∃ v', (Builtin.len_ #[t] ty #[vx]).run P w = .ok v' w ∧ R w O a' ρ v' := by
  unfold lenA at h
  split at h
  · rename_i s hu
    simp only [R] at hx; subst hx
    simp [T.eval] at h; subst h
    exact ⟨_, by simp [Builtin.len_, run_underlying hu]; rfl, by simp [R, goInt]⟩
  · rename_i e c n el hu
    simp only [R] at hx
    obtain ⟨a, cap, rfl, _⟩ := hx
    simp [T.eval] at h; subst h
    exact ⟨_, by simp [Builtin.len_, run_underlying hu]; rfl, by simp [R, goInt]⟩
  · rename_i e hu
    simp only [R] at hx; obtain ⟨_, rfl⟩ := hx
    simp [T.eval] at h; subst h
    exact ⟨_, by simp [Builtin.len_, run_underlying hu]; rfl, by simp [R, goInt]⟩
  · rename_i e id hu
    split at h
    · rename_i e' c n el hrow
      simp [T.eval] at h; subst h
      rcases hob id with hd | hob'
      · rw [hrow] at hd; cases hd
      · rw [hrow] at hob'
        obtain ⟨rv, xs, hρ, hown, hxs, hel⟩ := hob'
        simp only [R, hρ] at hx ⊢
        obtain ⟨rfl, _⟩ := hx
        rcases hown.2 with ⟨rfl, _, rfl⟩ | ⟨g, cap, cur, rfl, _⟩
        · exact ⟨_, by simp [Builtin.len_, run_underlying hu]; rfl, by simp [goInt]⟩
        · exact ⟨_, by simp [Builtin.len_, run_underlying hu]; rfl, by simp [goInt]⟩
    · simp [T.eval] at h
  · rename_i e id c lo n hu
    obtain ⟨a, cap, rfl⟩ := hx.ov_shape
    simp [T.eval] at h; subst h
    exact ⟨_, by simp [Builtin.len_, run_underlying hu]; rfl, by simp [R, goInt]⟩
  · simp [T.eval] at h

theorem slice0A_sound {t : TypeId} {x h m a' : A} {vx vh vm : Value} (hx : R w O x ρ vx) (hh : R w O h ρ vh) (hm : R w O m ρ vm) (h : (slice0A P t x h m).eval = some a') :
    ∃ v', (Instr.sliceAt t vx none (some vh) (some vm)).run P w = .ok v' w ∧ R w O a' ρ v' := by
  unfold slice0A at h
  split at h
  · rename_i e k a k' b hu
    simp only [R] at hh hm
    subst hh; subst hm
    split at h
    · rename_i s hs
      split at h
      · rename_i hab
        obtain ⟨rfl, rfl⟩ := hab
        have key : ∀ (s : Option Addr) (len cap : Nat), (Instr.sliceAt t (.slice s len cap) none (some (.int k 0)) (some (.int k' 0))).run P w = .ok (.slice s 0 0) w := by
          intro s len cap
          simp [Instr.sliceAt, Instr.slice, run_underlying hu, Instr.sliceBounds, Instr.sliceBound, asIntOf, sizeT_run hs]
        split at h
        · simp only [T.eval, Option.some.injEq] at h; subst h
          simp only [R] at hx ⊢
          subst hx
          exact ⟨_, key _ _ _, rfl⟩
        · cases h
      · cases h
    · cases h
  · cases h

theorem allN_spec {f : Nat → Bool} : ∀ {n : Nat}, allN f n = true → ∀ i, i < n → f i = true
  | n + 1, h, i, hi => by
    simp only [allN, Bool.and_eq_true] at h
    rcases Nat.lt_or_ge i n with h1 | h1
    · exact allN_spec h.1 i h1
    · have : i = n := by omega
      subst this; exact h.2

theorem push_bytes : ∀ (ns : List Int) (s : ByteArray), ns.foldl (fun r n => r.push (UInt8.ofNat n.toNat)) s = ⟨(s.data.toList ++ ns.map fun n => UInt8.ofNat n.toNat).toArray⟩
  | [], s => by simp
  | n :: ns, s => by
    simp only [List.foldl_cons]
    rw [push_bytes ns]
    simp [ByteArray.push]

theorem bytes_conv {s d e : TypeId} {n cap : Nat} {a : Option Addr} {el : Nat → Nat → A} (hs : P.underlying s = some (.slice e)) (he : P.underlying e = some (.int .u8)) (hd : P.underlying d = some .string)
    (hb : allN (fun i => isU8 (el i 0)) n = true) (hc : 0 < n → ∃ ad, a = some ad ∧ ∀ i, i < n → ∃ u, w.cell? (ad.add i) = some u ∧ R w O (el i 0) virg u) :
    (convert s d (.slice a n cap)).run P w = .ok (.string (bytesOf el n)) w := by
  rw [run_convert_bytes_string w s d e a n cap hs he hd]
  have hu : ∀ i, i < n → ∃ q, el i 0 = .int .u8 q := by
    intro i hi
    have := allN_spec hb i hi
    unfold isU8 at this
    split at this
    · rename_i q hq; exact ⟨q, hq⟩
    · cases this
  rcases Nat.eq_zero_or_pos n with hn | hn
  · subst hn
    cases a with
    | none => simp [Conv.bytesToString, bytesOf]; rfl
    | some ad =>
      have := run_bytesToString (P := P) w ad 0 cap [] (by simp [loadCells, loadCellsFrom])
      rw [this]; rfl
  · obtain ⟨ad, rfl, hcell⟩ := hc hn
    have hl := run_loadCells_list (P := P) w ad (((List.range n).map fun i => u8Of (el i 0)).map (Value.int .u8)) (fun j v hj => by
      simp only [List.getElem?_map, Option.map_eq_some_iff] at hj
      obtain ⟨y, ⟨x, hx, rfl⟩, rfl⟩ := hj
      have hjn : j < n := by
        rcases Nat.lt_or_ge j n with h | h
        · exact h
        · rw [List.getElem?_eq_none (by simpa using h)] at hx; cases hx
      rw [List.getElem?_range hjn] at hx
      cases hx
      obtain ⟨u, hu1, hu2⟩ := hcell j hjn
      obtain ⟨q, hq⟩ := hu j hjn
      rw [hq] at hu2 ⊢
      simp only [R] at hu2
      rw [hu1, hu2]; rfl)
    simp only [List.length_map, List.length_range] at hl
    rw [run_bytesToString (P := P) w ad n cap _ hl, push_bytes]
    have e0 : ByteArray.empty.data.toList = [] := rfl
    rw [e0, List.nil_append, List.map_map]
    rfl

theorem convA_sound {objs : List Ob} {s d : TypeId} {x a' : A} {vx : Value} (hob : Obs w O ρ objs) (hx : R w O x ρ vx) (h : (convA P objs s d x).eval = some a') :
    ∃ v', (convert s d vx).run P w = .ok v' w ∧ R w O a' ρ v' := by
  unfold convA at h
  split at h
  · rename_i k' k hs hd
    split at h
    · simp only [R] at hx; subst hx
      simp [T.eval] at h; subst h
      exact ⟨_, by simp [convert, run_underlying hs, run_underlying hd, Conv.intToInt]; rfl, by simp [R]⟩
    · cases h
  · rename_i hs hd
    split at h
    · simp only [R] at hx; subst hx
      simp [T.eval] at h; subst h
      exact ⟨_, by simp [convert, run_underlying hs, run_underlying hd]; rfl, by simp [R]⟩
    · cases h
  · rename_i e hs hd
    split at h
    · rename_i he
      split at h
      · simp only [R] at hx; subst hx
        simp [T.eval] at h; subst h
        have := bytes_conv (P := P) (w := w) (O := O) (n := 0) (cap := 0) (a := none) (el := fun _ _ => .junk) hs he hd rfl (fun h => by omega)
        exact ⟨_, this, by simp only [R]; rfl⟩
      · rename_i c n el
        split at h
        · rename_i hc
          subst hc
          simp only [T.need, T.eval] at h
          split at h
          · rename_i hb
            simp only [Option.some.injEq] at h; subst h
            simp only [R] at hx
            obtain ⟨a, cap, rfl, h1, h2, h3⟩ := hx
            refine ⟨_, bytes_conv (O := O) hs he hd hb (fun hn => ?_), by simp only [R]⟩
            obtain ⟨ad, rfl, _, hcell⟩ := h3 (by omega)
            refine ⟨ad, rfl, fun i hi => ?_⟩
            obtain ⟨u, hu, _, hr⟩ := hcell i hi 0 (by omega)
            exact ⟨u, by simpa using hu, hr⟩
          · cases h
        · cases h
      · rename_i id
        split at h
        · rename_i e' c n el hrow
          split at h
          · rename_i hc
            subst hc
            simp only [T.need, T.eval] at h
            split at h
            · rename_i hb
              simp only [Option.some.injEq] at h; subst h
              rcases hob id with hd' | hob'
              · rw [hrow] at hd'; cases hd'
              · rw [hrow] at hob'
                obtain ⟨rv, xs, hρ, hown, hxs, hel⟩ := hob'
                simp only [R, hρ] at hx ⊢
                obtain ⟨rfl, _⟩ := hx
                have hsh : ∃ a cap, vx = .slice a n cap := by
                  rcases hown.2 with ⟨rfl, a, rfl⟩ | ⟨g, cap, cur, rfl, _⟩
                  · exact ⟨_, _, rfl⟩
                  · exact ⟨_, _, rfl⟩
                obtain ⟨a, cap, rfl⟩ := hsh
                refine ⟨_, bytes_conv (O := O) hs he hd hb (fun hn => ?_), rfl⟩
                obtain ⟨g, cap', hv, _, _, hcell⟩ := ownsRow_cell hown hn
                simp only [Value.slice.injEq] at hv
                obtain ⟨rfl, _, rfl⟩ := hv
                refine ⟨_, rfl, fun i hi => ?_⟩
                obtain ⟨u, hu, hr⟩ := hel i hi 0 (by omega)
                exact ⟨u, by rw [add_at, Nat.zero_add]; exact hcell _ _ (by simpa using hu), hr⟩
            · cases h
          · cases h
        · cases h
      · cases h
    · cases h
  · cases h

theorem unA_sound {op : UnOp} {x a' : A} {vx : Value} (hx : R w O x ρ vx) (h : (unA op x).eval = some a') :
    ∃ v', (Op.unary op vx).run P w = .ok v' w ∧ R w O a' ρ v' := by
  unfold unA at h
  split at h
  all_goals first
    | (simp [T.eval] at h; done)
    | (simp only [R] at hx; subst hx; simp [T.eval] at h; subst h; exact ⟨_, by simp [Op.unary, Op.intArith]; rfl, by simp [R]⟩)
    | (simp only [R] at hx; obtain ⟨b, rfl⟩ := hx; simp [T.eval] at h; subst h; exact ⟨.bool (!b), by simp [Op.unary], by simp only [R]; exact ⟨_, rfl⟩⟩)

theorem minmaxA_sound {mx : Bool} {l : List A} {vs : List Value} {a' : A} {ts : Array TypeId} {ty : TypeId} (hx : RL w O l ρ vs) (h : (minmaxA mx l).eval = some a') :
    ∃ v', (match mx with | true => Builtin.max_ ts ty vs.toArray | false => Builtin.min_ ts ty vs.toArray).run P w = .ok v' w ∧ R w O a' ρ v' := by
  unfold minmaxA at h
  split at h
  · rename_i k a k' b
    split at h
    · rename_i hk
      subst hk
      simp only [RL, R] at hx
      obtain ⟨v, vs', rfl, rfl, v2, vs2, rfl, rfl, rfl⟩ := hx
      cases mx
      · simp [T.eval] at h; subst h
        exact ⟨_, by simp [Builtin.min_, Builtin.min2]; rfl, by simp [R]⟩
      · simp [T.eval] at h; subst h
        exact ⟨_, by simp [Builtin.max_, Builtin.max2]; rfl, by simp [R]⟩
    · simp [T.eval] at h
  · simp [T.eval] at h

theorem arith_sound {op : BinOp} {t : TypeId} {k : IntKind} {a b : Int} {a' : A} (hsh : isShift op = false) (h : (arith op k a b).eval = some a') :
    ∃ v', (binOp op t (.int k a) (.int k b)).run P w = .ok v' w ∧ R w O a' ρ v' := by
  cases op <;> simp only [arith, isShift, T.need, T.eval] at h hsh <;> first
    | (cases hsh; done)
    | (split at h
       · rename_i hb
         simp only [Option.some.injEq] at h
         subst h
         refine ⟨_, ?_, by simp only [R]; rfl⟩
         simp only [bne_iff_ne, ne_eq] at hb
         simp [binOp, Op.intDiv, hb]
       · cases h)
    | (simp only [Option.some.injEq] at h; subst h; refine ⟨_, ?_, by simp only [R]; rfl⟩; simp [binOp, Op.intArith, Op.intBits, Op.intCmp])
    | (cases h)

theorem shiftA_sound {op : BinOp} {t : TypeId} {k k' : IntKind} {a b : Int} {a' : A} (h : (shiftA op k a b).eval = some a') :
    ∃ v', (binOp op t (.int k a) (.int k' b)).run P w = .ok v' w ∧ R w O a' ρ v' := by
  cases op <;> simp only [shiftA, T.need, T.eval] at h <;> first
    | (split at h
       · rename_i hb
         simp only [Option.some.injEq] at h
         subst h
         refine ⟨_, ?_, by simp only [R]; rfl⟩
         simp only [decide_eq_true_eq] at hb
         have hb' : ¬ b < 0 := by omega
         simp [binOp, Op.shift, hb']
       · cases h)
    | (cases h)

theorem strOp_sound {op : BinOp} {t : TypeId} {a b : ByteArray} {a' : A} (h : (strOp op a b).eval = some a') :
    ∃ v', (binOp op t (.string a) (.string b)).run P w = .ok v' w ∧ R w O a' ρ v' := by
  cases op <;> simp only [strOp, T.need, T.eval] at h <;> first
    | (split at h
       · rename_i hb
         simp only [Option.some.injEq] at h
         subst h
         refine ⟨_, ?_, by simp only [R]; rfl⟩
         simp only [decide_eq_true_eq] at hb
         have hb' : ¬ (((a.size + b.size : Nat) : Int) > IntKind.i64.max) := by
           have : IntKind.i64.max = 9223372036854775807 := by decide
           rw [this]; omega
         simp only [binOp, Op.stringOp, if_neg hb', Sem.run_pure]
       · cases h)
    | (simp only [Option.some.injEq] at h; subst h; refine ⟨_, ?_, by simp only [R]; rfl⟩; simp [binOp, Op.stringOp])
    | (cases h)

theorem boolOp_sound {op : BinOp} {t : TypeId} {a b : Bool} {a' : A} (hu : P.underlying t = some .bool) (h : (boolOp op a b).eval = some a') :
    ∃ v', (binOp op t (.bool a) (.bool b)).run P w = .ok v' w ∧ R w O a' ρ v' := by
  have hq : (Op.equal t (.bool a) (.bool b)).run P w = .ok (a == b) w := run_equalIn_bool w 9999 t a b hu
  have h1 : (binOp .eql t (.bool a) (.bool b)).run P w = .ok (.bool (a == b)) w := by
    show ((Op.equal t (.bool a) (.bool b) >>= fun r => (pure (.bool r) : Sem Value))).run P w = _
    rw [Sem.run_bind, hq]; rfl
  have h2 : (binOp .neq t (.bool a) (.bool b)).run P w = .ok (.bool (!(a == b))) w := by
    show ((Op.equal t (.bool a) (.bool b) >>= fun r => (pure (.bool (!r)) : Sem Value))).run P w = _
    rw [Sem.run_bind, hq]; rfl
  cases op <;> simp only [boolOp, T.eval] at h <;> first
    | (simp only [Option.some.injEq] at h; subst h; exact ⟨_, h1, by simp only [R]⟩)
    | (simp only [Option.some.injEq] at h; subst h; exact ⟨_, h2, by simp only [R]⟩)
    | (cases h)

theorem eqA_V {c : CK} {a b : A} {va vb : Value} {x : Bool} (ha : R w O a ρ va) (hb : R w O b ρ vb) (h : eqA c a b = some x) : eqV c va vb = some x := by
  unfold eqA at h
  split at h <;> first
    | (simp only [R] at ha hb; subst ha; subst hb; simpa [eqV] using h)
    | (cases h)

theorem eqL_Vs : ∀ {cs : List CK} {l m : List A} {vs us : List Value} {x : Bool}, RL w O l ρ vs → RL w O m ρ us → eqL cs l m = some x → eqVs cs vs us = some x
  | [], [], [], vs, us, x, h1, h2, h => by
    simp only [RL] at h1 h2; subst h1; subst h2; simpa [eqL, eqVs] using h
  | c :: cs, a :: l, b :: m, vs, us, x, h1, h2, h => by
    simp only [RL] at h1 h2
    obtain ⟨v, vs', rfl, ha, hl⟩ := h1
    obtain ⟨u, us', rfl, hb, hm⟩ := h2
    simp only [eqL] at h
    split at h
    · rename_i p q hp hq
      simp only [eqVs, eqA_V ha hb hp, eqL_Vs hl hm hq]
      exact h
    · cases h
  | [], [], _ :: _, _, _, _, _, _, h => by simp [eqL] at h
  | [], _ :: _, _, _, _, _, _, _, h => by simp [eqL] at h
  | _ :: _, [], _, _, _, _, _, _, h => by simp [eqL] at h
  | _ :: _, _ :: _, [], _, _, _, _, _, h => by simp [eqL] at h

/-- What is asked of the types of maps. -/
structure MapLaw (P : Program) (k : TypeId) (ag : Bool) (n : Nat) : Prop where
  one : ag = false → n = 1
  check : ∀ (w : World) (em : Bool) (q : List Int), q.length = n → (Instr.checkKey em 10000 k (kvOf ag q)).run P w = .ok () w
  find : ∀ (w : World) (q : List Int) (es : List MapEntry), q.length = n → (∀ e ∈ es, ∃ q', q'.length = n ∧ e.key = kvOf ag q') →
    ((Instr.findKey k (kvOf ag q) es).run P w = .ok none w ∧ ∀ e ∈ es, e.key ≠ kvOf ag q) ∨ ∃ j e, (Instr.findKey k (kvOf ag q) es).run P w = .ok (some (j, e.val)) w ∧ es[j]? = some e ∧ e.key = kvOf ag q

/-- What is asked of the list of types whose '==' goes cell by cell; and of maps. -/
def EqOK (E : Env) : Prop := (∀ t ks, E.eqT t = some ks → E.P.eqGuardType E.P.depth t = false ∧
  ∀ (xs ys : List Value) (b : Bool) (w : World), eqVs ks xs ys = some b → (Op.equalIn 10000 t (.agg xs.toArray) (.agg ys.toArray)).run E.P w = .ok b w) ∧
  ∀ t ag n, E.mps t = some (ag, n) → ∃ k e, E.P.underlying t = some (.map k e) ∧ MapLaw E.P k ag n

theorem run_equal_slice_nil (P : Program) (w : World) (t e : TypeId) (a : Option Addr) (l c : Nat) (h : P.underlying t = some (.slice e)) : (Op.equal t (.slice a l c) (.slice none 0 0)).run P w = .ok a.isNone w := by
  have : ∀ d : Nat, (Op.equalIn (d + 1) t (.slice a l c) (.slice none 0 0)).run P w = .ok a.isNone w := fun d => by cases a <;> simp [Op.equalIn, run_underlying h]
  exact this 9999

def isNilV : Value → Bool
  | .slice none _ _ => true
  | _ => false
theorem nilA_sound {E : Env} {op : BinOp} {t : TypeId} {a' yes no : A} {px py : Operand} {vx vy : Value} (hy : R w O .nils ρ vy) (hs : ∃ a n c, vx = .slice a n c) (hr : ∀ _ : Bool, R w O yes ρ (.bool (isNilV vx)) ∧ R w O no ρ (.bool (!(isNilV vx)))) (h : (nilA E op t yes no).eval = some a') :
    ∃ v', ((do eqGuard op t px py vx vy; binOp op t vx vy : Sem Value)).run E.P w = .ok v' w ∧ R w O a' ρ v' := by
  obtain ⟨a, n, c, rfl⟩ := hs
  simp only [R] at hy
  subst hy
  have hg : eqGuard op t px py (.slice a n c) (.slice none 0 0) = pure () := by cases op <;> rfl
  simp only [hg, Sem.run_bind, Sem.run_pure, Result.andThen_ok]
  have hm : isNilV (.slice a n c) = a.isNone := by cases a <;> rfl
  rw [hm] at hr
  unfold nilA at h
  split at h
  · rename_i e hu
    split at h
    · simp only [T.eval, Option.some.injEq] at h; subst h
      refine ⟨.bool a.isNone, ?_, (hr true).1⟩
      simp only [binOp, Sem.run_bind, run_equal_slice_nil E.P w t e a n c hu, Result.andThen_ok, Sem.run_pure]
    · simp only [T.eval, Option.some.injEq] at h; subst h
      refine ⟨.bool (!a.isNone), ?_, (hr true).2⟩
      simp only [binOp, Sem.run_bind, run_equal_slice_nil E.P w t e a n c hu, Result.andThen_ok, Sem.run_pure]
    · cases h
  · cases h

theorem run_equal_ptr_nil (P : Program) (w : World) (t e : TypeId) (a : Option Addr) (h : P.underlying t = some (.pointer e)) : (Op.equal t (.pointer a) (.pointer none)).run P w = .ok a.isNone w := by
  have : ∀ d : Nat, (Op.equalIn (d + 1) t (.pointer a) (.pointer none)).run P w = .ok a.isNone w := fun d => by cases a <;> simp [Op.equalIn, run_underlying h]
  exact this 9999
theorem nilP_sound {E : Env} {op : BinOp} {t : TypeId} {a' : A} {px py : Operand} {vx vy : Value} {b : Bool} (hy : R w O .nilp ρ vy) (hs : ∃ a : Option Addr, vx = .pointer a ∧ a.isNone = b) (h : (nilP E op t b).eval = some a') :
    ∃ v', ((do eqGuard op t px py vx vy; binOp op t vx vy : Sem Value)).run E.P w = .ok v' w ∧ R w O a' ρ v' := by
  obtain ⟨a, rfl, rfl⟩ := hs
  simp only [R] at hy
  subst hy
  have hg : eqGuard op t px py (.pointer a) (.pointer none) = pure () := by cases op <;> rfl
  simp only [hg, Sem.run_bind, Sem.run_pure, Result.andThen_ok]
  unfold nilP at h
  split at h
  · rename_i e hu
    split at h
    · simp only [T.eval, Option.some.injEq] at h; subst h
      refine ⟨.bool a.isNone, ?_, by simp only [R]⟩
      simp only [binOp, Sem.run_bind, run_equal_ptr_nil E.P w t e a hu, Result.andThen_ok, Sem.run_pure]
    · simp only [T.eval, Option.some.injEq] at h; subst h
      refine ⟨.bool (!a.isNone), ?_, by simp only [R]⟩
      simp only [binOp, Sem.run_bind, run_equal_ptr_nil E.P w t e a hu, Result.andThen_ok, Sem.run_pure]
    · cases h
  · cases h

theorem R_ptr_shape {id off : Nat} {v : Value} (h : R w O (.ptr id off) ρ v) : ∃ a : Option Addr, v = .pointer a ∧ a.isNone = false := by
  simp only [R] at h
  split at h
  · exact ⟨_, h, rfl⟩
  · obtain ⟨ad, h⟩ := h; exact ⟨_, h, rfl⟩
  · exact h.elim
theorem R_rp_shape {id c i off : Nat} {v : Value} (h : R w O (.rp id c i off) ρ v) : ∃ a : Option Addr, v = .pointer a ∧ a.isNone = false := by
  simp only [R] at h
  split at h
  · obtain ⟨ad, n, cap, _, h⟩ := h; exact ⟨_, h, rfl⟩
  · obtain ⟨ad, h⟩ := h; exact ⟨_, h, rfl⟩
  · exact h.elim

theorem binA_sound {E : Env} (hE : EqOK E) {op : BinOp} {t : TypeId} {x y a' : A} {px py : Operand} {vx vy : Value} (hx : R w O x ρ vx) (hy : R w O y ρ vy) (h : (binA E op t x y).eval = some a') :
    ∃ v', ((do eqGuard op t px py vx vy; binOp op t vx vy : Sem Value)).run E.P w = .ok v' w ∧ R w O a' ρ v' := by
  unfold binA at h
  split at h
  · rename_i k a k' b
    simp only [R] at hx hy; subst hx; subst hy
    have hg : eqGuard op t px py (.int k a) (.int k' b) = pure () := by cases op <;> rfl
    simp only [hg, Sem.run_bind, Sem.run_pure, Result.andThen_ok]
    split at h
    · exact shiftA_sound h
    · rename_i hsh
      split at h
      · rename_i hk; subst hk
        exact arith_sound hsh h
      · cases h
  · rename_i a b
    simp only [R] at hx hy; subst hx; subst hy
    have hg : eqGuard op t px py (.string a) (.string b) = pure () := by cases op <;> rfl
    simp only [hg, Sem.run_bind, Sem.run_pure, Result.andThen_ok]
    exact strOp_sound h
  iterate 4
    · rename_i a b
      simp only [R] at hx hy; subst hx; subst hy
      have hg : eqGuard op t px py (.bool a) (.bool b) = pure () := by cases op <;> rfl
      simp only [hg, Sem.run_bind, Sem.run_pure, Result.andThen_ok]
      split at h
      · rename_i hu; exact boolOp_sound hu h
      · cases h
  · rename_i l m
    simp only [R] at hx hy
    obtain ⟨vs, rfl, hl⟩ := hx
    obtain ⟨us, rfl, hm⟩ := hy
    split at h
    · rename_i ks hks
      obtain ⟨hgt, heq⟩ := hE.1 t ks hks
      split at h
      · rename_i b hb
        have hrun := heq vs us b w (eqL_Vs hl hm hb)
        simp only [Sem.run_bind, run_eqGuard_agg w op t px py _ _ hgt, Result.andThen_ok]
        split at h
        · simp only [T.eval, Option.some.injEq] at h; subst h
          exact ⟨_, by rw [run_eql_struct, hrun]; rfl, by simp only [R]⟩
        · simp only [T.eval, Option.some.injEq] at h; subst h
          exact ⟨_, by rw [run_neq_struct, hrun]; rfl, by simp only [R]⟩
        · cases h
      · cases h
    · cases h
  · exact nilA_sound hy (by simp only [R] at hx; exact ⟨_, _, _, hx⟩) (fun hx' => by simp only [R] at hx; rw [hx]; exact ⟨by simp only [R]; rfl, by simp only [R]; rfl⟩) h
  · rename_i c n el
    simp only [R] at hx
    obtain ⟨a, cap, rfl, h1, h2, h3⟩ := hx
    split at h
    · rename_i hc
      simp only [T.eval] at h
      split at h
      · exact nilA_sound hy ⟨_, _, _, rfl⟩ (fun a => ⟨by simp only [R]; exact ⟨_, rfl⟩, by simp only [R]; exact ⟨_, rfl⟩⟩) h
      · rename_i hn
        simp only [decide_eq_false_iff_not] at hn
        obtain ⟨ad, rfl, _⟩ := h3 (Nat.mul_pos (Nat.pos_of_ne_zero hn) hc)
        exact nilA_sound hy ⟨_, _, _, rfl⟩ (fun a => ⟨by simp only [R]; rfl, by simp only [R]; rfl⟩) h
    · cases h
  · exact nilA_sound hy (by obtain ⟨a, n, c, rfl⟩ := hx.own_shape; exact ⟨_, _, _, rfl⟩) (fun a => ⟨by simp only [R]; exact ⟨_, rfl⟩, by simp only [R]; exact ⟨_, rfl⟩⟩) h
  · exact nilP_sound hy (by simp only [R] at hx; exact ⟨_, hx, rfl⟩) h
  · exact nilP_sound hy (by simp only [R] at hx; obtain ⟨ad, h, _⟩ := hx; exact ⟨_, h, rfl⟩) h
  · exact nilP_sound hy (R_ptr_shape hx) h
  · exact nilP_sound hy (R_rp_shape hx) h
  · cases h

theorem mapEv_RL {ev : Operand → A} {va : Operand → Value} (hev : ∀ x, R w O (ev x) ρ (va x)) : ∀ l : List Operand, RL w O (mapEv ev l) ρ (l.map va)
  | [] => by simp [mapEv, RL]
  | x :: l => by simp only [mapEv, RL, List.map_cons]; exact ⟨_, _, rfl, hev x, mapEv_RL hev l⟩

theorem cellsOf_R {a : A} {v : Value} {cs : List A} (h : R w O a ρ v) (hc : cellsOf a = some cs) : RL w O cs ρ v.cells.toList := by
  cases a with
  | agg l =>
    simp [cellsOf] at hc; subst hc
    simp only [R] at h
    obtain ⟨vs, rfl, h⟩ := h
    simpa [Value.cells] using h
  | tup l => simp [cellsOf] at hc
  | junk => simp [cellsOf] at hc
  | _ =>
    have h1 := h.cell_of rfl
    simp only [cellsOf, Option.some.injEq] at hc
    subst hc
    have e : v.cells = #[v] := by cases v <;> simp_all [Value.cells, Value.oneCell']
    rw [e]
    simp only [RL]
    exact ⟨v, [], rfl, h, rfl⟩

theorem fold_set (cells : Array Value) (off : Nat) : ∀ (vs : List Value) (k : Nat), off + k + vs.length ≤ cells.size →
    ((vs.zipIdx k).foldl (fun cs (c, j) => cs.setIfInBounds (off + j) c) cells) = (cells.toList.take (off + k) ++ vs ++ cells.toList.drop (off + k + vs.length)).toArray
  | [], k, h => by simp
  | v :: vs, k, h => by
    simp only [List.zipIdx_cons, List.foldl_cons]
    rw [fold_set (cells.setIfInBounds (off + k) v) off vs (k + 1) (by simp at h ⊢; omega)]
    congr 1
    simp only [Array.toList_setIfInBounds, List.length_cons]
    have h' : off + k + (vs.length + 1) ≤ cells.size := by simpa using h
    have hz : cells.toList.length = cells.size := by simp
    have l1 : (List.take (off + (k + 1)) (cells.toList.set (off + k) v)).length = off + k + 1 := by simp; omega
    have l2 : (List.take (off + k) cells.toList).length = off + k := by simp; omega
    have hd : List.drop (off + (k + 1) + vs.length) (cells.toList.set (off + k) v) = List.drop (off + k + (vs.length + 1)) cells.toList := by
      rw [List.drop_set, if_pos (by omega)]
      congr 1
      omega
    rw [hd]
    apply List.ext_getElem?
    intro i
    rw [List.append_assoc, List.append_assoc]
    rcases Nat.lt_trichotomy i (off + k) with hi | hi | hi
    · rw [List.getElem?_append_left (by omega), List.getElem?_append_left (by omega)]
      rw [List.getElem?_take_of_lt (by omega), List.getElem?_take_of_lt (by omega), List.getElem?_set_ne (by omega)]
    · subst hi
      rw [List.getElem?_append_left (by omega), List.getElem?_take_of_lt (by omega), List.getElem?_set_self (by omega)]
      rw [List.getElem?_append_right (by omega), l2]
      simp
    · rw [List.getElem?_append_right (l₁ := List.take (off + (k + 1)) (cells.toList.set (off + k) v)) (by omega), List.getElem?_append_right (l₁ := List.take (off + k) cells.toList) (by omega), l1, l2]
      rw [List.cons_append, show i - (off + k) = (i - (off + k + 1)) + 1 by omega, List.getElem?_cons_succ]

theorem fill_sound {place : Nat → Option (Nat × Nat)} : ∀ {ps : List (Nat × A)} {vps : List (Nat × Value)} {cells cs : List A} {vs : List Value},
    (ps.map (·.1) = vps.map (·.1) ∧ RL w O (ps.map (·.2)) ρ (vps.map (·.2))) → RL w O cells ρ vs → fillP place cells ps = some cs →
    ∃ us, Instr.fill place (List.toArray vs) vps = some (List.toArray us) ∧ RL w O cs ρ us
  | [], vps, cells, cs, vs, hp, hc, h => by
    simp [fillP] at h; subst h
    have : vps = [] := by have := hp.1; simpa using this.symm
    subst this
    exact ⟨vs, rfl, hc⟩
  | (i, a) :: ps, vps, cells, cs, vs, hp, hc, h => by
    cases vps with
    | nil => simp at hp
    | cons vp vps =>
      obtain ⟨i', v⟩ := vp
      simp only [List.map_cons, List.cons.injEq, RL] at hp
      obtain ⟨⟨rfl, hp1⟩, v', vs', ⟨rfl, rfl⟩, hr, hp2⟩ := hp
      simp only [fillP] at h
      split at h
      · rename_i off size acs hpl hacs
        split at h
        · rename_i hsz
          split at h
          · rename_i c' hc'
            have hcells := cellsOf_R hr hacs
            have hlen := hcells.len
            rcases RL.setN hc hcells hc' with ⟨h5, h6⟩ | ⟨rfl, rfl⟩
            · obtain ⟨us, hf, hu⟩ := fill_sound ⟨hp1, hp2⟩ h5 h
              refine ⟨us, ?_, hu⟩
              simp only [Instr.fill, hpl]
              have e1 : v.cells.size = size := by rw [← hsz.1, ← hlen]; simp
              rw [if_neg (by simp [e1] at h6 ⊢; omega)]
              rw [← hf]
              congr 1
              have := fold_set (List.toArray vs) off v.cells.toList 0 (by simpa using h6)
              rw [← Array.foldl_toList, Array.toList_zipIdx]
              simpa using this
            · simp at hsz; omega
          · cases h
        · cases h
      · cases h

theorem zeroCells_sound {t : TypeId} {z : List A} (h : zeroCells P t = some z) : ∃ i v, P.info? t = some i ∧ i.zero = some v ∧ RL w O z ρ v.cells.toList := by
  unfold zeroCells at h
  split at h
  · rename_i i hi
    split at h
    · rename_i v hv
      simp at h; subst h
      exact ⟨i, v, hi, hv, ofCells_R w O ρ _⟩
    · cases h
  · cases h

theorem mapEvP_spec {ev : Operand → A} {va : Operand → Value} (hev : ∀ x, R w O (ev x) ρ (va x)) : ∀ l : List (Nat × Operand),
    (mapEvP ev l).map (·.1) = (l.map fun p => (p.1, va p.2)).map (·.1) ∧ RL w O ((mapEvP ev l).map (·.2)) ρ ((l.map fun p => (p.1, va p.2)).map (·.2))
  | [] => by simp [mapEvP, RL]
  | (i, x) :: l => by
    obtain ⟨h1, h2⟩ := mapEvP_spec hev l
    simp only [mapEvP, List.map_cons, h1, RL, true_and]
    exact ⟨_, _, rfl, hev x, h2⟩

theorem placesOf_run (w : World) : ∀ (fs : List Field) (pl : List (Nat × Nat)), placesOf P fs = some pl → (fs.mapM fun f => Functor.map (Prod.mk f.offset) (sizeOf f.type)).run P w = .ok pl w
  | [], pl, h => by simp [placesOf] at h; subst h; simp
  | f :: fs, pl, h => by
    simp only [placesOf] at h
    split at h
    · rename_i i m hi hm
      simp at h; subst h
      have hs : (sizeOf f.type).run P w = .ok i.size w := by simp [sizeOf, typeInfo, hi]
      simp [List.mapM_cons, hs, placesOf_run w fs m hm]
    · cases h
theorem build_sound {t : TypeId} {parts : Array (Nat × Operand)} {ev : Operand → A} {va : Operand → Value} {a' : A} {E : Env} {objs : List Ob} (hev : ∀ x, R w O (ev x) ρ (va x))
    (h : (semV E objs (.build t parts) ev).eval = some a') : ∃ v', (Instr.build t (parts.map fun (i, x) => (i, va x))).run E.P w = .ok v' w ∧ R w O a' ρ v' := by
  have hparts : (parts.map fun (i, x) => (i, va x)).toList = parts.toList.map fun p => (p.1, va p.2) := by simp
  simp only [semV] at h
  split at h
  · rename_i fs z hu hz
    obtain ⟨i, v, hi, hv, hr⟩ := zeroCells_sound (w := w) (O := O) (ρ := ρ) hz
    split at h
    · rename_i pl hpl
      split at h
      · rename_i cs hcs
        simp [T.eval] at h; subst h
        obtain ⟨us, hf, hu'⟩ := fill_sound (mapEvP_spec hev parts.toList) hr hcs
        refine ⟨.agg us.toArray, ?_, by simp only [R]; exact ⟨us, rfl, hu'⟩⟩
        simp only [Array.toArray_toList, nth_eq] at hf
        have hm : (fs.mapM fun f => (do pure (f.offset, ← sizeOf f.type) : Sem (Nat × Nat))).run E.P w = .ok pl.toArray w := by
          rw [Array.mapM_eq_mapM_toList]
          simp [placesOf_run w fs.toList pl hpl]
        simp only [Instr.build, Sem.run_bind, zeroValue, typeInfo, run_program, hi, hv, Sem.run_pure, Result.andThen_ok, run_underlying hu, hm, hparts, List.getElem?_toArray, hf]
      · cases h
    · cases h
  · rename_i len e z hu hz
    obtain ⟨i, v, hi, hv, hr⟩ := zeroCells_sound (w := w) (O := O) (ρ := ρ) hz
    split at h
    · rename_i s hs
      split at h
      · rename_i cs hcs
        simp [T.eval] at h; subst h
        obtain ⟨us, hf, hu'⟩ := fill_sound (mapEvP_spec hev parts.toList) hr hcs
        refine ⟨.agg us.toArray, ?_, by simp only [R]; exact ⟨us, rfl, hu'⟩⟩
        simp only [Array.toArray_toList] at hf
        simp only [Instr.build, Sem.run_bind, zeroValue, typeInfo, run_program, hi, hv, Sem.run_pure, Result.andThen_ok, run_underlying hu, sizeT_run hs, hparts, hf]
      · cases h
    · cases h
  · cases h

theorem mapEvO_R {ev : Operand → A} {va : Operand → Value} (hev : ∀ x, R w O (ev x) ρ (va x)) (x : Option Operand) :
    match mapEvO ev x, x.map va with | none, none => True | some a, some v => R w O a ρ v | _, _ => False := by
  cases x with
  | none => trivial
  | some x => exact hev x

theorem run_value {s : Sem Value} {v : Value} (h : s.run P w = .ok v w) : ((do pure (.value (← s)) : Sem Next)).run P w = .ok (.value v) w := by
  simp [h]

theorem semV_sound {E : Env} (hE : EqOK E) {objs : List Ob} {o : Oper} {ev : Operand → A} {va : Operand → Value} {a' : A} (hev : ∀ x, R w O (ev x) ρ (va x)) (hob : Obs w O ρ objs) (hnl : ∀ t m q ok, o.op ≠ .lookup t m q ok)
    (h : (semV E objs o.op ev).eval = some a') : ∃ v', (execOp va o).run E.P w = .ok (.value v') w ∧ R w O a' ρ v' := by
  obtain ⟨dst, op, type, pos, after, guard⟩ := o
  simp only at h
  cases op with
  | lookup t m q ok => exact absurd rfl (hnl t m q ok)
  | move x => simp [semV, T.eval] at h; subst h; exact ⟨_, by simp [execOp], hev x⟩
  | assign x => simp [semV, T.eval] at h; subst h; exact ⟨_, by simp [execOp], hev x⟩
  | pick c x y =>
    have hc := hev c
    simp only [semV] at h
    split at h
    · rename_i q hq
      rw [hq] at hc; simp only [R] at hc
      simp only [T.eval] at h
      cases q <;> simp only [Option.some.injEq] at h <;> subst h
      · exact ⟨_, by simp [execOp, hc, asBool], hev y⟩
      · exact ⟨_, by simp [execOp, hc, asBool], hev x⟩
    · rename_i hq
      rw [hq] at hc; simp only [R] at hc
      simp only [T.eval, Option.some.injEq] at h; subst h
      exact ⟨_, by simp [execOp, hc, asBool], hev x⟩
    · rename_i hq
      rw [hq] at hc; simp only [R] at hc
      simp only [T.eval, Option.some.injEq] at h; subst h
      exact ⟨_, by simp [execOp, hc, asBool], hev y⟩
    · cases h
  | build t parts =>
    obtain ⟨v, hv, hr⟩ := build_sound hev h
    exact ⟨v, run_value hv, hr⟩
  | load t a =>
    obtain ⟨v, hv, hr⟩ := loadA_sound hob (hev a) h
    exact ⟨v, run_value hv, hr⟩
  | binOp op t x y yt =>
    obtain ⟨v, hv, hr⟩ := binA_sound hE (px := x) (py := y) (hev x) (hev y) h
    exact ⟨v, run_value hv, hr⟩
  | unOp op t x =>
    obtain ⟨v, hv, hr⟩ := unA_sound (P := E.P) (hev x) h
    exact ⟨v, run_value hv, hr⟩
  | convert s d x =>
    obtain ⟨v, hv, hr⟩ := convA_sound hob (hev x) h
    exact ⟨v, run_value hv, hr⟩
  | makeFunc fn first caps =>
    cases fn with
    | func f =>
      obtain ⟨first⟩ := first
      cases first with
      | nil =>
        simp only [semV, T.eval, Option.some.injEq] at h; subst h
        refine ⟨.func (.func f) #[] (List.toArray (caps.toList.map va)), by simp [execOp, Instr.makeFunc]; rw [← Array.toList_map], ?_⟩
        simp only [R]
        exact ⟨_, rfl, mapEv_RL hev _⟩
      | cons x l => simp [semV, T.eval] at h
    | _ => simp [semV, T.eval] at h
  | slice t x lo hi mx =>
    cases mx with
    | none =>
      obtain ⟨v, hv, hr⟩ := sliceA_sound hob (hev x) (mapEvO_R hev lo) (mapEvO_R hev hi) h
      exact ⟨v, run_value hv, hr⟩
    | some m =>
      cases lo with
      | some l => simp [semV, T.eval] at h
      | none =>
        cases hi with
        | none => simp [semV, T.eval] at h
        | some hh =>
          simp only [semV] at h
          obtain ⟨v, hv, hr⟩ := slice0A_sound (hev x) (hev hh) (hev m) h
          exact ⟨v, run_value hv, hr⟩
  | fieldAddr s x f =>
    simp only [semV] at h
    split at h
    · rename_i off hoff
      obtain ⟨v, hv, hr⟩ := fieldA_sound (hev x) hoff h
      exact ⟨v, run_value hv, hr⟩
    · cases h
  | indexAddr t x i =>
    obtain ⟨v, hv, hr⟩ := indexAddrA_sound hob (hev x) (hev i) h
    exact ⟨v, run_value hv, hr⟩
  | index t x i =>
    obtain ⟨v, hv, hr⟩ := indexA_sound (hev x) (hev i) h
    exact ⟨v, run_value hv, hr⟩
  | extract x i =>
    have hx := hev x
    simp only [semV] at h
    split at h
    · rename_i l hl
      rw [hl] at hx; simp only [R] at hx
      obtain ⟨vs, hv, hr⟩ := hx
      split at h
      · rename_i a rest hd
        simp only [T.eval, Option.some.injEq] at h; subst h
        have h1 := RL.drop i hr
        rw [hd] at h1
        simp only [RL] at h1
        obtain ⟨u, us, hu, h2, _⟩ := h1
        have hv' : vs[i]? = some u := by
          have : (vs.drop i)[0]? = some u := by rw [hu]; rfl
          simpa using this
        exact ⟨u, by simp [execOp, hv, Instr.extract, hv'], h2⟩
      · cases h
    · cases h
  | nilCheck x =>
    have hx := hev x
    simp only [semV] at h
    split at h
    · rename_i id off hl
      rw [hl] at hx
      simp only [T.eval, Option.some.injEq] at h; subst h
      obtain ⟨ad, he⟩ := hx.ptr_shape
      exact ⟨va x, by simp [execOp, he], hx⟩
    · rename_i c el hl
      rw [hl] at hx
      simp only [T.eval, Option.some.injEq] at h; subst h
      have hx' := hx
      simp only [R] at hx'
      obtain ⟨ad, he, _⟩ := hx'
      exact ⟨va x, by simp [execOp, he], hx⟩
    · rename_i id c i off hl
      rw [hl] at hx
      simp only [T.eval, Option.some.injEq] at h; subst h
      obtain ⟨ad, he⟩ := hx.rp_shape
      exact ⟨va x, by simp [execOp, he], hx⟩
    · rename_i f l hl
      rw [hl] at hx
      simp only [T.eval, Option.some.injEq] at h; subst h
      have hx' := hx
      simp only [R] at hx'
      obtain ⟨vs, he, _⟩ := hx'
      exact ⟨va x, by simp [execOp, he], hx⟩
    · cases h
  | call c =>
    obtain ⟨callee, ⟨args⟩, ⟨ts⟩⟩ := c
    cases callee with
    | value f => simp [semV, T.eval] at h
    | invoke r m => simp [semV, T.eval] at h
    | builtin b =>
      cases b with
      | len =>
        match args, ts, h with
        | [x], [t], h =>
          simp only [semV] at h
          obtain ⟨v, hv, hr⟩ := lenA_sound (ty := type) hob (hev x) h
          exact ⟨v, by simp [execOp, resolve, invoke, builtin, hv], hr⟩
        | [], _, h => simp [semV, T.eval] at h
        | _ :: _ :: _, _, h => simp [semV, T.eval] at h
        | [_], [], h => simp [semV, T.eval] at h
        | [_], _ :: _ :: _, h => simp [semV, T.eval] at h
      | min =>
        simp only [semV] at h
        obtain ⟨v, hv, hr⟩ := minmaxA_sound (P := E.P) (ts := ⟨ts⟩) (ty := type) (mapEv_RL hev args) h
        exact ⟨v, by simp only at hv; simp [execOp, resolve, invoke, builtin, hv], hr⟩
      | max =>
        simp only [semV] at h
        obtain ⟨v, hv, hr⟩ := minmaxA_sound (P := E.P) (ts := ⟨ts⟩) (ty := type) (mapEv_RL hev args) h
        exact ⟨v, by simp only at hv; simp [execOp, resolve, invoke, builtin, hv], hr⟩
      | _ => simp [semV, T.eval] at h
  | _ => simp [semV, T.eval] at h
end
end Go.Sy
