/- The walk as a machine without closures: the tree of the one operation under way, and a stack of what is left. -/
import Derived.Test.YtphegncldncaiaaSyWeak
set_option linter.unusedSimpArgs false
set_option linter.unusedSectionVars false
set_option linter.unusedVariables false
namespace Go.Sy
open Go.RowKit
set_option linter.unusedVariables false

structure Fr where
  base : Nat
  top : Nat
  fl : Bool

inductive It where
  | code (c : Code)
  /-- a region: whether it draws; the slots not to look into; its operations; the number of the next one; what is left -/
  | ops (dr : Bool) (F : List Nat) (all : Array Oper) (i : Nat) (rest : List Oper)
  | blk (id : Nat)
  /-- back into the caller's frame -/
  | fin (res : List ResultVar) (ts : List A) (dst : Option Tmp) (kn : List (Nat × Bool)) (fr : Fr)
  /-- back into the frame of the iterator that called yield -/
  | rnd (L : Nat) (ts : List A) (dst : Option Tmp) (kn : List (Nat × Bool)) (fr : Fr)
  /-- behind the assignment to the loop's variables: the body -/
  | asg (bod : Code) (L : Nat)
  /-- behind the iterator -/
  | rfe (L : Nat) (res : List ResultVar) (ts : List A) (fr : Fr)

inductive Lv where
  | go (t : OT) (s : List It) (fr : Fr)
  | out (e : Ex) (st : St)
  | bad

def Ex.isOut : Ex → Bool
  | .exit _ => false
  | _ => true

/-- A text is left by e. -/
def leave (P : Program) : Ex → St → List It → Fr → Lv
  | e, st, [], _ => .out e st
  | e, st, .code _ :: s, fr => leave P e st s fr
  | e, st, .ops _ _ _ _ _ :: s, fr => leave P e st s fr
  | e, st, .blk id :: s, fr => match e with
    | .exit i => if i = id then .go (.more [] st) s fr else leave P (.exit i) st s fr
    | e => leave P e st s fr
  | e, ⟨ts', os⟩, .fin res ts dst kn fr' :: s, _ => match e.isOut with
    | true => match resV P ⟨ts', os⟩ res with
      | some l => .go (putK ⟨ts, os⟩ dst (packV l) (endK kn dst)) s fr'
      | none => .bad
    | false => .bad
  | e, ⟨_, os⟩, .rnd L ts dst kn fr' :: s, _ => match getO os L with
    | .lp t p a b _ _ => .go (setO os L (.lp t p a b e.sta e.jump) fun os => putK ⟨ts, os⟩ dst (.kb e.goes) (endK kn dst)) s fr'
    | _ => .bad
  | _, _, .asg _ _ :: _, _ => .bad
  | e, ⟨ts', os⟩, .rfe L res ts fr' :: s, _ => match e.isOut with
    | true => match resV P ⟨ts', os⟩ res, getO os L with
      | some _, .lp _ _ _ _ .ready none => .go (setO os L .dead fun os => .more [] ⟨ts, os⟩) s fr'
      | some _, .lp _ _ _ _ .done (some .ret) => leave P .ret ⟨ts, setX os L .dead⟩ s fr'
      | some _, .lp _ _ _ _ .done (some (.exit i)) => leave P (.exit i) ⟨ts, setX os L .dead⟩ s fr'
      | _, _ => .bad
    | false => .bad

inductive Nd where
  | done (e : Ex) (st : St)
  | ite (b : Bool) (t : OT) (s : List It) (t' : OT) (s' : List It) (fr : Fr)
  | both (t : OT) (s : List It) (t' : OT) (s' : List It) (fr : Fr)
  | chk (b : Bool) (t : OT) (s : List It) (fr : Fr)
  | fail
  | loop (body : Code) (st : St) (s : List It) (fr : Fr)
  | call (f : FuncId) (vals : List A) (cl : Bool) (kn : List (Nat × Bool)) (st : St) (dst : Option Tmp) (s : List It) (fr : Fr)
  /-- a call that changes a row of the frame -/
  | mut (f : FuncId) (args : List A) (kn : List (Nat × Bool)) (st : St) (dst : Option Tmp) (s : List It) (fr : Fr)

/-- Behind a call that is known by its contract. -/
def resume (B : Nat) (kn : List (Nat × Bool)) (st : St) (dst : Option Tmp) (cl : Bool) (r : A × Option Ob) : OT :=
  match dst with
  | some d => match callFin B d cl r with
    | some (a, none) => putK st (some d) a (endK kn (some d))
    | some (a, some ob) => makeK B st d a ob (endK kn (some d))
    | none => .fail
  | none => .fail

def lenO : List Ob → Nat
  | [] => 0
  | _ :: l => lenO l + 1
def maxN (a b : Nat) : Nat := bif Nat.ble a b then b else a

def memN : List Nat → Nat → Bool
  | [], _ => false
  | a :: l, n => bif Nat.beq a n then true else memN l n

def forceOs : List Ob → (List Ob → OT) → OT
  | [], k => k []
  | o :: l, k => forceO o fun o => forceOs l fun l => k (o :: l)
def forceSt (st : St) (k : St → OT) : OT := forceL st.tmps fun ts => forceOs st.objs fun os => k ⟨ts, os⟩

def appN (z : A) : Nat → List A
  | 0 => []
  | n + 1 => z :: appN z n
def stA (n : Nat) : List A → List A
  | [] => appN (.tup []) n
  | a :: l => a :: stA (n - 1) l
def lenA' : List A → Nat
  | [] => 0
  | _ :: l => lenA' l + 1

/-- The function that a call enters, if it is to be run in place. -/
def enters (E : Env) (inl : List FuncId) (g : FuncId) : Option (Func × Code) :=
  bif memN inl g then (match entB E.P g, E.P.funcs[g]? with
    | true, some fn => match fn.body with
      | some c => some (fn, c)
      | none => none
    | _, _ => none) else none

def adv (E : Env) (inl : List FuncId) : Nat → OT → List It → Fr → Nd
  | 0, _, _, _ => .fail
  | n + 1, t, s, fr => match t with
    | .ite b t e => .ite b t s e s fr
    | .fail => .fail
    | .call kn ⟨ts, os⟩ dst f args => match s with
      | .ops dr F all i rest :: s => match f with
        | .fn g caps => bif memN E.mu g then (match seqB dr all i with
          | true => .mut g (args ++ caps) kn ⟨ts, os⟩ dst (.ops false [] all i rest :: s) fr
          | false => .fail) else match enters E inl g with
          | some (fn, c) => (match seqB dr all i with
            | true => match maxN fr.top (lenO os) with
              | B' => adv E inl n (forceSt (st0 fn.ntmps (args ++ caps) os) fun st => .more [] st) (.code c :: .fin fn.results.toList ts dst kn fr :: .ops false [] all i rest :: s) ⟨B', B' + fn.ntmps, false⟩
            | false => .fail)
          | none => match callP (maskO (opAt all fr.base F i) os) (.fn g caps) args with
            | some (g, vals, cl) => .call g vals cl kn ⟨ts, os⟩ dst (.ops dr F all i rest :: s) fr
            | none => .fail
        | .yld L => match seqB dr all i, getO os L with
          | true, .lp t p a b .ready q => bif Nat.beq (lenA' args) p.length then (match maxN fr.top (lenO os) with
            | B' => adv E inl n (forceL (putPs t p args) fun ts' => .more [] ⟨ts', os⟩) (.code a :: .asg b L :: .rnd L ts dst kn fr :: .ops false [] all i rest :: s) ⟨B', B' + lenA' t, true⟩) else .fail
          | _, _ => .fail
        | _ => .fail
      | _ => .fail
    | .more kn ⟨ts, os⟩ => match s with
      | [] => .done .normal ⟨ts, os⟩
      | .blk _ :: s => adv E inl n (.more [] ⟨ts, os⟩) s fr
      | .ops _ _ _ _ [] :: s => adv E inl n (.more [] ⟨ts, os⟩) s fr
      | .ops dr F all i (o :: rest) :: s => adv E inl n (stepK E fr.base F all.toList ⟨ts, os⟩ kn o) (.ops dr F all (i + 1) rest :: s) fr
      | .asg bod L :: s => match getO os L with
        | .lp t p a b .ready q => adv E inl n (setO os L (.lp t p a b .busy q) fun os => .more [] ⟨ts, os⟩) (.code bod :: s) fr
        | _ => .fail
      | .fin res ts' dst kn' fr' :: s => match leave E.P .normal ⟨ts, os⟩ (.fin res ts' dst kn' fr' :: s) fr with
        | .go t s fr => adv E inl n t s fr
        | .out e st => .done e st
        | .bad => .fail
      | .rnd L ts' dst kn' fr' :: s => match leave E.P .normal ⟨ts, os⟩ (.rnd L ts' dst kn' fr' :: s) fr with
        | .go t s fr => adv E inl n t s fr
        | .out e st => .done e st
        | .bad => .fail
      | .rfe L res ts' fr' :: s => match leave E.P .normal ⟨ts, os⟩ (.rfe L res ts' fr' :: s) fr with
        | .go t s fr => adv E inl n t s fr
        | .out e st => .done e st
        | .bad => .fail
      | .code c :: s => match c with
        | .skip => adv E inl n (.more [] ⟨ts, os⟩) s fr
        | .region _ ops false => adv E inl n (.more [] ⟨ts, os⟩) (.ops false [] ops 0 ops.toList :: s) fr
        | .region _ ops true => .chk (chkD ops) (.more [] ⟨ts, os⟩) (.ops true (sitesOf fr.base ops.toList) ops 0 ops.toList :: s) fr
        | .seq a b => adv E inl n (.more [] ⟨ts, os⟩) (.code a :: .code b :: s) fr
        | .cond c a b => match evA ts c with
          | .bool q => .ite q (.more [] ⟨ts, os⟩) (.code a :: s) (.more [] ⟨ts, os⟩) (.code b :: s) fr
          | .kb true => adv E inl n (.more [] ⟨ts, os⟩) (.code a :: s) fr
          | .kb false => adv E inl n (.more [] ⟨ts, os⟩) (.code b :: s) fr
          | .anyb => .both (.more [] ⟨ts, os⟩) (.code a :: s) (.more [] ⟨ts, os⟩) (.code b :: s) fr
          | _ => .fail
        | .block id c => adv E inl n (.more [] ⟨ts, os⟩) (.code c :: .blk id :: s) fr
        | .loop c => .loop c ⟨ts, os⟩ s fr
        | .exit id => match leave E.P (.exit id) ⟨ts, os⟩ s fr with
          | .go t s fr => adv E inl n t s fr
          | .out e st => .done e st
          | .bad => .fail
        | .ret => match leave E.P .ret ⟨ts, os⟩ s fr with
          | .go t s fr => adv E inl n t s fr
          | .out e st => .done e st
          | .bad => .fail
        | .rangeFunc g ps asg bod => match fr.fl, evA ts g with
          | false, .fn gf caps => match enters E inl gf, maxN fr.top (lenO os) with
            | some (fn, c), L => adv E inl n (setO os L (.lp ts ps.toList asg bod .ready none) fun os => forceSt (st0 fn.ntmps (.yld L :: caps) os) fun st => .more [] st) (.code c :: .rfe L fn.results.toList ts fr :: s) ⟨L + 1, L + 1 + fn.ntmps, false⟩
            | _, _ => .fail
          | _, _ => .fail
        | _ => .fail

end Go.Sy
