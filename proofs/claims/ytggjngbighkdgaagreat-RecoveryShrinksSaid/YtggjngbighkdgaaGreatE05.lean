import Derived.Test.YtggjngbighkdgaaGreatE04
import Derived.Carry
import Derived.ChangeArms
import Derived.ChangeSame
import Derived.OpenShut
set_option linter.unusedSimpArgs false
set_option linter.unusedSectionVars false
set_option linter.unusedVariables false
namespace Go.Sy
open Go.RowKit
structure Fr where
 base : Nat
 top : Nat
 fl : Bool
inductive It where
 | code (c : Code)
 /-- a region: whether it draws; the slots not to look into; its operations; the number of the next one; what is left -/
 | ops (dr : Bool) (F : List Nat) (all : Array Oper) (i : Nat) (rest : List Oper)
 | blk (id : Nat)
 /-- back into the caller's frame -/
 | fin (res : List ResultVar) (ts : List A) (dst : Option Tmp) (kn : List (Nat × Bool)) (fr : Fr)
 /-- back into the frame of the iterator that called yield -/
 | rnd (L : Nat) (ts : List A) (dst : Option Tmp) (kn : List (Nat × Bool)) (fr : Fr)
 /-- behind the assignment to the loop's variables: the body -/
 | asg (bod : Code) (L : Nat)
 /-- behind the iterator -/
 | rfe (L : Nat) (res : List ResultVar) (ts : List A) (fr : Fr)
inductive Lv where
 | go (t : OT) (s : List It) (fr : Fr)
 | out (e : Ex) (st : St)
 | bad
def Ex.isOut : Ex -> Bool
 | .exit _ => false
 | _ => true
def leave (P : Program) : Ex -> St -> List It -> Fr -> Lv
 | e, st, [], _ => .out e st
 | e, st, .code _ :: s, fr => leave P e st s fr
 | e, st, .ops _ _ _ _ _ :: s, fr => leave P e st s fr
 | e, st, .blk id :: s, fr => match e with
  | .exit i => if i = id then .go (.more [] st) s fr else leave P (.exit i) st s fr
  | e => leave P e st s fr
 | e, ⟨ts', os⟩, .fin res ts dst kn fr' :: s, _ => match e.isOut with
  | true => match resV P ⟨ts', os⟩ res with
   | some l => .go (putK ⟨ts, os⟩ dst (packV l) (endK kn dst)) s fr'
   | none => .bad
  | false => .bad
 | e, ⟨_, os⟩, .rnd L ts dst kn fr' :: s, _ => match getO os L with
  | .lp t p a b _ _ => .go (setO os L (.lp t p a b e.sta e.jump) fun os => putK ⟨ts, os⟩ dst (.kb e.goes) (endK kn dst)) s fr'
  | _ => .bad
 | _, _, .asg _ _ :: _, _ => .bad
 | e, ⟨ts', os⟩, .rfe L res ts fr' :: s, _ => match e.isOut with
  | true => match resV P ⟨ts', os⟩ res, getO os L with
   | some _, .lp _ _ _ _ .ready none => .go (setO os L .dead fun os => .more [] ⟨ts, os⟩) s fr'
   | some _, .lp _ _ _ _ .done (some .ret) => leave P .ret ⟨ts, setX os L .dead⟩ s fr'
   | some _, .lp _ _ _ _ .done (some (.exit i)) => leave P (.exit i) ⟨ts, setX os L .dead⟩ s fr'
   | _, _ => .bad
  | false => .bad
inductive Nd where
 | done (e : Ex) (st : St)
 | ite (b : Bool) (t : OT) (s : List It) (t' : OT) (s' : List It) (fr : Fr)
 | both (t : OT) (s : List It) (t' : OT) (s' : List It) (fr : Fr)
 | chk (b : Bool) (t : OT) (s : List It) (fr : Fr)
 | fail
 | loop (body : Code) (st : St) (s : List It) (fr : Fr)
 | call (f : FuncId) (vals : List A) (cl : Bool) (kn : List (Nat × Bool)) (st : St) (dst : Option Tmp) (s : List It) (fr : Fr)
 /-- a call that changes a row of the frame -/
 | mut (f : FuncId) (args : List A) (kn : List (Nat × Bool)) (st : St) (dst : Option Tmp) (s : List It) (fr : Fr)
def resume (B : Nat) (kn : List (Nat × Bool)) (st : St) (dst : Option Tmp) (cl : Bool) (r : A × Option Ob) : OT :=
 match dst with
 | some d => match callFin B d cl r with
  | some (a, none) => putK st (some d) a (endK kn (some d))
  | some (a, some ob) => makeK B st d a ob (endK kn (some d))
  | none => .fail
 | none => .fail
def lenO : List Ob -> Nat
 | [] => 0
 | _ :: l => lenO l + 1
def maxN (a b : Nat) : Nat := bif Nat.ble a b then b else a
def litF {α : Type} (n : Nat) (k : Nat -> α) : α :=
 match n with
 | 0 => k 0
 | m + 1 => k (m + 1)
theorem litF_eq {α : Type} (n : Nat) (k : Nat -> α) : litF n k = k n := by cases n <;> rfl
def memN : List Nat -> Nat -> Bool
 | [], _ => false
 | a :: l, n => bif Nat.beq a n then true else memN l n
def forceOs : List Ob -> (List Ob -> OT) -> OT
 | [], k => k []
 | o :: l, k => forceO o fun o => forceOs l fun l => k (o :: l)
def forceSt (st : St) (k : St -> OT) : OT := forceL st.tmps fun ts => forceOs st.objs fun os => k ⟨ts, os⟩
def lenA' : List A -> Nat
 | [] => 0
 | _ :: l => lenA' l + 1
def enters (E : Env) (inl : List FuncId) (g : FuncId) : Option (Func × Code) :=
 bif memN inl g then (match entB E.P g, E.P.funcs[g]? with
  | true, some fn => match fn.body with
   | some c => some (fn, c)
   | none => none
  | _, _ => none) else none
def adv (E : Env) (inl : List FuncId) : Nat -> OT -> List It -> Fr -> Nd
 | 0, _, _, _ => .fail
 | n + 1, t, s, fr => match t with
  | .ite b t e => .ite b t s e s fr
  | .fail => .fail
  | .call kn ⟨ts, os⟩ dst f args => match s with
   | .ops dr F all i rest :: s => match f with
    | .fn g caps => bif memN E.mu g then (match seqB dr all i with
     | true => .mut g (args ++ caps) kn ⟨ts, os⟩ dst (.ops false [] all i rest :: s) fr
     | false => .fail) else match enters E inl g with
     | some (fn, c) => (match seqB dr all i with
      | true => litF (maxN fr.top (lenO os)) fun B' => litF (B' + fn.ntmps) fun T' => adv E inl n (forceSt (st0 fn.ntmps (args ++ caps) os) fun st => .more [] st) (.code c :: .fin fn.results.toList ts dst kn fr :: .ops false [] all i rest :: s) ⟨B', T', false⟩
      | false => .fail)
     | none => match callP (maskO (opAt all fr.base F i) os) (.fn g caps) args with
      | some (g, vals, cl) => .call g vals cl kn ⟨ts, os⟩ dst (.ops dr F all i rest :: s) fr
      | none => .fail
    | .bm g id off => bif memN E.mu g then (match seqB dr all i with
     | true => .mut g (.ptr id off :: args) kn ⟨ts, os⟩ dst (.ops false [] all i rest :: s) fr
     | false => .fail) else .fail
    | .yld L => match seqB dr all i, getO os L with
     | true, .lp t p a b .ready q => bif Nat.beq (lenA' args) p.length then (litF (maxN fr.top (lenO os)) fun B' => litF (B' + lenA' t) fun T' => adv E inl n (forceL (putPs t p args) fun ts' => .more [] ⟨ts', os⟩) (.code a :: .asg b L :: .rnd L ts dst kn fr :: .ops false [] all i rest :: s) ⟨B', T', true⟩) else .fail
     | _, _ => .fail
    | _ => .fail
   | _ => .fail
  | .more kn ⟨ts, os⟩ => match s with
   | [] => .done .normal ⟨ts, os⟩
   | .blk _ :: s => adv E inl n (.more [] ⟨ts, os⟩) s fr
   | .ops _ _ _ _ [] :: s => adv E inl n (.more [] ⟨ts, os⟩) s fr
   | .ops dr F all i (o :: rest) :: s => adv E inl n (stepK E fr.base F all.toList ⟨ts, os⟩ kn o) (.ops dr F all (i + 1) rest :: s) fr
   | .asg bod L :: s => match getO os L with
    | .lp t p a b .ready q => adv E inl n (setO os L (.lp t p a b .busy q) fun os => .more [] ⟨ts, os⟩) (.code bod :: s) fr
    | _ => .fail
   | .fin res ts' dst kn' fr' :: s => match leave E.P .normal ⟨ts, os⟩ (.fin res ts' dst kn' fr' :: s) fr with
    | .go t s fr => adv E inl n t s fr
    | .out e st => .done e st
    | .bad => .fail
   | .rnd L ts' dst kn' fr' :: s => match leave E.P .normal ⟨ts, os⟩ (.rnd L ts' dst kn' fr' :: s) fr with
    | .go t s fr => adv E inl n t s fr
    | .out e st => .done e st
    | .bad => .fail
   | .rfe L res ts' fr' :: s => match leave E.P .normal ⟨ts, os⟩ (.rfe L res ts' fr' :: s) fr with
    | .go t s fr => adv E inl n t s fr
    | .out e st => .done e st
    | .bad => .fail
   | .code c :: s => match c with
    | .skip => adv E inl n (.more [] ⟨ts, os⟩) s fr
    | .region _ ops false => adv E inl n (.more [] ⟨ts, os⟩) (.ops false [] ops 0 ops.toList :: s) fr
    | .region _ ops true => .chk (chkD ops) (.more [] ⟨ts, os⟩) (.ops true (sitesOf fr.base ops.toList) ops 0 ops.toList :: s) fr
    | .seq a b => adv E inl n (.more [] ⟨ts, os⟩) (.code a :: .code b :: s) fr
    | .cond c a b => match evA ts c with
     | .bool q => .ite q (.more [] ⟨ts, os⟩) (.code a :: s) (.more [] ⟨ts, os⟩) (.code b :: s) fr
     | .kb true => adv E inl n (.more [] ⟨ts, os⟩) (.code a :: s) fr
     | .kb false => adv E inl n (.more [] ⟨ts, os⟩) (.code b :: s) fr
     | .anyb => .both (.more [] ⟨ts, os⟩) (.code a :: s) (.more [] ⟨ts, os⟩) (.code b :: s) fr
     | _ => .fail
    | .block id c => adv E inl n (.more [] ⟨ts, os⟩) (.code c :: .blk id :: s) fr
    | .loop c => .loop c ⟨ts, os⟩ s fr
    | .exit id => match leave E.P (.exit id) ⟨ts, os⟩ s fr with
     | .go t s fr => adv E inl n t s fr
     | .out e st => .done e st
     | .bad => .fail
    | .ret => match leave E.P .ret ⟨ts, os⟩ s fr with
     | .go t s fr => adv E inl n t s fr
     | .out e st => .done e st
     | .bad => .fail
    | .rangeFunc g ps asg bod => match fr.fl, evA ts g with
     | false, .fn gf caps => match enters E inl gf with
      | some (fn, c) => litF (maxN fr.top (lenO os)) fun L => litF (L + 1) fun B' => litF (L + 1 + fn.ntmps) fun T' => adv E inl n (setO os L (.lp ts ps.toList asg bod .ready none) fun os => forceSt (st0 fn.ntmps (.yld L :: caps) os) fun st => .more [] st) (.code c :: .rfe L fn.results.toList ts fr :: s) ⟨B', T', false⟩
      | none => .fail
     | _, _ => .fail
    | _ => .fail
end Go.Sy
namespace Go.Sy
open Go.RowKit
def Den (E : Env) (Q : Ex -> St -> Prop) : List It -> Fr -> Ex -> St -> List (Nat × Bool) -> Prop
 | [], _, e, st, _ => Q e st
 | .code c :: s, fr, e, st, _ => match e with
  | .normal => W E fr.base fr.fl c st fun e st' => Den E Q s fr e st' []
  | .exit i => Den E Q s fr (.exit i) st []
  | .ret => Den E Q s fr .ret st []
 | .ops dr F all i rest :: s, fr, e, st, kn => match e with
  | .normal => rest = all.toList.drop i -> KnOK kn st.tmps -> (match dr with
   | false => WO E fr.base fr.fl all (List.range' i rest.length) st fun st' => Den E Q s fr .normal st' []
   | true => F = sitesOf fr.base all.toList -> ∃ m st', m <= rest.length /\ tailB all (i + m) = true /\ RunI E fr.base F all (List.range' i m) st st' /\ WO E fr.base fr.fl all (List.range' (i + m) (rest.length - m)) st' fun st' => Den E Q s fr .normal st' [])
  | .exit i => Den E Q s fr (.exit i) st []
  | .ret => Den E Q s fr .ret st []
 | .blk id :: s, fr, e, st, _ => match e with
  | .normal => Den E Q s fr .normal st []
  | .exit i => if i = id then Den E Q s fr .normal st [] else Den E Q s fr (.exit i) st []
  | .ret => Den E Q s fr .ret st []
 | .fin res ts dst kn fr' :: s, _, e, st, _ => e.out /\ ∃ l, resV E.P st res = some l /\ Den E Q s fr' .normal ⟨putT ts dst (packV l), st.objs⟩ (eraseK kn dst)
 | .rnd L ts dst kn fr' :: s, _, e, st, _ => ∃ t p a b x y, getO st.objs L = .lp t p a b x y /\ Den E Q s fr' .normal ⟨putT ts dst (.kb e.goes), setX st.objs L (.lp t p a b e.sta e.jump)⟩ (eraseK kn dst)
 | .asg bod L :: s, fr, e, st, _ => match e with
  | .normal => ∃ t p a b q, getO st.objs L = .lp t p a b .ready q /\ W E fr.base fr.fl bod ⟨st.tmps, setX st.objs L (.lp t p a b .busy q)⟩ fun e st' => Den E Q s fr e st' []
  | _ => False
 | .rfe L res ts fr' :: s, _, e, st, _ => e.out /\ ∃ r, resV E.P st res = some r /\ ∃ t p a b sta pend, getO st.objs L = .lp t p a b sta pend /\ (match sta with | .busy => False | _ => True) /\ rangeEnd (fun e st => Den E Q s fr' e st []) ⟨ts, setX st.objs L .dead⟩ pend
def CallC (E : Env) (Q : Ex -> St -> Prop) (s : List It) (fr : Fr) (kn : List (Nat × Bool)) (st : St) (dst : Option Tmp) (f : A) (args : List A) : Prop :=
 match s with
 | .ops dr F all i rest :: s => ∀ j o, i = j + 1 -> all[j]? = some o -> o.dst = dst -> guardO all.toList st.tmps o = some true -> CallAt o st.tmps f args -> rest = all.toList.drop i -> KnOK kn st.tmps -> (match dr with
  | false => WO E fr.base fr.fl all (j :: List.range' i rest.length) st fun st' => Den E Q s fr .normal st' []
  | true => F = sitesOf fr.base all.toList -> ∃ m st', m <= rest.length + 1 /\ tailB all (j + m) = true /\ RunI E fr.base F all (List.range' j m) st st' /\ WO E fr.base fr.fl all (List.range' (j + m) (rest.length + 1 - m)) st' fun st' => Den E Q s fr .normal st' [])
 | _ => False
def SatM (E : Env) (Q : Ex -> St -> Prop) (t : OT) (s : List It) (fr : Fr) : Prop := OSat (fun kn st => Den E Q s fr .normal st kn) (CallC E Q s fr) t
def NdSat (E : Env) (Q : Ex -> St -> Prop) : Nd -> Prop
 | .done e st => Q e st
 | .ite b t s t' s' fr => (b = true -> SatM E Q t s fr) /\ (b = false -> SatM E Q t' s' fr)
 | .both t s t' s' fr => SatM E Q t s fr /\ SatM E Q t' s' fr
 | .chk b t s fr => b = true /\ SatM E Q t s fr
 | .fail => False
 | .loop body st s fr => W E fr.base fr.fl (.loop body) st fun e st' => Den E Q s fr e st' []
 | .call g vals cl kn st dst s fr => ∃ r, FnOK E.P g vals r /\ SatM E Q (resume fr.base kn st dst cl r) s fr
 | .mut g args kn st dst s fr => (∃ id e c n el vals post, getO st.objs id = .row e c n el /\ expoM id (setX st.objs id .dead) args = some vals /\ FnMu E.P g vals (.row e c n el) post /\
   ∀ ob' r, post ob' r -> SatM E Q (setO st.objs id ob' fun os => putK ⟨st.tmps, os⟩ dst (ren 0 id 6 r) (endK kn dst)) s fr) \/
  ∃ st1 objs2 vals r B', WeakL st st1 /\ (∀ w O ρ v, RL w O args ρ v -> RL w O vals ρ v) /\ st1.objs.length <= B' /\ FnIn E.P g vals st1.objs B' r objs2 /\ SatM E Q (putK ⟨st1.tmps, objs2⟩ dst r (endK [] dst)) s fr
section
variable {E : Env} {Q : Ex -> St -> Prop} {inl : List FuncId}
theorem SatM.more_iff {kn : List (Nat × Bool)} {st : St} {s : List It} {fr : Fr} : SatM E Q (.more kn st) s fr ↔ Den E Q s fr .normal st kn :=
 ⟨fun h => by cases h; assumption, fun h => .more h⟩
theorem isOut_out {e : Ex} (h : e.isOut = true) : e.out := by cases e <;> first | exact trivial | cases h
theorem putK_satM {st : St} {dst : Option Tmp} {v : A} {kn : List (Nat × Bool)} {s : List It} {fr : Fr} (h : SatM E Q (putK st dst v (endK kn dst)) s fr) : Den E Q s fr .normal ⟨putT st.tmps dst v, st.objs⟩ (eraseK kn dst) := by
 unfold SatM at h
 rw [putK_eq] at h
 exact endK_sat h
def LvSat (E : Env) (Q : Ex -> St -> Prop) : Lv -> Prop
 | .go t s fr => SatM E Q t s fr
 | .out e st => Q e st
 | .bad => False
def It.ends : List It -> Bool
 | .fin .. :: _ => true
 | .rnd .. :: _ => true
 | .rfe .. :: _ => true
 | _ => false
theorem leave_sound : ∀ (s : List It) (e : Ex) (st : St) (fr : Fr) (kn : List (Nat × Bool)), (e.goes = false \/ It.ends s = true) -> LvSat E Q (leave E.P e st s fr) -> Den E Q s fr e st kn
 | [], e, st, fr, kn, _, h => by simp only [leave, LvSat] at h; simpa only [Den] using h
 | .code c :: s, e, st, fr, kn, hc, h => by
  cases e with
  | normal => rcases hc with hc | hc <;> cases hc
  | exit i => simp only [leave] at h; simp only [Den]; exact leave_sound s _ st fr [] (.inl rfl) h
  | ret => simp only [leave] at h; simp only [Den]; exact leave_sound s _ st fr [] (.inl rfl) h
 | .ops dr F all i rest :: s, e, st, fr, kn, hc, h => by
  cases e with
  | normal => rcases hc with hc | hc <;> cases hc
  | exit i => simp only [leave] at h; simp only [Den]; exact leave_sound s _ st fr [] (.inl rfl) h
  | ret => simp only [leave] at h; simp only [Den]; exact leave_sound s _ st fr [] (.inl rfl) h
 | .blk id :: s, e, st, fr, kn, hc, h => by
  cases e with
  | normal => rcases hc with hc | hc <;> cases hc
  | exit i =>
   simp only [leave] at h
   simp only [Den]
   split
   ·rename_i hi; rw [if_pos hi] at h; exact SatM.more_iff.1 h
   ·rename_i hi; rw [if_neg hi] at h; exact leave_sound s _ st fr [] (.inl rfl) h
  | ret => simp only [leave] at h; simp only [Den]; exact leave_sound s _ st fr [] (.inl rfl) h
 | .fin res ts dst kn' fr' :: s, e, ⟨ts', os⟩, fr, kn, hc, h => by
  simp only [leave] at h
  split at h
  ·rename_i ho
   split at h
   ·rename_i l hl
    simp only [Den]
    exact ⟨isOut_out ho, l, hl, putK_satM h⟩
   ·exact h.elim
  ·exact h.elim
 | .rnd L ts dst kn' fr' :: s, e, ⟨ts', os⟩, fr, kn, hc, h => by
  simp only [leave] at h
  split at h
  ·rename_i t p a b x y hl
   simp only [Den]
   refine ⟨t, p, a, b, x, y, hl, ?_⟩
   simp only [LvSat, SatM] at h
   rw [setO_eq] at h
   exact putK_satM h
  ·exact h.elim
 | .asg bod L :: s, e, st, fr, kn, hc, h => by simp only [leave] at h; exact h.elim
 | .rfe L res ts fr' :: s, e, ⟨ts', os⟩, fr, kn, hc, h => by
  simp only [leave] at h
  split at h
  ·rename_i ho
   simp only [Den]
   refine ⟨isOut_out ho, ?_⟩
   split at h
   ·rename_i r t p a b hr hl
    refine ⟨r, hr, t, p, a, b, _, _, hl, trivial, ?_⟩
    simp only [LvSat, SatM] at h
    rw [setO_eq] at h
    exact SatM.more_iff.1 h
   ·rename_i r t p a b hr hl
    exact ⟨r, hr, t, p, a, b, _, _, hl, trivial, leave_sound s _ _ fr' [] (.inl rfl) h⟩
   ·rename_i r t p a b i hr hl
    exact ⟨r, hr, t, p, a, b, _, _, hl, trivial, leave_sound s _ _ fr' [] (.inl rfl) h⟩
   ·exact h.elim
  ·exact h.elim
theorem lenO_eq : ∀ l : List Ob, lenO l = l.length
 | [] => rfl
 | _ :: l => by simp [lenO, lenO_eq l]
theorem lenA_eq : ∀ l : List A, lenA' l = l.length
 | [] => rfl
 | _ :: l => by simp [lenA', lenA_eq l]
theorem le_maxN (a b : Nat) : b <= maxN a b := by
  unfold maxN
  cases h : Nat.ble a b with
  | true => exact Nat.le_refl _
  | false => simp only [cond_false]; have : ¬ a ≤ b := by rw [← Nat.ble_eq]; simp [h]
             omega
theorem forceOs_eq : ∀ (l : List Ob) (k : List Ob -> OT), forceOs l k = k l
 | [], k => rfl
 | o :: l, k => by simp only [forceOs, forceO_eq, forceOs_eq l]
theorem forceSt_eq (st : St) (k : St -> OT) : forceSt st k = k st := by unfold forceSt; rw [forceL_eq, forceOs_eq]
theorem enters_some {g : FuncId} {fn : Func} {c : Code} (h : enters E inl g = some (fn, c)) : entB E.P g = true /\ E.P.funcs[g]? = some fn /\ fn.body = some c := by
 unfold enters at h
 cases hm : memN inl g with
 | false => rw [hm] at h; cases h
 | true =>
  rw [hm] at h
  simp only [cond_true] at h
  split at h
  ·rename_i fn' he hf
   split at h
   ·rename_i c' hc
    simp only [Option.some.injEq, Prod.mk.injEq] at h
    obtain ⟨rfl, rfl⟩ := h
    exact ⟨he, hf, hc⟩
   ·cases h
  ·cases h
theorem setX_length : ∀ (l : List Ob) (L : Nat) (o : Ob), (setX l L o).length = max l.length (L + 1)
 | [], 0, o => by simp [setX]
 | [], L + 1, o => by simp [setX, setX_length [] L o]
 | a :: l, 0, o => by simp [setX]
 | a :: l, L + 1, o => by simp [setX, setX_length l L o]
theorem drop_cons {all : Array Oper} {i : Nat} {o : Oper} {rest : List Oper} (h : o :: rest = all.toList.drop i) : all[i]? = some o /\ rest = all.toList.drop (i + 1) := by
 have h1 : (all.toList.drop i)[0]? = some o := by rw [<- h]; rfl
 refine ⟨by simpa using h1, ?_⟩
 have : (all.toList.drop i).drop 1 = rest := by rw [<- h]; rfl
 rw [<- this, List.drop_drop, Nat.add_comm]
theorem opAt_eq {all : Array Oper} {B : Nat} {F : List Nat} {j : Nat} {o : Oper} (ho : all[j]? = some o) : opAt all B F (j + 1) = foM B F o := by
 unfold opAt
 cases F with
 | nil => rfl
 | cons s F =>
  have : ∀ (l : List Oper) (j : Nat), l[j]? = some o -> ∃ r, dropN j l = o :: r := by
   intro l
   induction l with
   | nil => intro j h; simp at h
   | cons a l ih =>
    intro j h
    cases j with
    | zero => simp at h; subst h; exact ⟨l, rfl⟩
    | succ j => exact ih j (by simpa using h)
  obtain ⟨r, hr⟩ := this all.toList j (by simpa using ho)
  simp only [hr]
theorem seq_call {E : Env} {F : List Nat} {all : Array Oper} {j n : Nat} {st : St} {B : Nat} {fl dr : Bool} {K : St -> Prop} {i : Nat} (hs : seqB dr all i = true) (hi : i = j + 1) (h : WO E B fl all (j :: List.range' (j + 1) n) st K) :
  (match dr with
  | false => WO E B fl all (j :: List.range' (j + 1) n) st K
  | true => F = sitesOf B all.toList -> ∃ m st', m <= n + 1 /\ tailB all (j + m) = true /\ RunI E B F all (List.range' j m) st st' /\ WO E B fl all (List.range' (j + m) (n + 1 - m)) st' K) := by
 subst hi
 cases dr with
 | false => exact h
 | true => exact fun _ => ⟨0, st, by omega, hs, rfl, h⟩
theorem adv_sound (hE : EqOK E) : ∀ (n : Nat) (t : OT) (s : List It) (fr : Fr), NdSat E Q (adv E inl n t s fr) -> SatM E Q t s fr
 | 0, t, s, fr, h => by exact h.elim
 | n + 1, t, s, fr, h => by
  cases t with
  | ite b t e =>
   simp only [adv, NdSat] at h
   exact .ite h.1 h.2
  | fail => simp only [adv, NdSat] at h
  | call kn st dst f args =>
   obtain ⟨ts, os⟩ := st
   simp only [adv] at h
   split at h
   ·rename_i dr F all i rest s
    refine .call ?_
    intro j o hij ho hdst hg hcall hrest hk
    subst hij
    split at h
    ·
     rename_i g caps
     rcases Bool.eq_false_or_eq_true (memN E.mu g) with hmu | hmu
     ·rw [hmu, cond_true] at h
      split at h
      ·rename_i hsq
       rcases h with h | ⟨st1, objs2, vals, r, B', h1, h2, h3, h4, h5⟩
       case inr =>
        refine seq_call hsq rfl (WO.inn ho hg hcall h1 h2 h3 h4 ?_)
        have h6 := putK_satM h5
        rw [hdst]
        exact h6 hrest ((show KnOK [] st1.tmps from fun d v h => by cases h).erase _ _)
       obtain ⟨id, e, c, n, el, vals, post, h1, h2, h3, h4⟩ := h
       refine seq_call hsq rfl (WO.mut id ho hg hcall h1 h2 h3 fun ob' r hp => ?_)
       have h5 := h4 ob' r hp
       unfold SatM at h5
       rw [setO_eq] at h5
       have h6 := putK_satM (show SatM E Q _ _ fr from h5)
       rw [hdst]
       exact h6 hrest (hk.erase _ _)
      ·exact h.elim
     rw [hmu, cond_false] at h
     split at h
     ·
      rename_i fn c hen
      split at h
      case h_2 => exact h.elim
      rename_i hsq
      refine seq_call hsq rfl ?_
      obtain ⟨he, hf, hb⟩ := enters_some hen
      rw [litF_eq, litF_eq] at h
      have h1 := adv_sound hE n _ _ _ h
      rw [forceSt_eq] at h1
      have h2 := SatM.more_iff.1 h1
      simp only [Den] at h2
      refine WO.inl ho hg hcall he hf hb (B' := maxN fr.top (lenO os)) (by rw [<- lenO_eq]; exact le_maxN _ _) (h2.mono ?_)
      rintro e s1 ⟨h3, l, h4, h5⟩
      refine ⟨h3, l, h4, ?_⟩
      rw [hdst]
      exact h5 hrest (hk.erase _ _)
     ·
      split at h
      ·rename_i g' vals cl hcp
       obtain ⟨r, hfn, hs⟩ := h
       obtain ⟨cx, as, tys, hop, hfv, hav⟩ := hcall
       cases hd : dst with
       | none => rw [hd] at hs; simp only [resume] at hs; cases hs
       | some d =>
        rw [hd] at hs
        simp only [resume] at hs
        have key : ∀ (a : A) (ob : Option Ob), callFin fr.base d cl r = some (a, ob) -> ∀ s1, (match ob with | none => s1 = ⟨putT ts (some d) a, os⟩ | some x => getO os (fr.base + d) = .virgin /\ s1 = ⟨setL ts d a, setX os (fr.base + d) x⟩) -> Step E fr.base F all.toList o ⟨ts, os⟩ s1 := by
         intro a ob hfin s1 hs1
         unfold Step
         rw [hg]
         simp only
         have hcl : cls o.op = 1 := by rw [hop]; rfl
         rw [hcl]
         simp only
         refine ⟨by unfold slOK; rw [hop]; split <;> rfl, a, ob, ?_, ?_⟩
         ·unfold Sem1
          rw [hop]
          simp only
          refine ⟨g', vals, cl, r, d, ?_, hfn, by rw [hdst, hd], hfin⟩
          rw [<- hfv, <- hav, <- opAt_eq ho]; exact hcp
         ·cases ob with
          | none => simp only at hs1 ⊢; rw [hdst, hd]; exact hs1
          | some x => exact ⟨d, by rw [hdst, hd], hs1⟩
        split at hs
        ·rename_i a hfin
         have h2 := putK_satM hs
         have h3 := h2 hrest (hk.erase _ _)
         cases dr with
         | false => exact WO.step hE ho (key a none hfin _ rfl) h3
         | true =>
          intro hF
          obtain ⟨m, st', h4, h5, h6, h7⟩ := h3 hF
          exact ⟨m + 1, st', by omega, by rw [show j + (m + 1) = j + 1 + m by omega]; exact h5, ⟨o, _, ho, key a none hfin _ rfl, h6⟩, by rw [show j + (m + 1) = j + 1 + m by omega, show rest.length + 1 - (m + 1) = rest.length - m by omega]; exact h7⟩
        ·rename_i a ob hfin
         unfold SatM at hs
         obtain ⟨hv, hs⟩ := makeK_sat hs
         have h2 := endK_sat hs
         have hk2 : KnOK (eraseK kn (some d)) (setL ts d a) := hk.erase (some d) a
         have h3 := h2 hrest hk2
         cases dr with
         | false => exact WO.step hE ho (key a (some ob) hfin _ ⟨hv, rfl⟩) h3
         | true =>
          intro hF
          obtain ⟨m, st', h4, h5, h6, h7⟩ := h3 hF
          exact ⟨m + 1, st', by omega, by rw [show j + (m + 1) = j + 1 + m by omega]; exact h5, ⟨o, _, ho, key a (some ob) hfin _ ⟨hv, rfl⟩, h6⟩, by rw [show j + (m + 1) = j + 1 + m by omega, show rest.length + 1 - (m + 1) = rest.length - m by omega]; exact h7⟩
        ·cases hs
      ·exact h.elim
    ·
     rename_i g id off
     rcases Bool.eq_false_or_eq_true (memN E.mu g) with hmu | hmu
     ·rw [hmu, cond_true] at h
      split at h
      ·rename_i hsq
       rcases h with h | ⟨st1, objs2, vals, r, B', h1, h2, h3, h4, h5⟩
       case inl =>
        obtain ⟨id', e, c, n, el, vals, post, h1, h2, h3, h4⟩ := h
        refine seq_call hsq rfl (WO.mutB id' ho hg hcall h1 h2 h3 fun ob' r hp => ?_)
        have h5 := h4 ob' r hp
        unfold SatM at h5
        rw [setO_eq] at h5
        have h6 := putK_satM (show SatM E Q _ _ fr from h5)
        rw [hdst]
        exact h6 hrest (hk.erase _ _)
       refine seq_call hsq rfl (WO.innB ho hg hcall h1 h2 h3 h4 ?_)
       have h6 := putK_satM h5
       rw [hdst]
       exact h6 hrest ((show KnOK [] st1.tmps from fun d v h => by cases h).erase _ _)
      ·exact h.elim
     ·rw [hmu, cond_false] at h; exact h.elim
    ·
     rename_i L
     split at h
     ·rename_i t p a b q hsq hlp
      refine seq_call hsq rfl ?_
      cases hl : Nat.beq (lenA' args) p.length with
      | false => rw [hl] at h; exact h.elim
      | true =>
       rw [hl] at h
       simp only [cond_true] at h
       have hlen : args.length = p.length := by rw [<- lenA_eq]; exact Nat.eq_of_beq_eq_true hl
       rw [litF_eq, litF_eq] at h
       have h1 := adv_sound hE n _ _ _ h
       rw [forceL_eq] at h1
       have h2 := SatM.more_iff.1 h1
       simp only [Den] at h2
       refine WO.yield ho hg hcall hlp hlen (B' := maxN fr.top (lenO os)) (by rw [<- lenO_eq]; exact le_maxN _ _) (h2.mono ?_)
       intro e s1 h3
       cases e with
       | normal =>
        obtain ⟨t1, p1, a1, b1, q1, h4, h5⟩ := h3
        refine ⟨t1, p1, a1, b1, q1, h4, h5.mono ?_⟩
        rintro e2 s2 ⟨t2, p2, a2, b2, x2, y2, h6, h7⟩
        refine ⟨t2, p2, a2, b2, x2, y2, h6, ?_⟩
        rw [hdst]
        exact h7 hrest (hk.erase _ _)
       | exit i => exact h3
       | ret => exact h3
     ·exact h.elim
    ·exact h.elim
   ·exact h.elim
  | more kn st =>
   obtain ⟨ts, os⟩ := st
   rw [SatM.more_iff]
   have lv : ∀ (e : Ex) (s : List It) (st : St) (kn : List (Nat × Bool)), (e.goes = false \/ It.ends s = true) -> NdSat E Q (match leave E.P e st s fr with | .go t s fr => adv E inl n t s fr | .out e st => .done e st | .bad => .fail) -> Den E Q s fr e st kn := by
    intro e s st kn hc h
    refine leave_sound s e st fr kn hc ?_
    cases hl : leave E.P e st s fr with
    | go t s' fr' => rw [hl] at h; exact adv_sound hE n _ _ _ h
    | out e st => rw [hl] at h; exact h
    | bad => rw [hl] at h; exact h
   simp only [adv] at h
   split at h
   ·exact h
   ·rename_i s _
    have := SatM.more_iff.1 (adv_sound hE n _ _ _ h)
    simpa only [Den] using this
   ·rename_i dr F all i s
    have h1 := SatM.more_iff.1 (adv_sound hE n _ _ _ h)
    simp only [Den]
    intro _ _
    cases dr with
    | false => exact WO.nil h1
    | true =>
     rename_i hr0 _
     intro hF
     refine ⟨0, _, Nat.le_refl _, tailB_end ?_, rfl, WO.nil h1⟩
     have := congrArg List.length hr0
     simp at this
     omega
   ·rename_i dr F all i o rest s
    have h1 := adv_sound hE n _ _ _ h
    simp only [Den]
    intro hrest hk
    obtain ⟨ho, hrest'⟩ := drop_cons hrest
    unfold SatM at h1
    rcases stepK_sat hk h1 with ⟨st', kn', hs, hk', h2⟩ | ⟨kn', f, args, hg, hk', hc, h2⟩
    ·have h3 := h2 hrest' hk'
     cases dr with
     | false => exact WO.step hE ho hs h3
     | true =>
      intro hF
      obtain ⟨m, st'', h4, h5, h6, h7⟩ := h3 hF
      exact ⟨m + 1, st'', by simp only [List.length_cons]; omega, by rw [show i + (m + 1) = i + 1 + m by omega]; exact h5, ⟨o, st', ho, hs, h6⟩, by rw [show i + (m + 1) = i + 1 + m by omega, show (o :: rest).length - (m + 1) = rest.length - m by simp only [List.length_cons]; omega]; exact h7⟩
    ·have h3 := h2 i o rfl ho rfl hg hc hrest' hk'
     cases dr with
     | false => exact h3
     | true => exact h3
   ·rename_i bod L s
    split at h
    ·rename_i t p a b q hlp
     have h1 := adv_sound hE n _ _ _ h
     rw [setO_eq] at h1
     have h2 := SatM.more_iff.1 h1
     simp only [Den] at h2 ⊢
     exact ⟨t, p, a, b, q, hlp, h2⟩
    ·exact h.elim
   ·exact lv .normal _ _ kn (.inr rfl) h
   ·exact lv .normal _ _ kn (.inr rfl) h
   ·exact lv .normal _ _ kn (.inr rfl) h
   ·rename_i c s
    split at h
    ·exact W.skip (SatM.more_iff.1 (adv_sound hE n _ _ _ h))
    ·rename_i id ops
     have h1 := SatM.more_iff.1 (adv_sound hE n _ _ _ h)
     simp only [Den] at h1 ⊢
     refine W.region ?_
     have := h1 (by simp) (fun d v h => by simp [lookK] at h)
     rw [List.range_eq_range']
     simpa using this
    ·rename_i id ops
     obtain ⟨hb, h1⟩ := h
     have h1 := SatM.more_iff.1 h1
     simp only [Den] at h1 ⊢
     obtain ⟨m, st', h2, h3, h4, h5⟩ := h1 (by simp) (fun d v h => by simp [lookK] at h) trivial
     refine W.draw hE hb (st' := st') (k := m) (by simpa using h2) (by simpa using h3) ?_ ?_
     ·rw [List.range_eq_range']
      exact h4
     ·simpa using h5
    ·rename_i a b
     have h1 := SatM.more_iff.1 (adv_sound hE n _ _ _ h)
     simp only [Den] at h1 ⊢
     exact W.seq (h1.mono fun e s1 h2 => by cases e <;> exact h2)
    ·rename_i x a b
     simp only [Den]
     split at h
     ·rename_i q hq
      exact W.condB (.inl hq) (fun e => SatM.more_iff.1 (h.1 e)) fun e => SatM.more_iff.1 (h.2 e)
     ·rename_i hq
      exact W.condB (.inr hq) (fun _ => SatM.more_iff.1 (adv_sound hE n _ _ _ h)) fun e => by cases e
     ·rename_i hq
      exact W.condB (.inr hq) (fun e => by cases e) fun _ => SatM.more_iff.1 (adv_sound hE n _ _ _ h)
     ·rename_i hq
      exact W.condAny hq (SatM.more_iff.1 h.1) (SatM.more_iff.1 h.2)
     ·exact h.elim
    ·rename_i id c
     have h1 := SatM.more_iff.1 (adv_sound hE n _ _ _ h)
     simp only [Den] at h1 ⊢
     exact W.block (h1.mono fun e s1 h2 => by cases e <;> exact h2)
    ·exact h
    ·rename_i id
     simp only [Den]
     exact W.exit (lv (.exit id) s _ [] (.inl rfl) h)
    ·simp only [Den]
     exact W.ret (lv .ret s _ [] (.inl rfl) h)
    ·rename_i g ps asg bod
     split at h
     ·rename_i gf caps hfl hg
      split at h
      ·rename_i fn c hen
       obtain ⟨he, hf, hb⟩ := enters_some hen
       rw [litF_eq, litF_eq, litF_eq] at h
       have h1 := adv_sound hE n _ _ _ h
       rw [setO_eq, forceSt_eq] at h1
       have h2 := SatM.more_iff.1 h1
       simp only [Den] at h2 ⊢
       rw [hfl]
       refine W.range (L := maxN fr.top (lenO os)) (B' := maxN fr.top (lenO os) + 1) hg he hf hb (len_virgin _ _ (by rw [<- lenO_eq]; exact le_maxN _ _)) ?_ ?_
       ·rw [setX_length]
        have := le_maxN fr.top (lenO os)
        rw [lenO_eq] at this ⊢
        simp only
        omega
       ·exact h2.mono fun e s1 h3 => h3
      ·exact h.elim
     ·exact h.elim
    ·exact h.elim
end
end Go.Sy
namespace Go.Sy
theorem wrap_i64 {n : Int} (h : -9223372036854775808 <= n) (h' : n <= 9223372036854775807) : IntKind.i64.wrap n = n := by
 have hb : IntKind.i64.bits = 64 := rfl
 have hs : IntKind.i64.signed = true := rfl
 unfold IntKind.wrap
 simp only [hb, hs, Bool.true_and]
 have e1 : (2 : Int) ^ 64 = 18446744073709551616 := by decide
 have e2 : (2 : Int) ^ (64 - 1) = 9223372036854775808 := by decide
 rw [e1, e2]
 simp only [ge_iff_le, decide_eq_true_eq]
 split <;> omega
theorem wrap_u8 {n : Int} (h : 0 <= n) (h' : n <= 255) : IntKind.u8.wrap n = n := by
 have hb : IntKind.u8.bits = 8 := rfl
 have hs : IntKind.u8.signed = false := rfl
 unfold IntKind.wrap
 simp only [hb, hs, Bool.false_and]
 have e1 : (2 : Int) ^ 8 = 256 := by decide
 rw [e1]
 simp only [Bool.false_eq_true, if_false]
 omega
def sumTo (f : Nat -> Nat) : Nat -> Nat
 | 0 => 0
 | n + 1 => sumTo f n + f n
theorem sumTo_le {f : Nat -> Nat} {b : Nat} : ∀ {n : Nat}, (∀ i, i < n -> f i <= b) -> sumTo f n <= n * b
 | 0, _ => by simp [sumTo]
 | n + 1, h => by
  have h1 := sumTo_le (n := n) fun i hi => h i (by omega)
  have h2 := h n (by omega)
  simp only [sumTo, Nat.succ_mul]
  omega
end Go.Sy
namespace Go.Sy
def kindsF (P : Program) (kt : TypeId -> Option (List CK)) : Nat -> List Field -> Option (List CK)
 | _, [] => some []
 | off, f :: fs => match kt f.type with
  | some ks => if f.offset = off /\ f.name ≠ "_" /\ sizeT P f.type = some ks.length /\ 0 < ks.length then (match kindsF P kt (off + ks.length) fs with
    | some m => some (ks ++ m)
    | none => none) else none
  | none => none
def kindsT (P : Program) : Nat -> TypeId -> Option (List CK)
 | 0, _ => none
 | d + 1, t => match P.underlying t with
  | some .bool => some [.b]
  | some (.int k) => some [.i k]
  | some .string => some [.s]
  | some (.struct fs) => if P.stoodInHeld t then none else kindsF P (kindsT P d) 0 fs.toList
  | _ => none
def valT (P : Program) (t : TypeId) (xs : List Value) : Value :=
 match P.underlying t, xs with
 | some (.struct _), xs => .agg xs.toArray
 | _, [v] => v
 | _, xs => .agg xs.toArray
theorem eqVs_len : ∀ {ks : List CK} {xs ys : List Value} {b : Bool}, eqVs ks xs ys = some b -> xs.length = ks.length /\ ys.length = ks.length
 | [], [], [], b, _ => ⟨rfl, rfl⟩
 | c :: cs, x :: xs, y :: ys, b, h => by
  simp only [eqVs] at h
  split at h
  ·rename_i p q hp hq
   obtain ⟨h1, h2⟩ := eqVs_len hq
   simp [h1, h2]
  ·cases h
 | [], _ :: _, _, _, h => by simp [eqVs] at h
 | [], [], _ :: _, _, h => by simp [eqVs] at h
 | _ :: _, [], _, _, h => by simp [eqVs] at h
 | _ :: _, _ :: _, [], _, h => by simp [eqVs] at h
theorem eqVs_split : ∀ {ks ms : List CK} {xs ys : List Value} {b : Bool}, eqVs (ks ++ ms) xs ys = some b ->
  ∃ b1 b2, eqVs ks (xs.take ks.length) (ys.take ks.length) = some b1 /\ eqVs ms (xs.drop ks.length) (ys.drop ks.length) = some b2 /\ b = (b1 && b2)
 | [], ms, xs, ys, b, h => ⟨true, b, by simp [eqVs], by simpa using h, by simp⟩
 | c :: cs, ms, x :: xs, y :: ys, b, h => by
  simp only [List.cons_append, eqVs] at h
  split at h
  ·rename_i p q hp hq
   obtain ⟨b1, b2, h1, h2, rfl⟩ := eqVs_split hq
   simp only [Option.some.injEq] at h
   refine ⟨p && b1, b2, ?_, by simpa using h2, by rw [<- h]; cases p <;> rfl⟩
   simp only [List.length_cons, List.take_succ_cons, eqVs, hp, h1]
  ·cases h
 | _ :: _, _, [], _, _, h => by simp [eqVs] at h
 | _ :: _, _, _ :: _, [], _, h => by simp [eqVs] at h
theorem eqV_b {x y : Value} {p : Bool} (h : eqV .b x y = some p) : ∃ a c, x = .bool a /\ y = .bool c /\ p = (a == c) := by
 cases x <;> cases y <;> simp [eqV] at h
 exact ⟨_, _, rfl, rfl, h.symm⟩
theorem eqV_i {k : IntKind} {x y : Value} {p : Bool} (h : eqV (.i k) x y = some p) : ∃ a c, x = .int k a /\ y = .int k c /\ p = (a == c) := by
 cases x <;> cases y <;> simp [eqV] at h
 obtain ⟨⟨rfl, rfl⟩, h⟩ := h
 exact ⟨_, _, rfl, rfl, h.symm⟩
theorem eqV_s {x y : Value} {p : Bool} (h : eqV .s x y = some p) : ∃ a c, x = .string a /\ y = .string c /\ p = (a.toList == c.toList) := by
 cases x <;> cases y <;> simp [eqV] at h
 exact ⟨_, _, rfl, rfl, h.symm⟩
theorem part_run {P : Program} {w : World} {t : TypeId} {ks : List CK} {d off : Nat} {xs : List Value} (hk : kindsT P d t = some ks) (hs : sizeT P t = some ks.length) (hl : off + ks.length <= xs.length) :
  (part t xs.toArray off).run P w = .ok (valT P t ((xs.drop off).take ks.length)) w := by
 cases d with
 | zero => cases hk
 | succ d =>
  simp only [kindsT] at hk
  have scal : ∀ (td : TypeDesc), P.underlying t = some td -> isAggT P t = some false -> ks.length = 1 -> (∀ ys, valT P t ys = match ys with | [v] => v | ys => .agg ys.toArray) ->
    (part t xs.toArray off).run P w = .ok (valT P t ((xs.drop off).take ks.length)) w := by
   intro td hu hag hl1 hval
   have hv : xs[off]? = some (xs[off]'(by omega)) := List.getElem?_eq_getElem (by omega)
   have e : (xs.drop off).take ks.length = [xs[off]'(by omega)] := by
    rw [hl1, List.drop_eq_getElem_cons (by omega)]; rfl
   rw [e, hval]
   simp [part, isAggT_run hag, hv]
  split at hk
  ·rename_i hu
   simp at hk; subst hk
   exact scal _ hu (by simp [isAggT, hu]) rfl (fun ys => by unfold valT; rw [hu]; split <;> simp_all)
  ·rename_i k hu
   simp at hk; subst hk
   exact scal _ hu (by simp [isAggT, hu]) rfl (fun ys => by unfold valT; rw [hu]; split <;> simp_all)
  ·rename_i hu
   simp at hk; subst hk
   exact scal _ hu (by simp [isAggT, hu]) rfl (fun ys => by unfold valT; rw [hu]; split <;> simp_all)
  ·rename_i fs hu
   have hag : isAggT P t = some true := by simp [isAggT, hu]
   have hval : ∀ ys, valT P t ys = .agg ys.toArray := fun ys => by unfold valT; rw [hu]
   rw [hval]
   simp only [part, Sem.run_bind, isAggT_run hag, Result.andThen_ok, sizeT_run hs, if_true, Sem.run_pure, List.extract_toArray, List.extract_eq_take_drop, Nat.add_sub_cancel_left]
  ·cases hk
theorem eq_kinds {P : Program} {w : World} : ∀ (d : Nat) {t : TypeId} {ks : List CK} {D : Nat} {xs ys : List Value} {b : Bool}, kindsT P d t = some ks -> d <= D -> eqVs ks xs ys = some b ->
  (Op.equalIn D t (valT P t xs) (valT P t ys)).run P w = .ok b w
 | 0, t, ks, D, xs, ys, b, hk, _, _ => by cases hk
 | d + 1, t, ks, D, xs, ys, b, hk, hD, he => by
  obtain ⟨D, rfl⟩ : ∃ k, D = k + 1 := ⟨D - 1, by omega⟩
  simp only [kindsT] at hk
  split at hk
  ·rename_i hu
   simp at hk; subst hk
   obtain ⟨hx, hy⟩ := eqVs_len he
   match xs, ys, hx, hy with
   | [x], [y], _, _ =>
    simp only [eqVs] at he
    split at he
    ·rename_i p q hp hq
     obtain ⟨_, _, rfl, rfl, rfl⟩ := eqV_b hp
     simp at hq; subst hq
     simp at he; subst he
     unfold valT
     rw [hu]
     simp only
     rw [run_equalIn_bool' w D t _ _ hu]
    ·cases he
  ·rename_i k hu
   simp at hk; subst hk
   obtain ⟨hx, hy⟩ := eqVs_len he
   match xs, ys, hx, hy with
   | [x], [y], _, _ =>
    simp only [eqVs] at he
    split at he
    ·rename_i p q hp hq
     obtain ⟨_, _, rfl, rfl, rfl⟩ := eqV_i hp
     simp at hq; subst hq
     simp at he; subst he
     unfold valT
     rw [hu]
     simp only
     rw [run_equalIn_int w D t _ _ _ _ hu]
    ·cases he
  ·rename_i hu
   simp at hk; subst hk
   obtain ⟨hx, hy⟩ := eqVs_len he
   match xs, ys, hx, hy with
   | [x], [y], _, _ =>
    simp only [eqVs] at he
    split at he
    ·rename_i p q hp hq
     obtain ⟨_, _, rfl, rfl, rfl⟩ := eqV_s hp
     simp at hq; subst hq
     simp at he; subst he
     unfold valT
     rw [hu]
     simp only
     rw [run_equalIn_string w D t _ _ hu]
    ·cases he
  ·rename_i fs hu
   split at hk
   ·cases hk
   ·rename_i hst
    have hval : ∀ ys, valT P t ys = .agg ys.toArray := fun ys => by unfold valT; rw [hu]
    rw [hval, hval]
    have hfs : P.fieldsOf t = fs := by simp [Program.fieldsOf, hu]
    rw [run_equalIn_struct w D t _ _ (by rw [hfs]; exact hu) (by simpa using hst), hfs]
    have key : ∀ (fl : List Field) (off : Nat) (ms : List CK) (b : Bool), kindsF P (kindsT P d) off fl = some ms -> eqVs ms (xs.drop off) (ys.drop off) = some b -> (Op.eqFields D xs.toArray ys.toArray fl).run P w = .ok b w := by
     intro fl
     induction fl with
     | nil =>
      intro off ms b hk he
      simp [kindsF] at hk; subst hk
      obtain ⟨hx, hy⟩ := eqVs_len he
      have ex : xs.drop off = [] := List.eq_nil_of_length_eq_zero (by simpa using hx)
      have ey : ys.drop off = [] := List.eq_nil_of_length_eq_zero (by simpa using hy)
      rw [ex, ey] at he
      simp [eqVs] at he; subst he
      simp [Op.eqFields]
     | cons f fl ih =>
      intro off ms b hk he
      simp only [kindsF] at hk
      split at hk
      ·rename_i ks hks
       split at hk
       ·rename_i hc
        obtain ⟨rfl, hnm, hsz, hks0⟩ := hc
        split at hk
        ·rename_i m hm
         simp at hk; subst hk
         obtain ⟨b1, b2, h1, h2, rfl⟩ := eqVs_split he
         obtain ⟨hx, hy⟩ := eqVs_len he
         simp only [List.length_drop, List.length_append] at hx hy
         have px := part_run (w := w) hks hsz (xs := xs) (off := f.offset) (by omega)
         have py := part_run (w := w) hks hsz (xs := ys) (off := f.offset) (by omega)
         have he1 := eq_kinds d (D := D) (w := w) hks (by omega) h1
         simp only [Op.eqFields, ne_eq, hnm, not_false_eq_true, if_true, Sem.run_bind, px, py, Result.andThen_ok, he1]
         simp only [List.drop_drop] at h2
         have := ih (f.offset + ks.length) m b2 hm (by simpa [Nat.add_comm] using h2)
         cases b1
         ·simp
         ·simp [this]
        ·cases hk
       ·cases hk
      ·cases hk
    exact key fs.toList 0 ks b hk (by simpa using he)
  ·cases hk
def EqTab (P : Program) (tab : List (TypeId × List CK)) : Prop := ∀ p ∈ tab, kindsT P 6 p.1 = some p.2 /\ P.eqGuardType P.depth p.1 = false /\ (match P.underlying p.1 with | some (.struct _) => True | _ => False)
def lookE : List (TypeId × List CK) -> TypeId -> Option (List CK)
 | [], _ => none
 | (u, ks) :: l, t => if t = u then some ks else lookE l t
theorem eqOK0 {P : Program} {tab : List (TypeId × List CK)} (h : EqTab P tab) : ∀ t ks, lookE tab t = some ks -> P.eqGuardType P.depth t = false /\
  ∀ (xs ys : List Value) (b : Bool) (w : World), eqVs ks xs ys = some b -> (Op.equalIn 10000 t (.agg xs.toArray) (.agg ys.toArray)).run P w = .ok b w := by
 intro t ks hk
 have hm : (t, ks) ∈ tab := by
  clear h
  induction tab with
  | nil => cases hk
  | cons p l ih =>
   obtain ⟨u, m⟩ := p
   simp only [lookE] at hk
   split at hk
   ·rename_i e; subst e; simp at hk; subst hk; exact List.mem_cons_self
   ·exact List.mem_cons_of_mem _ (ih hk)
 obtain ⟨h1, h2, h3⟩ := h _ hm
 refine ⟨h2, fun xs ys b w he => ?_⟩
 have := eq_kinds (w := w) 6 (D := 10000) h1 (by omega) he
 have hval : ∀ ys, valT P t ys = .agg ys.toArray := by
  intro ys
  unfold valT
  revert h3
  cases P.underlying t with
  | none => intro h3; exact h3.elim
  | some td => cases td <;> intro h3 <;> first | rfl | exact h3.elim
 rw [hval, hval] at this
 exact this
theorem eqOK_of {P : Program} {tab : List (TypeId × List CK)} (h : EqTab P tab) : EqOK { P := P, eqT := lookE tab } := ⟨eqOK0 h, fun t ag n hm => by cases hm⟩
def lookMp : List (TypeId × Bool × Nat) -> TypeId -> Option (Bool × Nat)
 | [], _ => none
 | (u, x) :: l, t => if t = u then some x else lookMp l t
def MapTab (P : Program) (tab : List (TypeId × Bool × Nat)) : Prop := ∀ p ∈ tab, ∃ k e, P.underlying p.1 = some (.map k e) /\ MapLaw P k p.2.1 p.2.2
theorem eqOK_mp {P : Program} {tab : List (TypeId × List CK)} {tm : List (TypeId × Bool × Nat)} (h : EqTab P tab) (hm : MapTab P tm) : EqOK { P := P, eqT := lookE tab, mps := lookMp tm } := by
 refine ⟨eqOK0 h, fun t ag n hl => ?_⟩
 have hmem : (t, ag, n) ∈ tm := by
  clear hm
  induction tm with
  | nil => cases hl
  | cons p l ih =>
   obtain ⟨u, m⟩ := p
   simp only [lookMp] at hl
   split at hl
   ·rename_i e; subst e; simp at hl; subst hl; exact List.mem_cons_self
   ·exact List.mem_cons_of_mem _ (ih hl)
 exact hm _ hmem
theorem findNow_ints (q : IntKind) (n : Int) : ∀ (es : List MapEntry) (i : Nat), (∀ e ∈ es, ∃ m, e.key = .int q m) ->
  (Instr.findNow (.int q) (.int q n) es i = some none /\ ∀ e ∈ es, e.key ≠ .int q n) \/ ∃ j e, Instr.findNow (.int q) (.int q n) es i = some (some (i + j, e.val)) /\ es[j]? = some e /\ e.key = .int q n
 | [], i, _ => .inl ⟨rfl, fun e he => by cases he⟩
 | e :: es, i, h => by
  obtain ⟨m, hm⟩ := h e List.mem_cons_self
  simp only [Instr.findNow, hm, Instr.sameNow, if_true]
  by_cases hnm : n = m
  ·subst hnm
   simp only [beq_self_eq_true]
   exact .inr ⟨0, e, rfl, rfl, hm⟩
  ·rw [show (n == m) = false by simpa using hnm]
   simp only
   rcases findNow_ints q n es (i + 1) (fun x hx => h x (List.mem_cons_of_mem _ hx)) with ⟨h1, h2⟩ | ⟨j, x, h1, h2, h3⟩
   ·refine .inl ⟨h1, fun x hx => ?_⟩
    rcases List.mem_cons.1 hx with rfl | hx
    ·rw [hm]; intro e; cases e; exact hnm rfl
    ·exact h2 x hx
   ·refine .inr ⟨j + 1, x, ?_, h2, h3⟩
    rw [h1]; congr 3; omega
theorem mapLaw_int {P : Program} {k : TypeId} (hk : P.underlying k = some (.int .i64)) : MapLaw P k false 1 where
 one := fun _ => rfl
 check := fun w em q hq => by
  match q, hq with
  | [n], _ =>
   unfold Instr.checkKey
   simp only [kvOf, Sem.run_bind, run_underlying hk, Result.andThen_ok]
   rfl
 find := fun w q es hq he => by
  match q, hq with
  | [n], _ =>
   have he' : ∀ e ∈ es, ∃ m, e.key = .int .i64 m := fun e h => by
    obtain ⟨q', hq', e'⟩ := he e h
    match q', hq' with
    | [m], _ => exact ⟨m, e'⟩
   rcases findNow_ints .i64 n es 0 he' with ⟨h1, h2⟩ | ⟨j, e, h1, h2, h3⟩
   ·exact .inl ⟨by simp [Instr.findKey, kvOf, run_underlying hk, h1], h2⟩
   ·exact .inr ⟨j, e, by simp [Instr.findKey, kvOf, run_underlying hk, h1], h2, h3⟩
theorem eqVs_ints : ∀ (a b : List Int), a.length = b.length -> eqVs (a.map fun _ => CK.i .i64) (a.map (Value.int .i64)) (b.map (Value.int .i64)) = some (decide (a = b))
 | [], [], _ => rfl
 | x :: a, y :: b, h => by
  simp only [List.map_cons, eqVs, eqV, if_true, eqVs_ints a b (by simpa using h), and_self]
  congr 1
  rw [Bool.eq_iff_iff]; simp
theorem findAsking_ints {P : Program} {k : TypeId} {n : Nat} (w : World) (heq : ∀ a b : List Int, a.length = n -> b.length = n -> (Op.equal k (kvOf true a) (kvOf true b)).run P w = .ok (decide (a = b)) w) (q : List Int) (hq : q.length = n) : ∀ (es : List MapEntry) (i : Nat), (∀ e ∈ es, ∃ q', q'.length = n /\ e.key = kvOf true q') ->
  ((Instr.findAsking k (kvOf true q) es i).run P w = .ok none w /\ ∀ e ∈ es, e.key ≠ kvOf true q) \/ ∃ j e, (Instr.findAsking k (kvOf true q) es i).run P w = .ok (some (i + j, e.val)) w /\ es[j]? = some e /\ e.key = kvOf true q
 | [], i, _ => .inl ⟨by simp [Instr.findAsking], fun e he => by cases he⟩
 | e :: es, i, h => by
  obtain ⟨m, hml, hm⟩ := h e List.mem_cons_self
  simp only [Instr.findAsking, hm, Sem.run_bind, heq q m hq hml, Result.andThen_ok]
  by_cases hnm : q = m
  ·subst hnm
   rw [decide_eq_true rfl, if_pos rfl]
   exact .inr ⟨0, e, by simp, rfl, hm⟩
  ·rw [decide_eq_false hnm, if_neg (by simp)]
   rcases findAsking_ints w heq q hq es (i + 1) (fun x hx => h x (List.mem_cons_of_mem _ hx)) with ⟨h1, h2⟩ | ⟨j, x, h1, h2, h3⟩
   ·refine .inl ⟨h1, fun x hx => ?_⟩
    rcases List.mem_cons.1 hx with rfl | hx
    ·rw [hm]; intro e; exact hnm (kvOf_inj (fun h => by cases h) hml hq e).symm
    ·exact h2 x hx
   ·refine .inr ⟨j + 1, x, ?_, h2, h3⟩
    rw [h1]; congr 3; omega
theorem mapLaw_struct {P : Program} {k : TypeId} {n : Nat} {tab : List (TypeId × List CK)} (h : EqTab P tab) (hk : lookE tab k = some (List.replicate n (.i .i64))) (hs : ∃ fs, P.underlying k = some (.struct fs))
  (hc : ∀ (w : World) (em : Bool) (q : List Int), q.length = n -> (Instr.checkKey em 10000 k (kvOf true q)).run P w = .ok () w) : MapLaw P k true n where
 one := fun h => by cases h
 check := hc
 find := fun w q es hq he => by
  obtain ⟨fs, hu⟩ := hs
  have heq : ∀ a b : List Int, a.length = n -> b.length = n -> (Op.equal k (kvOf true a) (kvOf true b)).run P w = .ok (decide (a = b)) w := by
   intro a b ha hb
   refine (eqOK0 h k _ hk).2 _ _ _ w ?_
   have := eqVs_ints a b (by omega)
   rw [<- this]
   congr 1
   rw [<- ha]
   clear this ha hb hk
   induction a with
   | nil => rfl
   | cons x a ih => simp [List.replicate_succ, ih]
  have hnow : ∀ es : List MapEntry, (∀ e ∈ es, ∃ q', q'.length = n /\ e.key = kvOf true q') -> Instr.findNow (.struct fs) (kvOf true q) es 0 = match es with | [] => some none | _ => none := by
   intro es h
   cases es with
   | nil => rfl
   | cons e es => simp [Instr.findNow, Instr.sameNow]
  have hrun : (Instr.findKey k (kvOf true q) es).run P w = (Instr.findAsking k (kvOf true q) es).run P w := by
   simp only [Instr.findKey, Sem.run_bind, run_underlying hu, Result.andThen_ok]
   rw [hnow es he]
   cases es with
   | nil => simp [Instr.findAsking]
   | cons e es => rfl
  rw [hrun]
  have := findAsking_ints w heq q hq es 0 he
  simpa using this
end Go.Sy
namespace Go.Sy
open Go.RowKit
structure Cx where
 E : Env
 inl : List FuncId
 ok : EqOK E
def fuel : Nat := 100000
def nx (C : Cx) (t : OT) (s : List It) (fr : Fr) : Nd := adv C.E C.inl 100000 t s fr
def Sat (C : Cx) (Q : Ex -> St -> Prop) (t : OT) (s : List It) (fr : Fr) : Prop := SatM C.E Q t s fr
section
variable {C : Cx} {Q : Ex -> St -> Prop} {t : OT} {s : List It} {fr : Fr}
theorem Sat.of {nd : Nd} (h : nx C t s fr = nd) (hn : NdSat C.E Q nd) : Sat C Q t s fr := adv_sound C.ok _ t s fr (by rw [<- h] at hn; exact hn)
def isV : Nd -> Nd -> Prop
 | .done e st, x => x = .done e st
 | .ite b t s t' s' fr, x => x = .ite b t s t' s' fr
 | .both t s t' s' fr, x => x = .both t s t' s' fr
 | .chk b t s fr, x => x = .chk b t s fr
 | .fail, x => x = .fail
 | .loop body st s fr, x => x = .loop body st s fr
 | .call f vals cl kn st dst s fr, x => x = .call f vals cl kn st dst s fr
 | .mut f args kn st dst s fr, x => x = .mut f args kn st dst s fr
theorem isV_eq {a b : Nd} (h : isV a b) : a = b := by cases a <;> exact h.symm
def NS (C : Cx) (Q : Ex -> St -> Prop) (nd : Nd) : Prop := NdSat C.E Q nd
theorem Sat.go {nd : Nd} (h : isV (nx C t s fr) nd) (hn : NS C Q nd) : Sat C Q t s fr := Sat.of (isV_eq h) hn
theorem zE {α : Type _} {a : α} : a = a := rfl
theorem zG {nd : Nd} (h : isV (nx C t s fr) nd) (hn : NS C Q nd) : Sat C Q t s fr := Sat.go h hn
theorem NS.ite {b : Bool} {t1 t2 : OT} {s1 s2 : List It} (h1 : b = true -> Sat C Q t1 s1 fr) (h2 : b = false -> Sat C Q t2 s2 fr) : NS C Q (.ite b t1 s1 t2 s2 fr) := ⟨h1, h2⟩
theorem NS.need {b : Bool} {t1 : OT} {s1 s2 : List It} (hb : b = true) (h1 : Sat C Q t1 s1 fr) : NS C Q (.ite b t1 s1 .fail s2 fr) := ⟨fun _ => h1, fun e => by rw [hb] at e; cases e⟩
theorem NS.yes {b : Bool} {t1 t2 : OT} {s1 s2 : List It} (hb : b = true) (h1 : Sat C Q t1 s1 fr) : NS C Q (.ite b t1 s1 t2 s2 fr) := ⟨fun _ => h1, fun e => by rw [hb] at e; cases e⟩
theorem NS.no {b : Bool} {t1 t2 : OT} {s1 s2 : List It} (hb : b = false) (h1 : Sat C Q t2 s2 fr) : NS C Q (.ite b t1 s1 t2 s2 fr) := ⟨(fun e => by rw [hb] at e; cases e), fun _ => h1⟩
theorem NS.both {t1 t2 : OT} {s1 s2 : List It} (h1 : Sat C Q t1 s1 fr) (h2 : Sat C Q t2 s2 fr) : NS C Q (.both t1 s1 t2 s2 fr) := ⟨h1, h2⟩
theorem NS.chk {b : Bool} {t1 : OT} {s1 : List It} (hb : b = true) (h1 : Sat C Q t1 s1 fr) : NS C Q (.chk b t1 s1 fr) := ⟨hb, h1⟩
theorem NS.call {g : FuncId} {vals : List A} {cl : Bool} {kn : List (Nat × Bool)} {st : St} {dst : Option Tmp} {P : Program} {r : A × Option Ob} (hf : FnOK P g vals r) (hP : C.E.P = P) (h1 : Sat C Q (resume fr.base kn st dst cl r) s fr) : NS C Q (.call g vals cl kn st dst s fr) := ⟨r, hP ▸ hf, h1⟩
theorem NS.mut {g : FuncId} {args vals : List A} {kn : List (Nat × Bool)} {st : St} {dst : Option Tmp} {P : Program} {e : TypeId} {c n : Nat} {el : Nat -> Nat -> A} {post : Ob -> A -> Prop} (id : Nat) (ho : getO st.objs id = .row e c n el) (hv : expoM id (setX st.objs id .dead) args = some vals) (hf : FnMu P g vals (.row e c n el) post) (hP : C.E.P = P)
  (h1 : ∀ ob' r, post ob' r -> Sat C Q (setO st.objs id ob' fun os => putK ⟨st.tmps, os⟩ dst (ren 0 id 6 r) (endK kn dst)) s fr) : NS C Q (.mut g args kn st dst s fr) := .inl ⟨id, e, c, n, el, vals, post, ho, hv, hP ▸ hf, h1⟩
theorem FnOK.le {P : Program} {f : FuncId} {args args' : List A} {r : A × Option Ob} (h : FnOK P f args' r) (hle : LeL args args') : FnOK P f args r := ⟨h.ent, fun w X vs hX hr => h.run w X vs hX (hle _ _ _ _ hr)⟩
theorem FnOK.res {P : Program} {f : FuncId} {args : List A} {a b : A} {o : Option Ob} (h : FnOK P f args (a, o)) (hle : LeA a b) : FnOK P f args (b, o) := ⟨h.ent, fun w X vs hX hr => (h.run w X vs hX hr).mono fun e w' ⟨v, l, h1, h2, h3, h4⟩ => ⟨v, l, h1, h2, hle _ _ _ _ h3, h4⟩⟩
theorem len_le_of {l : List Ob} {n : Nat} (h : Nat.ble (lenO l) n = true) : l.length <= n := by rw [<- lenO_eq]; exact Nat.le_of_ble_eq_true h
theorem NS.inn {g : FuncId} {args vals : List A} {kn : List (Nat × Bool)} {st st1 : St} {dst : Option Tmp} {P : Program} {objs1 objs2 : List Ob} {B' : Nat} {r : A} (hw : WeakL st st1) (ho : st1.objs = objs1) (hle : LeL args vals) (hB : Nat.ble (lenO objs1) B' = true) (hf : FnIn P g vals objs1 B' r objs2) (hP : C.E.P = P)
  (h1 : Sat C Q (forceSt ⟨st1.tmps, objs2⟩ fun st => putK st dst r (endK [] dst)) s fr) : NS C Q (.mut g args kn st dst s fr) := by
 subst hP
 subst ho
 rw [forceSt_eq] at h1
 exact .inr ⟨st1, objs2, vals, r, B', hw, hle, len_le_of hB, hf, h1⟩
theorem FnIn.le {P : Program} {f : FuncId} {args args' : List A} {objs objs' : List Ob} {B : Nat} {r : A} (h : FnIn P f args' objs B r objs') (hle : LeL args args') : FnIn P f args objs B r objs' := ⟨h.ent, fun w0 X w ρ vs hp hr hv => h.run w0 X w ρ vs hp (hle _ _ _ _ hr) hv⟩
theorem WeakL.refl (st : St) : WeakL st st := fun w0 X a w ρ h => ⟨ρ, h, ⟨Nat.le_refl _, fun _ _ _ => rfl, fun _ _ h => h, fun _ => .inl rfl⟩⟩
theorem WeakL.trans {a b c : St} (h : WeakL a b) (h' : WeakL b c) : WeakL a c := fun w0 X ac w ρ hp => by
 obtain ⟨ρ1, h1, h2⟩ := h w0 X ac w ρ hp
 obtain ⟨ρ2, h3, h4⟩ := h' w0 X ac w ρ1 h1
 exact ⟨ρ2, h3, h2.trans h4⟩
theorem WeakL.weak {B : Nat} {a b : St} (h : WeakL a b) : Weak B a b := fun w0 X ac w ρ hp => by
 obtain ⟨ρ1, h1, h2⟩ := h w0 X ac w ρ hp
 exact ⟨ρ1, h1, h2.ltB⟩
def keepO (K : List Nat) (objs : List Ob) : Nat -> Nat -> List Ob
 | 0, _ => []
 | n + 1, i => (match memN K i with | true => getO objs i | false => .dead) :: keepO K objs n (i + 1)
theorem getO_keep (K : List Nat) (objs : List Ob) : ∀ (n i k : Nat), getO (keepO K objs n i) k = if k < n then (if memN K (i + k) = true then getO objs (i + k) else .dead) else .virgin
 | 0, i, k => by simp [keepO, getO]
 | n + 1, i, 0 => by
  simp only [keepO, getO, Nat.add_zero]
  cases memN K i <;> simp
 | n + 1, i, k + 1 => by
  simp only [keepO, getO]
  rw [getO_keep K objs n (i + 1) k, show i + 1 + k = i + (k + 1) by omega]
  simp only [Nat.add_lt_add_iff_right]
theorem WeakL.keep {st : St} (n : Nat) (K : List Nat) (hn : Nat.ble (lenO st.objs) n = true) : WeakL st ⟨st.tmps, keepO K st.objs n 0⟩ := by
 intro w0 X a w ρ h
 have hlen := len_le_of hn
 let ρ' : Nat -> Loc := fun i => if i < n /\ memN K i = false then .dead else ρ i
 have hblk : ∀ i b, (ρ' i).block = some b -> (ρ i).block = some b := by
  intro i b hb
  simp only [ρ'] at hb
  split at hb
  ·cases hb
  ·exact hb
 have how : ∀ b, owned ρ' b -> owned ρ b := by rintro b ⟨i, hi⟩; exact ⟨i, hblk i b hi⟩
 have hL : Later w w (Ow X ρ) (Ow X ρ') ρ ρ' := ⟨Nat.le_refl _, fun _ _ _ => rfl, fun b _ hb => by
  rcases hb with hb | hb
  ·exact .inl hb
  ·exact .inr (how b hb), fun i => by
  by_cases hi : i < n /\ memN K i = false
  ·exact .inr (.inr (if_pos hi))
  ·exact .inl (if_neg hi)⟩
 refine ⟨ρ', h.after hL ⟨fun i => ?_, fun i j b hi hj => h.dis i j b (hblk i b hi) (hblk j b hj), h.kept, fun b hb => h.new b (how b hb), h.old⟩, hL⟩
 rw [getO_keep, Nat.zero_add]
 by_cases hi : i < n
 ·rw [if_pos hi]
  cases hm : memN K i with
  | true =>
   rw [if_pos rfl, show ρ' i = ρ i from if_neg (by simp [hm])]
   exact (h.obj i).later hL fun _ _ => rfl
  | false =>
   rw [if_neg (by decide)]
   exact if_pos ⟨hi, hm⟩
 ·rw [if_neg hi, show ρ' i = ρ i from if_neg (by simp [hi])]
  have := h.obj i
  rw [len_virgin st.objs i (by omega)] at this
  exact this
theorem NS.done {e : Ex} {st : St} (hq : Q e st) : NS C Q (.done e st) := hq
theorem Sat.wk {kn : List (Nat × Bool)} {st st' : St} {c : Code} (hw : Weak fr.base st st') (h : Sat C Q (forceSt st' fun st => .more [] st) (.code c :: s) fr) : Sat C Q (.more kn st) (.code c :: s) fr := by
 unfold Sat at h ⊢
 rw [forceSt_eq] at h
 exact SatM.more_iff.2 (W.weak hw (SatM.more_iff.1 h))
def RetP (C : Cx) (res : List ResultVar) (r : A × Option Ob) : Ex -> St -> Prop := fun e s => e.out /\ ∃ l, resV C.E.P s res = some l /\ RetQ r (packV l) s.objs
def forceDL (f : A -> (A -> OT) -> OT) : List A -> (List A -> OT) -> OT
 | [], k => k []
 | a :: l, k => f a fun a => forceDL f l fun l => k (a :: l)
def forceD : Nat -> A -> (A -> OT) -> OT
 | 0, a, k => k a
 | d + 1, a, k => match a with
  | .agg l => forceDL (forceD d) l fun l => k (.agg l)
  | .tup l => forceDL (forceD d) l fun l => k (.tup l)
  | .fn f l => forceDL (forceD d) l fun l => k (.fn f l)
  | .kb true => k (.kb true)
  | .kb false => k (.kb false)
  | .bool b => k (.bool b)
  | .int q n => k (.int q n)
  | .str s => k (.str s)
  | .nils => k .nils
  | .sl c n el => k (.sl c n el)
  | .ip c el => k (.ip c el)
  | .own id => k (.own id)
  | .junk => k .junk
  | .opq => k .opq
  | .anyb => k .anyb
  | .nilp => k .nilp
  | a => k a
theorem forceDL_eq {f : A -> (A -> OT) -> OT} (hf : ∀ a k, f a k = k a) : ∀ (l : List A) (k : List A -> OT), forceDL f l k = k l
 | [], k => rfl
 | a :: l, k => by simp only [forceDL, hf, forceDL_eq hf l]
theorem forceD_eq : ∀ (d : Nat) (a : A) (k : A -> OT), forceD d a k = k a
 | 0, a, k => rfl
 | d + 1, a, k => by
  cases a <;> simp only [forceD, forceDL_eq (forceD_eq d)]
  rename_i b; cases b <;> rfl
def outT (P : Program) (res : List ResultVar) (st : St) : OT :=
 match resV P st res with
 | some l => match expo st.objs 6 (packV l) with
  | some a => forceD 5 (nrm 6 a) fun x => .more [] ⟨[x], []⟩
  | none => .fail
 | none => .fail
def outR (P : Program) (res : List ResultVar) (id : Nat) (st : St) : OT :=
 match resV P st res with
 | some l => forceD 5 (nrm 6 (ren id 0 6 (packV l))) fun x => .more [] ⟨[x], [getO st.objs id]⟩
 | none => .fail
theorem NS.ret {res : List ResultVar} {e : Ex} {st : St} {x r1 : A} (hx : e.isOut = true) (ho : outT C.E.P res st = .more [] ⟨[x], []⟩) (he : LeA x r1) : NS C (RetP C res (r1, none)) (.done e st) := by
 refine ⟨isOut_out hx, ?_⟩
 unfold outT at ho
 split at ho
 ·rename_i l hl
  refine ⟨l, hl, ?_⟩
  split at ho
  ·rename_i a ha
   rw [forceD_eq] at ho
   simp only [OT.more.injEq, St.mk.injEq, List.cons.injEq, and_true, true_and] at ho
   exact ⟨a, ha, by rw [ho]; exact he⟩
  ·cases ho
 ·cases ho
theorem NS.retRow {res : List ResultVar} {e : Ex} {st : St} {x r1 : A} {ob ob' : Ob} (id : Nat) (hx : e.isOut = true) (ho : outR C.E.P res id st = .more [] ⟨[x], [ob]⟩) (he : LeA x r1) (hob : LeO ob ob') (hfl : flatRow ob') : NS C (RetP C res (r1, some ob')) (.done e st) := by
 refine ⟨isOut_out hx, ?_⟩
 unfold outR at ho
 split at ho
 ·rename_i l hl
  refine ⟨l, hl, ?_⟩
  rw [forceD_eq] at ho
  simp only [OT.more.injEq, St.mk.injEq, List.cons.injEq, and_true, true_and] at ho
  exact .inl ⟨id, by rw [ho.2]; exact hob, by rw [ho.1]; exact he, hfl⟩
 ·cases ho
theorem NS.retNil {res : List ResultVar} {e : Ex} {st : St} {t c n : Nat} {el : Nat -> Nat -> A} (hn : n = 0) (hx : e.isOut = true) (ho : resV C.E.P st res = some [.nils]) : NS C (RetP C res (.own 0, some (.row t c n el))) (.done e st) := by
 subst hn
 exact ⟨isOut_out hx, _, ho, .inr ⟨rfl, rfl, _, _, _, rfl⟩⟩
theorem fn_ok (C : Cx) {f : FuncId} {fn : Func} {c : Code} {args : List A} {r : A × Option Ob} {P : Program} (hP : C.E.P = P) (hent : entB P f = true) (hf : P.funcs[f]? = some fn) (hb : fn.body = some c)
  (h : Sat C (RetP C fn.results.toList r) (forceSt (st0 fn.ntmps args []) fun st => .more [] st) [.code c] ⟨0, fn.ntmps, false⟩) : FnOK P f args r := by
 subst hP
 refine fn_okW hent hf hb ?_
 unfold Sat at h
 rw [forceSt_eq] at h
 exact SatM.more_iff.1 h
def LoopQ (C : Cx) (Q : Ex -> St -> Prop) (s : List It) (fr : Fr) {σ : Type} (hdF : σ -> St) (m : σ -> Nat) (x : σ) : Ex -> St -> Prop := fun e st => match e with
 | .normal => ∃ y, m y < m x /\ Weak fr.base st (hdF y)
 | .exit i => Den C.E Q s fr (.exit i) st []
 | .ret => Den C.E Q s fr .ret st []
theorem NS.loop {body : Code} {st : St} {σ : Type} (ts : σ -> List (Nat × A)) (os : σ -> List (Nat × Ob)) (m : σ -> Nat) (x0 : σ)
  (hw : Weak fr.base st (hd fr.base st.objs st.tmps.length (ts x0) (os x0)))
  (step : ∀ x, Sat C (LoopQ C Q s fr (fun y => hd fr.base st.objs st.tmps.length (ts y) (os y)) m x) (forceSt (hd fr.base st.objs st.tmps.length (ts x) (os x)) fun st => .more [] st) [.code body] fr) : NS C Q (.loop body st s fr) := by
 refine W.loop (fun y => hd fr.base st.objs st.tmps.length (ts y) (os y)) m x0 hw fun x => ?_
 have h1 := step x
 unfold Sat at h1
 rw [forceSt_eq] at h1
 have h2 := SatM.more_iff.1 h1
 simp only [Den] at h2
 exact h2.mono fun e s1 h3 => by cases e <;> exact h3
theorem NS.next {σ : Type} {hdF : σ -> St} {m : σ -> Nat} {x : σ} {st : St} (y : σ) (hm : m y < m x) (hw : Weak fr.base st (hdF y)) : NS C (LoopQ C Q s fr hdF m x) (.done .normal st) := ⟨y, hm, hw⟩
def isL : Lv -> Lv -> Prop
 | .go t s fr, x => x = .go t s fr
 | .out e st, x => x = .out e st
 | .bad, x => x = .bad
theorem isL_eq {a b : Lv} (h : isL a b) : a = b := by cases a <;> exact h.symm
theorem NS.leave {σ : Type} {hdF : σ -> St} {m : σ -> Nat} {x : σ} {st : St} {e : Ex} {t2 : OT} {s2 : List It} {fr2 : Fr} (he : e.goes = false) (hl : isL (Sy.leave C.E.P e st s fr) (.go t2 s2 fr2)) (h2 : Sat C Q t2 s2 fr2) : NS C (LoopQ C Q s fr hdF m x) (.done e st) := by
 have h3 : Den C.E Q s fr e st [] := leave_sound s e st fr [] (.inl he) (by rw [isL_eq hl]; exact h2)
 cases e with
 | normal => cases he
 | exit i => exact h3
 | ret => exact h3
theorem NS.leaveOut {σ : Type} {hdF : σ -> St} {m : σ -> Nat} {x : σ} {st st2 : St} {e e2 : Ex} (he : e.goes = false) (hl : isL (Sy.leave C.E.P e st s fr) (.out e2 st2)) (h2 : NS C Q (.done e2 st2)) : NS C (LoopQ C Q s fr hdF m x) (.done e st) := by
 have h3 : Den C.E Q s fr e st [] := leave_sound s e st fr [] (.inl he) (by rw [isL_eq hl]; exact h2)
 cases e with
 | normal => cases he
 | exit i => exact h3
 | ret => exact h3
theorem ren_int {σ : Nat -> Nat} {k : IntKind} {n m : Int} {b : A} (h : b = .int k n) (e : n = m) : RenA σ (.int k m) b := by rw [h, e]; rfl
theorem ren_str {σ : Nat -> Nat} {n m : ByteArray} {b : A} (h : b = .str n) (e : n = m) : RenA σ (.str m) b := by rw [h, e]; rfl
theorem ren_bool {σ : Nat -> Nat} {n m : Bool} {b : A} (h : b = .bool n) (e : n = m) : RenA σ (.bool m) b := by rw [h, e]; exact .inl rfl
theorem WeakL.box {st : St} (b : Nat) {cells cells' : List A} (hb : getO st.objs b = .box cells) (hle : LeL cells cells') : WeakL st ⟨st.tmps, setX st.objs b (.box cells')⟩ := by
 intro w0 X a w ρ h
 have hL : Later w w (Ow X ρ) (Ow X ρ) ρ ρ := ⟨Nat.le_refl _, fun _ _ _ => rfl, fun _ _ h => h, fun _ => .inl rfl⟩
 refine ⟨ρ, h.after hL ⟨fun id => ?_, h.dis, h.kept, h.new, h.old⟩, hL⟩
 simp only [getO_setX]
 by_cases hid : id = b
 ·subst hid
  rw [if_pos rfl]
  have hob := h.obj id
  rw [hb] at hob
  obtain ⟨bb, vs, t, h1, h2, h3⟩ := hob
  exact ⟨bb, vs, t, h1, h2, hle _ _ _ _ h3⟩
 ·rw [if_neg hid]; exact h.obj id
def RetIn (C : Cx) (B : Nat) (res : List ResultVar) (r : A) (objs' : List Ob) : Ex -> St -> Prop := fun e s => e.out /\ ∃ s', Weak B s s' /\ ∃ l, resV C.E.P s' res = some l /\ LeA (packV l) r /\ s'.objs = objs'
theorem NS.fin {res : List ResultVar} {e : Ex} {st : St} {r : A} {B n : Nat} {objs0 : List Ob} {ts : List (Nat × A)} {os : List (Nat × Ob)} {l : List A} (hx : e.isOut = true) (hw : Weak B st (hd B objs0 n ts os)) (hr : resV C.E.P (hd B objs0 n ts os) res = some l) (hle : LeA (packV l) r) : NS C (RetIn C B res r (putOs (takeO B objs0) os)) (.done e st) :=
 ⟨isOut_out hx, _, hw, l, hr, hle, rfl⟩
theorem fn_in (C : Cx) {f : FuncId} {fn : Func} {c : Code} {args : List A} {r : A} {objs objs' : List Ob} {B : Nat} {P : Program} (hP : C.E.P = P) (hent : entB P f = true) (hf : P.funcs[f]? = some fn) (hb : fn.body = some c)
  (h : Sat C (RetIn C B fn.results.toList r objs') (forceSt (st0 fn.ntmps args objs) fun st => .more [] st) [.code c] ⟨B, B + fn.ntmps, false⟩) : FnIn P f args objs B r objs' := by
 subst hP
 unfold Sat at h
 rw [forceSt_eq] at h
 have h1 := SatM.more_iff.1 h
 simp only [Den] at h1
 refine ⟨hent, fun w0 X w ρ vs hp hr hv => ?_⟩
 refine (call_inl (B' := B) (Q := fun x o => LeA x r /\ o = objs') hp hr hf hb hv ?_).mono ?_
 ·intro ro n w0 X a w ρ hro hr
  refine wpIn_mono (h1 ro n w0 X a w ρ hro hr) ?_
  rintro e' a' w' ⟨e, s, ρ', Ds, rfl, h2, h3, h4, h5⟩
  have h2 : RetIn C B fn.results.toList r objs' e s := by cases e <;> exact h2
  obtain ⟨hx, s', hw, l, hl, hle, ho⟩ := h2
  obtain ⟨ρ'', h6, h7⟩ := hw _ _ _ _ _ h3
  exact ⟨e, s', ρ'', Ds, rfl, ⟨hx, l, hl, hle, ho⟩, h6, h4.trans h7, h5⟩
 ·rintro e w' ⟨v, x, o, ρ', rfl, ⟨hle, rfl⟩, h2, h3, h4⟩
  exact ⟨v, ρ', rfl, hle _ _ _ _ h2, h3, h4⟩
theorem weak_box {B : Nat} {st : St} (b : Nat) {cells cells' : List A} (hb : getO st.objs b = .box cells) (hle : LeL cells cells') : Weak B st ⟨st.tmps, setX st.objs b (.box cells')⟩ := by
 intro w0 X a w ρ h
 refine ⟨ρ, ⟨h.len, h.tmp, fun id => ?_, h.dis, h.kept, h.new, h.old, h.dfr⟩, LtB.refl _ _ _ _⟩
 simp only [getO_setX]
 by_cases hid : id = b
 ·subst hid
  rw [if_pos rfl]
  have hob := h.obj id
  rw [hb] at hob
  obtain ⟨bb, vs, t, h1, h2, h3⟩ := hob
  exact ⟨bb, vs, t, h1, h2, hle _ _ _ _ h3⟩
 ·rw [if_neg hid]; exact h.obj id
theorem weak_slot {B : Nat} {st : St} (i : Nat) {x : A} (hle : LeA (getA st.tmps i) x) : Weak B st ⟨setL st.tmps i x, st.objs⟩ := by
 intro w0 X a w ρ h
 refine ⟨ρ, ⟨by rw [h.len]; simp [length_setL], fun j => ?_, h.obj, h.dis, h.kept, h.new, h.old, h.dfr⟩, LtB.refl _ _ _ _⟩
 simp only [getA_setL]
 split
 ·rename_i hj
  rw [hj.1]
  exact hle _ _ _ _ (h.tmp i)
 ·exact h.tmp j
end
end Go.Sy
namespace Go.Sy
open Go.RowKit Go.ChangeShapes Go.WideShapes
inductive Sh where
 | int (k : IntKind)
 | bool
 | str
 | sl (c : Nat) (es : List Sh)
mutual
def ShA : Sh -> A -> Prop
 | .int k, a => ∃ n, a = .int k n /\ (Lit.int k n).wf = true
 | .bool, a => ∃ b, a = .bool b
 | .str, a => ∃ s, a = .str s /\ s.size <= maxLen
 | .sl c es, a => ∃ n el, a = .sl c n el /\ n <= maxLen /\ ∀ i, i < n -> ShAs es (el i) 0
def ShAs : List Sh -> (Nat -> A) -> Nat -> Prop
 | [], _, _ => True
 | s :: l, f, j => ShA s (f j) /\ ShAs l f (j + 1)
end
def shFs (P : Program) (sh : TypeId -> Option (List Sh)) : Nat -> List Field -> Option (List Sh)
 | _, [] => some []
 | off, f :: fs => match sh f.type with
  | some ks => if f.offset = off /\ P.cellsOf f.type = ks.length then (match shFs P sh (off + ks.length) fs with
    | some m => some (ks ++ m)
    | none => none) else none
  | none => none
def shOf (P : Program) : Nat -> TypeId -> Option (List Sh)
 | 0, _ => none
 | d + 1, t => match P.underlying t with
  | some .bool => some [.bool]
  | some (.int k) => some [.int k]
  | some .string => some [.str]
  | some (.slice e) => match shOf P d e with
   | some es => if P.cellsOf e = es.length then some [.sl es.length es] else none
   | none => none
  | some (.struct fs) => match shFs P (shOf P d) 0 fs.toList with
   | some m => if P.cellsOf t = m.length then some m else none
   | none => none
  | _ => none
theorem ShAs_append {f : Nat -> A} : ∀ {l m : List Sh} {j : Nat}, ShAs (l ++ m) f j ↔ ShAs l f j /\ ShAs m f (j + l.length)
 | [], m, j => by simp [ShAs]
 | s :: l, m, j => by
  simp only [List.cons_append, ShAs, ShAs_append (l := l) (m := m), List.length_cons, and_assoc]
  rw [Nat.add_assoc, Nat.add_comm 1 l.length]
theorem ShAs_shift {f g : Nat -> A} : ∀ {l : List Sh} {j k : Nat}, (∀ i, i < l.length -> f (j + i) = g (k + i)) -> ShAs l f j -> ShAs l g k
 | [], _, _, _, _ => by simp [ShAs]
 | s :: l, j, k, h, hs => by
  simp only [ShAs] at hs ⊢
  refine ⟨by have := h 0 (by simp); rw [Nat.add_zero, Nat.add_zero] at this; rw [<- this]; exact hs.1, ShAs_shift (fun i hi => ?_) hs.2⟩
  have := h (i + 1) (by simp; omega)
  rw [show j + 1 + i = j + (i + 1) from by omega, show k + 1 + i = k + (i + 1) from by omega]
  exact this
theorem ShAs_get {f : Nat -> A} : ∀ {l : List Sh} {j i : Nat} {s : Sh}, ShAs l f j -> l[i]? = some s -> ShA s (f (j + i))
 | [], _, _, _, _, h => by simp at h
 | s :: l, j, 0, s', h, hs => by simp at hs; subst hs; exact h.1
 | s :: l, j, i + 1, s', h, hs => by
  have := ShAs_get (i := i) h.2 (by simpa using hs)
  rwa [show j + 1 + i = j + (i + 1) from by omega] at this
theorem ShA_cell {s : Sh} {a : A} (h : ShA s a) : isCell a = true := by
 cases s with
 | int k => obtain ⟨n, rfl, _⟩ := h; rfl
 | bool => obtain ⟨b, rfl⟩ := h; rfl
 | str => obtain ⟨s, rfl, _⟩ := h; rfl
 | sl c es => obtain ⟨n, el, rfl, _⟩ := h; rfl
section
variable {H : Type} {enc : TypeId × Value -> H} {P : Program} {w : World} {base : Nat} {spare : Nat -> Bool} {held : Bool} {X : Nat -> Prop}
theorem cells_get {a : Addr} {n : Nat} {cs : List Value} (h : w.cells? base a n = some cs) : cs.length = n /\ ∀ j, j < n -> w.cell? (a.add j) = cs[j]? := by
 unfold World.cells? at h
 split at h
 ·exact ⟨by simpa using mapM_some_length h, fun j hj => mapM_some_get h j j (by simp [hj])⟩
 ·cases h
theorem cell_lt {a : Addr} {u : Value} (h : w.cell? a = some u) : a.block < w.heap.size := by
 rcases Nat.lt_or_ge a.block w.heap.size with h' | h'
 ·exact h'
 ·simp [World.cell?, Array.getElem?_eq_none h'] at h
theorem RL_app {l m : List A} {vs us : List Value} {ρ : Nat -> Loc} (h : RL w X l ρ vs) (h' : RL w X m ρ us) : RL w X (l ++ m) ρ (vs ++ us) := RL.append h h'
theorem lift (hX : ∀ b, ¬ X b) : ∀ (d : Nat) {t : TypeId} {shs : List Sh} {fuel : Nat} {cs : List Value} {x : DataW H × List MemPlace}, shOf P d t = some shs -> DataW.trod enc P w base spare held fuel t cs = some x ->
  ∃ as : List A, as.length = shs.length /\ RL w X as virg cs /\ ShAs shs (getA as) 0
 | 0, t, shs, fuel, cs, x, hs, h => by simp [shOf] at hs
 | d + 1, t, shs, fuel, cs, x, hs, h => by
  simp only [shOf] at hs
  split at hs
  ·rename_i hu
   simp only [Option.some.injEq] at hs; subst hs
   obtain ⟨b, rfl, _⟩ := DataW.trod_bool hu h
   exact ⟨[.bool b], rfl, ⟨_, _, rfl, by simp only [R], by simp only [RL]⟩, ⟨b, rfl⟩, trivial⟩
  ·rename_i k hu
   simp only [Option.some.injEq] at hs; subst hs
   obtain ⟨n, rfl, _, hw⟩ := DataW.trod_int hu h
   exact ⟨[.int k n], rfl, ⟨_, _, rfl, by simp only [R], by simp only [RL]⟩, ⟨n, rfl, hw⟩, trivial⟩
  ·rename_i hu
   simp only [Option.some.injEq] at hs; subst hs
   obtain ⟨s, rfl, _, hw⟩ := DataW.trod_string hu h
   exact ⟨[.str s], rfl, ⟨_, _, rfl, by simp only [R], by simp only [RL]⟩, ⟨s, rfl, hw⟩, trivial⟩
  ·rename_i e hu
   split at hs
   ·rename_i es hes
    split at hs
    ·rename_i hc
     simp only [Option.some.injEq] at hs; subst hs
     rcases DataW.trod_slice hu h with ⟨rfl, _⟩ | ⟨a, len, cap, elems, rest, n, _, rfl, _, _, hlc, hcm, hel, hget, _⟩
     ·refine ⟨[.sl es.length 0 fun _ _ => .junk], rfl, ⟨_, _, rfl, ?_, by simp only [RL]⟩, ⟨0, _, rfl, Nat.zero_le _, fun i hi => by omega⟩, trivial⟩
      simp only [R]
      exact ⟨none, 0, rfl, Nat.le_refl _, Nat.zero_le _, fun hp => by simp at hp⟩
     ·have hEl : ∀ i, i < len -> ∃ as : List A, ∃ csi, w.cells? base (a.add (i * es.length)) es.length = some csi /\ as.length = es.length /\ RL w X as virg csi /\ ShAs es (getA as) 0 := by
       intro i hi
       have h1 := hget i hi
       rw [hc] at h1
       have h2 : elems[i]? = some elems[i] := List.getElem?_eq_getElem (by omega)
       rw [h2, Option.bind_eq_some_iff] at h1
       obtain ⟨csi, h3, h4⟩ := h1
       obtain ⟨as, h5, h6, h7⟩ := lift hX d hes h4
       exact ⟨as, csi, h3, h5, h6, h7⟩
      have hch : ∃ f : Nat -> List A, ∀ i, i < len -> ∃ csi, w.cells? base (a.add (i * es.length)) es.length = some csi /\ (f i).length = es.length /\ RL w X (f i) virg csi /\ ShAs es (getA (f i)) 0 := by
       refine ⟨fun i => @dite _ (i < len) (Classical.propDecidable _) (fun hi => Classical.choose (hEl i hi)) (fun _ => []), fun i hi => ?_⟩
       simp only [dif_pos hi]
       exact Classical.choose_spec (hEl i hi)
      obtain ⟨f, hf⟩ := hch
      refine ⟨[.sl es.length len fun i j => getA (f i) j], rfl, ⟨_, _, rfl, ?_, by simp only [RL]⟩, ⟨len, _, rfl, Nat.le_trans hlc hcm, fun i hi => ?_⟩, trivial⟩
      ·simp only [R]
       refine ⟨some a, cap, rfl, hlc, hcm, fun hp => ?_⟩
       have hcell : ∀ i, i < len -> ∀ j, j < es.length -> ∃ u, w.cell? (a.add (i * es.length + j)) = some u /\ u.oneCell' = true /\ R w X (getA (f i) j) virg u := by
        intro i hi j hj
        obtain ⟨csi, h1, h2, h3, h4⟩ := hf i hi
        obtain ⟨h5, h6⟩ := cells_get h1
        have h7 : csi[j]? = some csi[j] := List.getElem?_eq_getElem (by omega)
        have hr := h3.get j _ h7
        refine ⟨csi[j], ?_, ?_, hr⟩
        ·rw [<- add_add, h6 j hj, h7]
        ·have hs := ShAs_get (i := j) h4 (List.getElem?_eq_getElem hj)
         rw [Nat.zero_add] at hs
         exact hr.cell_of (ShA_cell hs)
       have hn : 0 < len := Nat.pos_of_mul_pos_right hp
       have hc0 : 0 < es.length := Nat.pos_of_mul_pos_left hp
       obtain ⟨u, hu, _⟩ := hcell 0 hn 0 hc0
       have hlt := cell_lt hu
       rw [add_block] at hlt
       exact ⟨a, rfl, ⟨hlt, hX _⟩, hcell⟩
      ·obtain ⟨_, _, _, _, h4⟩ := hf i hi
       exact h4
    ·cases hs
   ·cases hs
  ·rename_i fs hu
   split at hs
   ·rename_i m hm
    split at hs
    ·rename_i hct
     simp only [Option.some.injEq] at hs; subst hs
     obtain ⟨xs, n, _, _, hcl, hxl, hget⟩ := DataW.trod_struct hu h
     have key : ∀ (fl : List Field) (off : Nat) (m : List Sh), shFs P (shOf P d) off fl = some m -> (∀ f ∈ fl, ∃ y, DataW.trod enc P w base spare held n f.type ((cs.drop f.offset).take (P.cellsOf f.type)) = some y) ->
       ∃ as : List A, as.length = m.length /\ RL w X as virg ((cs.drop off).take m.length) /\ ShAs m (getA as) 0 := by
      intro fl
      induction fl with
      | nil =>
       intro off m hm _
       simp only [shFs, Option.some.injEq] at hm; subst hm
       exact ⟨[], rfl, by simp [RL], trivial⟩
      | cons f fl ih =>
       intro off m hm hall
       simp only [shFs] at hm
       split at hm
       ·rename_i ks hks
        split at hm
        ·rename_i hoff
         obtain ⟨ho, hck⟩ := hoff
         split at hm
         ·rename_i m' hm'
          simp only [Option.some.injEq] at hm; subst hm
          obtain ⟨y, hy⟩ := hall f List.mem_cons_self
          obtain ⟨as1, l1, r1, s1⟩ := lift hX d hks hy
          obtain ⟨as2, l2, r2, s2⟩ := ih (off + ks.length) m' hm' fun g hg => hall g (List.mem_cons_of_mem _ hg)
          refine ⟨as1 ++ as2, by simp [l1, l2], ?_, ?_⟩
          ·have := RL_app r1 r2
           rw [ho, hck] at this
           rw [List.length_append, List.take_add, List.drop_drop]
           exact this
          ·rw [ShAs_append]
           refine ⟨ShAs_shift (fun i hi => ?_) s1, ShAs_shift (fun i hi => ?_) s2⟩
           ·rw [Nat.zero_add, getA_append, if_pos (by omega)]
           ·rw [Nat.zero_add, Nat.zero_add, getA_append, if_neg (by omega), l1, Nat.add_sub_cancel_left]
         ·cases hm
        ·cases hm
       ·cases hm
     have hall : ∀ f ∈ fs.toList, ∃ y, DataW.trod enc P w base spare held n f.type ((cs.drop f.offset).take (P.cellsOf f.type)) = some y := by
      intro f hf
      obtain ⟨i, hi, rfl⟩ := List.getElem_of_mem hf
      have := hget i fs.toList[i] (by simp)
      rw [List.getElem?_eq_getElem (by simp at hi; omega)] at this
      exact ⟨_, this⟩
     obtain ⟨as, h1, h2, h3⟩ := key fs.toList 0 m hm hall
     refine ⟨as, h1, ?_, h3⟩
     rw [List.drop_zero, List.take_of_length_le (by omega)] at h2
     exact h2
    ·cases hs
   ·cases hs
  ·cases hs
def argA (P : Program) (t : TypeId) (as : List A) : A := match isAggT P t with
 | some true => .agg as
 | _ => getA as 0
theorem lift_arg (hX : ∀ b, ¬ X b) {D : Nat} {t : TypeId} {shs : List Sh} {v : Value} {dd : DataW H} {ps : List MemPlace} {r : Reach} {b0 : Nat} (hs : shOf P D t = some shs) (hok : Value.okWide P w r b0 t v) (h : DataW.Trod enc P w base spare held t v dd ps) :
  ∃ as : List A, as.length = shs.length /\ R w X (argA P t as) virg v /\ ShAs shs (getA as) 0 := by
 obtain ⟨fuel, hf⟩ := h
 obtain ⟨as, h1, h2, h3⟩ := lift hX D hs hf
 refine ⟨as, h1, ?_, h3⟩
 have hcell : (∀ cs, v ≠ .agg cs) -> isAggT P t ≠ some true -> R w X (argA P t as) virg v := by
  intro hna hn
  have hv : v.cells.toList = [v] := by cases v <;> first | rfl | exact absurd rfl (hna _)
  rw [hv] at h2
  have : argA P t as = getA as 0 := by
   unfold argA
   split
   ·rename_i e; exact absurd e hn
   ·rfl
  rw [this]
  exact h2.get 0 v rfl
 cases D with
 | zero => simp [shOf] at hs
 | succ D =>
  unfold Value.okWide at hok
  cases hu : P.underlying t with
  | none => simp [shOf, hu] at hs
  | some td =>
   rw [hu] at hok
   cases td with
   | struct fs =>
    obtain ⟨cs, rfl, _⟩ := hok
    have : argA P t as = .agg as := by unfold argA isAggT; rw [hu]
    rw [this]
    simp only [R]
    exact ⟨cs.toList, by simp, h2⟩
   | bool => exact hcell (by rintro cs rfl; simp [Cell.okWide, Cell.ok, hu] at hok) (by unfold isAggT; rw [hu]; simp)
   | int k => exact hcell (by rintro cs rfl; simp [Cell.okWide, Cell.ok, hu] at hok) (by unfold isAggT; rw [hu]; simp)
   | string => exact hcell (by rintro cs rfl; simp [Cell.okWide, Cell.ok, hu] at hok) (by unfold isAggT; rw [hu]; simp)
   | slice e => exact hcell (by rintro cs rfl; simp [Cell.okWide, Cell.ok, hu] at hok) (by unfold isAggT; rw [hu]; simp)
   | _ => simp [shOf, hu] at hs
end
section
variable {H : Type} {enc : TypeId × Value -> H} {P : Program}
theorem post_below {f : Func} {s : ChangeSpec} {apart fresh handsOn again : Bool} {W W' : World} {args : Array Value} {v : Value} {ds gs : List (DataW H)} {before pa pv : List MemPlace}
  (hW : DataW.Whole enc P f.params.toList s.vars apart W args.toList ds gs before)
  (hres : ∀ (b : Nat) (sp : Nat -> Bool) (hd : Bool), DataW.TrodAll enc P W' b sp hd f.resultTypes.toList (v.resultList f.resultTypes.size) (s.fn H (ds ++ gs)).results [])
  (hargs : ∀ sp : Nat -> Bool, (∀ p ∈ before, sp p.block = true) -> DataW.TrodAll enc P W' 0 sp true f.params.toList args.toList (s.fn H (ds ++ gs)).args pa)
  (hvars : ∀ sp : Nat -> Bool, (∀ p ∈ before, sp p.block = true) -> DataW.TrodVars enc P W' sp s.vars (s.fn H (ds ++ gs)).vars pv)
  (hps : before = pa ++ pv) (hb : Bel W.heap.size W W')
  (hok : ∀ (j : Nat) (t : TypeId) (r : Value), f.resultTypes[j]? = some t -> (v.resultList f.resultTypes.size)[j]? = some r -> Value.okWide P W' .any 0 t r) :
  s.post enc P f apart fresh handsOn again W args v W' := by
 have hlt : ∀ p ∈ before, p.block < W.heap.size := fun p hp => hW.lt p hp
 have hold : ∀ p ∈ before, (fun b => decide (b < W.heap.size)) p.block = true := fun p hp => by simpa using hlt p hp
 refine ⟨ds, gs, before, [], pa, pv, hW, hres _ _ _, hargs _ hold, hvars _ hold, World.keptBut_mono (fun p hp => ⟨hp, ?_⟩) (hb.below.frame (· ∈ before)), fun _ => ?_⟩
 ·rw [hps, List.mem_append] at hp
  exact Or.inr hp
 ·obtain ⟨_, _, _, _, _, hz, hn⟩ := hW
  refine ⟨hok, _, _, ([] ++ pa) ++ pv, ⟨[] ++ pa, pv, trodAll_append (hargs _ (fun _ _ => rfl)) (hres _ _ _), hvars _ (fun _ _ => rfl), rfl, ?_, ?_⟩, ?_⟩
  ·intro b off hp
   have hin : MemPlace.cell b off ∈ before := by rw [hps]; simpa using hp
   rw [hb.below.frozen (hlt _ hin)]
   exact hz b off hin
  ·intro ha
   have := hn ha
   rw [hps] at this
   simpa using this
  ·intro p hp _
   rw [hps]
   simpa using hp
theorem trodAll_stays (hl : laidOutB P = true) {W W' : World} {sp : Nat -> Bool} (hb : Bel W.heap.size W W') : ∀ {ts : List TypeId} {vs : List Value} {ds : List (DataW H)} {ps : List MemPlace}, (∀ t ∈ ts, P.readableRec t = true /\ t < P.types.size) -> DataW.TrodAll enc P W 0 (fun _ => true) true ts vs ds ps ->
  (∀ p ∈ ps, p.block < W.heap.size) -> (∀ p ∈ ps, sp p.block = true) -> DataW.TrodAll enc P W' 0 sp true ts vs ds ps
 | [], vs, ds, ps, _, h, _, _ => by
  obtain ⟨rfl, rfl, rfl⟩ := trodAll_nil h
  exact trodAll_mk0
 | t :: ts, vs, ds, ps, hr, h, hlt, hsp => by
  obtain ⟨v, vs', d, ds', p, q, rfl, rfl, rfl, h1, h2⟩ := trodAll_cons h
  refine trodAll_cons_mk (WideElems.Trod_stays hl (hr t List.mem_cons_self).1 (hr t List.mem_cons_self).2 h1 (fun x hx => hb.below.same (hlt x (List.mem_append_left _ hx))) fun x hx => hsp x (List.mem_append_left _ hx)) ?_
  exact trodAll_stays hl hb (fun t ht => hr t (List.mem_cons_of_mem _ ht)) h2 (fun x hx => hlt x (List.mem_append_right _ hx)) fun x hx => hsp x (List.mem_append_right _ hx)
end
end Go.Sy
namespace Go.Mb
open Go.Sy
theorem wrap_u8m (n : Int) : IntKind.u8.wrap n = n % 256 := by
 have hb : IntKind.u8.bits = 8 := rfl
 have hs : IntKind.u8.signed = false := rfl
 unfold IntKind.wrap
 simp only [hb, hs, Bool.false_and, Bool.false_eq_true, if_false]
 rfl
theorem wrap_u32m (n : Int) : IntKind.u32.wrap n = n % 4294967296 := by
 have hb : IntKind.u32.bits = 32 := rfl
 have hs : IntKind.u32.signed = false := rfl
 unfold IntKind.wrap
 simp only [hb, hs, Bool.false_and, Bool.false_eq_true, if_false]
 rfl
theorem wrap_u64m (n : Int) : IntKind.u64.wrap n = n % 18446744073709551616 := by
 have hb : IntKind.u64.bits = 64 := rfl
 have hs : IntKind.u64.signed = false := rfl
 unfold IntKind.wrap
 simp only [hb, hs, Bool.false_and, Bool.false_eq_true, if_false]
 rfl
theorem wrap_u32 {n : Int} (h : 0 <= n) (h' : n <= 4294967295) : IntKind.u32.wrap n = n := by rw [wrap_u32m]; omega
theorem wrap_u64 {n : Int} (h : 0 <= n) (h' : n <= 18446744073709551615) : IntKind.u64.wrap n = n := by rw [wrap_u64m]; omega
def rowL {α : Type} [Inhabited α] (cells : α -> List A) (l : List α) : Nat -> Nat -> A := fun i j => getA (cells (l.getD i default)) j
section
variable {α : Type} [Inhabited α]
theorem getD_lt {l : List α} {i : Nat} (h : i < l.length) : l.getD i default = l[i] := by simp [List.getD, h]
theorem take_snoc {l : List α} {k : Nat} (h : k < l.length) : l.take (k + 1) = l.take k ++ [l.getD k default] := by
 rw [List.take_succ_eq_append_getElem h, getD_lt h]
theorem take_all {l : List α} {k : Nat} (h : l.length <= k) : l.take k = l := List.take_of_length_le h
theorem getD_append_left {l m : List α} {i : Nat} (h : i < l.length) : (l ++ m).getD i default = l.getD i default := by
 simp [List.getD, List.getElem?_append_left h]
theorem getD_append_right {l m : List α} {i : Nat} (h : l.length <= i) : (l ++ m).getD i default = m.getD (i - l.length) default := by
 simp [List.getD, List.getElem?_append_right h]
theorem rowL_append (cells : α -> List A) (l m : List α) (i j : Nat) : (if i < l.length then rowL cells l i j else rowL cells m (i - l.length) j) = rowL cells (l ++ m) i j := by
 unfold rowL
 split
 ·rename_i h; rw [getD_append_left h]
 ·rename_i h; rw [getD_append_right (by omega)]
def idx (p : α -> Bool) (l : List α) : Int := if l.findIdx p < l.length then (l.findIdx p : Int) else -1
theorem idx_found {p : α -> Bool} {l : List α} {k : Nat} (h : k < l.length) (hp : p (l.getD k default) = true) (hn : ∀ i, i < k -> p (l.getD i default) = false) : idx p l = k := by
 have : l.findIdx p = k := by
  rw [List.findIdx_eq h]
  refine ⟨by rw [<- getD_lt h]; exact hp, fun j hj => ?_⟩
  rw [<- getD_lt (by omega)]; exact hn j hj
 unfold idx; rw [this, if_pos h]
theorem idx_none {p : α -> Bool} {l : List α} (hn : ∀ i, i < l.length -> p (l.getD i default) = false) : idx p l = -1 := by
 have : ¬ l.findIdx p < l.length := by
  intro h
  have h1 := List.findIdx_getElem (w := h)
  have h2 := hn _ h
  rw [getD_lt h] at h2
  rw [h1] at h2; cases h2
 unfold idx; rw [if_neg this]
theorem idx_cases (p : α -> Bool) (l : List α) : (idx p l = -1 /\ ∀ x ∈ l, p x = false) \/ ∃ k, k < l.length /\ idx p l = (k : Int) /\ p (l.getD k default) = true /\ ∀ i, i < k -> p (l.getD i default) = false := by
 by_cases h : l.findIdx p < l.length
 ·refine .inr ⟨l.findIdx p, h, by unfold idx; rw [if_pos h], ?_, fun i hi => ?_⟩
  ·rw [getD_lt h]; exact List.findIdx_getElem (w := h)
  ·rw [getD_lt (by omega)]; simpa using List.not_of_lt_findIdx hi
 ·refine .inl ⟨by unfold idx; rw [if_neg h], fun x hx => ?_⟩
  have := List.findIdx_lt_length (p := p) (xs := l)
  rw [<- Bool.not_eq_true]
  intro hp
  exact h (this.2 ⟨x, hx, hp⟩)
theorem idx_lt (p : α -> Bool) (l : List α) : -1 <= idx p l /\ idx p l < l.length := by
 rcases idx_cases p l with ⟨h, _⟩ | ⟨k, hk, h, _⟩ <;> rw [h] <;> omega
theorem idx_neg (p : α -> Bool) (l : List α) : idx p l < 0 ↔ l.any p = false := by
 rcases idx_cases p l with ⟨h, h2⟩ | ⟨k, hk, h, h2, _⟩
 ·rw [h]; simp; intro x hx; exact h2 x hx
 ·rw [h]
  rw [getD_lt hk] at h2
  constructor
  ·intro h; omega
  ·intro h3
   rw [List.any_eq_false] at h3
   exact absurd h2 (h3 _ (List.getElem_mem hk))
end
theorem ba_inj {a b : ByteArray} : a.toList = b.toList ↔ a = b := by
 constructor
 ·intro h
  have : a.data.toList = b.data.toList := by simpa [ByteArray.toList_eq] using h
  cases a; cases b; simp only [ByteArray.mk.injEq]; exact Array.toList_inj.1 this
 ·rintro rfl; rfl
def inR (n lo hi : Int) : Bool := decide (lo <= n /\ n <= hi)
theorem inR_t {n lo hi : Int} (h : decide (n >= lo) = true) : decide (n <= hi) = inR n lo hi := by
 simp at h; unfold inR; rw [Bool.eq_iff_iff]; simp; omega
theorem inR_f {n lo hi : Int} (h : decide (n >= lo) = false) : false = inR n lo hi := by
 simp at h; unfold inR; rw [Bool.eq_iff_iff]; simp; omega
theorem row_snoc {α : Type} [Inhabited α] {cells : α -> List A} {l : List α} {x : α} {c : Nat} {cs : List A} (hcs : cs = cells x) : ∀ i, i < l.length + 1 -> ∀ j, j < c -> (if i < l.length then rowL cells l i j else getA cs ((i - l.length) * c + j)) = rowL cells (l ++ [x]) i j := by
 intro i hi j hj
 rw [<- rowL_append]
 split
 ·rfl
 ·have : i - l.length = 0 := by omega
  rw [this, hcs]
  simp [rowL]
theorem ren_row {σ : Nat -> Nat} {e c m n : Nat} {el' el : Nat -> Nat -> A} {b : Ob} (h : b = .row e c m el') (hm : m = n) (hel : ∀ i, i < n -> ∀ j, j < c -> el' i j = el i j) : RenO σ (.row e c n el) b := by
 subst hm; exact ⟨el', h, hel⟩
theorem i64_k {k n : Nat} (h : k < n) (hn : n <= 9000000000000000000) : IntKind.i64.wrap ((k : Int) + 1) = ((k + 1 : Nat) : Int) := by
 rw [wrap_i64 (by omega) (by omega)]; omega
def sameBy {α : Type} (eqv : α -> α -> Bool) : List α -> List α -> Bool
 | [], [] => true
 | a :: l, b :: m => eqv a b && sameBy eqv l m
 | _, _ => false
theorem sameBy_iff {α : Type} {eqv : α -> α -> Bool} (h : ∀ a b, eqv a b = true ↔ a = b) : ∀ {l m : List α}, sameBy eqv l m = true ↔ l = m
 | [], [] => by simp [sameBy]
 | [], b :: m => by simp [sameBy]
 | a :: l, [] => by simp [sameBy]
 | a :: l, b :: m => by simp [sameBy, h, sameBy_iff h (l := l) (m := m)]
theorem sameBy_f {α : Type} [Inhabited α] {eqv : α -> α -> Bool} (h : ∀ a b, eqv a b = true ↔ a = b) {l m : List α} {k : Nat} (hk : eqv (l.getD k default) (m.getD k default) = false) : sameBy eqv l m = false := by
 rw [<- Bool.not_eq_true, sameBy_iff h]
 rintro rfl
 rw [(h _ _).2 rfl] at hk; cases hk
theorem sameBy_len {α : Type} {eqv : α -> α -> Bool} (h : ∀ a b, eqv a b = true ↔ a = b) {l m : List α} (hl : l.length ≠ m.length) : sameBy eqv l m = false := by
 rw [<- Bool.not_eq_true, sameBy_iff h]
 rintro rfl; exact hl rfl
theorem sameBy_t {α : Type} [Inhabited α] {eqv : α -> α -> Bool} (h : ∀ a b, eqv a b = true ↔ a = b) {l m : List α} (hl : l.length = m.length) (hk : ∀ k, k < l.length -> eqv (l.getD k default) (m.getD k default) = true) : sameBy eqv l m = true := by
 rw [sameBy_iff h]
 refine List.ext_getElem hl fun i h1 h2 => ?_
 have := (h _ _).1 (hk i h1)
 rwa [getD_lt h1, getD_lt h2] at this
theorem row_one {α : Type} [Inhabited α] {cells : α -> List A} {x : α} {c : Nat} {cs : List A} (hcs : cs = cells x) : ∀ i, i < 1 -> ∀ j, j < c -> getA cs (i * c + j) = rowL cells [x] i j := by
 intro i hi j hj
 have : i = 0 := by omega
 subst this
 rw [hcs]; simp [rowL]
theorem flat_getA {cs : List A} (h : allL (flat 3) cs = true) (j : Nat) : flat 3 (getA cs j) = true := by
 induction cs generalizing j with
 | nil => rfl
 | cons a l ih =>
  simp only [allL, Bool.and_eq_true] at h
  cases j with
  | zero => exact h.1
  | succ j => exact ih h.2 j
theorem not_t {b : Bool} (h : (!b) = true) : b = false := by cases b <;> first | rfl | cases h
theorem not_f {b : Bool} (h : (!b) = false) : b = true := by cases b <;> first | rfl | cases h
theorem drop_cons {α : Type} [Inhabited α] {l : List α} {k : Nat} (h : k < l.length) : l.drop k = l.getD k default :: l.drop (k + 1) := by
 rw [List.drop_eq_getElem_cons h, getD_lt h]
theorem drop_end {α : Type} {l : List α} {k : Nat} (h : l.length <= k) : l.drop k = [] := List.drop_eq_nil_of_le h
def nC (n : Int) : List A := [.int .i64 n]
def slN (l : List Int) : A := .sl 1 l.length (rowL nC l)
theorem flatN (l : List Int) (i j : Nat) : flat 3 (rowL nC l i j) = true := flat_getA rfl j
theorem memD {α : Type} [Inhabited α] {L : List α} {p : α -> Prop} (h : ∀ x ∈ L, p x) {j : Nat} (hj : j < L.length) : p (L.getD j default) := by
 rw [getD_lt hj]; exact h _ (List.getElem_mem _)
theorem getD_setG {α : Type} [Inhabited α] (L : List α) (i : Nat) (x : α) (q : Nat) (hi : i < L.length) : (L.set i x).getD q default = if q = i then x else L.getD q default := by
 simp only [List.getD, List.getElem?_set]
 by_cases h : q = i
 ·subst h; simp [hi]
 ·rw [if_neg h, if_neg (fun e => h e.symm)]
theorem row_setG {α : Type} [Inhabited α] {cells : α -> List A} {c : Nat} (L : List α) (i : Nat) (x : α) (hi : i < L.length) (q j : Nat) (hj : j < c) : (if q = i /\ 0 <= j /\ j < 0 + c then getA (cells x) (j - 0) else rowL cells L q j) = rowL cells (L.set i x) q j := by
 unfold rowL
 rw [getD_setG _ _ _ _ hi]
 by_cases h : q = i
 ·rw [if_pos ⟨h, by omega, by omega⟩, if_pos h]; rfl
 ·rw [if_neg (by omega), if_neg h]
end Go.Mb
namespace Go.Sy
open Go.RowKit
theorem weak_freeze {B : Nat} {st : St} (t id : Nat) {e c n : Nat} {el : Nat -> Nat -> A} (ht : getA st.tmps t = .own id) (ho : getO st.objs id = .row e c n el) : Weak B st ⟨setL st.tmps t (.sl c n el), setX st.objs id .dead⟩ := by
 intro w0 X a w ρ h
 have hob := h.obj id
 rw [ho] at hob
 have hob2 := hob
 obtain ⟨v, xs, hl, _⟩ := hob2
 let ρ' := upd ρ id .dead
 have hblk : ∀ i b, (ρ' i).block = some b -> i ≠ id /\ (ρ i).block = some b := by
  intro i b hb
  by_cases hid : i = id
  ·subst hid; simp only [ρ', upd_same] at hb; cases hb
  ·simp only [ρ', upd_ne _ _ _ hid] at hb; exact ⟨hid, hb⟩
 have how : ∀ b, owned ρ' b -> owned ρ b := by rintro b ⟨i, hi⟩; exact ⟨i, (hblk i b hi).2⟩
 have hL : Later w w (Ow X ρ) (Ow X ρ') ρ ρ' := ⟨Nat.le_refl _, fun _ _ _ => rfl, fun b _ hb => by
  rcases hb with hb | hb
  ·exact .inl hb
  ·exact .inr (how b hb), fun i => by
  by_cases hid : i = id
  ·subst hid; exact .inr (.inr (upd_same _ _ _))
  ·exact .inl (upd_ne _ _ _ hid)⟩
 refine ⟨ρ', ⟨by simp [length_setL, h.len], fun i => ?_, fun i => ?_, fun i j b hi hj => h.dis i j b (hblk i b hi).2 (hblk j b hj).2, h.kept, fun b hb => h.new b (how b hb), h.old, h.dfr⟩, hL.ltB⟩
 ·simp only [getA_setL]
  split
  ·rename_i hi
   obtain ⟨rfl, _⟩ := hi
   have ht' := h.tmp i
   rw [ht] at ht'
   simp only [R, hl] at ht'
   obtain ⟨hv, _⟩ := ht'
   rw [hv]
   refine row_sl hob hl hL.own (fun b hb => ?_)
   refine ⟨(h.new b ⟨id, hb⟩).2, ?_⟩
   rintro (hx | ⟨j, hj⟩)
   ·have h1 := h.old b hx
    have h2 := (h.new b ⟨id, hb⟩).1
    omega
   ·obtain ⟨h1, h2⟩ := hblk j b hj
    exact h1 (h.dis j id b h2 hb)
  ·exact R.later _ ρ ρ' _ hL (h.tmp i)
 ·simp only [getO_setX]
  by_cases hid : i = id
  ·subst hid
   rw [if_pos rfl]
   exact upd_same _ _ _
  ·rw [if_neg hid]
   simp only [ρ']
   rw [upd_ne _ _ _ hid]
   exact (h.obj i).later hL fun _ _ => rfl
theorem LeA.slLe {c n n' : Nat} {el el' : Nat -> Nat -> A} (hn : n = n') (h : ∀ i, i < n -> ∀ j, j < c -> LeA (el i j) (el' i j)) : LeA (.sl c n el) (.sl c n' el') := fun w O ρ v hr => by
 subst hn
 simp only [R] at hr ⊢
 obtain ⟨a, cap, rfl, h1, h2, h3⟩ := hr
 refine ⟨a, cap, rfl, h1, h2, fun hp => ?_⟩
 obtain ⟨ad, rfl, hi, hc⟩ := h3 hp
 refine ⟨ad, rfl, hi, fun i hin j hj => ?_⟩
 obtain ⟨u, hu1, hu2, hu3⟩ := hc i hin j hj
 exact ⟨u, hu1, hu2, h i hin j hj _ _ _ _ hu3⟩
theorem LeA.kb (b : Bool) : LeA (.kb b) (.bool b) := fun w O ρ v h => by simpa only [R] using h
theorem FnOK.frz {P : Program} {f : FuncId} {args : List A} {e c n : Nat} {el : Nat -> Nat -> A} (h : FnOK P f args (.own 0, some (.row e c n el))) : FnOK P f args (.sl c n el, none) := by
 refine ⟨h.ent, fun w X vs hX hr => (h.run w X vs hX hr).mono ?_⟩
 rintro e' w' ⟨v, l, h1, h2, h3, h4, h5⟩
 refine ⟨v, .virgin, h1, h2, ?_, rfl, fun b hb => by cases hb⟩
 simp only [R, upd_same] at h3
 have h4' := h4
 obtain ⟨v', xs, hl, _⟩ := h4'
 subst hl
 simp only at h3
 obtain ⟨rfl, _⟩ := h3
 refine row_sl h4 rfl (fun _ _ _ => trivial) (fun b hb => ⟨(h5 b hb).2, ?_⟩)
 rintro (hx | hx)
 ·have h1 := hX b hx
  have h2 := (h5 b hb).1
  omega
 ·cases hx
theorem frzP {st : St} (t id n : Nat) {cells : List A} (ht : getA st.tmps t = .ptr id 0) (ho : getO st.objs id = .box cells) (hn : cells.length = n) (hc : allL (closed 5) cells = true) : WeakL st ⟨setL st.tmps t (.ip n (getA cells)), setX st.objs id .dead⟩ := by
 intro w0 X a w ρ h
 subst hn
 have hob := h.obj id
 rw [ho] at hob
 obtain ⟨b, vs, bt, hl, hg, hrc⟩ := hob
 let ρ' := upd ρ id .dead
 have hblk : ∀ i b, (ρ' i).block = some b -> i ≠ id /\ (ρ i).block = some b := by
  intro i b hb
  by_cases hid : i = id
  ·subst hid; simp only [ρ', upd_same] at hb; cases hb
  ·simp only [ρ', upd_ne _ _ _ hid] at hb; exact ⟨hid, hb⟩
 have how : ∀ b, owned ρ' b -> owned ρ b := by rintro b ⟨i, hi⟩; exact ⟨i, (hblk i b hi).2⟩
 have hL : Later w w (Ow X ρ) (Ow X ρ') ρ ρ' := ⟨Nat.le_refl _, fun _ _ _ => rfl, fun b _ hb => by
  rcases hb with hb | hb
  ·exact .inl hb
  ·exact .inr (how b hb), fun i => by
  by_cases hid : i = id
  ·subst hid; exact .inr (.inr (upd_same _ _ _))
  ·exact .inl (upd_ne _ _ _ hid)⟩
 refine ⟨ρ', ⟨by simp [length_setL, h.len], fun i => ?_, fun i => ?_, fun i j b hi hj => h.dis i j b (hblk i b hi).2 (hblk j b hj).2, h.kept, fun b hb => h.new b (how b hb), h.old, h.dfr⟩, hL⟩
 ·simp only [getA_setL]
  split
  ·rename_i hi
   obtain ⟨rfl, _⟩ := hi
   have ht' := h.tmp i
   rw [ht] at ht'
   simp only [R, hl] at ht'
   rw [ht']
   simp only [R]
   refine ⟨_, rfl, fun hp => ⟨⟨(h.new b ⟨id, by rw [hl]; rfl⟩).2, ?_⟩, fun j hj => ?_⟩⟩
   ·rintro (hx | ⟨j, hj⟩)
    ·have h1 := h.old b hx
     have h2 := (h.new b ⟨id, by rw [hl]; rfl⟩).1
     omega
    ·obtain ⟨h1, h2⟩ := hblk j b hj
     exact h1 (h.dis j id b h2 (by rw [hl]; rfl))
   ·have hlt : j < vs.length := by rw [hrc.len]; exact hj
    refine ⟨vs[j], ?_, (R.closed virg 5).1 _ _ (allL_spec hc j hj) (R.later _ ρ ρ _ ⟨Nat.le_refl _, fun _ _ _ => rfl, hL.own, fun _ => .inl rfl⟩ (hrc.get _ _ (List.getElem?_eq_getElem hlt)))⟩
    rw [add_at, Nat.zero_add, cell_of_block hg]
    exact List.getElem?_eq_getElem hlt
  ·exact R.later _ ρ ρ' _ hL (h.tmp i)
 ·simp only [getO_setX]
  by_cases hid : i = id
  ·subst hid
   rw [if_pos rfl]
   exact upd_same _ _ _
  ·rw [if_neg hid]
   simp only [ρ']
   rw [upd_ne _ _ _ hid]
   exact (h.obj i).later hL fun _ _ => rfl
theorem weak_freezeP {B : Nat} {st : St} (t id n : Nat) {cells : List A} (ht : getA st.tmps t = .ptr id 0) (ho : getO st.objs id = .box cells) (hn : cells.length = n) (hc : allL (closed 5) cells = true) : Weak B st ⟨setL st.tmps t (.ip n (getA cells)), setX st.objs id .dead⟩ := (frzP t id n ht ho hn hc).weak
theorem kill_later {w0 w : World} {X : Nat -> Prop} {st : St} {a : Act} {ρ : Nat -> Loc} (id : Nat) : (∀ i b, ((upd ρ id .dead) i).block = some b -> i ≠ id /\ (ρ i).block = some b) /\ Later w w (Ow X ρ) (Ow X (upd ρ id .dead)) ρ (upd ρ id .dead) := by
 have hblk : ∀ i b, ((upd ρ id .dead) i).block = some b -> i ≠ id /\ (ρ i).block = some b := by
  intro i b hb
  by_cases hid : i = id
  ·subst hid; simp only [upd_same] at hb; cases hb
  ·simp only [upd_ne _ _ _ hid] at hb; exact ⟨hid, hb⟩
 refine ⟨hblk, Nat.le_refl _, fun _ _ _ => rfl, fun b _ hb => ?_, fun i => ?_⟩
 ·rcases hb with hb | ⟨i, hi⟩
  ·exact .inl hb
  ·exact .inr ⟨i, (hblk i b hi).2⟩
 ·by_cases hid : i = id
  ·subst hid; exact .inr (.inr (upd_same _ _ _))
  ·exact .inl (upd_ne _ _ _ hid)
theorem expo_one {w0 w : World} {X : Nat -> Prop} {st : St} {a : Act} {ρ : Nat -> Loc} (h : Rel w0 X st a w ρ) (id n : Nat) (hn : Nat.ble (lenO st.objs) n = true) {x x' : A} {v : Value} (hr : R w (Ow X ρ) x ρ v) (he : expo (keepO [id] st.objs n 0) 5 x = some x') : R w (Ow X (upd ρ id .dead)) x' (upd ρ id .dead) v := by
 obtain ⟨hblk, hL⟩ := kill_later (w0 := w0) (w := w) (X := X) (st := st) (a := a) (ρ := ρ) id
 have hlen := len_le_of hn
 have := (expo_sound (O' := Ow X (upd ρ id .dead)) (fun i => ?_) hL.own (fun i b hi hb => ?_) 5).1 x x' v hr he
 ·exact R.later _ virg _ v ⟨Nat.le_refl _, fun _ _ _ => rfl, fun _ _ h => h, fun _ => .inr (.inl rfl)⟩ this
 ·rw [getO_keep, Nat.zero_add]
  by_cases hi : i < n
  ·rw [if_pos hi]
   split
   ·exact .inr (h.obj i)
   ·exact .inl rfl
  ·rw [if_neg hi]
   have := h.obj i
   rw [len_virgin st.objs i (by omega)] at this
   exact .inr this
 ·have hid : i = id := by
   rw [getO_keep, Nat.zero_add] at hi
   by_cases hin : i < n
   ·rw [if_pos hin] at hi
    by_cases hm : memN [id] i = true
    ·simp only [memN] at hm
     cases hq : Nat.beq id i with
     | true => exact (Nat.eq_of_beq_eq_true hq).symm
     | false => rw [hq] at hm; cases hm
    ·rw [if_neg hm] at hi; exact absurd rfl hi
   ·have := h.obj i
    rw [len_virgin st.objs i (by omega)] at this
    have hv : ρ i = .virgin := this
    rw [hv] at hb; cases hb
  subst hid
  have hw := h.new b ⟨i, hb⟩
  refine ⟨hw.2, ?_⟩
  rintro (hx | ⟨j, hj⟩)
  ·have := h.old b hx; omega
  ·obtain ⟨h1, h2⟩ := hblk j b hj
   exact h1 (h.dis j i b h2 hb)
theorem frzX {st : St} (t id n : Nat) {x' : A} (hn : Nat.ble (lenO st.objs) n = true) (he : expo (keepO [id] st.objs n 0) 5 (getA st.tmps t) = some x') : WeakL st ⟨setL st.tmps t x', setX st.objs id .dead⟩ := by
 intro w0 X a w ρ h
 obtain ⟨hblk, hL⟩ := kill_later (w0 := w0) (w := w) (X := X) (st := st) (a := a) (ρ := ρ) id
 refine ⟨upd ρ id .dead, ⟨by simp [length_setL, h.len], fun i => ?_, fun i => ?_, fun i j b hi hj => h.dis i j b (hblk i b hi).2 (hblk j b hj).2, h.kept, fun b hb => ?_, h.old, h.dfr⟩, hL⟩
 ·simp only [getA_setL]
  split
  ·rename_i hi
   obtain ⟨rfl, _⟩ := hi
   exact expo_one h id n hn (h.tmp i) he
  ·exact R.later _ ρ _ _ hL (h.tmp i)
 ·simp only [getO_setX]
  by_cases hid : i = id
  ·subst hid
   rw [if_pos rfl]
   exact upd_same _ _ _
  ·rw [if_neg hid, upd_ne _ _ _ hid]
   exact (h.obj i).later hL fun _ _ => rfl
 ·obtain ⟨i, hi⟩ := hb
  exact h.new b ⟨i, (hblk i b hi).2⟩
theorem frzXB {st : St} (b i id n : Nat) {cells : List A} {x' : A} (hn : Nat.ble (lenO st.objs) n = true) (hb : getO st.objs b = .box cells) (hne : b ≠ id) (he : expo (keepO [id] st.objs n 0) 5 (getA cells i) = some x') : WeakL st ⟨st.tmps, setX (setX st.objs id .dead) b (.box (setL cells i x'))⟩ := by
 intro w0 X a w ρ h
 obtain ⟨hblk, hL⟩ := kill_later (w0 := w0) (w := w) (X := X) (st := st) (a := a) (ρ := ρ) id
 refine ⟨upd ρ id .dead, ⟨h.len, fun i => R.later _ ρ _ _ hL (h.tmp i), fun k => ?_, fun i j b hi hj => h.dis i j b (hblk i b hi).2 (hblk j b hj).2, h.kept, fun b hb => ?_, h.old, h.dfr⟩, hL⟩
 ·simp only [getO_setX]
  by_cases hk : k = b
  ·subst hk
   rw [if_pos rfl, upd_ne _ _ _ hne]
   have hbo := h.obj k
   rw [hb] at hbo
   obtain ⟨bb, vs, t, h1, h2, h3⟩ := hbo
   exact ⟨bb, vs, t, h1, h2, RL_setL i (RL.later _ _ _ _ hL h3) fun u hu => expo_one h id n hn (h3.get i u hu) he⟩
  ·rw [if_neg hk]
   by_cases hid : k = id
   ·subst hid
    rw [if_pos rfl]
    exact upd_same _ _ _
   ·rw [if_neg hid, upd_ne _ _ _ hid]
    exact (h.obj k).later hL fun _ _ => rfl
 ·obtain ⟨i, hi⟩ := hb
  exact h.new b ⟨i, (hblk i b hi).2⟩
theorem moveB {st : St} (b i id id' : Nat) {cells : List A} {e c n : Nat} {el : Nat -> Nat -> A} (hb : getO st.objs b = .box cells) (hi : getA cells i = .own id) (ho : getO st.objs id = .row e c n el) (hv : getO st.objs id' = .virgin) : WeakL st ⟨st.tmps, setX (setX (setX st.objs id .dead) id' (.row e c n el)) b (.box (setL cells i (.own id')))⟩ := by
 intro w0 X a w ρ h
 have hne : id ≠ id' := by intro e1; subst e1; rw [ho] at hv; cases hv
 have hbi : b ≠ id := by intro e1; subst e1; rw [ho] at hb; cases hb
 have hbi' : b ≠ id' := by intro e1; subst e1; rw [hv] at hb; cases hb
 have hob := h.obj id
 rw [ho] at hob
 have hvi := h.obj id'
 rw [hv] at hvi
 have hvi : ρ id' = .virgin := hvi
 let ρ' := upd (upd ρ id .dead) id' (ρ id)
 have r1 : ρ' id' = ρ id := upd_same _ _ _
 have r2 : ρ' id = .dead := by simp only [ρ']; rw [upd_ne _ _ _ hne, upd_same]
 have r3 : ∀ i, i ≠ id -> i ≠ id' -> ρ' i = ρ i := fun i h1 h2 => by simp only [ρ']; rw [upd_ne _ _ _ h2, upd_ne _ _ _ h1]
 have hblk : ∀ i b, (ρ' i).block = some b -> (i = id' /\ (ρ id).block = some b) \/ (i ≠ id /\ i ≠ id' /\ (ρ i).block = some b) := by
  intro i b hb
  by_cases h2 : i = id'
  ·subst h2; rw [r1] at hb; exact .inl ⟨rfl, hb⟩
  ·by_cases h1 : i = id
   ·subst h1; rw [r2] at hb; cases hb
   ·rw [r3 i h1 h2] at hb; exact .inr ⟨h1, h2, hb⟩
 have how : ∀ b, owned ρ' b -> owned ρ b := by
  rintro b ⟨i, hi⟩
  rcases hblk i b hi with ⟨_, h1⟩ | ⟨_, _, h1⟩
  ·exact ⟨_, h1⟩
  ·exact ⟨_, h1⟩
 have hL : Later w w (Ow X ρ) (Ow X ρ') ρ ρ' := ⟨Nat.le_refl _, fun _ _ _ => rfl, fun b _ hb => by
  rcases hb with hb | hb
  ·exact .inl hb
  ·exact .inr (how b hb), fun i => by
  by_cases h1 : i = id
  ·subst h1; exact .inr (.inr r2)
  ·by_cases h2 : i = id'
   ·subst h2; exact .inr (.inl hvi)
   ·exact .inl (r3 i h1 h2)⟩
 refine ⟨ρ', ⟨h.len, fun i => R.later _ ρ ρ' _ hL (h.tmp i), fun k => ?_, fun i j b hi hj => ?_, h.kept, fun b hb => h.new b (how b hb), h.old, h.dfr⟩, hL⟩
 ·simp only [getO_setX]
  by_cases hk : k = b
  ·subst hk
   rw [if_pos rfl, r3 k hbi hbi']
   have hbo := h.obj k
   rw [hb] at hbo
   obtain ⟨bb, vs, t, h1, h2, h3⟩ := hbo
   refine ⟨bb, vs, t, h1, h2, RL_setL i (RL.later _ _ _ _ hL h3) fun u hu => ?_⟩
   have ht' := h3.get i u hu
   rw [hi] at ht'
   obtain ⟨v, xs, hl, _⟩ := hob
   simp only [R, hl] at ht'
   simp only [R, r1, hl]
   exact ht'
  ·rw [if_neg hk]
   by_cases h2 : k = id'
   ·subst h2
    rw [if_pos rfl, r1]
    obtain ⟨v, xs, hl, h3, h4, h5⟩ := hob
    refine ⟨v, xs, hl, h3, h4, fun p hp q hq => ?_⟩
    obtain ⟨u, h6, h7⟩ := h5 p hp q hq
    exact ⟨u, h6, R.later _ _ _ _ hL.virg h7⟩
   ·rw [if_neg h2]
    by_cases h1 : k = id
    ·subst h1
     rw [if_pos rfl]
     exact r2
    ·rw [if_neg h1, r3 k h1 h2]
     exact (h.obj k).later hL fun _ _ => rfl
 ·rcases hblk i b hi with ⟨h1, h2⟩ | ⟨h1, h2, h3⟩ <;> rcases hblk j b hj with ⟨k1, k2⟩ | ⟨k1, k2, k3⟩
  ·rw [h1, k1]
  ·exact absurd (h.dis _ _ b h2 k3) (Ne.symm k1)
  ·exact absurd (h.dis _ _ b k2 h3) (Ne.symm h1)
  ·exact h.dis i j b h3 k3
def cutK (keys : List Nat) (objs : List Ob) : Nat -> Nat -> List Ob
 | 0, _ => []
 | B + 1, i => (match keys.contains i with | true => .dead | false => getO objs i) :: cutK keys objs B (i + 1)
theorem cutK_get {keys : List Nat} {a b : List Ob} : ∀ {B i : Nat}, cutK keys a B i = cutK keys b B i -> ∀ k, k < B -> keys.contains (i + k) = true \/ getO a (i + k) = getO b (i + k)
 | 0, _, _, k, hk => absurd hk (Nat.not_lt_zero _)
 | B + 1, i, h, k, hk => by
  simp only [cutK, List.cons.injEq] at h
  cases k with
  | zero =>
   cases hc : keys.contains i with
   | true => exact .inl rfl
   | false =>
    have := h.1
    rw [hc] at this
    exact .inr this
  | succ k =>
   have := cutK_get h.2 k (by omega)
   rwa [show i + 1 + k = i + (k + 1) by omega] at this
theorem Pre_of {keys : List Nat} {objs : List Ob} : ∀ {B i : Nat} {l : List Ob}, (∀ k, k < B -> keys.contains (i + k) = true \/ getO objs (i + k) = getO l k) -> Pre keys objs B i l
 | 0, _, _, _ => trivial
 | B + 1, i, [], h => ⟨by have := h 0 (by omega); simpa [getO] using this, Pre_of fun k hk => by
   have := h (k + 1) (by omega)
   rw [show i + (k + 1) = i + 1 + k by omega] at this
   simpa [getO] using this⟩
 | B + 1, i, o :: l, h => ⟨by have := h 0 (by omega); simpa [getO] using this, Pre_of fun k hk => by
   have := h (k + 1) (by omega)
   rw [show i + (k + 1) = i + 1 + k by omega] at this
   simpa [getO] using this⟩
theorem Pre_cut {keys : List Nat} {objs objs0 : List Ob} {B : Nat} (h : cutK keys objs B 0 = cutK keys objs0 B 0) : Pre keys objs B 0 objs0 :=
 Pre_of fun k hk => by
  have := cutK_get h k hk
  rwa [Nat.zero_add] at this ⊢
end Go.Sy
namespace Go.Mb
open Go.Sy
section
variable {α : Type} [Inhabited α]
end
structure Nid where
 source : Int
 created : Int
 seq : Int
 off : Int
 total : Int
structure Itm where
 ticket : Int
 id : Nid
 dest : Int
 expires : Int
 prio : Int
 custody : Bool
 data : ByteArray
structure Jrec where
 kind : Int
 item : Itm
 id : Nid
 ticket : Int
 time : Int
structure Dur where
 items : List Itm
 inbox : List Itm
def Nid.zero : Nid := ⟨0, 0, 0, 0, 0⟩
def Itm.zero : Itm := ⟨0, .zero, 0, 0, 0, false, ⟨#[]⟩⟩
def Jrec.zero : Jrec := ⟨0, .zero, .zero, 0, 0⟩
instance : Inhabited Nid := ⟨.zero⟩
instance : Inhabited Itm := ⟨.zero⟩
instance : Inhabited Jrec := ⟨.zero⟩
def Nid.cells (x : Nid) : List A := [.int .i64 x.source, .int .i64 x.created, .int .i64 x.seq, .int .i64 x.off, .int .i64 x.total]
def Itm.cells (x : Itm) : List A := [.int .i64 x.ticket, .int .i64 x.id.source, .int .i64 x.id.created, .int .i64 x.id.seq, .int .i64 x.id.off, .int .i64 x.id.total, .int .i64 x.dest, .int .i64 x.expires, .int .i64 x.prio, .bool x.custody, .str x.data]
def Jrec.cells (x : Jrec) : List A := [.int .i64 x.kind, .int .i64 x.item.ticket, .int .i64 x.item.id.source, .int .i64 x.item.id.created, .int .i64 x.item.id.seq, .int .i64 x.item.id.off, .int .i64 x.item.id.total, .int .i64 x.item.dest, .int .i64 x.item.expires, .int .i64 x.item.prio, .bool x.item.custody, .str x.item.data,
 .int .i64 x.id.source, .int .i64 x.id.created, .int .i64 x.id.seq, .int .i64 x.id.off, .int .i64 x.id.total, .int .i64 x.ticket, .int .i64 x.time]
def slI (l : List Itm) : A := .sl 11 l.length (rowL Itm.cells l)
def slR (l : List Jrec) : A := .sl 19 l.length (rowL Jrec.cells l)
def Dur.cells (d : Dur) : List A := [slI d.items, slI d.inbox]
def Nid.eqv (a b : Nid) : Bool := a.source == b.source && (a.created == b.created && (a.seq == b.seq && (a.off == b.off && (a.total == b.total && true))))
def Itm.eqv (a b : Itm) : Bool := a.ticket == b.ticket && (a.id.source == b.id.source && (a.id.created == b.id.created && (a.id.seq == b.id.seq && (a.id.off == b.id.off && (a.id.total == b.id.total && (a.dest == b.dest && (a.expires == b.expires && (a.prio == b.prio && (a.custody == b.custody && (a.data.toList == b.data.toList && true))))))))))
def Jrec.eqv (a b : Jrec) : Bool := a.kind == b.kind && (a.item.ticket == b.item.ticket && (a.item.id.source == b.item.id.source && (a.item.id.created == b.item.id.created && (a.item.id.seq == b.item.id.seq && (a.item.id.off == b.item.id.off && (a.item.id.total == b.item.id.total && (a.item.dest == b.item.dest && (a.item.expires == b.item.expires && (a.item.prio == b.item.prio && (a.item.custody == b.item.custody && (a.item.data.toList == b.item.data.toList && (a.id.source == b.id.source && (a.id.created == b.id.created && (a.id.seq == b.id.seq && (a.id.off == b.id.off && (a.id.total == b.id.total && (a.ticket == b.ticket && (a.time == b.time && true))))))))))))))))))
theorem Nid.eqv_iff {a b : Nid} : a.eqv b = true ↔ a = b := by
 cases a; cases b; simp [Nid.eqv]
theorem Itm.eqv_iff {a b : Itm} : a.eqv b = true ↔ a = b := by
 obtain ⟨t, ⟨i1, i2, i3, i4, i5⟩, d, e, p, c, x⟩ := a
 obtain ⟨t', ⟨i1', i2', i3', i4', i5'⟩, d', e', p', c', x'⟩ := b
 simp only [Itm.eqv, Bool.and_eq_true, beq_iff_eq, ba_inj, Itm.mk.injEq, Nid.mk.injEq, and_true]
 constructor
 ·rintro ⟨h1, h2, h3, h4, h5, h6, h7, h8, h9, h10, h11⟩; exact ⟨h1, ⟨h2, h3, h4, h5, h6⟩, h7, h8, h9, h10, h11⟩
 ·rintro ⟨h1, ⟨h2, h3, h4, h5, h6⟩, h7, h8, h9, h10, h11⟩; exact ⟨h1, h2, h3, h4, h5, h6, h7, h8, h9, h10, h11⟩
theorem Jrec.eqv_iff {a b : Jrec} : a.eqv b = true ↔ a = b := by
 obtain ⟨k, ⟨t, ⟨i1, i2, i3, i4, i5⟩, d, e, p, c, x⟩, ⟨j1, j2, j3, j4, j5⟩, tk, tm⟩ := a
 obtain ⟨k', ⟨t', ⟨i1', i2', i3', i4', i5'⟩, d', e', p', c', x'⟩, ⟨j1', j2', j3', j4', j5'⟩, tk', tm'⟩ := b
 simp only [Jrec.eqv, Bool.and_eq_true, beq_iff_eq, ba_inj, Jrec.mk.injEq, Itm.mk.injEq, Nid.mk.injEq, and_true]
 constructor
 ·rintro ⟨h0, h1, h2, h3, h4, h5, h6, h7, h8, h9, h10, h11, g1, g2, g3, g4, g5, g6, g7⟩; exact ⟨h0, ⟨h1, ⟨h2, h3, h4, h5, h6⟩, h7, h8, h9, h10, h11⟩, ⟨g1, g2, g3, g4, g5⟩, g6, g7⟩
 ·rintro ⟨h0, ⟨h1, ⟨h2, h3, h4, h5, h6⟩, h7, h8, h9, h10, h11⟩, ⟨g1, g2, g3, g4, g5⟩, g6, g7⟩; exact ⟨h0, h1, h2, h3, h4, h5, h6, h7, h8, h9, h10, h11, g1, g2, g3, g4, g5, g6, g7⟩
def validId (x : Nid) : Bool :=
 inR x.source 0 15 && inR x.created 0 1099511627776 && inR x.seq 0 1099511627776 && ((x.off == 0 && x.total == 0) || (inR x.total 1 4096 && inR x.off 0 (IntKind.i64.wrap (x.total - 1))))
def itemErr (x : Itm) : Int :=
 if validId x.id && inR x.ticket 0 1152921504606846976 && inR x.dest 0 15 && inR x.expires 1 1099511627776 && inR x.prio 0 2 then (if inR x.data.size 1 65536 then 0 else 4) else 2
def recErr (r : Jrec) : Int :=
 if inR r.kind 1 4 then
  (if inR r.time 0 1099511627776 then
   (if r.kind == 1 || r.kind == 3 then
    (if itemErr r.item != 0 then itemErr r.item else if !r.id.eqv .zero || r.ticket != 0 then 1 else 0)
   else if !validId r.id || (r.kind == 4 && !inR r.ticket 0 1152921504606846976) then 2
   else if !r.item.eqv .zero || (r.kind == 2 && r.ticket != 0) then 1 else 0)
  else 2)
 else 8
end Go.Mb
namespace Go.Mb
open Go.Sy
abbrev slItm (l : List Itm) : A := slI l
instance : Inhabited Dur := ⟨⟨[], []⟩⟩
structure Ofr where
 id : Nid
 contact : Int
 due : Int
 tries : Int
instance : Inhabited Ofr := ⟨⟨default, 0, 0, 0⟩⟩
def Ofr.cells (x : Ofr) : List A := [.int .i64 x.id.source, .int .i64 x.id.created, .int .i64 x.id.seq, .int .i64 x.id.off, .int .i64 x.id.total, .int .i64 x.contact, .int .i64 x.due, .int .i64 x.tries]
def slOfr (l : List Ofr) : A := .sl 8 l.length (rowL Ofr.cells l)
def Ofr.eqv (a b : Ofr) : Bool := a.id.source == b.id.source && (a.id.created == b.id.created && (a.id.seq == b.id.seq && (a.id.off == b.id.off && (a.id.total == b.id.total && (a.contact == b.contact && (a.due == b.due && (a.tries == b.tries && true)))))))
theorem Ofr.eqv_iff {a b : Ofr} : a.eqv b = true ↔ a = b := by
 obtain ⟨⟨_, _, _, _, _⟩, _, _, _⟩ := a
 obtain ⟨⟨_, _, _, _, _⟩, _, _, _⟩ := b
 simp [Ofr.eqv, and_assoc]
theorem flatOfr (l : List Ofr) (i j : Nat) : flat 3 (rowL Ofr.cells l i j) = true := flat_getA rfl j
structure Nod where
 self : Int
 quota : Int
 up : Bool
 jour : ByteArray
 last : Int
 dur : Dur
 ofs : List Ofr
instance : Inhabited Nod := ⟨⟨0, 0, false, .empty, 0, default, []⟩⟩
def Nod.cells (x : Nod) : List A := [.int .i64 x.self, .int .i64 x.quota, .bool x.up, .str x.jour, .int .i64 x.last, slItm x.dur.items, slItm x.dur.inbox, slOfr x.ofs]
theorem renNod (σ : Nat -> Nat) (x : Nod) : RenL σ x.cells x.cells := ⟨_, _, rfl, rfl, _, _, rfl, rfl, _, _, rfl, .inl rfl, _, _, rfl, rfl, _, _, rfl, rfl, _, _, rfl, rfl, _, _, rfl, rfl, _, _, rfl, rfl, rfl⟩
structure Evt where
 kind : Int
 time : Int
 item : Itm
 id : Nid
 contact : Int
 due : Int
 acc : Bool
 ticket : Int
instance : Inhabited Evt := ⟨⟨0, 0, default, default, 0, 0, false, 0⟩⟩
def Evt.cells (x : Evt) : List A := [.int .i64 x.kind, .int .i64 x.time, .int .i64 x.item.ticket, .int .i64 x.item.id.source, .int .i64 x.item.id.created, .int .i64 x.item.id.seq, .int .i64 x.item.id.off, .int .i64 x.item.id.total, .int .i64 x.item.dest, .int .i64 x.item.expires, .int .i64 x.item.prio, .bool x.item.custody, .str x.item.data, .int .i64 x.id.source, .int .i64 x.id.created, .int .i64 x.id.seq, .int .i64 x.id.off, .int .i64 x.id.total, .int .i64 x.contact, .int .i64 x.due, .bool x.acc, .int .i64 x.ticket]
def Evt.eqv (a b : Evt) : Bool := a.kind == b.kind && (a.time == b.time && (a.item.ticket == b.item.ticket && (a.item.id.source == b.item.id.source && (a.item.id.created == b.item.id.created && (a.item.id.seq == b.item.id.seq && (a.item.id.off == b.item.id.off && (a.item.id.total == b.item.id.total && (a.item.dest == b.item.dest && (a.item.expires == b.item.expires && (a.item.prio == b.item.prio && (a.item.custody == b.item.custody && (a.item.data.toList == b.item.data.toList && (a.id.source == b.id.source && (a.id.created == b.id.created && (a.id.seq == b.id.seq && (a.id.off == b.id.off && (a.id.total == b.id.total && (a.contact == b.contact && (a.due == b.due && (a.acc == b.acc && (a.ticket == b.ticket && true)))))))))))))))))))))
theorem Evt.eqv_iff {a b : Evt} : a.eqv b = true ↔ a = b := by
 obtain ⟨_, _, ⟨_, ⟨_, _, _, _, _⟩, _, _, _, _, _⟩, ⟨_, _, _, _, _⟩, _, _, _, _⟩ := a
 obtain ⟨_, _, ⟨_, ⟨_, _, _, _, _⟩, _, _, _, _, _⟩, ⟨_, _, _, _, _⟩, _, _, _, _⟩ := b
 simp [Evt.eqv, ba_inj, and_assoc]
structure Act where
 kind : Int
 item : Itm
 contact : Int
 value : Int
instance : Inhabited Act := ⟨⟨0, default, 0, 0⟩⟩
def Act.cells (x : Act) : List A := [.int .i64 x.kind, .int .i64 x.item.ticket, .int .i64 x.item.id.source, .int .i64 x.item.id.created, .int .i64 x.item.id.seq, .int .i64 x.item.id.off, .int .i64 x.item.id.total, .int .i64 x.item.dest, .int .i64 x.item.expires, .int .i64 x.item.prio, .bool x.item.custody, .str x.item.data, .int .i64 x.contact, .int .i64 x.value]
def slAct (l : List Act) : A := .sl 14 l.length (rowL Act.cells l)
def Act.eqv (a b : Act) : Bool := a.kind == b.kind && (a.item.ticket == b.item.ticket && (a.item.id.source == b.item.id.source && (a.item.id.created == b.item.id.created && (a.item.id.seq == b.item.id.seq && (a.item.id.off == b.item.id.off && (a.item.id.total == b.item.id.total && (a.item.dest == b.item.dest && (a.item.expires == b.item.expires && (a.item.prio == b.item.prio && (a.item.custody == b.item.custody && (a.item.data.toList == b.item.data.toList && (a.contact == b.contact && (a.value == b.value && true)))))))))))))
theorem Act.eqv_iff {a b : Act} : a.eqv b = true ↔ a = b := by
 obtain ⟨_, ⟨_, ⟨_, _, _, _, _⟩, _, _, _, _, _⟩, _, _⟩ := a
 obtain ⟨_, ⟨_, ⟨_, _, _, _, _⟩, _, _, _, _, _⟩, _, _⟩ := b
 simp [Act.eqv, ba_inj, and_assoc]
end Go.Mb
namespace Go.Mb
open Go.Sy
def hasId (id : Nid) (x : Itm) : Bool := x.id.eqv id
theorem hasId_self (x : Itm) : hasId x.id x = true := Nid.eqv_iff.2 rfl
def okItem (x : Itm) : Bool := itemErr x == 0
def badItem (x : Itm) : Bool := !okItem x
theorem recErr_store (x : Itm) : (recErr ⟨1, x, .zero, 0, 0⟩ == 0) = okItem x := by
 unfold recErr okItem
 have h1 : inR 1 1 4 = true := rfl
 have h2 : inR 0 0 1099511627776 = true := rfl
 have h3 : Nid.zero.eqv Nid.zero = true := rfl
 simp only [h1, h2, h3, if_true]
 by_cases h : itemErr x = 0
 ·simp [h]
 ·have : (itemErr x != 0) = true := by simpa using h
  simp [this]
def twiceM (l : List Itm) : Bool := (List.range l.length).any fun i => idx (hasId (l.getD i default).id) l != (i : Int)
theorem idx_le {p : Itm -> Bool} {l : List Itm} {k : Nat} (h : k < l.length) (hp : p (l.getD k default) = true) : 0 <= idx p l /\ idx p l <= k := by
 rcases idx_cases p l with ⟨_, h2⟩ | ⟨m, hm, e, _, h3⟩
 ·have := h2 (l.getD k default) (by rw [getD_lt h]; exact List.getElem_mem h)
  rw [hp] at this; cases this
 ·rw [e]
  refine ⟨by omega, ?_⟩
  rcases Nat.lt_or_ge k m with hlt | hge
  ·have := h3 k hlt; rw [hp] at this; cases this
  ·omega
theorem twice_t {l : List Itm} {k : Nat} (h : k < l.length) (hn : idx (hasId (l.getD k default).id) l ≠ k) : twiceM l = true := by
 unfold twiceM
 rw [List.any_eq_true]
 exact ⟨k, List.mem_range.2 h, by simpa using hn⟩
theorem twice_f {l : List Itm} (hn : ∀ k, k < l.length -> idx (hasId (l.getD k default).id) l = k) : twiceM l = false := by
 unfold twiceM
 rw [List.any_eq_false]
 intro i hi
 rw [List.mem_range] at hi
 rw [hn i hi]; simp
def usedM (l : List Itm) : Int := l.foldl (fun n x => IntKind.i64.wrap (n + (x.data.size : Int))) 0
theorem used_snoc (l : List Itm) (x : Itm) : usedM (l ++ [x]) = IntKind.i64.wrap (usedM l + (x.data.size : Int)) := by simp [usedM]
def checkM (d : Dur) : Int := if d.items.any badItem || d.inbox.any badItem then 1 else if twiceM d.items || twiceM d.inbox then 6 else 0
def validM (d : Dur) : Bool := d.items.all okItem && d.inbox.all okItem && !twiceM d.items && !twiceM d.inbox
theorem valid_check (d : Dur) : validM d = (checkM d == 0) := by
 have h1 : ∀ l : List Itm, l.any badItem = !l.all okItem := by
  intro l; rw [Bool.eq_iff_iff]; simp [badItem]
 unfold validM checkM
 rw [h1, h1]
 cases d.items.all okItem <;> cases d.inbox.all okItem <;> cases twiceM d.items <;> cases twiceM d.inbox <;> rfl
def checkQ (d : Dur) (quota : Int) : Int := if inR quota 0 1073741824 then (if checkM d != 0 then checkM d else if usedM d.items > quota then 15 else 0) else 2
def putM (d : Dur) (self quota : Int) (x : Itm) (now : Int) : List Jrec × Int × Int :=
 if checkM d != 0 || !okItem x then ([], 0, 1)
 else if !(decide (0 <= self) && decide (self < 16) && inR quota 0 1073741824 && inR now 0 1099511627776) then ([], 0, 2)
 else if x.expires <= now then ([], 5, 0)
 else if 0 <= idx (hasId x.id) d.items \/ 0 <= idx (hasId x.id) d.inbox then ([], 3, 0)
 else if x.dest = self then ([⟨3, x, .zero, 0, now⟩], 2, 0)
 else if IntKind.i64.wrap (usedM d.items + (x.data.size : Int)) > quota then ([], 4, 0)
 else ([⟨1, x, .zero, 0, now⟩], 1, 0)
def expRec (now : Int) (x : Itm) : List Jrec := if x.expires <= now then [⟨2, .zero, x.id, 0, now⟩] else []
def expRecs (now : Int) (l : List Itm) : List Jrec := l.flatMap (expRec now)
theorem expRecs_snoc (now : Int) (l : List Itm) (x : Itm) : expRecs now (l ++ [x]) = expRecs now l ++ expRec now x := by simp [expRecs]
theorem expRecs_len (now : Int) (l : List Itm) : (expRecs now l).length <= l.length := by
 induction l with
 | nil => simp [expRecs]
 | cons x l ih =>
  simp only [expRecs, List.flatMap_cons, List.length_append] at ih ⊢
  have : (expRec now x).length <= 1 := by unfold expRec; split <;> simp
  simp only [List.length_cons]; omega
def expireM (d : Dur) (now : Int) : List Jrec × Int :=
 if checkM d != 0 then ([], 1)
 else if !inR now 0 1099511627776 then ([], 2)
 else (expRecs now d.items, 0)
end Go.Mb
