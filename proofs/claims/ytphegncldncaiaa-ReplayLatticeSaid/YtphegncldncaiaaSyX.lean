/- The rules by which a walk goes from node to node. -/
import Derived.Test.YtphegncldncaiaaSyMs
import Derived.Test.YtphegncldncaiaaSyEq
set_option linter.unusedSimpArgs false
set_option linter.unusedSectionVars false
set_option linter.unusedVariables false
namespace Go.Sy
open Go.RowKit
set_option linter.unusedVariables false

structure Cx where
  E : Env
  inl : List FuncId
  ok : EqOK E

def fuel : Nat := 100000

/-- The next node. -/
def nx (C : Cx) (t : OT) (s : List It) (fr : Fr) : Nd := adv C.E C.inl 100000 t s fr
def Sat (C : Cx) (Q : Ex → St → Prop) (t : OT) (s : List It) (fr : Fr) : Prop := SatM C.E Q t s fr

section
variable {C : Cx} {Q : Ex → St → Prop} {t : OT} {s : List It} {fr : Fr}

theorem Sat.of {nd : Nd} (h : nx C t s fr = nd) (hn : NdSat C.E Q nd) : Sat C Q t s fr := adv_sound C.ok _ t s fr (by rw [← h] at hn; exact hn)

/-- The node, worked out. -/
def isV : Nd → Nd → Prop
  | .done e st, x => x = .done e st
  | .ite b t s t' s' fr, x => x = .ite b t s t' s' fr
  | .both t s t' s' fr, x => x = .both t s t' s' fr
  | .chk b t s fr, x => x = .chk b t s fr
  | .fail, x => x = .fail
  | .loop body st s fr, x => x = .loop body st s fr
  | .call f vals cl kn st dst s fr, x => x = .call f vals cl kn st dst s fr
  | .mut f args kn st dst s fr, x => x = .mut f args kn st dst s fr
theorem isV_eq {a b : Nd} (h : isV a b) : a = b := by cases a <;> exact h.symm
def NS (C : Cx) (Q : Ex → St → Prop) (nd : Nd) : Prop := NdSat C.E Q nd

/-- ONE STEP: 'refine Sat.go (Eq.refl _) ?_'. -/
theorem Sat.go {nd : Nd} (h : isV (nx C t s fr) nd) (hn : NS C Q nd) : Sat C Q t s fr := Sat.of (isV_eq h) hn

theorem NS.ite {b : Bool} {t1 t2 : OT} {s1 s2 : List It} (h1 : b = true → Sat C Q t1 s1 fr) (h2 : b = false → Sat C Q t2 s2 fr) : NS C Q (.ite b t1 s1 t2 s2 fr) := ⟨h1, h2⟩
theorem NS.need {b : Bool} {t1 : OT} {s1 s2 : List It} (hb : b = true) (h1 : Sat C Q t1 s1 fr) : NS C Q (.ite b t1 s1 .fail s2 fr) := ⟨fun _ => h1, fun e => by rw [hb] at e; cases e⟩
/-- The test is known to be true, or false. -/
theorem NS.yes {b : Bool} {t1 t2 : OT} {s1 s2 : List It} (hb : b = true) (h1 : Sat C Q t1 s1 fr) : NS C Q (.ite b t1 s1 t2 s2 fr) := ⟨fun _ => h1, fun e => by rw [hb] at e; cases e⟩
theorem NS.no {b : Bool} {t1 t2 : OT} {s1 s2 : List It} (hb : b = false) (h1 : Sat C Q t2 s2 fr) : NS C Q (.ite b t1 s1 t2 s2 fr) := ⟨(fun e => by rw [hb] at e; cases e), fun _ => h1⟩
theorem NS.both {t1 t2 : OT} {s1 s2 : List It} (h1 : Sat C Q t1 s1 fr) (h2 : Sat C Q t2 s2 fr) : NS C Q (.both t1 s1 t2 s2 fr) := ⟨h1, h2⟩
theorem NS.chk {b : Bool} {t1 : OT} {s1 : List It} (hb : b = true) (h1 : Sat C Q t1 s1 fr) : NS C Q (.chk b t1 s1 fr) := ⟨hb, h1⟩
theorem NS.call {g : FuncId} {vals : List A} {cl : Bool} {kn : List (Nat × Bool)} {st : St} {dst : Option Tmp} {P : Program} {r : A × Option Ob} (hf : FnOK P g vals r) (hP : C.E.P = P) (h1 : Sat C Q (resume fr.base kn st dst cl r) s fr) : NS C Q (.call g vals cl kn st dst s fr) := ⟨r, hP ▸ hf, h1⟩
/-- A call that changes row id: 'refine NS.mut id (Eq.refl _) rfl (contract) rfl fun ob r h => ?_'. -/
theorem NS.mut {g : FuncId} {args vals : List A} {kn : List (Nat × Bool)} {st : St} {dst : Option Tmp} {P : Program} {e : TypeId} {c n : Nat} {el : Nat → Nat → A} {post : Ob → A → Prop} (id : Nat) (ho : getO st.objs id = .row e c n el) (hv : expoM id (setX st.objs id .dead) args = some vals) (hf : FnMu P g vals (.row e c n el) post) (hP : C.E.P = P)
    (h1 : ∀ ob' r, post ob' r → Sat C Q (setO st.objs id ob' fun os => putK ⟨st.tmps, os⟩ dst (ren 0 id 6 r) (endK kn dst)) s fr) : NS C Q (.mut g args kn st dst s fr) := ⟨id, e, c, n, el, vals, post, ho, hv, hP ▸ hf, h1⟩
theorem FnOK.le {P : Program} {f : FuncId} {args args' : List A} {r : A × Option Ob} (h : FnOK P f args' r) (hle : LeL args args') : FnOK P f args r := ⟨h.ent, fun w X vs hX hr => h.run w X vs hX (hle _ _ _ _ hr)⟩
theorem FnOK.res {P : Program} {f : FuncId} {args : List A} {a b : A} {o : Option Ob} (h : FnOK P f args (a, o)) (hle : LeA a b) : FnOK P f args (b, o) := ⟨h.ent, fun w X vs hX hr => (h.run w X vs hX hr).mono fun e w' ⟨v, l, h1, h2, h3, h4⟩ => ⟨v, l, h1, h2, hle _ _ _ _ h3, h4⟩⟩
theorem NS.done {e : Ex} {st : St} (hq : Q e st) : NS C Q (.done e st) := hq
/-- A weaker state, at any place. -/
theorem Sat.wk {kn : List (Nat × Bool)} {st st' : St} {c : Code} (hw : Weak fr.base st st') (h : Sat C Q (forceSt st' fun st => .more [] st) (.code c :: s) fr) : Sat C Q (.more kn st) (.code c :: s) fr := by
  unfold Sat at h ⊢
  rw [forceSt_eq] at h
  exact SatM.more_iff.2 (W.weak hw (SatM.more_iff.1 h))

/-- How a function ends: by the values of its results. -/
def RetP (C : Cx) (res : List ResultVar) (r : A × Option Ob) : Ex → St → Prop := fun e s => e.out ∧ ∃ l, resV C.E.P s res = some l ∧ RetQ r (packV l) s.objs

def forceDL (f : A → (A → OT) → OT) : List A → (List A → OT) → OT
  | [], k => k []
  | a :: l, k => f a fun a => forceDL f l fun l => k (a :: l)
def forceD : Nat → A → (A → OT) → OT
  | 0, a, k => k a
  | d + 1, a, k => match a with
    | .agg l => forceDL (forceD d) l fun l => k (.agg l)
    | .tup l => forceDL (forceD d) l fun l => k (.tup l)
    | .fn f l => forceDL (forceD d) l fun l => k (.fn f l)
    | .kb true => k (.kb true)
    | .kb false => k (.kb false)
    | .bool b => k (.bool b)
    | .int q n => k (.int q n)
    | .str s => k (.str s)
    | .nils => k .nils
    | .sl c n el => k (.sl c n el)
    | .ip c el => k (.ip c el)
    | .own id => k (.own id)
    | .junk => k .junk
    | .opq => k .opq
    | .anyb => k .anyb
    | .nilp => k .nilp
    | a => k a
theorem forceDL_eq {f : A → (A → OT) → OT} (hf : ∀ a k, f a k = k a) : ∀ (l : List A) (k : List A → OT), forceDL f l k = k l
  | [], k => rfl
  | a :: l, k => by simp only [forceDL, hf, forceDL_eq hf l]
theorem forceD_eq : ∀ (d : Nat) (a : A) (k : A → OT), forceD d a k = k a
  | 0, a, k => rfl
  | d + 1, a, k => by
    cases a <;> simp only [forceD, forceDL_eq (forceD_eq d)]
    rename_i b; cases b <;> rfl

/-- The results, put together. -/
def outT (P : Program) (res : List ResultVar) (st : St) : OT :=
  match resV P st res with
  | some l => match expo st.objs 6 (packV l) with
    | some a => forceD 5 (nrm 6 a) fun x => .more [] ⟨[x], []⟩
    | none => .fail
  | none => .fail
/-- The results, with a new row of the call's own. -/
def outR (P : Program) (res : List ResultVar) (id : Nat) (st : St) : OT :=
  match resV P st res with
  | some l => forceD 5 (nrm 6 (ren id 0 6 (packV l))) fun x => .more [] ⟨[x], [getO st.objs id]⟩
  | none => .fail

theorem NS.ret {res : List ResultVar} {e : Ex} {st : St} {x r1 : A} (hx : e.isOut = true) (ho : outT C.E.P res st = .more [] ⟨[x], []⟩) (he : LeA x r1) : NS C (RetP C res (r1, none)) (.done e st) := by
  refine ⟨isOut_out hx, ?_⟩
  unfold outT at ho
  split at ho
  · rename_i l hl
    refine ⟨l, hl, ?_⟩
    split at ho
    · rename_i a ha
      rw [forceD_eq] at ho
      simp only [OT.more.injEq, St.mk.injEq, List.cons.injEq, and_true, true_and] at ho
      exact ⟨a, ha, by rw [ho]; exact he⟩
    · cases ho
  · cases ho
theorem NS.retRow {res : List ResultVar} {e : Ex} {st : St} {x r1 : A} {ob ob' : Ob} (id : Nat) (hx : e.isOut = true) (ho : outR C.E.P res id st = .more [] ⟨[x], [ob]⟩) (he : LeA x r1) (hob : LeO ob ob') (hfl : flatRow ob') : NS C (RetP C res (r1, some ob')) (.done e st) := by
  refine ⟨isOut_out hx, ?_⟩
  unfold outR at ho
  split at ho
  · rename_i l hl
    refine ⟨l, hl, ?_⟩
    rw [forceD_eq] at ho
    simp only [OT.more.injEq, St.mk.injEq, List.cons.injEq, and_true, true_and] at ho
    exact .inl ⟨id, by rw [ho.2]; exact hob, by rw [ho.1]; exact he, hfl⟩
  · cases ho

/-- The nil slice, where a new row is promised. -/
theorem NS.retNil {res : List ResultVar} {e : Ex} {st : St} {t c n : Nat} {el : Nat → Nat → A} (hn : n = 0) (hx : e.isOut = true) (ho : resV C.E.P st res = some [.nils]) : NS C (RetP C res (.own 0, some (.row t c n el))) (.done e st) := by
  subst hn
  exact ⟨isOut_out hx, _, ho, .inr ⟨rfl, rfl, _, _, _, rfl⟩⟩

/-- A FUNCTION KEEPS ITS CONTRACT. -/
theorem fn_ok (C : Cx) {f : FuncId} {fn : Func} {c : Code} {args : List A} {r : A × Option Ob} {P : Program} (hP : C.E.P = P) (hent : entB P f = true) (hf : P.funcs[f]? = some fn) (hb : fn.body = some c)
    (h : Sat C (RetP C fn.results.toList r) (forceSt (st0 fn.ntmps args []) fun st => .more [] st) [.code c] ⟨0, fn.ntmps, false⟩) : FnOK P f args r := by
  subst hP
  refine fn_okW hent hf hb ?_
  unfold Sat at h
  rw [forceSt_eq] at h
  exact SatM.more_iff.1 h

/-- The end of a loop's round. -/
def LoopQ (C : Cx) (Q : Ex → St → Prop) (s : List It) (fr : Fr) {σ : Type} (hdF : σ → St) (m : σ → Nat) (x : σ) : Ex → St → Prop := fun e st => match e with
  | .normal => ∃ y, m y < m x ∧ Weak fr.base st (hdF y)
  | .exit i => Den C.E Q s fr (.exit i) st []
  | .ret => Den C.E Q s fr .ret st []

/-- A LOOP: what is known at its head, by a family. -/
theorem NS.loop {body : Code} {st : St} {σ : Type} (ts : σ → List (Nat × A)) (os : σ → List (Nat × Ob)) (m : σ → Nat) (x0 : σ)
    (hw : Weak fr.base st (hd fr.base st.objs st.tmps.length (ts x0) (os x0)))
    (step : ∀ x, Sat C (LoopQ C Q s fr (fun y => hd fr.base st.objs st.tmps.length (ts y) (os y)) m x) (forceSt (hd fr.base st.objs st.tmps.length (ts x) (os x)) fun st => .more [] st) [.code body] fr) : NS C Q (.loop body st s fr) := by
  refine W.loop (fun y => hd fr.base st.objs st.tmps.length (ts y) (os y)) m x0 hw fun x => ?_
  have h1 := step x
  unfold Sat at h1
  rw [forceSt_eq] at h1
  have h2 := SatM.more_iff.1 h1
  simp only [Den] at h2
  exact h2.mono fun e s1 h3 => by cases e <;> exact h3

/-- The round is over: on to the next. -/
theorem NS.next {σ : Type} {hdF : σ → St} {m : σ → Nat} {x : σ} {st : St} (y : σ) (hm : m y < m x) (hw : Weak fr.base st (hdF y)) : NS C (LoopQ C Q s fr hdF m x) (.done .normal st) := ⟨y, hm, hw⟩

def isL : Lv → Lv → Prop
  | .go t s fr, x => x = .go t s fr
  | .out e st, x => x = .out e st
  | .bad, x => x = .bad
theorem isL_eq {a b : Lv} (h : isL a b) : a = b := by cases a <;> exact h.symm

/-- The loop is left: 'refine NS.leave rfl (Eq.refl _) ?_'. -/
theorem NS.leave {σ : Type} {hdF : σ → St} {m : σ → Nat} {x : σ} {st : St} {e : Ex} {t2 : OT} {s2 : List It} {fr2 : Fr} (he : e.goes = false) (hl : isL (Sy.leave C.E.P e st s fr) (.go t2 s2 fr2)) (h2 : Sat C Q t2 s2 fr2) : NS C (LoopQ C Q s fr hdF m x) (.done e st) := by
  have h3 : Den C.E Q s fr e st [] := leave_sound s e st fr [] (.inl he) (by rw [isL_eq hl]; exact h2)
  cases e with
  | normal => cases he
  | exit i => exact h3
  | ret => exact h3
/-- The loop is left, and all that is around it. -/
theorem NS.leaveOut {σ : Type} {hdF : σ → St} {m : σ → Nat} {x : σ} {st st2 : St} {e e2 : Ex} (he : e.goes = false) (hl : isL (Sy.leave C.E.P e st s fr) (.out e2 st2)) (h2 : NS C Q (.done e2 st2)) : NS C (LoopQ C Q s fr hdF m x) (.done e st) := by
  have h3 : Den C.E Q s fr e st [] := leave_sound s e st fr [] (.inl he) (by rw [isL_eq hl]; exact h2)
  cases e with
  | normal => cases he
  | exit i => exact h3
  | ret => exact h3

theorem ren_int {σ : Nat → Nat} {k : IntKind} {n m : Int} {b : A} (h : b = .int k n) (e : n = m) : RenA σ (.int k m) b := by rw [h, e]; rfl
theorem ren_str {σ : Nat → Nat} {n m : ByteArray} {b : A} (h : b = .str n) (e : n = m) : RenA σ (.str m) b := by rw [h, e]; rfl
theorem ren_bool {σ : Nat → Nat} {n m : Bool} {b : A} (h : b = .bool n) (e : n = m) : RenA σ (.bool m) b := by rw [h, e]; exact .inl rfl
theorem ren_kb {σ : Nat → Nat} {n m : Bool} {b : A} (h : b = .kb n) (e : n = m) : RenA σ (.bool m) b := by rw [h, e]; exact .inr rfl

/-- What lies in a box, read more weakly. -/
theorem weak_box {B : Nat} {st : St} (b : Nat) {cells cells' : List A} (hb : getO st.objs b = .box cells) (hle : LeL cells cells') : Weak B st ⟨st.tmps, setX st.objs b (.box cells')⟩ := by
  intro w0 X a w ρ h
  refine ⟨ρ, ⟨h.len, h.tmp, fun id => ?_, h.dis, h.kept, h.new, h.old, h.dfr⟩, LtB.refl _ _ _ _⟩
  simp only [getO_setX]
  by_cases hid : id = b
  · subst hid
    rw [if_pos rfl]
    have hob := h.obj id
    rw [hb] at hob
    obtain ⟨bb, vs, t, h1, h2, h3⟩ := hob
    exact ⟨bb, vs, t, h1, h2, hle _ _ _ _ h3⟩
  · rw [if_neg hid]; exact h.obj id
/-- What lies in a slot, read more weakly. -/
theorem weak_slot {B : Nat} {st : St} (i : Nat) {x : A} (hle : LeA (getA st.tmps i) x) : Weak B st ⟨setL st.tmps i x, st.objs⟩ := by
  intro w0 X a w ρ h
  refine ⟨ρ, ⟨by rw [h.len]; simp [length_setL], fun j => ?_, h.obj, h.dis, h.kept, h.new, h.old, h.dfr⟩, LtB.refl _ _ _ _⟩
  simp only [getA_setL]
  split
  · rename_i hj
    rw [hj.1]
    exact hle _ _ _ _ (h.tmp i)
  · exact h.tmp j
end
end Go.Sy
