import Derived.Test.YtphegncldncaiaaSyStep
set_option linter.unusedSimpArgs false
set_option linter.unusedSectionVars false
set_option linter.unusedVariables false
namespace Go.Sy
open Go.RowKit

/-- The operations with these numbers, one behind the other. -/
def RunI (E : Env) (B : Nat) (F : List Nat) (ops : Array Oper) : List Nat → St → St → Prop
  | [], st, st' => st' = st
  | i :: l, st, st' => ∃ o s1, ops[i]? = some o ∧ Step E B F ops.toList o st s1 ∧ RunI E B F ops l s1 st'

theorem RunI.append {E : Env} {B : Nat} {F : List Nat} {ops : Array Oper} : ∀ {l m : List Nat} {st st' : St}, RunI E B F ops (l ++ m) st st' ↔ ∃ s1, RunI E B F ops l st s1 ∧ RunI E B F ops m s1 st'
  | [], m, st, st' => by simp [RunI]
  | i :: l, m, st, st' => by
    simp only [List.cons_append, RunI]
    constructor
    · rintro ⟨o, s1, h1, h2, h3⟩
      obtain ⟨s2, h4, h5⟩ := RunI.append.1 h3
      exact ⟨s2, ⟨o, s1, h1, h2, h4⟩, h5⟩
    · rintro ⟨s2, ⟨o, s1, h1, h2, h4⟩, h5⟩
      exact ⟨o, s1, h1, h2, RunI.append.2 ⟨s2, h4, h5⟩⟩

theorem Later.refl (w : World) (O : Nat → Prop) (ρ : Nat → Loc) : Later w w O O ρ ρ := ⟨Nat.le_refl _, fun _ _ _ => rfl, fun _ _ h => h, fun _ => .inl rfl⟩
theorem Later.trans {w w1 w2 : World} {O O1 O2 : Nat → Prop} {ρ ρ1 ρ2 : Nat → Loc} (h : Later w w1 O O1 ρ ρ1) (k : Later w1 w2 O1 O2 ρ1 ρ2) : Later w w2 O O2 ρ ρ2 := by
  refine ⟨Nat.le_trans h.size k.size, fun b hb hn => ?_, fun b hb ho => ?_, fun id => ?_⟩
  · have h1 : ¬ O1 b := fun ho => hn (h.own b hb ho)
    exact (k.same b (Nat.lt_of_lt_of_le hb h.size) h1).trans (h.same b hb hn)
  · exact h.own b hb (k.own b (Nat.lt_of_lt_of_le hb h.size) ho)
  · rcases h.loc id with e | e | e
    · rcases k.loc id with e' | e' | e'
      · exact .inl (e'.trans e)
      · exact .inr (.inl (e.symm.trans e'))
      · exact .inr (.inr e')
    · exact .inr (.inl e)
    · rcases k.loc id with e' | e' | e'
      · exact .inr (.inr (e'.trans e))
      · rw [e] at e'; cases e'
      · exact .inr (.inr e')

section
variable {w0 : World} {X : Nat → Prop} {E : Env} {B : Nat}

theorem RunI.sound {F : List Nat} {ops : Array Oper} (hE : EqOK E) {Q : Exit → Act → World → Prop} {ro : Option Nat} {n : Nat} : ∀ (l : List Nat) (st st' : St) (a : Act) (w : World) (ρ : Nat → Loc), RunI E B F ops l st st' → Rel w0 X st a w ρ →
    (∀ a' w' ρ', Rel w0 X st' a' w' ρ' → Later w w' (Ow X ρ) (Ow X ρ') ρ ρ' → a'.defers = a.defers → Q .normal a' w') → wpOpsIn (fw ro) n E.P ops Q l a w
  | [], st, st', a, w, ρ, hr, h, hq => by
    simp only [RunI] at hr; subst hr
    exact hq a w ρ h (Later.refl _ _ _) rfl
  | i :: l, st, st', a, w, ρ, hr, h, hq => by
    simp only [RunI] at hr
    obtain ⟨o, s1, ho, hs, hr⟩ := hr
    simp only [wpOpsIn, ho]
    exact Step.sound hE h hs fun a' w' ρ' h' hL hd => RunI.sound hE l s1 st' a' w' ρ' hr h' fun a'' w'' ρ'' h'' hL' hd' => hq a'' w'' ρ'' h'' (hL.trans hL') (hd'.trans hd)

theorem RunI.soundK {F : List Nat} {ops : Array Oper} (hE : EqOK E) {Q : Exit → Act → World → Prop} {ro : Option Nat} {n : Nat} {m : List Nat} : ∀ (l : List Nat) (st st' : St) (a : Act) (w : World) (ρ : Nat → Loc), RunI E B F ops l st st' → Rel w0 X st a w ρ →
    (∀ a' w' ρ', Rel w0 X st' a' w' ρ' → Later w w' (Ow X ρ) (Ow X ρ') ρ ρ' → a'.defers = a.defers → wpOpsIn (fw ro) n E.P ops Q m a' w') → wpOpsIn (fw ro) n E.P ops Q (l ++ m) a w
  | [], st, st', a, w, ρ, hr, h, hq => by
    simp only [RunI] at hr; subst hr
    exact hq a w ρ h (Later.refl _ _ _) rfl
  | i :: l, st, st', a, w, ρ, hr, h, hq => by
    simp only [RunI] at hr
    obtain ⟨o, s1, ho, hs, hr⟩ := hr
    simp only [List.cons_append, wpOpsIn, ho]
    exact Step.sound hE h hs fun a' w' ρ' h' hL hd => RunI.soundK hE l s1 st' a' w' ρ' hr h' fun a'' w'' ρ'' h'' hL' hd' => hq a'' w'' ρ'' h'' (hL.trans hL') (hd'.trans hd)

/-- Every order that the edges allow leads to where the text's order leads. -/
def Orders (E : Env) (B : Nat) (ops : Array Oper) : Prop := ∀ F t mixed st st', F = sitesOf B ops.toList → RunI E B F ops (List.range ops.size) st st' → RunI E B F ops (Region.schedule mixed ops t) st st'

theorem laterDrew (w : World) (O : Nat → Prop) (ρ : Nat → Loc) : Later w { w with drawn := w.drawn + 1 } O O ρ ρ := ⟨Nat.le_refl _, fun _ _ _ => rfl, fun _ _ h => h, fun _ => .inl rfl⟩
theorem Rel.drew {st : St} {a : Act} {w : World} {ρ : Nat → Loc} (h : Rel w0 X st a w ρ) : Rel w0 X st a { w with drawn := w.drawn + 1 } ρ :=
  h.next (laterDrew w _ ρ) ⟨h.kept.os, h.kept.tape, h.kept.output, h.kept.size, h.kept.block⟩ (fun id => (h.obj id).later (laterDrew w _ ρ) fun _ _ => rfl) h.dis h.new
end

inductive OSat (K : List (Nat × Bool) → St → Prop) (C : List (Nat × Bool) → St → Option Tmp → A → List A → Prop) : OT → Prop where
  | more {kn st} (h : K kn st) : OSat K C (.more kn st)
  | ite {b t e} (h : b = true → OSat K C t) (h' : b = false → OSat K C e) : OSat K C (.ite b t e)
  | call {kn st dst f args} (h : C kn st dst f args) : OSat K C (.call kn st dst f args)

theorem OSat.ite_inv {K C} {b : Bool} {t e : OT} (h : OSat K C (.ite b t e)) : OSat K C (match b with | true => t | false => e) := by
  cases h with
  | ite h h' => cases b <;> simp_all

theorem T.go_sat {K C} {α : Type} : ∀ {t : T α} {k : α → OT}, OSat K C (t.go k) → ∃ x, t.eval = some x ∧ OSat K C (k x)
  | .ret a, k, h => ⟨a, rfl, h⟩
  | .ite b t e, k, h => by
    have := OSat.ite_inv h
    cases b
    · obtain ⟨x, h1, h2⟩ := T.go_sat this; exact ⟨x, h1, h2⟩
    · obtain ⟨x, h1, h2⟩ := T.go_sat this; exact ⟨x, h1, h2⟩
  | .fail, k, h => by cases h

theorem setK_eq {α : Type} : ∀ (l : List α) (n : Nat) (v : α) (k : List α → OT), setK l n v k = k (setL l n v)
  | [], n, v, k => by simp [setK, setL]
  | a :: l, 0, v, k => by simp [setK, setL]
  | a :: l, n + 1, v, k => by simp [setK, setL, setK_eq l n v]
theorem forceL_eq : ∀ (l : List A) (k : List A → OT), forceL l k = k l
  | [], k => rfl
  | a :: l, k => by
    simp only [forceL, forceL_eq l]
    cases a <;> first | rfl | (rename_i b; cases b <;> rfl)
theorem forceA_eq (a : A) (k : A → OT) : forceA a k = k a := by
  cases a <;> simp only [forceA, forceL_eq]
  · rename_i b; cases b <;> rfl
  · rename_i off; cases off <;> rfl
  · rename_i off; cases off <;> rfl
theorem forceO_eq (a : Ob) (k : Ob → OT) : forceO a k = k a := by
  cases a <;> simp only [forceO, forceL_eq]
theorem setA_eq (l : List A) (n : Nat) (v : A) (k : List A → OT) : setA l n v k = k (setL l n v) := by rw [setA, forceA_eq, setK_eq]
theorem setXK_eq : ∀ (l : List Ob) (n : Nat) (v : Ob) (k : List Ob → OT), setXK l n v k = k (setX l n v)
  | [], 0, v, k => by simp [setXK, setX]
  | [], n + 1, v, k => by simp [setXK, setX, setXK_eq [] n v]
  | a :: l, 0, v, k => by simp [setXK, setX]
  | a :: l, n + 1, v, k => by simp [setXK, setX, setXK_eq l n v]
theorem setO_eq (l : List Ob) (n : Nat) (v : Ob) (k : List Ob → OT) : setO l n v k = k (setX l n v) := by rw [setO, forceO_eq, setXK_eq]
theorem putK_eq (st : St) (dst : Option Tmp) (v : A) (k : St → OT) : putK st dst v k = k ⟨putT st.tmps dst v, st.objs⟩ := by
  obtain ⟨ts, os⟩ := st
  cases dst with
  | none => rfl
  | some d => rw [putK]; exact setA_eq _ _ _ _

section
variable {E : Env} {B : Nat} {F : List Nat} {K : List (Nat × Bool) → St → Prop} {C : List (Nat × Bool) → St → Option Tmp → A → List A → Prop}

def KnOK (kn : List (Nat × Bool)) (tmps : List A) : Prop := ∀ d v, lookK kn d = some v → getA tmps d = .bool v

theorem eraseC_eq : ∀ (kn : List (Nat × Bool)) (dst : Option Nat) (k : List (Nat × Bool) → OT), eraseC kn dst k = k (eraseK kn dst)
  | [], none, k => rfl
  | [], some _, k => rfl
  | (d, v) :: l, none, k => rfl
  | (d, v) :: l, some n, k => by
    simp only [eraseC, eraseK, eraseC_eq l]
    split <;> rfl

theorem KnOK.erase {kn : List (Nat × Bool)} {tmps : List A} (h : KnOK kn tmps) (dst : Option Nat) (x : A) : KnOK (eraseK kn dst) (putT tmps dst x) := by
  cases dst with
  | none => simpa [eraseK, putT] using h
  | some n =>
    intro d v hd
    have key : ∀ (kn : List (Nat × Bool)), lookK (eraseK kn (some n)) d = some v → d ≠ n ∧ lookK kn d = some v := by
      intro kn
      induction kn with
      | nil => intro h; simp [eraseK, lookK] at h
      | cons p l ih =>
        intro h
        obtain ⟨q, u⟩ := p
        simp only [eraseK] at h
        split at h
        · rename_i hq
          obtain ⟨h1, h2⟩ := ih h
          refine ⟨h1, ?_⟩
          simp only [lookK]
          rw [if_neg (by omega)]
          exact h2
        · rename_i hq
          simp only [lookK] at h ⊢
          split at h
          · rename_i hdq
            subst hdq
            exact ⟨hq, by rw [if_pos rfl]; exact h⟩
          · rename_i hdq
            obtain ⟨h1, h2⟩ := ih h
            exact ⟨h1, by rw [if_neg hdq]; exact h2⟩
    obtain ⟨h1, h2⟩ := key kn hd
    simp only [putT, getA_setL]
    rw [if_neg (by simp [h1])]
    exact h d v h2

theorem KnOK.cons {kn : List (Nat × Bool)} {tmps : List A} (h : KnOK kn tmps) {d : Nat} {v : Bool} (hd : getA tmps d = .bool v) : KnOK ((d, v) :: kn) tmps := by
  intro n u hn
  simp only [lookK] at hn
  split at hn
  · rename_i he; subst he; simp at hn; subst hn; exact hd
  · exact h n u hn

/-- An operation whose guard is met. -/
def ExecP (E : Env) (B : Nat) (F : List Nat) (o : Oper) (st st' : St) : Prop :=
  match cls o.op with
  | 2 => Sem2 E B o st st'
  | _ => ∃ v ob, Sem1 E B o st.tmps (maskO (foM B F o) st.objs) v ob ∧ (match ob with
    | none => st' = ⟨putT st.tmps o.dst v, st.objs⟩
    | some x => ∃ d, o.dst = some d ∧ getO st.objs (B + d) = .virgin ∧ st' = ⟨setL st.tmps d v, setX st.objs (B + d) x⟩)

theorem makeK_sat {st : St} {d : Nat} {v : A} {ob : Ob} {k : St → OT} (h : OSat K C (makeK B st d v ob k)) : getO st.objs (B + d) = .virgin ∧ OSat K C (k ⟨setL st.tmps d v, setX st.objs (B + d) ob⟩) := by
  obtain ⟨ts, os⟩ := st
  unfold makeK at h
  simp only at h
  split at h
  · rename_i hv
    rw [setO_eq, setA_eq] at h
    exact ⟨hv, h⟩
  · cases h

theorem semV_cls2 {objs : List Ob} {op : Op} {ev : Operand → A} (h : cls op = 2) : semV E objs op ev = .fail := by
  cases op <;> simp only [cls] at h <;> first | (cases h; done) | skip
  · rfl
  · rename_i c
    obtain ⟨callee, ⟨args⟩, ⟨ts⟩⟩ := c
    cases callee with
    | value f => simp at h
    | invoke r m => simp at h
    | builtin b => cases b <;> simp at h <;> rfl

theorem Sem1_make {o : Oper} {tmps : List A} {objs : List Ob} {d : Nat} {rw_ : Bool} {ob : Ob} (hm : isMake o.op = true) (hd : o.dst = some d) (hs : (semO E o.op (evA tmps)).eval = some (rw_, ob)) :
    Sem1 E B o tmps objs (frzV E.frz B d (rw_, ob)).1 (some (frzV E.frz B d (rw_, ob)).2) := by
  obtain ⟨dst, op, type, pos, after, guard⟩ := o
  cases op <;> simp [isMake] at hm <;> exact ⟨d, rw_, ob, hd, hs, rfl, rfl⟩
theorem Sem1_val {o : Oper} {tmps : List A} {objs : List Ob} {v : A} (h3 : ∀ (f : Operand) (args : Array Operand) (ts : Array TypeId), o.op = .call { callee := .value f, args := args, argTypes := ts } → False)
    (hm : isMake o.op = false) (hsb : isS2B E.P o.op = false) (hv : (semV E objs o.op (evA tmps)).eval = some v) : Sem1 E B o tmps objs v none := by
  obtain ⟨dst, op, type, pos, after, guard⟩ := o
  cases op <;> simp [isMake] at hm <;> first | exact ⟨hv, rfl⟩ | skip
  case convert s d x =>
    simp only at hsb
    unfold Sem1
    simp only [isMake, hsb]
    exact ⟨hv, trivial⟩
  rename_i c
  obtain ⟨callee, args, ts⟩ := c
  cases callee with
  | value f => exact (h3 _ _ _ rfl).elim
  | invoke r m => exact ⟨hv, rfl⟩
  | builtin b => exact ⟨hv, rfl⟩

theorem Sem1_s2b {o : Oper} {tmps : List A} {objs : List Ob} {d : Nat} {ob : Ob} (hsb : isS2B E.P o.op = true) (hd : o.dst = some d) (hs : (s2bA E.P o.op (evA tmps)).eval = some ob) :
    Sem1 E B o tmps objs (frzV E.frz B d (true, ob)).1 (some (frzV E.frz B d (true, ob)).2) := by
  obtain ⟨dst, op, type, pos, after, guard⟩ := o
  cases op with
  | convert s t x =>
    simp only at hsb
    unfold Sem1
    simp only [isMake, hsb]
    exact ⟨d, ob, hd, hs, rfl, rfl⟩
  | _ => cases hsb

theorem endK_sat {kn : List (Nat × Bool)} {st : St} {dst : Option Tmp} (h : OSat K C (endK kn dst st)) : K (eraseK kn dst) st := by
  unfold endK at h
  rw [eraseC_eq] at h
  cases h; assumption

/-- The call of an operation. -/
def CallAt (o : Oper) (ts : List A) (f : A) (args : List A) : Prop := ∃ c as tys, o.op = .call ⟨.value c, as, tys⟩ ∧ f = evA ts c ∧ args = mapEv (evA ts) as.toList

theorem execK_sat {st : St} {kn : List (Nat × Bool)} {o : Oper} (hk : KnOK kn st.tmps) (h : OSat K C (execK E B F st kn o)) :
    (∃ st', ExecP E B F o st st' ∧ (∃ x, st'.tmps = putT st.tmps o.dst x) ∧ K (eraseK kn o.dst) st') ∨ (∃ f args, CallAt o st.tmps f args ∧ C kn st o.dst f args) := by
  obtain ⟨dst, op, type, pos, after, guard⟩ := o
  obtain ⟨ts, os⟩ := st
  unfold execK at h
  simp only at h hk ⊢
  split at h
  · rename_i t a x
    obtain ⟨r, hr, h⟩ := T.go_sat h
    rw [setO_eq, putK_eq] at h
    exact .inl ⟨_, by simp only [ExecP, cls, Sem2]; exact ⟨r, hr, rfl⟩, ⟨_, rfl⟩, endK_sat h⟩
  · rename_i x t
    obtain ⟨r, hr, h⟩ := T.go_sat h
    rw [setO_eq, putK_eq] at h
    exact .inl ⟨_, by simp only [ExecP, cls, Sem2]; exact ⟨r, hr, rfl⟩, ⟨_, rfl⟩, endK_sat h⟩
  · rename_i x y t t'
    split at h
    · rename_i d
      obtain ⟨r, hr, h⟩ := T.go_sat h
      obtain ⟨kill, ob⟩ := r
      cases kill with
      | none =>
        obtain ⟨hv, h⟩ := makeK_sat h
        exact .inl ⟨_, by simp only [ExecP, cls, Sem2]; exact ⟨_, d, rfl, hr, hv, rfl⟩, ⟨_, rfl⟩, endK_sat h⟩
      | some id =>
        simp only at h
        rw [setO_eq] at h
        obtain ⟨hv, h⟩ := makeK_sat h
        exact .inl ⟨_, by simp only [ExecP, cls, Sem2]; exact ⟨_, d, rfl, hr, hv, rfl⟩, ⟨_, rfl⟩, endK_sat h⟩
    · cases h
  · rename_i f args ts
    cases h with
    | call h => exact .inr ⟨_, _, ⟨_, _, _, rfl, rfl, rfl⟩, h⟩
  · rename_i c a b
    have key : ∀ v, (semV E (maskO (foM B F ⟨dst, .pick (.tmp c) a b, type, pos, after, guard⟩) os) (.pick (.tmp c) a b) (evA ts)).eval = some v → OSat K C (putK ⟨ts, os⟩ dst v (endK kn dst)) →
        ∃ st', ExecP E B F ⟨dst, .pick (.tmp c) a b, type, pos, after, guard⟩ ⟨ts, os⟩ st' ∧ (∃ x, st'.tmps = putT ts dst x) ∧ K (eraseK kn dst) st' := by
      intro v hv h
      rw [putK_eq] at h
      exact ⟨_, by simp only [ExecP, cls]; exact ⟨v, none, ⟨hv, rfl⟩, rfl⟩, ⟨_, rfl⟩, endK_sat h⟩
    left
    split at h
    · rename_i hl
      exact key _ (by simp only [semV, evA, hk c true hl, T.eval]) h
    · rename_i hl
      exact key _ (by simp only [semV, evA, hk c false hl, T.eval]) h
    · obtain ⟨v, hv, h⟩ := T.go_sat h
      exact key v hv h
  · rename_i h1 h1' h2 h3 h4
    left
    cases hm : isMake op with
    | true =>
      rw [hm] at h
      simp only at h
      split at h
      · rename_i d
        obtain ⟨⟨rw_, ob⟩, hso, h⟩ := T.go_sat h
        obtain ⟨hv, h⟩ := makeK_sat h
        refine ⟨_, ?_, ⟨_, rfl⟩, endK_sat h⟩
        unfold ExecP
        have hc : cls op = 1 := by cases op <;> simp [isMake] at hm <;> rfl
        simp only [hc]
        exact ⟨_, some (frzV E.frz B d (rw_, ob)).2, Sem1_make (o := ⟨some d, op, type, pos, after, guard⟩) hm rfl hso, d, rfl, hv, rfl⟩
      · cases h
    | false =>
      rw [hm] at h
      simp only at h
      cases hsb : isS2B E.P op with
      | true =>
        rw [hsb] at h
        simp only at h
        split at h
        · rename_i d
          obtain ⟨ob, hso, h⟩ := T.go_sat h
          obtain ⟨hv, h⟩ := makeK_sat h
          refine ⟨_, ?_, ⟨_, rfl⟩, endK_sat h⟩
          unfold ExecP
          have hc : cls op = 1 := by cases op <;> first | rfl | cases hsb
          simp only [hc]
          exact ⟨_, some (frzV E.frz B d (true, ob)).2, Sem1_s2b (o := ⟨some d, op, type, pos, after, guard⟩) hsb rfl hso, d, rfl, hv, rfl⟩
        · cases h
      | false =>
      rw [hsb] at h
      simp only at h
      obtain ⟨v, hv, h⟩ := T.go_sat h
      rw [putK_eq] at h
      refine ⟨_, ?_, ⟨_, rfl⟩, endK_sat h⟩
      unfold ExecP
      simp only
      split
      · rename_i hc
        rw [semV_cls2 hc] at hv
        cases hv
      · exact ⟨v, none, Sem1_val (o := ⟨dst, op, type, pos, after, guard⟩) h3 hm hsb hv, rfl⟩

theorem guardK_sat {b want : Bool} {x y : OT} (h : OSat K C (guardK b want x y)) : ((b == want) = true ∧ OSat K C x) ∨ ((b == want) = false ∧ OSat K C y) := by
  cases b <;> cases want <;> first | exact .inl ⟨rfl, h⟩ | exact .inr ⟨rfl, h⟩

theorem execF_sat {ops : List Oper} {st : St} {kn : List (Nat × Bool)} {o : Oper} (h : OSat K C (execF E B F ops st kn o)) : freshOK B F ops st.tmps o = true ∧ slOK F ops st.tmps o = true ∧ OSat K C (execK E B F st kn o) := by
  obtain ⟨ts, os⟩ := st
  unfold execF at h
  simp only at h
  split at h
  · rename_i hf
    split at h
    · rename_i hs; exact ⟨hf, hs, h⟩
    · cases h
  · cases h

theorem stepK_sat {ops : List Oper} {st : St} {kn : List (Nat × Bool)} {o : Oper} (hk : KnOK kn st.tmps) (h : OSat K C (stepK E B F ops st kn o)) :
    (∃ st' kn', Step E B F ops o st st' ∧ KnOK kn' st'.tmps ∧ K kn' st') ∨ (∃ kn' f args, guardO ops st.tmps o = some true ∧ KnOK kn' st.tmps ∧ CallAt o st.tmps f args ∧ C kn' st o.dst f args) := by
  have ex1 : ∀ kn, KnOK kn st.tmps → guardO ops st.tmps o = some true → OSat K C (execF E B F ops st kn o) →
      (∃ st' kn', Step E B F ops o st st' ∧ KnOK kn' st'.tmps ∧ K kn' st') ∨ (∃ kn' f args, guardO ops st.tmps o = some true ∧ KnOK kn' st.tmps ∧ CallAt o st.tmps f args ∧ C kn' st o.dst f args) := by
    intro kn hk hg h
    obtain ⟨hfr, hsl, h⟩ := execF_sat h
    rcases execK_sat hk h with ⟨st', h1, ⟨x, hx⟩, h2⟩ | ⟨f, args, h1, h2⟩
    · refine .inl ⟨st', _, ?_, ?_, h2⟩
      · unfold Step; rw [hg]
        unfold ExecP at h1
        simp only
        split
        · rename_i hc
          rw [hc] at h1
          exact ⟨hfr, h1⟩
        · rename_i hc
          split at h1
          · rename_i hc'; exact (hc hc').elim
          · exact ⟨hsl, h1⟩
      · rw [hx]; exact hk.erase _ _
    · exact .inr ⟨kn, f, args, hg, hk, h1, h2⟩
  have ex0 : ∀ kn, KnOK kn st.tmps → guardO ops st.tmps o = some false → OSat K C (putK st o.dst (.tup []) (endK kn o.dst)) →
      (∃ st' kn', Step E B F ops o st st' ∧ KnOK kn' st'.tmps ∧ K kn' st') ∨ (∃ kn' f args, guardO ops st.tmps o = some true ∧ KnOK kn' st.tmps ∧ CallAt o st.tmps f args ∧ C kn' st o.dst f args) := by
    intro kn hk hg h
    rw [putK_eq] at h
    refine .inl ⟨_, _, ?_, hk.erase _ _, endK_sat h⟩
    unfold Step; rw [hg]
  obtain ⟨ts, os⟩ := st
  unfold stepK at h
  simp only at h
  split at h
  · rename_i hg
    exact ex1 kn hk (by simp [guardO, hg]) h
  · rename_i j want hg
    have both : ∀ (b : Bool) kn, KnOK kn ts → guardO ops ts o = some (b == want) →
        OSat K C (guardK b want (execF E B F ops ⟨ts, os⟩ kn o) (putK ⟨ts, os⟩ o.dst (.tup []) (endK kn o.dst))) →
        (∃ st' kn', Step E B F ops o ⟨ts, os⟩ st' ∧ KnOK kn' st'.tmps ∧ K kn' st') ∨ (∃ kn' f args, guardO ops ts o = some true ∧ KnOK kn' ts ∧ CallAt o ts f args ∧ C kn' ⟨ts, os⟩ o.dst f args) := by
      intro b kn hk hgo h
      rcases guardK_sat h with ⟨e, h⟩ | ⟨e, h⟩
      · exact ex1 kn hk (by rw [hgo, e]) h
      · exact ex0 kn hk (by rw [hgo, e]) h
    split at h
    · rename_i b d hga
      have hd : getA ts d = .bool b := by
        unfold guardA at hga
        split at hga
        · split at hga
          · split at hga <;> simp at hga
            obtain ⟨rfl, rfl⟩ := hga
            assumption
          · cases hga
        · cases hga
      split at h
      · rename_i v hl
        have hv := hk d v hl
        rw [hd] at hv
        cases hv
        exact both b kn hk (by simp [guardO, hg, hga]) h
      · have := OSat.ite_inv h
        cases b with
        | true => exact both true _ (hk.cons hd) (by simp [guardO, hg, hga]) this
        | false => exact both false _ (hk.cons hd) (by simp [guardO, hg, hga]) this
    · rename_i b hga
      exact both b kn hk (by simp [guardO, hg, hga]) h
    · rename_i hga
      exact ex0 kn hk (by simp [guardO, hg, hga]) h
    · cases h
end
end Go.Sy
