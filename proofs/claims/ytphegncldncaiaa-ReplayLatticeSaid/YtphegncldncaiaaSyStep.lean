import Derived.Test.YtphegncldncaiaaSyMem
import Derived.CallsIn
set_option linter.unusedSimpArgs false
set_option linter.unusedSectionVars false
set_option linter.unusedVariables false
namespace Go.Sy
open Go.RowKit

/-- The function can be entered. -/
def entB (P : Program) (g : FuncId) : Bool :=
  match P.funcs[g]? with
  | some fn => fn.body.isSome && !(fn.name == "runtime.NumGoroutine")
  | none => false

/-- A CONTRACT: called with what reads as 'args', the function returns what reads as r.1, its new row being r.2; nothing that was there has changed; what it returns lies in no block of X. -/
structure FnOK (P : Program) (f : FuncId) (args : List A) (r : A × Option Ob) : Prop where
  ent : entB P f = true
  run : ∀ (w : World) (X : Nat → Prop) (vs : List Value), (∀ b, X b → b < w.heap.size) → RL w X args virg vs →
    Calls P f vs.toArray w fun e w' => ∃ v l, e = .returned v ∧ Below w.heap.size w w' ∧ R w' (fun b => X b ∨ l.block = some b) r.1 (upd virg 0 l) v ∧
      (match r.2 with | none => l = .virgin | some ob => ObR w' (fun _ => True) virg ob l) ∧ (∀ b, l.block = some b → w.heap.size ≤ b ∧ b < w'.heap.size)

/-- A CONTRACT of a function that changes a row of its caller's (object 0 of its arguments): what the row is then, and what is returned, by 'post'. -/
structure FnMu (P : Program) (f : FuncId) (args : List A) (ob : Ob) (post : Ob → A → Prop) : Prop where
  ent : entB P f = true
  run : ∀ (w : World) (l : Loc) (vs : List Value), (∀ b, l.block = some b → b < w.heap.size) → ObR w (fun b => l.block = some b) virg ob l → RL w (fun b => l.block = some b) args (upd virg 0 l) vs →
    Calls P f vs.toArray w fun e w' => ∃ v ob' r, e = .returned v ∧ post ob' r ∧ Below 0 w w' ∧ (∀ b, b < w.heap.size → l.block ≠ some b → w'.heap[b]? = w.heap[b]?) ∧ ObR w' (fun _ => True) virg ob' l ∧ flat 5 r = true ∧ R w' (fun _ => True) r (upd virg 0 l) v

def guardO (ops : List Oper) (tmps : List A) (o : Oper) : Option Bool :=
  match o.guard with
  | none => some true
  | some (j, want) => match guardA ops tmps j with
    | .known b => some (b == want)
    | .free b _ => some (b == want)
    | .no => some false
    | .bad => none

def putT (tmps : List A) (dst : Option Tmp) (v : A) : List A :=
  match dst with
  | some d => setL tmps d v
  | none => tmps

/-- What an operation that only looks, or makes its own object, yields. -/
def Sem1 (E : Env) (B : Nat) (o : Oper) (tmps : List A) (objs : List Ob) (v : A) (ob : Option Ob) : Prop :=
  match o.op with
  | .call ⟨.value f, args, _⟩ => ∃ g vals cl r d, callP objs (evA tmps f) (mapEv (evA tmps) args.toList) = some (g, vals, cl) ∧ FnOK E.P g vals r ∧ o.dst = some d ∧ callFin B d cl r = some (v, ob)
  | op => match isMake op with
    | true => ∃ d rw x, o.dst = some d ∧ (semO E op (evA tmps)).eval = some (rw, x) ∧ v = (frzV E.frz B d (rw, x)).1 ∧ ob = some (frzV E.frz B d (rw, x)).2
    | false => match isS2B E.P op with
      | true => ∃ d x, o.dst = some d ∧ (s2bA E.P op (evA tmps)).eval = some x ∧ v = (frzV E.frz B d (true, x)).1 ∧ ob = some (frzV E.frz B d (true, x)).2
      | false => (semV E objs op (evA tmps)).eval = some v ∧ ob = none

/-- An operation that changes objects. -/
def Sem2 (E : Env) (B : Nat) (o : Oper) (st st' : St) : Prop :=
  match o.op with
  | .store t a x => ∃ r, (storeA E.P st.objs t (evA st.tmps a) (evA st.tmps x)).eval = some r ∧ st' = ⟨putT st.tmps o.dst (.tup []), setX st.objs r.1 r.2⟩
  | .call ⟨.builtin .clear, ⟨[x]⟩, ⟨[t]⟩⟩ => ∃ r, (clearA E.P st.objs t (evA st.tmps x)).eval = some r ∧ st' = ⟨putT st.tmps o.dst (.tup []), setX st.objs r.1 r.2⟩
  | .call ⟨.builtin .append, ⟨[x, y]⟩, ⟨[t, t']⟩⟩ => ∃ r d, o.dst = some d ∧ (appendA E.P st.objs t t' (evA st.tmps x) (evA st.tmps y)).eval = some r ∧ getO (killO st.objs r.1) (B + d) = .virgin ∧
      st' = ⟨setL st.tmps d (.own (B + d)), setX (killO st.objs r.1) (B + d) r.2⟩
  | _ => False

def Step (E : Env) (B : Nat) (F : List Nat) (ops : List Oper) (o : Oper) (st st' : St) : Prop :=
  match guardO ops st.tmps o with
  | none => False
  | some false => st' = ⟨putT st.tmps o.dst (.tup []), st.objs⟩
  | some true => match cls o.op with
    | 2 => freshOK B F ops st.tmps o = true ∧ Sem2 E B o st st'
    | _ => slOK F ops st.tmps o = true ∧ ∃ v ob, Sem1 E B o st.tmps (maskO (foM B F o) st.objs) v ob ∧ (match ob with
      | none => st' = ⟨putT st.tmps o.dst v, st.objs⟩
      | some x => ∃ d, o.dst = some d ∧ getO st.objs (B + d) = .virgin ∧ st' = ⟨setL st.tmps d v, setX st.objs (B + d) x⟩)

section
variable {w0 w w' : World} {X : Nat → Prop} {st st' : St} {a : Act} {ρ ρ' : Nat → Loc} {E : Env} {B : Nat} {F : List Nat}

theorem getO_mask : ∀ (F : List Nat) (objs : List Ob) (id : Nat), getO (maskO F objs) id = getO objs id ∨ getO (maskO F objs) id = .dead
  | [], objs, id => .inl rfl
  | d :: F, objs, id => by
    simp only [maskO, getO_setX]
    split
    · exact .inr rfl
    · exact getO_mask F objs id

theorem Rel.obs (h : Rel w0 X st a w ρ) (F : List Nat) : Obs w (Ow X ρ) ρ (maskO F st.objs) := by
  intro id
  rcases getO_mask F st.objs id with e | e
  · rw [e]; exact .inr (h.obj id)
  · exact .inl e

theorem Rel.put' (h : Rel w0 X st a w ρ) (dst : Option Tmp) {x : A} {v : Value} (hr : R w (Ow X ρ) x ρ v) : Rel w0 X ⟨putT st.tmps dst x, st.objs⟩ (a.put dst v) w ρ := by
  have := h.put dst hr
  cases dst <;> exact this

theorem yielded_of {ops : Array Oper} {j : Nat} (h : Rel w0 X st a w ρ) :
    match guardA ops.toList st.tmps j with
    | .known b => yielded ops a.tmps j = some b
    | .free b _ => yielded ops a.tmps j = some b
    | .no => yielded ops a.tmps j = none
    | .bad => True := by
  have hdrop : ∀ o rest, dropN j ops.toList = o :: rest → ops[j]? = some o := by
    intro o rest hd
    have : ∀ (l : List Oper) (j : Nat) (o : Oper) (rest : List Oper), dropN j l = o :: rest → l[j]? = some o := by
      intro l
      induction l with
      | nil => intro j o rest h; cases j <;> simp [dropN] at h
      | cons x l ih =>
        intro j o rest h
        cases j with
        | zero => simp [dropN] at h; simp [h.1]
        | succ j => simp only [dropN] at h; simpa using ih j o rest h
    simpa using this ops.toList j o rest hd
  have hcell : ∀ d v, a.tmps.getD d undef = v → v ≠ undef → a.tmps[d]? = some v := by
    intro d v hv hne
    rw [Array.getD_eq_getD_getElem?] at hv
    cases hg : a.tmps[d]? with
    | none => rw [hg] at hv; exact absurd hv.symm hne
    | some u => rw [hg] at hv; simp at hv; rw [hv]
  cases hd : dropN j ops.toList with
  | nil => simp only [guardA, hd]
  | cons o rest =>
    have ho := hdrop o rest hd
    cases hdst : o.dst with
    | none => simp only [guardA, hd, hdst]
    | some d =>
      have ht := h.tmp d
      simp only [guardA, hd, hdst]
      generalize getA st.tmps d = x at ht
      cases x with
      | kb b =>
        simp only [R] at ht ⊢
        have := hcell d _ ht (by simp [undef])
        simp [yielded, ho, hdst, this]
      | bool b =>
        simp only [R] at ht ⊢
        have := hcell d _ ht (by simp [undef])
        simp [yielded, ho, hdst, this]
      | tup l =>
        cases l with
        | cons y l => trivial
        | nil =>
          simp only [R, RL] at ht ⊢
          obtain ⟨vs, hv, rfl⟩ := ht
          have hu : a.tmps.getD d undef = undef := hv
          simp only [yielded, ho, hdst, Option.bind_some]
          cases hg : a.tmps[d]? with
          | none => rfl
          | some u =>
            rw [Array.getD_eq_getD_getElem?, hg] at hu
            simp at hu
            rw [hu]; rfl
      | _ => trivial

theorem wanted_of {ops : Array Oper} {o : Oper} {b : Bool} (h : Rel w0 X st a w ρ) (hg : guardO ops.toList st.tmps o = some b) : Region.wanted o (yielded ops a.tmps) = b := by
  unfold guardO at hg
  unfold Region.wanted
  split at hg
  · rename_i hn; simp at hg; subst hg; rw [hn]
  · rename_i j want hs
    rw [hs]
    have hy := yielded_of (ops := ops) (j := j) h
    simp only
    split at hg
    · rename_i q hq; rw [hq] at hy; simp only at hy; simp at hg; subst hg; rw [hy]; rfl
    · rename_i q d hq; rw [hq] at hy; simp only at hy; simp at hg; subst hg; rw [hy]; rfl
    · rename_i hq; rw [hq] at hy; simp only at hy; simp at hg; subst hg; rw [hy]; rfl
    · cases hg

/-- The result of a call, seen by the caller. -/
theorem callFin_none {B d : Nat} {cl : Bool} {r : A × Option Ob} {v : A} {ob : Option Ob} (h : callFin B d cl r = some (v, ob)) : (flat 5 r.1 = true ∨ cl = true) ∧ v = ren 0 (B + d) 6 r.1 ∧ ob = r.2 := by
  unfold callFin at h
  split at h
  · rename_i hb
    simp only [Option.some.injEq, Prod.mk.injEq] at h
    obtain ⟨rfl, rfl⟩ := h
    simp only [Bool.or_eq_true] at hb
    exact ⟨hb, rfl, rfl⟩
  · cases h

/-- Renaming object 0 to d; every other reading stays. O: what is let now. -/
theorem ren_sound {w' : World} {O : Nat → Prop} {l : Loc} {ρ' : Nat → Loc} {d : Nat} (hd : ρ' d = l) : ∀ (n : Nat),
    (∀ (x : A) (v : Value), R w' O x (upd virg 0 l) v → R w' O (ren 0 d n x) ρ' v) ∧ (∀ (xs : List A) (vs : List Value), RL w' O xs (upd virg 0 l) vs → RL w' O (renL (ren 0 d n) xs) ρ' vs)
  | 0 => ⟨fun x v _ => by simp [ren, R], fun xs => by
      induction xs with
      | nil => intro vs h; simpa only [renL, RL] using h
      | cons x xs ih =>
        intro vs h
        simp only [RL] at h
        obtain ⟨v, vs', rfl, _, h2⟩ := h
        simp only [renL, RL]
        exact ⟨v, vs', rfl, by simp [ren, R], ih vs' h2⟩⟩
  | n + 1 => by
    obtain ⟨_, ih2⟩ := ren_sound (w' := w') (O := O) hd n
    have H : ∀ (x : A) (v : Value), R w' O x (upd virg 0 l) v → R w' O (ren 0 d (n + 1) x) ρ' v := by
      intro x v h
      cases x with
      | own j =>
        simp only [ren]
        split
        · rename_i hj
          subst hj
          simp only [R, upd_same, hd] at h ⊢
          exact h
        · simp only [R]
      | ptr id off => simp only [ren, R]
      | rp id c i off => simp only [ren, R]
      | yld id => simp only [ren, R]
      | ov id c lo n => simp only [ren, R]
      | ap id i => simp only [ren, R]
      | fn f xs =>
        simp only [ren, R] at h ⊢
        obtain ⟨vs, rfl, h⟩ := h
        exact ⟨vs, rfl, ih2 xs vs h⟩
      | agg xs =>
        simp only [ren, R] at h ⊢
        obtain ⟨vs, rfl, h⟩ := h
        exact ⟨vs, rfl, ih2 xs vs h⟩
      | tup xs =>
        simp only [ren, R] at h ⊢
        obtain ⟨vs, rfl, h⟩ := h
        exact ⟨vs, rfl, ih2 xs vs h⟩
      | junk => simp only [ren, R]
      | _ => simpa only [ren, R] using h
    refine ⟨H, fun xs => ?_⟩
    induction xs with
    | nil => intro vs h; simpa only [renL, RL] using h
    | cons x xs ih =>
      intro vs h
      simp only [RL] at h
      obtain ⟨v, vs', rfl, h1, h2⟩ := h
      simp only [renL, RL]
      exact ⟨v, vs', rfl, H x v h1, ih vs' h2⟩

/-- A flat value's reading asks nothing of what may not be touched. -/
theorem flat_sound {w' : World} {O O' : Nat → Prop} {ρ' : Nat → Loc} : ∀ (n : Nat),
    (∀ (x : A) (v : Value), flat n x = true → R w' O x ρ' v → R w' O' x ρ' v) ∧ (∀ (xs : List A) (vs : List Value), allL (flat n) xs = true → RL w' O xs ρ' vs → RL w' O' xs ρ' vs)
  | 0 => ⟨fun x v h => by simp [flat] at h, fun xs vs h hr => by
      cases xs with
      | nil => simpa only [RL] using hr
      | cons x xs => simp [allL, flat] at h⟩
  | n + 1 => by
    obtain ⟨_, ih2⟩ := flat_sound (w' := w') (O := O) (O' := O') (ρ' := ρ') n
    have H : ∀ (x : A) (v : Value), flat (n + 1) x = true → R w' O x ρ' v → R w' O' x ρ' v := by
      intro x v hf h
      cases x with
      | sl c m el => simp [flat] at hf
      | ip c el => simp [flat] at hf
      | ptr id off => simp [flat] at hf
      | rp id c i off => simp [flat] at hf
      | yld id => simp [flat] at hf
      | ov id c lo n => simp [flat] at hf
      | ap id i => simp [flat] at hf
      | own id => simpa only [R] using h
      | fn f xs =>
        simp only [R] at h ⊢
        obtain ⟨vs, rfl, h⟩ := h
        exact ⟨vs, rfl, ih2 xs vs hf h⟩
      | agg xs =>
        simp only [R] at h ⊢
        obtain ⟨vs, rfl, h⟩ := h
        exact ⟨vs, rfl, ih2 xs vs hf h⟩
      | tup xs =>
        simp only [R] at h ⊢
        obtain ⟨vs, rfl, h⟩ := h
        exact ⟨vs, rfl, ih2 xs vs hf h⟩
      | junk => simp only [R]
      | _ => simpa only [R] using h
    refine ⟨H, fun xs => ?_⟩
    induction xs with
    | nil => intro vs _ h; simpa only [RL] using h
    | cons x xs ih =>
      intro vs hf h
      simp only [allL, Bool.and_eq_true] at hf
      simp only [RL] at h ⊢
      obtain ⟨v, vs', rfl, h1, h2⟩ := h
      exact ⟨v, vs', rfl, H x v hf.1 h1, ih vs' hf.2 h2⟩

theorem run_callFunc {P : Program} {g : FuncId} (h : entB P g = true) (args : Array Value) : (callFunc g args).run P w = .ok (.enter g args) w := by
  unfold entB at h
  split at h
  · rename_i fn hf
    simp only [Bool.and_eq_true, Bool.not_eq_true'] at h
    have h1 : fn.body.isNone = false := by cases hb : fn.body <;> simp_all
    simp only [callFunc, Sem.run_bind, run_program, Result.andThen_ok, hf, h.2, h1, if_false, Bool.false_eq_true, Sem.run_pure]
  · cases h

/-- Everything is let in; the frame is that of a round, or of none. -/
def fw (ro : Option Nat) : Fence := { Fence.wide with round := ro }

theorem callsIn_fw {ro : Option Nat} {n : Nat} {P : Program} {f : FuncId} {args : Array Value} {w : World} {R : Ending → World → Prop} : CallsIn (fw ro) n P f args w R ↔ Calls P f args w R := callsIn_wide (n := n)

theorem put_defers (a : Act) (dst : Option Tmp) (v : Value) : (a.put dst v).defers = a.defers := by cases dst <;> rfl

/-- One operation: soundness. -/
theorem Step.sound {ops : Array Oper} {o : Oper} (hE : EqOK E) (h : Rel w0 X st a w ρ) (hs : Step E B F ops.toList o st st') {K : Act → World → Prop} {Q : Exit → Act → World → Prop} {ro : Option Nat} {n : Nat}
    (hK' : ∀ a' w' ρ', Rel w0 X st' a' w' ρ' → Later w w' (Ow X ρ) (Ow X ρ') ρ ρ' → a'.defers = a.defers → K a' w') :
    if Region.wanted o (yielded ops a.tmps) then o.wpIn (fw ro) n E.P a w K Q else (∀ f, o.about E.P w a.eval = some f → (fw ro).fn f) ∧ K (a.put o.dst undef) w := by
  have hK : ∀ v w' ρ', Rel w0 X st' (a.put o.dst v) w' ρ' → Later w w' (Ow X ρ) (Ow X ρ') ρ ρ' → K (a.put o.dst v) w' := fun v w' ρ' h1 h2 => hK' _ w' ρ' h1 h2 (put_defers _ _ _)
  unfold Step at hs
  have hev := evA_R h.tmp
  split at hs
  · exact hs.elim
  · rename_i hg
    rw [wanted_of h hg, if_neg (by simp)]
    subst hs
    exact ⟨fun _ _ => trivial, hK _ _ ρ (h.put' o.dst (by simp only [R, RL]; exact ⟨[], rfl, rfl⟩)) ⟨Nat.le_refl _, fun _ _ _ => rfl, fun _ _ h => h, fun _ => .inl rfl⟩⟩
  · rename_i hg
    rw [wanted_of h hg, if_pos rfl]
    refine ⟨fun _ _ => trivial, ?_⟩
    split at hs
    · -- it changes objects
      replace hs := hs.2
      unfold Sem2 at hs
      split at hs
      · rename_i t x y hop
        obtain ⟨r, hr, rfl⟩ := hs
        obtain ⟨w', hrun, hrel, hL⟩ := storeA_sound h (hev x) (hev y) hr
        have hx : (execOp a.eval o).run E.P w = .ok .skip w' := by simp [execOp, hop, hrun]
        rw [Oper.semAt_eq _ _ _ (by rw [hop]; intro c hc; cases hc), hx]
        exact hK _ _ ρ (hrel.put' o.dst (by simp only [R, RL]; exact ⟨[], rfl, rfl⟩)) hL
      · rename_i x t hop
        obtain ⟨r, hr, rfl⟩ := hs
        obtain ⟨w', hrun, hrel, hL⟩ := clearA_sound (ty := o.type) h (hev x) hr
        have hx : (execOp a.eval o).run E.P w = .ok (.value (.tuple #[])) w' := by simp [execOp, hop, resolve, invoke, builtin, hrun]
        rw [Oper.semAt_eq _ _ _ (by rw [hop]; intro c hc; cases hc), hx]
        exact hK _ _ ρ (hrel.put' o.dst (by simp only [R, RL]; exact ⟨[], rfl, rfl⟩)) hL
      · rename_i x y t t' hop
        obtain ⟨r, d, hd, hr, hv, rfl⟩ := hs
        obtain ⟨kill, ob⟩ := r
        obtain ⟨v', w', hrun, hsl, hrel, hL⟩ := appendA_sound (ty := o.type) h (hev x) (hev y) hr hv
        have hx : (execOp a.eval o).run E.P w = .ok (.value v') w' := by simp [execOp, hop, resolve, invoke, builtin, hrun]
        rw [Oper.semAt_eq _ _ _ (by rw [hop]; intro c hc; cases hc), hx]
        refine hK _ _ (upd (killL ρ kill) (B + d) (.row v')) ?_ hL
        rw [hd]
        exact hrel.put' (some d) (x := .own (B + d)) (by simp only [R, upd_same]; exact ⟨trivial, hsl⟩)
      · exact hs.elim
    · obtain ⟨_, v, ob, hsem, hst⟩ := hs
      unfold Sem1 at hsem
      split at hsem
      · -- a call
        rename_i f args ts hop
        obtain ⟨g, vals, cl, r, d, hcp, ⟨hent, hfn⟩, hd, hfin⟩ := hsem
        obtain ⟨hfl, rfl, rfl⟩ := callFin_none hfin
        unfold callP at hcp
        split at hcp
        · rename_i g' caps hfv
          split at hcp
          · rename_i vals' hvals
            simp only [Option.some.injEq, Prod.mk.injEq] at hcp
            obtain ⟨rfl, rfl, rfl⟩ := hcp
            have hf := hev f
            rw [hfv] at hf
            simp only [R] at hf
            obtain ⟨cvs, hfe, hcaps⟩ := hf
            have hall := RL.append (mapEv_RL hev args.toList) hcaps
            have hx : (execOp a.eval o).run E.P w = .ok (.enter g' (args.toList.map a.eval ++ cvs).toArray) w := by
              simp only [execOp, hop, resolve, hfe, Deferred.ofValue, Sem.run_bind, Sem.run_pure, Result.andThen_ok, invoke]
              rw [run_callFunc hent]
              congr 2
              simp
            rw [Oper.semAt_eq _ _ _ (by rw [hop]; intro c hc; cases hc), hx]
            refine And.intro (fun h => (by cases h)) ?_
            rw [callsIn_fw]
            -- what the callee must not hand back
            have hargs : ∃ Y : Nat → Prop, (∀ b, Y b → b < w.heap.size) ∧ RL w Y vals' virg (args.toList.map a.eval ++ cvs) ∧ (flat 5 r.1 = true ∨ ∀ b, Ow X ρ b → Y b) := by
              rcases hfl with hfl | hcl
              · refine ⟨fun _ => False, fun b h => h.elim, ?_, .inl hfl⟩
                exact (expo_sound (h.obs (foM B F o)) (fun _ _ h => h.elim) (fun id b _ hb => ⟨(h.new b ⟨id, hb⟩).2, fun h => h⟩) 5).2 _ _ _ hall hvals
              · refine ⟨Ow X ρ, fun b hb => ?_, ?_, .inr fun _ h => h⟩
                · rcases hb with hb | hb
                  · exact Nat.lt_of_lt_of_le (h.old b hb) h.size
                  · exact (h.new b hb).2
                · exact (expo_closed 5).2 _ _ _ 5 hcl hvals hall
            obtain ⟨Y, hY, hrl, hYf⟩ := hargs
            refine (hfn w Y _ hY hrl).mono ?_
            rintro e w' ⟨rv, l, rfl, hb, hr, hob, hnew⟩
            simp only
            suffices hh : Rel w0 X st' (a.put o.dst rv) w' (match r.2 with | none => ρ | some _ => upd ρ (B + d) l) ∧ Later w w' (Ow X ρ) (Ow X (match r.2 with | none => ρ | some _ => upd ρ (B + d) l)) ρ (match r.2 with | none => ρ | some _ => upd ρ (B + d) l) from hK _ _ _ hh.1 hh.2
            have hsame : ∀ b, b < w.heap.size → w'.heap[b]? = w.heap[b]? := fun b hb' => hb.block b hb'
            cases hr2 : r.2 with
            | none =>
              rw [hr2] at hst hob
              simp only at hst hob ⊢
              subst hst
              subst hob
              have hL : Later w w' (Ow X ρ) (Ow X ρ) ρ ρ := ⟨hb.size, fun b hb' _ => hsame b hb', fun _ _ h => h, fun _ => .inl rfl⟩
              have hrel : Rel w0 X ⟨st.tmps, st.objs⟩ a w' ρ := h.next hL (h.kept.trans (hb.mono h.size)) (fun id => (h.obj id).later hL fun b hb' => hsame b (h.new b ⟨id, hb'⟩).2) h.dis (fun b hb' => ⟨(h.new b hb').1, Nat.lt_of_lt_of_le (h.new b hb').2 hb.size⟩)
              refine ⟨?_, hL⟩
              rw [hd]
              refine hrel.put' (some d) ?_
              have h0 : upd virg 0 Loc.virgin = virg := by funext i; simp [upd, virg]
              rw [h0] at hr
              -- no object: nothing is named
              have hren : R w' (Ow X ρ) (ren 0 (B + d) 6 r.1) virg rv := by
                have h1 : R w' (Ow X ρ) r.1 virg rv := by
                  rcases hYf with hf | hYf
                  · exact (flat_sound 5).1 _ _ hf hr
                  · exact R.later _ virg virg rv ⟨Nat.le_refl _, fun _ _ _ => rfl, fun b _ ho => .inl (hYf b ho), fun _ => .inl rfl⟩ hr
                have := (ren_sound (w' := w') (O := Ow X ρ) (l := .virgin) (ρ' := virg) (d := B + d) rfl 6).1 r.1 rv (by rw [h0]; exact h1)
                exact this
              exact R.later _ virg ρ rv ⟨Nat.le_refl _, fun _ _ _ => rfl, fun _ _ h => h, fun _ => .inr (.inl rfl)⟩ hren
            | some ob =>
              rw [hr2] at hst hob
              simp only at hst hob ⊢
              obtain ⟨d', hd', hvirg, hst⟩ := hst
              rw [hd] at hd'
              cases hd'
              subst hst
              have hvd := h.virgin hvirg
              have hL : Later w w' (Ow X ρ) (Ow X (upd ρ (B + d) l)) ρ (upd ρ (B + d) l) := by
                refine ⟨hb.size, fun b hb' _ => hsame b hb', fun b hb' ho => ?_, fun id => ?_⟩
                · rcases ho with ho | ho
                  · exact .inl ho
                  · rcases owned_upd ho with ho | ho
                    · exact .inr ho
                    · have := (hnew b ho).1; omega
                · by_cases hid : id = B + d
                  · subst hid; exact .inr (.inl hvd)
                  · exact .inl (upd_ne _ _ _ hid)
              have hO : ∀ b, Ow X (upd ρ (B + d) l) b → Ow X ρ b ∨ l.block = some b := by
                rintro b (ho | ho)
                · exact .inl (.inl ho)
                · rcases owned_upd ho with ho | ho
                  · exact .inl (.inr ho)
                  · exact .inr ho
              have hrel : Rel w0 X ⟨st.tmps, setX st.objs (B + d) ob⟩ a w' (upd ρ (B + d) l) := by
                refine h.next hL (h.kept.trans (hb.mono h.size)) (fun id => ?_) (fun i j b hi hj => ?_) (fun b hb' => ?_)
                · rw [getO_setX]
                  by_cases hid : id = B + d
                  · subst hid
                    rw [if_pos rfl, upd_same]
                    exact ObR.later (ρ := virg) ⟨Nat.le_refl _, fun _ _ hn => (hn trivial).elim, fun _ _ _ => trivial, fun _ => .inr (.inl rfl)⟩ (fun _ _ => rfl) hob
                  · rw [if_neg hid, upd_ne _ _ _ hid]
                    exact (h.obj id).later hL fun b hb' => hsame b (h.new b ⟨id, hb'⟩).2
                · by_cases hid : i = B + d <;> by_cases hjd : j = B + d
                  · rw [hid, hjd]
                  · subst hid
                    rw [upd_same] at hi; rw [upd_ne _ _ _ hjd] at hj
                    have := (h.new b ⟨j, hj⟩).2
                    have := (hnew b hi).1
                    omega
                  · subst hjd
                    rw [upd_same] at hj; rw [upd_ne _ _ _ hid] at hi
                    have := (h.new b ⟨i, hi⟩).2
                    have := (hnew b hj).1
                    omega
                  · rw [upd_ne _ _ _ hid] at hi; rw [upd_ne _ _ _ hjd] at hj
                    exact h.dis i j b hi hj
                · rcases owned_upd hb' with hb' | hb'
                  · exact ⟨(h.new b hb').1, Nat.lt_of_lt_of_le (h.new b hb').2 hb.size⟩
                  · have := hnew b hb'
                    exact ⟨Nat.le_trans h.size this.1, this.2⟩
              have hput := hrel.put' (some d) (x := ren 0 (B + d) 6 r.1) (v := rv) (by
                have h1 : R w' (Ow X (upd ρ (B + d) l)) r.1 (upd virg 0 l) rv := by
                  rcases hYf with hf | hYf
                  · exact (flat_sound 5).1 _ _ hf hr
                  · refine R.later _ _ _ rv ⟨Nat.le_refl _, fun _ _ _ => rfl, fun b _ ho => ?_, fun _ => .inl rfl⟩ hr
                    rcases hO b ho with ho | ho
                    · exact .inl (hYf b ho)
                    · exact .inr ho
                exact (ren_sound (ρ' := upd ρ (B + d) l) (upd_same _ _ _) 6).1 r.1 rv h1)
              rw [hd]
              exact ⟨hput, hL⟩
          · cases hcp
        · cases hcp
      · rename_i hnc
        split at hsem
        · rename_i hmk
          obtain ⟨d, rw_, x, hd, hso, rfl, rfl⟩ := hsem
          simp only at hst
          obtain ⟨d', hd', hvirg, rfl⟩ := hst
          rw [hd] at hd'; cases hd'
          obtain ⟨v, l, obj, hrun, hbl, hob, hr⟩ := semO_sound h hvirg hso
          rw [Oper.semAt_eq _ _ _ (by intro c hc; rw [hc] at hmk; cases hmk), hrun]
          rcases frzV_cases E.frz B d rw_ x with hz | ⟨e, c, n, el, rfl, rfl, hz⟩
          · rw [hz] at hK
            refine hK _ _ (upd ρ (B + d) l) ?_ (laterMake _ (h.virgin hvirg) hbl)
            rw [hd]
            exact (h.make hvirg hbl hob).put' (some d) hr
          · rw [hz] at hK
            have hbl' : ∀ b, Loc.dead.block = some b → b = w.heap.size := fun b hb => by cases hb
            refine hK _ _ (upd ρ (B + d) .dead) ?_ (laterMake _ (h.virgin hvirg) hbl')
            rw [hd]
            refine (h.make (ob := .dead) hvirg hbl' rfl).put' (some d) ?_
            have hob2 := hob
            obtain ⟨v', xs, hl, _⟩ := hob2
            subst hl
            simp only [mkV, R, upd_same] at hr
            obtain ⟨rfl, _⟩ := hr
            refine row_sl hob rfl (fun b hb ho => ?_) (fun b hb => ?_)
            · rcases ho with ho | ⟨id, ho⟩
              · exact .inl ho
              · by_cases hid : id = B + d
                · subst hid; rw [upd_same] at ho; cases ho
                · rw [upd_ne _ _ _ hid] at ho
                  exact .inr ⟨id, by rw [upd_ne _ _ _ hid]; exact ho⟩
            · have hb' := hbl b hb
              subst hb'
              refine ⟨by simp, ?_⟩
              rintro (ho | ⟨id, ho⟩)
              · have := h.old _ ho
                have := h.kept.size
                omega
              · by_cases hid : id = B + d
                · subst hid; rw [upd_same] at ho; cases ho
                · rw [upd_ne _ _ _ hid] at ho
                  have := (h.new _ ⟨id, ho⟩).2
                  omega
        · split at hsem
          · rename_i hmk hsb
            obtain ⟨d, x, hd, hso, rfl, rfl⟩ := hsem
            simp only at hst
            obtain ⟨d', hd', hvirg, rfl⟩ := hst
            rw [hd] at hd'; cases hd'
            obtain ⟨v, w', hrun, hsl, hrel, hL, hbl, hgr⟩ := s2bA_sound h hvirg hsb hso
            rw [Oper.semAt_eq _ _ _ (by intro c hc; rw [hc] at hsb; cases hsb), hrun]
            rcases frzV_cases E.frz B d true x with hz | ⟨e, c, n, el, _, rfl, hz⟩
            · rw [hz] at hK
              refine hK _ _ (upd ρ (B + d) (.row v)) ?_ hL
              rw [hd]
              exact hrel.put' (some d) (x := .own (B + d)) (by simp only [R, upd_same]; exact ⟨trivial, hsl⟩)
            · rw [hz] at hK
              have hob := hrel.obj (B + d)
              simp only [getO_setX, if_true, upd_same] at hob
              have hLd : Later w w' (Ow X ρ) (Ow X (upd ρ (B + d) .dead)) ρ (upd ρ (B + d) .dead) :=
                ⟨hL.size, hL.same, fun b hb ho => hL.own b hb (by
                  rcases ho with ho | ⟨id, ho⟩
                  · exact .inl ho
                  · by_cases hid : id = B + d
                    · subst hid; rw [upd_same] at ho; cases ho
                    · rw [upd_ne _ _ _ hid] at ho
                      exact .inr ⟨id, by rw [upd_ne _ _ _ hid]; exact ho⟩), fun id => by
                  by_cases hid : id = B + d
                  · subst hid; exact .inr (.inr (upd_same _ _ _))
                  · exact .inl (upd_ne _ _ _ hid)⟩
              refine hK _ _ (upd ρ (B + d) .dead) ?_ hLd
              rw [hd]
              have hrel2 : Rel w0 X ⟨st.tmps, setX st.objs (B + d) .dead⟩ a w' (upd ρ (B + d) .dead) := by
                refine h.next hLd hrel.kept (fun id => ?_) (fun i j b hi hj => ?_) (fun b hb => ?_)
                · rw [getO_setX]
                  by_cases hid : id = B + d
                  · subst hid; rw [if_pos rfl, upd_same]; rfl
                  · rw [if_neg hid, upd_ne _ _ _ hid]
                    exact (h.obj id).later hLd fun b hb => hgr.block b (h.new b ⟨id, hb⟩).2 (by simp)
                · by_cases hid : i = B + d
                  · subst hid; rw [upd_same] at hi; cases hi
                  · by_cases hjd : j = B + d
                    · subst hjd; rw [upd_same] at hj; cases hj
                    · rw [upd_ne _ _ _ hid] at hi; rw [upd_ne _ _ _ hjd] at hj
                      exact h.dis i j b hi hj
                · obtain ⟨id, ho⟩ := hb
                  by_cases hid : id = B + d
                  · subst hid; rw [upd_same] at ho; cases ho
                  · rw [upd_ne _ _ _ hid] at ho
                    have := h.new b ⟨id, ho⟩
                    exact ⟨this.1, Nat.lt_of_lt_of_le this.2 hL.size⟩
              refine hrel2.put' (some d) ?_
              refine row_sl hob rfl (fun b hb ho => ?_) (fun b hb => ?_)
              · rcases ho with ho | ⟨id, ho⟩
                · exact .inl ho
                · by_cases hid : id = B + d
                  · subst hid; rw [upd_same] at ho; cases ho
                  · rw [upd_ne _ _ _ hid] at ho
                    exact .inr ⟨id, by rw [upd_ne _ _ _ hid]; exact ho⟩
              · have hb' := hbl b hb
                subst hb'
                have hnew := hrel.new w.heap.size ⟨B + d, by rw [upd_same]; exact hb⟩
                refine ⟨hnew.2, ?_⟩
                rintro (ho | ⟨id, ho⟩)
                · have := h.old _ ho
                  have := h.kept.size
                  omega
                · by_cases hid : id = B + d
                  · subst hid; rw [upd_same] at ho; cases ho
                  · rw [upd_ne _ _ _ hid] at ho
                    have := (h.new _ ⟨id, ho⟩).2
                    omega
          obtain ⟨hv, rfl⟩ := hsem
          simp only at hst
          subst hst
          obtain ⟨v', hrun, hr⟩ := semV_sound hE hev (h.obs (foM B F o)) hv
          rw [Oper.semAt_eq _ _ _ (by intro c hc; rw [hc] at hv; simp [semV, T.eval] at hv), hrun]
          exact hK _ _ ρ (h.put' o.dst hr) ⟨Nat.le_refl _, fun _ _ _ => rfl, fun _ _ h => h, fun _ => .inl rfl⟩
end
end Go.Sy
