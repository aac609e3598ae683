import Derived.Test.YtphegncldncaiaaSyCall
set_option linter.unusedSimpArgs false
set_option linter.unusedSectionVars false
set_option linter.unusedVariables false
namespace Go.Sy
open Go.RowKit
set_option linter.unusedVariables false

section
variable {w0 w w' : World} {X : Nat → Prop} {E : Env} {B : Nat} {fl : Bool} {st : St} {a : Act} {ρ ρ' : Nat → Loc} {objs : List Ob}

theorem len_virgin : ∀ (l : List Ob) (id : Nat), l.length ≤ id → getO l id = .virgin
  | [], _, _ => rfl
  | a :: l, 0, h => by simp at h
  | a :: l, id + 1, h => by simp only [getO]; exact len_virgin l id (by simpa using h)

theorem virgin_from (h : Rel w0 X st a w ρ) {B' : Nat} (hB : st.objs.length ≤ B') : ∀ id, B' ≤ id → ρ id = .virgin := fun id hid => h.virgin (len_virgin _ _ (Nat.le_trans hB hid))

/-- AN OPERATION THAT CALLS A FUNCTION, the callee's text run in the caller's memory. -/
theorem WO.inl {ops : Array Oper} {i : Nat} {l : List Nat} {o : Oper} {K : St → Prop} {g : FuncId} {caps args : List A} {fn : Func} {c : Code} {B' : Nat} (ho : ops[i]? = some o) (hg : guardO ops.toList st.tmps o = some true) (hc : CallAt o st.tmps (.fn g caps) args)
    (hent : entB E.P g = true) (hf : E.P.funcs[g]? = some fn) (hb : fn.body = some c) (hB : st.objs.length ≤ B')
    (h : W E B' false c (st0 fn.ntmps (args ++ caps) st.objs) fun e s => e.out ∧ ∃ r, resV E.P s fn.results.toList = some r ∧ WO E B fl ops l ⟨putT st.tmps o.dst (packV r), s.objs⟩ K) : WO E B fl ops (i :: l) st K := by
  intro ro n w0 X a w ρ Q hro hr hq
  simp only [wpOpsIn, ho]
  rw [wanted_of hr hg, if_pos rfl]
  refine ⟨fun _ _ => trivial, ?_⟩
  obtain ⟨cx, as, tys, hop, hfv, rfl⟩ := hc
  have hev := evA_R hr.tmp
  have hfx := hev cx
  rw [← hfv] at hfx
  simp only [R] at hfx
  obtain ⟨cvs, hfe, hcaps⟩ := hfx
  have hall := RL.append (mapEv_RL hev as.toList) hcaps
  have hx : (execOp a.eval o).run E.P w = .ok (.enter g (as.toList.map a.eval ++ cvs).toArray) w := by
    simp only [execOp, hop, resolve, hfe, Deferred.ofValue, Sem.run_bind, Sem.run_pure, Result.andThen_ok, invoke]
    rw [run_callFunc hent]
    congr 2
    simp
  rw [Oper.semAt_eq _ _ _ (by rw [hop]; intro c hc; cases hc), hx]
  refine And.intro (fun h => (by cases h)) ?_
  rw [callsIn_fw]
  refine (call_inl (Q := fun r objs' => WO E B fl ops l ⟨putT st.tmps o.dst r, objs'⟩ K) hr.hp hall hf hb (virgin_from hr hB) ?_).mono ?_
  · exact h.mono fun e s ⟨h1, r, h2, h3⟩ => ⟨h1, r, h2, h3⟩
  · rintro e w1 ⟨v, r, objs', ρ', rfl, hwo, hrv, hp, hl⟩
    have hr1 := (hr.after hl hp).put' o.dst hrv
    exact hwo ro n w0 X _ w1 ρ' Q hro hr1 fun st' a' w' ρ'' hk hr' hl' hd' => hq st' a' w' ρ'' hk hr' (hl.trans hl') (hd'.trans (put_defers _ _ _))

theorem expo1_sound {id : Nat} {x x' : A} {v : Value} (h : Rel w0 X st a w ρ) (hr : R w (Ow X ρ) x ρ v) (he : expo1 id (setX st.objs id .dead) x = some x') : R w (fun b => (ρ id).block = some b) x' (upd virg 0 (ρ id)) v := by
  have key : ∀ x', expo (setX st.objs id .dead) 5 x = some x' → R w (fun b => (ρ id).block = some b) x' (upd virg 0 (ρ id)) v := by
    intro x' he
    have := (expo_sound (O' := fun b => (ρ id).block = some b) (objs := setX st.objs id .dead) (h.obs [id]) (fun b _ hb => .inr ⟨id, hb⟩) (fun j b hj hb => ⟨(h.new b ⟨j, hb⟩).2, fun hi => ?_⟩) 5).1 x x' v hr he
    · exact R.later _ virg (upd virg 0 (ρ id)) v ⟨Nat.le_refl _, fun _ _ _ => rfl, fun _ _ h => h, fun _ => .inr (.inl rfl)⟩ this
    · have := h.dis j id b hb hi
      subst this
      rw [getO_setX, if_pos rfl] at hj
      exact hj rfl
  unfold expo1 at he
  split at he
  · rename_i j
    cases hj : Nat.beq j id with
    | true =>
      rw [hj] at he
      simp only [cond_true, Option.some.injEq] at he
      subst he
      have := Nat.eq_of_beq_eq_true hj
      subst this
      simp only [R, upd_same] at hr ⊢
      exact hr
    | false => rw [hj] at he; exact key x' he
  · exact key x' he
theorem expoM_sound {id : Nat} (h : Rel w0 X st a w ρ) : ∀ {l l' : List A} {vs : List Value}, RL w (Ow X ρ) l ρ vs → expoM id (setX st.objs id .dead) l = some l' → RL w (fun b => (ρ id).block = some b) l' (upd virg 0 (ρ id)) vs
  | [], l', vs, hr, he => by simp only [expoM, Option.some.injEq] at he; subst he; simpa only [RL] using hr
  | x :: l, l', vs, hr, he => by
    simp only [expoM] at he
    split at he
    · rename_i b m h1 h2
      simp only [Option.some.injEq] at he
      subst he
      simp only [RL] at hr ⊢
      obtain ⟨v, vs', rfl, h3, h4⟩ := hr
      exact ⟨v, vs', rfl, expo1_sound h h3 h1, expoM_sound h h4 h2⟩
    · cases he

/-- A call of a function that changes a row of the frame. -/
theorem WO.mut {ops : Array Oper} {i : Nat} {l : List Nat} {o : Oper} {K : St → Prop} {g : FuncId} {caps args vals : List A} {post : Ob → A → Prop} (id : Nat) {e : TypeId} {c n : Nat} {el : Nat → Nat → A} (ho : ops[i]? = some o) (hg : guardO ops.toList st.tmps o = some true) (hc : CallAt o st.tmps (.fn g caps) args)
    (hob : getO st.objs id = .row e c n el) (hv : expoM id (setX st.objs id .dead) (args ++ caps) = some vals) (hf : FnMu E.P g vals (.row e c n el) post)
    (h : ∀ ob' r, post ob' r → WO E B fl ops l ⟨putT st.tmps o.dst (ren 0 id 6 r), setX st.objs id ob'⟩ K) : WO E B fl ops (i :: l) st K := by
  intro ro n' w0 X a w ρ Q hro hr hq
  simp only [wpOpsIn, ho]
  rw [wanted_of hr hg, if_pos rfl]
  refine ⟨fun _ _ => trivial, ?_⟩
  obtain ⟨cx, as, tys, hop, hfv, rfl⟩ := hc
  have hev := evA_R hr.tmp
  have hfx := hev cx
  rw [← hfv] at hfx
  simp only [R] at hfx
  obtain ⟨cvs, hfe, hcaps⟩ := hfx
  have hall := RL.append (mapEv_RL hev as.toList) hcaps
  have hx : (execOp a.eval o).run E.P w = .ok (.enter g (as.toList.map a.eval ++ cvs).toArray) w := by
    simp only [execOp, hop, resolve, hfe, Deferred.ofValue, Sem.run_bind, Sem.run_pure, Result.andThen_ok, invoke]
    rw [run_callFunc hf.ent]
    congr 2
    simp
  rw [Oper.semAt_eq _ _ _ (by rw [hop]; intro c hc; cases hc), hx]
  refine And.intro (fun h => (by cases h)) ?_
  rw [callsIn_fw]
  have hrow := hr.obj id
  rw [hob] at hrow
  have hrow' : ObR w (fun b => (ρ id).block = some b) virg (.row e c n el) (ρ id) := by
    obtain ⟨v, xs, h1, h2, h3, h4⟩ := hrow
    refine ⟨v, xs, h1, h2, h3, fun i hi j hj => ?_⟩
    obtain ⟨u, h5, h6⟩ := h4 i hi j hj
    exact ⟨u, h5, R.later _ virg virg u ⟨Nat.le_refl _, fun _ _ _ => rfl, fun b _ hb => .inr ⟨id, hb⟩, fun _ => .inl rfl⟩ h6⟩
  refine (hf.run w (ρ id) _ (fun b hb => (hr.new b ⟨id, hb⟩).2) hrow' (expoM_sound hr hall hv)).mono ?_
  rintro e' w' ⟨v, ob', r, rfl, hp, hbl, hsame, hob', hfl, hrv⟩
  have hL : Later w w' (Ow X ρ) (Ow X ρ) ρ ρ := ⟨hbl.size, fun b hb hn => hsame b hb (fun e => hn (.inr ⟨id, e⟩)), fun _ _ h => h, fun _ => .inl rfl⟩
  have hkept : Below w0.heap.size w0 w' := hr.kept.trans ⟨hbl.os, hbl.tape, hbl.output, hbl.size, fun k hk => hsame k (Nat.lt_of_lt_of_le hk hr.size) (fun e => by have := (hr.new k ⟨id, e⟩).1; omega)⟩
  have hrel : Rel w0 X ⟨st.tmps, setX st.objs id ob'⟩ a w' ρ := by
    refine hr.next hL hkept (fun j => ?_) hr.dis (fun b hb => ⟨(hr.new b hb).1, Nat.lt_of_lt_of_le (hr.new b hb).2 hbl.size⟩)
    rw [getO_setX]
    by_cases hj : j = id
    · subst hj
      rw [if_pos rfl]
      exact ObR.later (ρ := virg) ⟨Nat.le_refl _, fun _ _ hn => (hn trivial).elim, fun _ _ _ => trivial, fun _ => .inr (.inl rfl)⟩ (fun _ _ => rfl) hob'
    · rw [if_neg hj]
      exact (hr.obj j).later hL fun b hb => hsame b (hr.new b ⟨j, hb⟩).2 (fun e => hj (hr.dis j id b hb e))
  have hr1 := hrel.put' o.dst (x := ren 0 id 6 r) (v := v) ((ren_sound (w' := w') (O := Ow X ρ) (l := ρ id) (ρ' := ρ) (d := id) rfl 6).1 r v ((flat_sound 5).1 _ _ hfl hrv))
  exact h ob' r hp ro n' w0 X _ w' ρ Q hro hr1 fun st' a' w'' ρ'' hk hr' hl' hd' => hq st' a' w'' ρ'' hk hr' (hL.trans hl') (hd'.trans (put_defers _ _ _))

/-- An object is given up. -/
theorem Rel.kill (h : Rel w0 X st a w ρ) (L : Nat) : Rel w0 X ⟨st.tmps, setX st.objs L .dead⟩ a w (upd ρ L .dead) ∧ Later w w (Ow X ρ) (Ow X (upd ρ L .dead)) ρ (upd ρ L .dead) := by
  have hblk : ∀ id b, (upd ρ L .dead id).block = some b → (ρ id).block = some b ∧ id ≠ L := by
    intro id b hb
    by_cases hid : id = L
    · subst hid; rw [upd_same] at hb; cases hb
    · rw [upd_ne _ _ _ hid] at hb; exact ⟨hb, hid⟩
  have how : ∀ b, owned (upd ρ L .dead) b → owned ρ b := fun b ⟨id, hid⟩ => ⟨id, (hblk id b hid).1⟩
  have hL : Later w w (Ow X ρ) (Ow X (upd ρ L .dead)) ρ (upd ρ L .dead) := by
    refine ⟨Nat.le_refl _, fun _ _ _ => rfl, fun b _ ho => ?_, fun id => ?_⟩
    · rcases ho with ho | ho
      · exact .inl ho
      · exact .inr (how b ho)
    · by_cases hid : id = L
      · subst hid; exact .inr (.inr (upd_same _ _ _))
      · exact .inl (upd_ne _ _ _ hid)
  refine ⟨h.next hL h.kept (fun id => ?_) (fun i j b hi hj => h.dis i j b (hblk i b hi).1 (hblk j b hj).1) (fun b hb => h.new b (how b hb)), hL⟩
  rw [getO_setX]
  by_cases hid : id = L
  · subst hid; rw [if_pos rfl, upd_same]; exact rfl
  · rw [if_neg hid, upd_ne _ _ _ hid]
    exact (h.obj id).later hL fun _ _ => rfl

/-- A loop's record turns. -/
theorem Rel.setLoop (h : Rel w0 X st a w ρ) {L b : Nat} {r : Loop} {ts : List A} {ps : List Nat} {asg bod : Code} {sta : LoopState} {pend : Option Code} (hob : getO st.objs L = .lp ts ps asg bod sta pend) (hρ : ρ L = .loop b) (hg : w.heap[b]? = some (.loop r)) (sta' : LoopState) (pend' : Option Code) :
    Rel w0 X ⟨st.tmps, setX st.objs L (.lp ts ps asg bod sta' pend')⟩ a (w.putObj b (.loop { r with state := sta', pending := pend' })) ρ ∧
      Later w (w.putObj b (.loop { r with state := sta', pending := pend' })) (Ow X ρ) (Ow X ρ) ρ ρ := by
  have hbl : (ρ L).block = some b := by rw [hρ]; rfl
  have hL : Later w (w.putObj b (.loop { r with state := sta', pending := pend' })) (Ow X ρ) (Ow X ρ) ρ ρ :=
    ⟨by simp, fun b' _ hn => World.putObj_heap_other (fun e => hn (by subst e; exact .inr ⟨L, hbl⟩)), fun _ _ h => h, fun _ => .inl rfl⟩
  refine ⟨h.next hL (below_putObj h.kept (h.new b ⟨L, hbl⟩).1 _) (fun i => ?_) h.dis (fun b' hb' => by have := h.new b' hb'; simpa using this), hL⟩
  rw [getO_setX]
  by_cases hid : i = L
  · subst hid
    rw [if_pos rfl]
    have := h.obj i
    rw [hob] at this
    obtain ⟨b', r', vs, h1, h2, h3, h4, h5, h6, h7, h8, h9⟩ := this
    rw [hρ] at h1
    simp only [Loc.loop.injEq] at h1
    subst h1
    rw [hg] at h2
    simp only [Option.some.injEq, Obj.loop.injEq] at h2
    subst h2
    exact ⟨b, _, vs, hρ, World.putObj_heap_same (Array.getElem?_eq_some_iff.1 hg).1, h3, RL.later _ _ _ _ hL h4, h5, h6, h7, rfl, rfl⟩
  · rw [if_neg hid]
    exact (h.obj i).later hL fun b' hb' => World.putObj_heap_other (fun e => hid (h.dis i L b (by rw [hb', e]) hbl))

/-- The loop's variables. -/
def putPs : List A → List Nat → List A → List A
  | ts, p :: ps, a :: as => putPs (setL ts p a) ps as
  | ts, _, _ => ts

theorem putPs_sound {O : Nat → Prop} : ∀ (ps : List Nat) (args : List A) (vs : List Value) (ts : List A) (tv : Array Value), RL w O args ρ vs → tv.size = ts.length → (∀ i, R w O (getA ts i) ρ (tv.getD i undef)) →
    ((ps.zip vs).foldl (fun t (p : Nat × Value) => t.setIfInBounds p.1 p.2) tv).size = (putPs ts ps args).length ∧ ∀ i, R w O (getA (putPs ts ps args) i) ρ (((ps.zip vs).foldl (fun t (p : Nat × Value) => t.setIfInBounds p.1 p.2) tv).getD i undef)
  | [], args, vs, ts, tv, ha, hl, ht => by cases args <;> exact ⟨hl, ht⟩
  | p :: ps, [], vs, ts, tv, ha, hl, ht => by
    simp only [RL] at ha; subst ha
    exact ⟨hl, ht⟩
  | p :: ps, x :: args, vs, ts, tv, ha, hl, ht => by
    simp only [RL] at ha
    obtain ⟨v, vs', rfl, h1, h2⟩ := ha
    simp only [putPs, List.zip_cons_cons, List.foldl_cons]
    refine putPs_sound ps args vs' (setL ts p x) (tv.setIfInBounds p v) h2 (by simp [length_setL, hl]) fun i => ?_
    rw [getA_setL]
    by_cases hi : i = p ∧ p < ts.length
    · rw [if_pos hi]
      obtain ⟨rfl, hp⟩ := hi
      have : (tv.setIfInBounds i v).getD i undef = v := by simp [Array.getD, hl, hp]
      rw [this]; exact h1
    · rw [if_neg hi]
      have : (tv.setIfInBounds p v).getD i undef = tv.getD i undef := by
        by_cases hid : i = p
        · subst hid
          have hge : tv.size ≤ i := by rw [hl]; exact Nat.le_of_not_lt fun h' => hi ⟨rfl, h'⟩
          rw [Array.setIfInBounds_eq_of_size_le hge]
        · simp [Array.getD_eq_getD_getElem?, Ne.symm hid]
      rw [this]; exact ht i

def Ex.jump : Ex → Option Code
  | .normal => none
  | .exit id => some (.exit id)
  | .ret => some .ret
def Ex.goes : Ex → Bool
  | .normal => true
  | _ => false
def Ex.sta : Ex → LoopState
  | .normal => .ready
  | _ => .done

/-- AN OPERATION THAT CALLS yield: one round of the loop. -/
theorem WO.yield {ops : Array Oper} {i : Nat} {l : List Nat} {o : Oper} {K : St → Prop} {L : Nat} {args : List A} {ts : List A} {ps : List Nat} {asg bod : Code} {pend : Option Code} {B' : Nat} (ho : ops[i]? = some o) (hg : guardO ops.toList st.tmps o = some true) (hc : CallAt o st.tmps (.yld L) args)
    (hlp : getO st.objs L = .lp ts ps asg bod .ready pend) (hlen : args.length = ps.length) (hB : st.objs.length ≤ B')
    (h : W E B' true asg ⟨putPs ts ps args, st.objs⟩ fun e s1 => match e with
      | .normal => ∃ ts1 ps1 asg1 bod1 pend1, getO s1.objs L = .lp ts1 ps1 asg1 bod1 .ready pend1 ∧
        W E B' true bod ⟨s1.tmps, setX s1.objs L (.lp ts1 ps1 asg1 bod1 .busy pend1)⟩ fun e2 s2 => ∃ ts2 ps2 asg2 bod2 sta2 pend2, getO s2.objs L = .lp ts2 ps2 asg2 bod2 sta2 pend2 ∧
          WO E B fl ops l ⟨putT st.tmps o.dst (.kb e2.goes), setX s2.objs L (.lp ts2 ps2 asg2 bod2 e2.sta e2.jump)⟩ K
      | _ => False) : WO E B fl ops (i :: l) st K := by
  intro ro n w0 X a w ρ Q hro hr hq
  simp only [wpOpsIn, ho]
  rw [wanted_of hr hg, if_pos rfl]
  refine ⟨fun _ _ => trivial, ?_⟩
  obtain ⟨cx, as, tys, hop, hfv, rfl⟩ := hc
  have hev := evA_R hr.tmp
  have hfx := hev cx
  rw [← hfv] at hfx
  have hob := hr.obj L
  rw [hlp] at hob
  obtain ⟨b, r, vs, hρ, hgb, htm, hts, hps, hasg, hbod, hsta, hpend⟩ := hob
  simp only [R, hρ] at hfx
  have hargs := mapEv_RL hev as.toList
  have hsz : (as.map a.eval).size = r.params.size := by
    have h1 : r.params.size = ps.length := by rw [← hps]; simp
    have h2 := hargs.len
    simp only [List.length_map, Array.length_toList] at h2
    simp only [Array.size_map, h1, ← hlen]
    exact h2
  have hx : (execOp a.eval o).run E.P w = .ok (.round b r.fn ((r.params.zip (as.map a.eval)).foldl (fun tmps (t, a) => tmps.setIfInBounds t a) r.tmps) r.assign r.body) w := by
    simp only [execOp, hop, resolve, hfx, Deferred.ofValue, Sem.run_bind, Sem.run_pure, Result.andThen_ok, invoke]
    simpa using run_yield (P := E.P) hgb hsz
  rw [Oper.semAt_eq _ _ _ (by rw [hop]; intro c hc; cases hc), hx]
  refine And.intro (fun h => (by cases h)) ?_
  have hv := virgin_from hr hB
  -- the round's frame
  have htv : ((r.params.zip (as.map a.eval)).foldl (fun tmps (t, a) => tmps.setIfInBounds t a) r.tmps) = ((ps.zip (as.toList.map a.eval)).foldl (fun t (p : Nat × Value) => t.setIfInBounds p.1 p.2) (List.toArray vs)) := by
    rw [htm, ← hps]
    rw [← Array.foldl_toList]
    congr 1
    simp
  rw [htv]
  have hput := putPs_sound (w := w) (ρ := ρ) (O := Ow X ρ) ps _ _ ts (List.toArray vs) hargs (by simp [hts.len]) (fun i => by
    by_cases hi : i < vs.length
    · have : (List.toArray vs).getD i undef = vs[i] := by simp [Array.getD, hi]
      rw [this]
      exact hts.get i _ (List.getElem?_eq_getElem hi)
    · have hl := hts.len
      have : getA ts i = .junk := by
        have : ∀ (l : List A) (i : Nat), l.length ≤ i → getA l i = .junk := by
          intro l
          induction l with
          | nil => intro i _; rfl
          | cons x l ih => intro i h; cases i with
            | zero => simp at h
            | succ i => exact ih i (by simpa using h)
        exact this ts i (by omega)
      rw [this]; simp only [R])
  have hrel0 : Rel w0 X ⟨putPs ts ps (mapEv (evA st.tmps) as.toList), st.objs⟩ { tmps := ((ps.zip (as.toList.map a.eval)).foldl (fun t (p : Nat × Value) => t.setIfInBounds p.1 p.2) (List.toArray vs)), defers := [] } w ρ :=
    ⟨hput.1, hput.2, hr.obj, hr.dis, hr.kept, hr.new, hr.old, ⟨[], rfl, List.nodup_nil, by simp⟩⟩
  refine roundIn_of_wpIn (F := fw ro) trivial ?_
  rw [hasg, hbod]
  refine wpIn_mono (h (some b) (n - 1) w0 X _ w ρ (fun h => by cases h) hrel0) ?_
  rintro e a1 w1 ⟨e0, s1, ρ1, Ds, rfl, h1, h2, h3, h4, h5⟩
  cases e0 with
  | exit id => exact h1.elim
  | ret => exact h1.elim
  | normal =>
    obtain ⟨ts1, ps1, asg1, bod1, pend1, hlp1, hbody⟩ := h1
    have hl1 := h3.later hv
    -- where the record lies has not turned
    have hρL : ∀ {ρ' : Nat → Loc} {w' : World} {s' : St} {a' : Act}, Rel w0 X s' a' w' ρ' → Later w w' (Ow X ρ) (Ow X ρ') ρ ρ' → ∀ {t p q d t' p'}, getO s'.objs L = .lp t p q d t' p' → ρ' L = .loop b := by
      intro ρ' w' s' a' hr' hl' t p q d t' p' hlp'
      rcases hl'.loc L with e | e | e
      · rw [e, hρ]
      · rw [hρ] at e; cases e
      · have := hr'.obj L
        rw [hlp', e] at this
        obtain ⟨_, _, _, h, _⟩ := this
        cases h
    have hρ1 := hρL h2 hl1 hlp1
    have hob1 := h2.obj L
    rw [hlp1] at hob1
    obtain ⟨b1, r1, vs1, e1, hgb1, _, _, _, _, _, hsta1, hpend1⟩ := hob1
    rw [hρ1] at e1
    simp only [Loc.loop.injEq] at e1
    subst e1
    refine ⟨_, run_beginRound hgb1 hsta1, ?_⟩
    obtain ⟨hr2, hl2⟩ := h2.setLoop hlp1 hρ1 hgb1 .busy pend1
    have hrr : ({ r1 with state := .busy, pending := pend1 } : Loop) = { r1 with state := .busy } := by rw [← hpend1]
    rw [hrr] at hr2 hl2
    refine wpIn_mono (hbody (some b) (n - 1) w0 X _ _ ρ1 (fun h => by cases h) hr2) ?_
    rintro e a2 w2 ⟨e2, s2, ρ2, Ds2, rfl, k1, k2, k3, k4, k5⟩
    obtain ⟨ts2, ps2, asg2, bod2, sta2, pend2, hlp2, hwo⟩ := k1
    have hl12 : Later w w2 (Ow X ρ) (Ow X ρ2) ρ ρ2 := ((h3.trans hl2.ltB).trans k3).later hv
    have hρ2 := hρL k2 hl12 hlp2
    have hob2 := k2.obj L
    rw [hlp2] at hob2
    obtain ⟨b2, r2, vs2, e3, hgb2, _, _, _, _, _, hsta2, hpend2⟩ := hob2
    rw [hρ2] at e3
    simp only [Loc.loop.injEq] at e3
    subst e3
    obtain ⟨hr3, hl3⟩ := k2.setLoop hlp2 hρ2 hgb2 e2.sta e2.jump
    have hfin : Rel w0 X ⟨putT st.tmps o.dst (.kb e2.goes), setX s2.objs L (.lp ts2 ps2 asg2 bod2 e2.sta e2.jump)⟩ (a.put o.dst (.bool e2.goes)) (w2.putObj b (.loop { r2 with state := e2.sta, pending := e2.jump })) ρ2 :=
      (hr.after (hl12.trans hl3) hr3.hp).put' o.dst (by simp only [R])
    have hend := hwo ro n w0 X _ _ ρ2 Q hro hfin fun st' a' w' ρ'' hk hr' hl' hd' => hq st' a' w' ρ'' hk hr' ((hl12.trans hl3).trans hl') (hd'.trans (put_defers _ _ _))
    cases e2 with
    | normal => exact ⟨_, _, run_endRound none hgb2, hend⟩
    | exit id => exact ⟨_, _, run_endRound (some (.exit id)) hgb2, hend⟩
    | ret => exact ⟨_, _, run_endRound (some .ret) hgb2, hend⟩

/-- Where a loop over a function ends. -/
def rangeEnd (Q : Ex → St → Prop) (st : St) : Option Code → Prop
  | none => Q .normal st
  | some .ret => Q .ret st
  | some (.exit id) => Q (.exit id) st
  | _ => False

/-- 'for .. := range f': the iterator's text run in the caller's memory, with 'yield' for its argument. -/
theorem W.range {Q : Ex → St → Prop} {g : Operand} {ps : Array Tmp} {asg bod : Code} {gf : FuncId} {caps : List A} {fn : Func} {c : Code} {L B' : Nat} (hg : evA st.tmps g = .fn gf caps) (hent : entB E.P gf = true) (hf : E.P.funcs[gf]? = some fn) (hb : fn.body = some c)
    (hL : getO st.objs L = .virgin) (hB : (setX st.objs L (.lp st.tmps ps.toList asg bod .ready none)).length ≤ B')
    (h : W E B' false c (st0 fn.ntmps (.yld L :: caps) (setX st.objs L (.lp st.tmps ps.toList asg bod .ready none))) fun e s => e.out ∧ ∃ r, resV E.P s fn.results.toList = some r ∧
      ∃ ts ps' asg' bod' sta pend, getO s.objs L = .lp ts ps' asg' bod' sta pend ∧ (match sta with | .busy => False | _ => True) ∧ rangeEnd Q ⟨st.tmps, setX s.objs L .dead⟩ pend) :
    W E B false (.rangeFunc g ps asg bod) st Q := by
  intro ro n w0 X a w ρ hro hr
  have hro := hro rfl
  subst hro
  refine wpIn_rangeFunc fun fnn _ => ?_
  have hev := evA_R hr.tmp
  have hfx := hev g
  rw [hg] at hfx
  simp only [R] at hfx
  obtain ⟨cvs, hfe, hcaps⟩ := hfx
  obtain ⟨rec, hrec⟩ : ∃ rec : Loop, rec = { state := .ready, pending := none, fn := fnn, tmps := a.tmps, params := ps, assign := asg, body := bod, defers := w.heap.size } := ⟨_, rfl⟩
  -- the two blocks
  have hlA : Later w (w.alloc (.deferred (some []))) (Ow X ρ) (Ow X ρ) ρ ρ := ⟨by simp, fun b hb _ => Below.heap_alloc _ _ _ hb, fun _ _ h => h, fun _ => .inl rfl⟩
  have hrA : Rel w0 X st a (w.alloc (.deferred (some []))) ρ :=
    hr.next hlA (hr.kept.alloc hr.size _) (fun id => (hr.obj id).later hlA fun b hb => Below.heap_alloc _ _ _ (hr.new b ⟨id, hb⟩).2) hr.dis (fun b hb => by have := hr.new b hb; simp; omega)
  have hvL := hrA.virgin hL
  have hloc : ∀ b, (Loc.loop (w.heap.size + 1)).block = some b → b = (w.alloc (.deferred (some []))).heap.size := fun b hb => by simpa [Loc.block, eq_comm] using hb
  have hlB := laterMake (X := X) (w := w.alloc (.deferred (some []))) (.loop rec) hvL hloc
  have hal : ∀ (w : World) (o : Obj), (w.alloc o).heap[w.heap.size]? = some o := World.alloc_heap_new
  have hobL : ObR ((w.alloc (.deferred (some []))).alloc (.loop rec)) (Ow X (upd ρ L (.loop (w.heap.size + 1)))) (upd ρ L (.loop (w.heap.size + 1))) (.lp st.tmps ps.toList asg bod .ready none) (.loop (w.heap.size + 1)) := by
    refine ⟨w.heap.size + 1, rec, a.tmps.toList, rfl, ?_, by rw [hrec], ?_, by rw [hrec], by rw [hrec], by rw [hrec], by rw [hrec], by rw [hrec]⟩
    · have := hal (w.alloc (.deferred (some []))) (.loop rec); rwa [World.size_alloc] at this
    · refine RL.later _ ρ _ _ hlB (RL_of_get (by rw [Array.length_toList, hr.len]) fun i v hv => ?_)
      have := hrA.tmp i
      have e : a.tmps.getD i undef = v := by
        rw [Array.getD_eq_getD_getElem?]
        have : a.tmps[i]? = some v := by simpa using hv
        rw [this]; rfl
      rwa [e] at this
  have hrB := hrA.make hL hloc hobL
  have hyv : R ((w.alloc (.deferred (some []))).alloc (.loop rec)) (Ow X (upd ρ L (.loop (w.heap.size + 1)))) (.yld L) (upd ρ L (.loop (w.heap.size + 1))) (.func (.yield (w.heap.size + 1)) #[] #[]) := by
    simp only [R, upd_same]
  have hcv := RL.later _ _ _ _ (hlA.trans hlB) hcaps
  have hargs : RL ((w.alloc (.deferred (some []))).alloc (.loop rec)) (Ow X (upd ρ L (.loop (w.heap.size + 1)))) (.yld L :: caps) (upd ρ L (.loop (w.heap.size + 1))) (.func (.yield (w.heap.size + 1)) #[] #[] :: cvs) := by
    simp only [RL]; exact ⟨_, _, rfl, hyv, hcv⟩
  refine ⟨w.heap.size + 1, [markOf w.heap.size], (w.alloc (.deferred (some []))).alloc (.loop rec), { target := .fn (.func gf) (List.toArray cvs), args := #[.func (.yield (w.heap.size + 1)) #[] #[]] }, (w.alloc (.deferred (some []))).alloc (.loop rec), gf,
    (Value.func (.yield (w.heap.size + 1)) #[] #[] :: cvs).toArray, (w.alloc (.deferred (some []))).alloc (.loop rec), ?_, ?_, fun _ _ => trivial, ?_, (fun h => (by cases h)), ?_⟩
  · rw [hrec]; exact run_enterLoop_outer _ _ _ _ _
  · simp only [resolve, hfe, Deferred.ofValue, Sem.run_bind, Sem.run_pure, Result.andThen_ok]
    simp
    rfl
  · simp only [invoke]
    rw [run_callFunc hent]
    congr 2
    simp
  · rw [callsIn_fw]
    refine (call_inl (Q := fun _ objs' => ∃ ts ps' asg' bod' sta pend, getO objs' L = .lp ts ps' asg' bod' sta pend ∧ (match sta with | .busy => False | _ => True) ∧ rangeEnd Q ⟨st.tmps, setX objs' L .dead⟩ pend) hrB.hp hargs hf hb (virgin_from hrB hB) ?_).mono ?_
    · exact h.mono fun e s ⟨h1, r, h2, h3⟩ => ⟨h1, r, h2, h3⟩
    · rintro e w3 ⟨v, r, objs', ρ', rfl, ⟨ts, ps', asg', bod', sta, pend, hlp, hsta, hend⟩, hrv, hp, hl⟩
      have hl3 := (hlA.trans hlB).trans hl
      have hrC : Rel w0 X ⟨st.tmps, objs'⟩ a w3 ρ' := hrB.after hl hp
      have hρL : ρ' L = .loop (w.heap.size + 1) := by
        rcases hl.loc L with e | e | e
        · rw [e, upd_same]
        · rw [upd_same] at e; cases e
        · have := hp.obj L
          rw [hlp, e] at this
          obtain ⟨_, _, _, h, _⟩ := this
          cases h
      have hob := hp.obj L
      rw [hlp] at hob
      obtain ⟨b1, r1, vs1, e1, hgb1, _, _, _, _, _, hsta1, hpend1⟩ := hob
      rw [hρL] at e1
      simp only [Loc.loop.injEq] at e1
      subst e1
      refine ⟨_, _, run_endLoop hgb1 (by rw [hsta1]; cases sta <;> first | exact hsta.elim | simp), ?_⟩
      obtain ⟨hrD, hlD⟩ := hrC.setLoop hlp hρL hgb1 .exhausted pend
      have hrr : ({ r1 with state := .exhausted, pending := pend } : Loop) = { r1 with state := .exhausted } := by rw [← hpend1]
      rw [hrr] at hrD hlD
      obtain ⟨hrE, hlE⟩ := hrD.kill L
      have hset : setX (setX objs' L (.lp ts ps' asg' bod' .exhausted pend)) L .dead = setX objs' L .dead := setX_setX _ _ _ _
      simp only [hset] at hrE
      have hl5 := (hl3.trans hlD).trans hlE
      -- the block for the deferred calls
      have hD0 : ((w.alloc (.deferred (some []))).alloc (.loop rec)).heap[w.heap.size]? = some (.deferred (some [])) := (Below.heap_alloc _ _ _ (by simp)).trans (hal w _)
      have hnO : ¬ Ow X (upd ρ L (.loop (w.heap.size + 1))) w.heap.size := hrB.dfr_free hD0 hr.size
      have hD1 : (w3.putObj (w.heap.size + 1) (.loop { r1 with state := .exhausted })).heap[w.heap.size]? = some (.deferred (some [])) := by
        rw [World.putObj_heap_other (by omega)]
        exact (hl.same _ (by simp; omega) hnO).trans hD0
      have hrF : Rel w0 X ⟨st.tmps, setX objs' L .dead⟩ { a with defers := [markOf w.heap.size] ++ a.defers } (w3.putObj (w.heap.size + 1) (.loop { r1 with state := .exhausted })) (upd ρ' L .dead) := by
        refine ⟨hrE.len, hrE.tmp, hrE.obj, hrE.dis, hrE.kept, hrE.new, hrE.old, ?_⟩
        obtain ⟨Ds, d1, d2, d3⟩ := hrE.dfr
        obtain ⟨Ds0, f1, f2, f3⟩ := hr.dfr
        have hDD : Ds = Ds0 := by
          have : List.map markOf Ds = List.map markOf Ds0 := by rw [← d1, ← f1]
          refine (List.map_inj_right ?_).1 this
          intro x y hxy
          simpa [markOf] using hxy
        subst hDD
        refine ⟨w.heap.size :: Ds, by rw [d1]; rfl, List.nodup_cons.2 ⟨fun hm => ?_, d2⟩, fun D hm => ?_⟩
        · have := (Array.getElem?_eq_some_iff.1 (f3 _ hm).1).1; omega
        · rcases List.mem_cons.1 hm with rfl | hm
          · exact ⟨hD1, hr.size⟩
          · exact d3 D hm
      have hpost : ∀ e0, Q e0 ⟨st.tmps, setX objs' L .dead⟩ → Post w0 X B a w ρ Q e0.of { a with defers := [markOf w.heap.size] ++ a.defers } (w3.putObj (w.heap.size + 1) (.loop { r1 with state := .exhausted })) := fun e0 hq =>
        ⟨e0, _, _, [w.heap.size], rfl, hq, hrF, hl5.ltB, rfl, by simp⟩
      simp only [hpend1] at hpost ⊢
      unfold rangeEnd at hend
      split at hend
      · exact hpost .normal hend
      · exact wpIn_ret (hpost .ret hend)
      · exact wpIn_exit (hpost (.exit _) hend)
      · exact hend.elim
end
end Go.Sy
