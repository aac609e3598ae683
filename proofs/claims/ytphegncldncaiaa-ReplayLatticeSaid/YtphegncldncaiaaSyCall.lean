import Derived.Test.YtphegncldncaiaaSyW
set_option linter.unusedSimpArgs false
set_option linter.unusedSectionVars false
set_option linter.unusedVariables false
namespace Go.Sy
open Go.RowKit
set_option linter.unusedVariables false

/-- Shutting a block of deferred calls turns no reading. -/
theorem cell_putObj {w : World} {D : Nat} {ds : Option (List Deferred)} {x : Obj} (hD : w.heap[D]? = some (.deferred ds)) {p : Addr} {u : Value} (h : w.cell? p = some u) : (w.putObj D x).cell? p = some u := by
  rw [← h]
  refine World.cell?_of_block (w := w) (World.putObj_heap_other fun e => ?_)
  simp only [World.cell?, e, hD] at h
  cases h

mutual
theorem R.putObj {w : World} {O : Nat → Prop} {D : Nat} {ds : Option (List Deferred)} {x : Obj} (hD : w.heap[D]? = some (.deferred ds)) : ∀ (a : A) (ρ : Nat → Loc) (v : Value), R w O a ρ v → R (w.putObj D x) O a ρ v
  | .junk, _, _, _ => by simp only [R]
  | .opq, _, _, h => by simpa only [R] using h
  | .kb _, _, _, h => by simpa only [R] using h
  | .bool _, _, _, h => by simpa only [R] using h
  | .int _ _, _, _, h => by simpa only [R] using h
  | .str _, _, _, h => by simpa only [R] using h
  | .nils, _, _, h => by simpa only [R] using h
  | .anyb, _, _, h => by simpa only [R] using h
  | .nilp, _, _, h => by simpa only [R] using h
  | .own _, _, _, h => by simpa only [R] using h
  | .ptr _ _, _, _, h => by simpa only [R] using h
  | .rp _ _ _ _, _, _, h => by simpa only [R] using h
  | .yld _, _, _, h => by simpa only [R] using h
  | .ov _ _ _ _, _, _, h => by simpa only [R] using h
  | .ap _ _, _, _, h => by simpa only [R] using h
  | .sl c n el, _, _, h => by
    simp only [R] at h ⊢
    obtain ⟨a, cap, rfl, h1, h2, h3⟩ := h
    refine ⟨a, cap, rfl, h1, h2, fun hp => ?_⟩
    obtain ⟨ad, rfl, hi, hc⟩ := h3 hp
    refine ⟨ad, rfl, ⟨by simpa using hi.1, hi.2⟩, fun i hin j hj => ?_⟩
    obtain ⟨u, hu, h1, hr⟩ := hc i hin j hj
    exact ⟨u, cell_putObj hD hu, h1, R.putObj hD (el i j) virg u hr⟩
  | .ip c el, _, _, h => by
    simp only [R] at h ⊢
    obtain ⟨ad, rfl, h3⟩ := h
    refine ⟨ad, rfl, fun hp => ?_⟩
    obtain ⟨hi, hc⟩ := h3 hp
    refine ⟨⟨by simpa using hi.1, hi.2⟩, fun j hj => ?_⟩
    obtain ⟨u, hu, hr⟩ := hc j hj
    exact ⟨u, cell_putObj hD hu, R.putObj hD (el j) virg u hr⟩
  | .fn f l, ρ, v, h => by
    simp only [R] at h ⊢
    obtain ⟨vs, rfl, h⟩ := h
    exact ⟨vs, rfl, RL.putObj hD l ρ vs h⟩
  | .agg l, ρ, v, h => by
    simp only [R] at h ⊢
    obtain ⟨vs, rfl, h⟩ := h
    exact ⟨vs, rfl, RL.putObj hD l ρ vs h⟩
  | .tup l, ρ, v, h => by
    simp only [R] at h ⊢
    obtain ⟨vs, rfl, h⟩ := h
    exact ⟨vs, rfl, RL.putObj hD l ρ vs h⟩
theorem RL.putObj {w : World} {O : Nat → Prop} {D : Nat} {ds : Option (List Deferred)} {x : Obj} (hD : w.heap[D]? = some (.deferred ds)) : ∀ (l : List A) (ρ : Nat → Loc) (vs : List Value), RL w O l ρ vs → RL (w.putObj D x) O l ρ vs
  | [], _, _, h => by simpa only [RL] using h
  | a :: l, ρ, vs, h => by
    simp only [RL] at h ⊢
    obtain ⟨v, vs', rfl, h1, h2⟩ := h
    exact ⟨v, vs', rfl, R.putObj hD a ρ v h1, RL.putObj hD l ρ vs' h2⟩
end

theorem ObR.putObj {w : World} {O : Nat → Prop} {D : Nat} {ds : Option (List Deferred)} {x : Obj} {ρ : Nat → Loc} (hD : w.heap[D]? = some (.deferred ds)) {o : Ob} {l : Loc} (h : ObR w O ρ o l) : ObR (w.putObj D x) O ρ o l := by
  have other : ∀ {b : Nat} {y : Obj}, w.heap[b]? = some y → (∀ ds, y ≠ .deferred ds) → (w.putObj D x).heap[b]? = some y := fun {b y} hb hy => by
    rw [World.putObj_heap_other (fun e => by subst e; rw [hD] at hb; simp only [Option.some.injEq] at hb; exact hy _ hb.symm)]; exact hb
  cases o with
  | virgin => exact h
  | dead => exact h
  | box cells =>
    obtain ⟨b, vs, t, rfl, hg, hr⟩ := h
    exact ⟨b, vs, t, rfl, other hg (fun _ h => by cases h), RL.putObj hD cells ρ vs hr⟩
  | row e c n el =>
    obtain ⟨v, xs, rfl, hown, h1, h2⟩ := h
    refine ⟨v, xs, rfl, ?_, h1, fun i hi j hj => ?_⟩
    · obtain ⟨hl', hh⟩ := hown
      refine ⟨hl', ?_⟩
      rcases hh with hh | ⟨g, cap, cur, rfl, ⟨fz, hg, hz⟩, hr⟩
      · exact .inl hh
      · exact .inr ⟨g, cap, cur, rfl, ⟨fz, other hg (fun _ h => by cases h), hz⟩, hr⟩
    · obtain ⟨u, hu, hr⟩ := h2 i hi j hj
      exact ⟨u, hu, R.putObj hD _ virg u hr⟩
  | lp ts ps asg bod sta pend =>
    obtain ⟨b, r, vs, rfl, hg, h1, h2, h3⟩ := h
    exact ⟨b, r, vs, rfl, other hg (fun _ h => by cases h), h1, RL.putObj hD ts ρ vs h2, h3⟩

/-- What holds of the heap, whatever the frame. -/
structure Hp (w0 : World) (X : Nat → Prop) (objs : List Ob) (w : World) (ρ : Nat → Loc) : Prop where
  obj : ∀ id, ObR w (Ow X ρ) ρ (getO objs id) (ρ id)
  dis : ∀ i j b, (ρ i).block = some b → (ρ j).block = some b → i = j
  kept : Below w0.heap.size w0 w
  new : ∀ b, owned ρ b → w0.heap.size ≤ b ∧ b < w.heap.size
  old : ∀ b, X b → b < w0.heap.size

section
variable {w0 w w' : World} {X : Nat → Prop} {E : Env} {B : Nat} {fl : Bool} {st : St} {a : Act} {ρ ρ' : Nat → Loc} {objs : List Ob}

theorem Rel.hp (h : Rel w0 X st a w ρ) : Hp w0 X st.objs w ρ := ⟨h.obj, h.dis, h.kept, h.new, h.old⟩

theorem below_putObj (h : Below w0.heap.size w0 w) {D : Nat} (hle : w0.heap.size ≤ D) (x : Obj) : Below w0.heap.size w0 (w.putObj D x) :=
  ⟨h.os, h.tape, h.output, by simpa using h.size, fun k hk => (World.putObj_heap_other (by omega)).trans (h.block k hk)⟩

theorem Hp.putObj (h : Hp w0 X objs w ρ) {D : Nat} {ds : Option (List Deferred)} (hD : w.heap[D]? = some (.deferred ds)) (hle : w0.heap.size ≤ D) (x : Obj) : Hp w0 X objs (w.putObj D x) ρ :=
  ⟨fun id => (h.obj id).putObj hD, h.dis, below_putObj h.kept hle x, fun b hb => by simpa using h.new b hb, h.old⟩

theorem Later.putObj {O O' : Nat → Prop} (h : Later w w' O O' ρ ρ') {D : Nat} (hle : w.heap.size ≤ D) (x : Obj) : Later w (w'.putObj D x) O O' ρ ρ' :=
  ⟨by simpa using h.size, fun b hb hn => (World.putObj_heap_other (by omega)).trans (h.same b hb hn), h.own, h.loc⟩

/-- The caller's frame behind a call. -/
theorem Rel.after (h : Rel w0 X st a w ρ) (hl : Later w w' (Ow X ρ) (Ow X ρ') ρ ρ') (hp : Hp w0 X objs w' ρ') : Rel w0 X ⟨st.tmps, objs⟩ a w' ρ' :=
  h.next hl hp.kept hp.obj hp.dis hp.new

/-- The values of the results. -/
def resV (P : Program) (st : St) : List ResultVar → Option (List A)
  | [] => some []
  | .tmp t :: l => match resV P st l with
    | some m => some (getA st.tmps t :: m)
    | none => none
  | .cell a t :: l => match (loadA P st.objs t (getA st.tmps a)).eval, resV P st l with
    | some v, some m => some (v :: m)
    | _, _ => none

def packV : List A → A
  | [a] => a
  | l => .tup l

theorem resV_sound {P : Program} (hob : Hp w0 X st.objs w ρ) (htm : ∀ i, R w (Ow X ρ) (getA st.tmps i) ρ (a.tmps.getD i undef)) : ∀ (rs : List ResultVar) (l : List A), resV P st rs = some l →
    ∃ vs, (rs.mapM (fun | .tmp t => pure (a.tmps.getD t undef) | .cell x t => do loadVar t (← asAddr (a.tmps.getD x undef)) : ResultVar → Sem Value)).run P w = .ok vs w ∧ RL w (Ow X ρ) l ρ vs
  | [], l, hr => by simp [resV] at hr; subst hr; exact ⟨[], by simp, by simp [RL]⟩
  | .tmp t :: rs, l, hr => by
    simp only [resV] at hr
    split at hr
    · rename_i m hm
      simp at hr; subst hr
      obtain ⟨vs, h1, h2⟩ := resV_sound hob htm rs m hm
      refine ⟨a.tmps.getD t undef :: vs, by rw [List.mapM_cons, Sem.run_bind]; simp only [Sem.run_pure, Result.andThen_ok, Sem.run_bind, h1], ?_⟩
      simp only [RL]
      exact ⟨_, _, rfl, htm t, h2⟩
    · cases hr
  | .cell x t :: rs, l, hr => by
    simp only [resV] at hr
    split at hr
    · rename_i v m hv hm
      simp at hr; subst hr
      obtain ⟨vs, h1, h2⟩ := resV_sound hob htm rs m hm
      obtain ⟨u, hu, hru⟩ := loadA_sound (fun id => .inr (hob.obj id)) (htm x) hv
      have hload : (do loadVar t (← asAddr (a.tmps.getD x undef)) : Sem Value).run P w = .ok u w := by
        cases hx : a.tmps.getD x undef with
        | pointer p =>
          cases p with
          | none => rw [hx] at hu; simp [Instr.loadAt, Instr.sureAddr, stuck] at hu
          | some ad =>
            rw [hx] at hu
            simp [Instr.loadAt, Instr.sureAddr] at hu
            simp [asAddr, hu]
        | _ => rw [hx] at hu; simp [Instr.loadAt, Instr.sureAddr, stuck] at hu
      refine ⟨u :: vs, by rw [List.mapM_cons, Sem.run_bind]; simp only [hload, Result.andThen_ok, Sem.run_bind, h1, Sem.run_pure], ?_⟩
      simp only [RL]
      exact ⟨_, _, rfl, hru, h2⟩
    · cases hr

theorem results_sound {P : Program} {fn : Func} {l : List A} (hob : Hp w0 X st.objs w ρ) (htm : ∀ i, R w (Ow X ρ) (getA st.tmps i) ρ (a.tmps.getD i undef)) (hres : resV P st fn.results.toList = some l) :
    ∃ v, (results fn a.tmps).run P w = .ok v w ∧ R w (Ow X ρ) (packV l) ρ v := by
  obtain ⟨us, hrun, hus⟩ := resV_sound hob htm _ _ hres
  have hm : (fn.results.mapM (fun | .tmp t => pure (a.tmps.getD t undef) | .cell x t => do loadVar t (← asAddr (a.tmps.getD x undef)) : ResultVar → Sem Value)).run P w = .ok us.toArray w := by
    rw [Array.mapM_eq_mapM_toList, Sem.run_map, hrun]
    rfl
  match l, us, hus, hm with
  | [x], us, hus, hm =>
    simp only [RL] at hus
    obtain ⟨v, vs', rfl, h1, rfl⟩ := hus
    refine ⟨v, ?_, h1⟩
    show ((fn.results.mapM (fun | .tmp t => pure (a.tmps.getD t undef) | .cell x t => do loadVar t (← asAddr (a.tmps.getD x undef)) : ResultVar → Sem Value)) >>= fun vs => (pure (if h : vs.size = 1 then vs[0] else .tuple vs) : Sem Value)).run P w = _
    rw [Sem.run_bind, hm]
    simp
  | [], us, hus, hm =>
    simp only [RL] at hus
    subst hus
    refine ⟨.tuple #[], ?_, by simp only [packV, R, RL]; exact ⟨[], rfl, rfl⟩⟩
    show ((fn.results.mapM (fun | .tmp t => pure (a.tmps.getD t undef) | .cell x t => do loadVar t (← asAddr (a.tmps.getD x undef)) : ResultVar → Sem Value)) >>= fun vs => (pure (if h : vs.size = 1 then vs[0] else .tuple vs) : Sem Value)).run P w = _
    rw [Sem.run_bind, hm]
    simp
  | x :: y :: l, us, hus, hm =>
    have hlen := hus.len
    refine ⟨.tuple us.toArray, ?_, by simp only [packV, R]; exact ⟨us, rfl, hus⟩⟩
    show ((fn.results.mapM (fun | .tmp t => pure (a.tmps.getD t undef) | .cell x t => do loadVar t (← asAddr (a.tmps.getD x undef)) : ResultVar → Sem Value)) >>= fun vs => (pure (if h : vs.size = 1 then vs[0] else .tuple vs) : Sem Value)).run P w = _
    rw [Sem.run_bind, hm]
    simp only [Result.andThen_ok, Sem.run_pure]
    rw [dif_neg (by simp [hlen])]

/-- How a function may end. -/
def Ex.out : Ex → Prop
  | .exit _ => False
  | _ => True

/-- The state at a function's head. -/
def st0 (n : Nat) (args : List A) (objs : List Ob) : St := ⟨args ++ List.replicate (n - args.length) (.tup []), objs⟩

theorem getA_replicate (n i : Nat) (x : A) : getA (List.replicate n x) i = if i < n then x else .junk := by
  induction n generalizing i with
  | zero => simp [getA]
  | succ n ih =>
    cases i with
    | zero => simp [List.replicate_succ, getA]
    | succ i => simp [List.replicate_succ, getA, ih]

theorem rel0 {n : Nat} {args : List A} {vs : List Value} (hp : Hp w0 X objs w ρ) (hargs : RL w (Ow X ρ) args ρ vs) :
    Rel w0 X (st0 n args objs) { tmps := vs.toArray ++ Array.replicate (n - vs.toArray.size) undef, defers := [] } w ρ := by
  have hlen := hargs.len
  refine ⟨by simp [st0, hlen], fun i => ?_, hp.obj, hp.dis, hp.kept, hp.new, hp.old, ⟨[], rfl, List.nodup_nil, by simp⟩⟩
  simp only [st0, getA_append]
  split
  · rename_i hi
    have hv : vs[i]? = some (vs[i]'(by omega)) := List.getElem?_eq_getElem (by omega)
    have hg : (vs.toArray ++ Array.replicate (n - vs.toArray.size) undef).getD i undef = vs[i]'(by omega) := by
      rw [Array.getD_eq_getD_getElem?, Array.getElem?_append_left (by simp; omega)]
      simp [hv]
    rw [hg]
    exact hargs.get i _ hv
  · rename_i hi
    rw [getA_replicate]
    split
    · rename_i hi2
      have hg : (vs.toArray ++ Array.replicate (n - vs.toArray.size) undef).getD i undef = undef := by
        rw [Array.getD_eq_getD_getElem?, Array.getElem?_append_right (by simp; omega)]
        simp only [List.size_toArray, Array.getElem?_replicate]
        split <;> rfl
      rw [hg]
      simp only [R, RL]
      exact ⟨[], rfl, rfl⟩
    · simp only [R]

/-- A CALL, its callee's text run in the caller's own memory. -/
theorem call_inl {g : FuncId} {fn : Func} {c : Code} {args : List A} {vs : List Value} {B' : Nat} {Q : A → List Ob → Prop} (hp : Hp w0 X objs w ρ) (hargs : RL w (Ow X ρ) args ρ vs) (hf : E.P.funcs[g]? = some fn) (hb : fn.body = some c) (hv : ∀ id, B' ≤ id → ρ id = .virgin)
    (h : W E B' false c (st0 fn.ntmps args objs) fun e s => e.out ∧ ∃ l, resV E.P s fn.results.toList = some l ∧ Q (packV l) s.objs) :
    Calls E.P g vs.toArray w fun e w' => ∃ v r objs' ρ', e = .returned v ∧ Q r objs' ∧ R w' (Ow X ρ') r ρ' v ∧ Hp w0 X objs' w' ρ' ∧ Later w w' (Ow X ρ) (Ow X ρ') ρ ρ' := by
  refine (callsIn_fw (ro := none) (n := 0)).1 (callsIn_of_wp_marks hf hb trivial (wpIn_mono (h none 0 w0 X _ w ρ (fun _ => rfl) (rel0 hp hargs)) ?_))
  rintro e a' w1 ⟨e0, st', ρ', Ds, rfl, ⟨hout, l, hres, hq⟩, hrel, hl, hd, hDs⟩
  simp only [List.append_nil] at hd
  have key : LeavesInM (fw none) 0 E.P fn a'.tmps (fun e w' => ∃ v r objs' ρ', e = .returned v ∧ Q r objs' ∧ R w' (Ow X ρ') r ρ' v ∧ Hp w0 X objs' w' ρ' ∧ Later w w' (Ow X ρ) (Ow X ρ') ρ ρ') a'.defers .returning w1 := by
    rw [hd]
    obtain ⟨Ds', hd', hn', hD'⟩ := hrel.dfr
    have hDD : Ds' = Ds := by
      have : List.map markOf Ds' = List.map markOf Ds := by rw [← hd', hd]
      refine (List.map_inj_right ?_).1 this
      intro x y hxy
      simpa [markOf] using hxy
    subst hDD
    have hdo : ∀ (Ds : List Nat) (w2 : World), Ds.Nodup → (∀ D ∈ Ds, w2.heap[D]? = some (.deferred (some [])) ∧ w0.heap.size ≤ D ∧ w.heap.size ≤ D) → (Hp w0 X st'.objs w2 ρ' ∧ (∀ i, R w2 (Ow X ρ') (getA st'.tmps i) ρ' (a'.tmps.getD i undef)) ∧ Later w w2 (Ow X ρ) (Ow X ρ') ρ ρ') →
        LeavesInM (fw none) 0 E.P fn a'.tmps (fun e w' => ∃ v r objs' ρ', e = .returned v ∧ Q r objs' ∧ R w' (Ow X ρ') r ρ' v ∧ Hp w0 X objs' w' ρ' ∧ Later w w' (Ow X ρ) (Ow X ρ') ρ ρ') (Ds.map markOf) .returning w2 := by
      intro Ds
      induction Ds with
      | nil =>
        rintro w2 _ _ ⟨h1, h2, h3⟩
        obtain ⟨v, hrun, hr⟩ := results_sound h1 h2 hres
        exact ⟨v, hrun, v, _, _, ρ', rfl, hq, hr, h1, h3⟩
      | cons D Ds ih =>
        rintro w2 hn hD ⟨h1, h2, h3⟩
        obtain ⟨h4, h5, h6⟩ := hD D List.mem_cons_self
        obtain ⟨hn1, hn2⟩ := List.nodup_cons.1 hn
        refine ⟨by simp, .inl ⟨D, _, rfl, run_takeDeferred h4, ih _ hn2 (fun D' hD' => ?_) ⟨h1.putObj h4 h5 _, fun i => R.putObj h4 _ _ _ (h2 i), h3.putObj h6 _⟩⟩⟩
        rw [World.putObj_heap_other (show D' ≠ D from fun e => hn1 (e ▸ hD'))]
        exact hD D' (List.mem_cons_of_mem _ hD')
    exact hdo Ds' w1 hn' (fun D hm => ⟨(hD' D hm).1, (hD' D hm).2, hDs D hm⟩) ⟨hrel.hp, hrel.tmp, hl.later hv⟩
  cases e0 with
  | normal => exact key
  | ret => exact key
  | exit i => exact hout.elim
end
end Go.Sy
