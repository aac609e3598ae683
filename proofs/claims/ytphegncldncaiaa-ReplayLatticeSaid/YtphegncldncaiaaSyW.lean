import Derived.Test.YtphegncldncaiaaSyDraw
import Derived.RangeFuncLeaves
import Derived.RangeFuncRecord
set_option linter.unusedSimpArgs false
set_option linter.unusedSectionVars false
set_option linter.unusedVariables false
namespace Go.Sy
open Go.RowKit
set_option linter.unusedVariables false

/-- As 'Later', of the names below B alone. -/
structure LtB (B : Nat) (w w' : World) (O O' : Nat → Prop) (ρ ρ' : Nat → Loc) : Prop where
  size : w.heap.size ≤ w'.heap.size
  same : ∀ b, b < w.heap.size → ¬ O b → w'.heap[b]? = w.heap[b]?
  own : ∀ b, b < w.heap.size → O' b → O b
  loc : ∀ id, id < B → ρ' id = ρ id ∨ ρ id = .virgin ∨ ρ' id = .dead

section
variable {B : Nat} {w w1 w2 : World} {O O1 O2 : Nat → Prop} {ρ ρ1 ρ2 : Nat → Loc}
theorem LtB.refl (B : Nat) (w : World) (O : Nat → Prop) (ρ : Nat → Loc) : LtB B w w O O ρ ρ := ⟨Nat.le_refl _, fun _ _ _ => rfl, fun _ _ h => h, fun _ _ => .inl rfl⟩
theorem Later.ltB (h : Later w w1 O O1 ρ ρ1) : LtB B w w1 O O1 ρ ρ1 := ⟨h.size, h.same, h.own, fun id _ => h.loc id⟩
theorem LtB.trans (h : LtB B w w1 O O1 ρ ρ1) (k : LtB B w1 w2 O1 O2 ρ1 ρ2) : LtB B w w2 O O2 ρ ρ2 := by
  refine ⟨Nat.le_trans h.size k.size, fun b hb hn => ?_, fun b hb ho => ?_, fun id hid => ?_⟩
  · have h1 : ¬ O1 b := fun ho => hn (h.own b hb ho)
    exact (k.same b (Nat.lt_of_lt_of_le hb h.size) h1).trans (h.same b hb hn)
  · exact h.own b hb (k.own b (Nat.lt_of_lt_of_le hb h.size) ho)
  · rcases h.loc id hid with e | e | e
    · rcases k.loc id hid with e' | e' | e'
      · exact .inl (e'.trans e)
      · exact .inr (.inl (e.symm.trans e'))
      · exact .inr (.inr e')
    · exact .inr (.inl e)
    · rcases k.loc id hid with e' | e' | e'
      · exact .inr (.inr (e'.trans e))
      · rw [e] at e'; cases e'
      · exact .inr (.inr e')
theorem LtB.later (h : LtB B w w1 O O1 ρ ρ1) (hv : ∀ id, B ≤ id → ρ id = .virgin) : Later w w1 O O1 ρ ρ1 := by
  refine ⟨h.size, h.same, h.own, fun id => ?_⟩
  rcases Nat.lt_or_ge id B with hid | hid
  · exact h.loc id hid
  · exact .inr (.inl (hv id hid))
end

def Ex.of : Ex → Exit
  | .normal => .normal
  | .exit id => .exit id
  | .ret => .ret

/-- Where a text's run ends: in a state of Q. -/
def Post (w0 : World) (X : Nat → Prop) (B : Nat) (a : Act) (w : World) (ρ : Nat → Loc) (Q : Ex → St → Prop) : Exit → Act → World → Prop := fun e' a' w' =>
  ∃ e st' ρ' Ds, e' = Ex.of e ∧ Q e st' ∧ Rel w0 X st' a' w' ρ' ∧ LtB B w w' (Ow X ρ) (Ow X ρ') ρ ρ' ∧ a'.defers = List.map markOf Ds ++ a.defers ∧ ∀ D ∈ Ds, w.heap.size ≤ D

/-- From every world and frame that reads as st, the text comes to an end in Q. (fl: the frame may be a round's.) -/
def W (E : Env) (B : Nat) (fl : Bool) (c : Code) (st : St) (Q : Ex → St → Prop) : Prop :=
  ∀ (ro : Option Nat) (n : Nat) (w0 : World) (X : Nat → Prop) (a : Act) (w : World) (ρ : Nat → Loc), (fl = false → ro = none) → Rel w0 X st a w ρ → c.wpIn (fw ro) n E.P (Post w0 X B a w ρ Q) a w

/-- The operations with these numbers, in this order. -/
def WO (E : Env) (B : Nat) (fl : Bool) (ops : Array Oper) (l : List Nat) (st : St) (K : St → Prop) : Prop :=
  ∀ (ro : Option Nat) (n : Nat) (w0 : World) (X : Nat → Prop) (a : Act) (w : World) (ρ : Nat → Loc) (Q : Exit → Act → World → Prop), (fl = false → ro = none) → Rel w0 X st a w ρ →
    (∀ st' a' w' ρ', K st' → Rel w0 X st' a' w' ρ' → Later w w' (Ow X ρ) (Ow X ρ') ρ ρ' → a'.defers = a.defers → Q .normal a' w') → wpOpsIn (fw ro) n E.P ops Q l a w

/-- A weaker state. -/
def Weak (B : Nat) (st st' : St) : Prop := ∀ (w0 : World) (X : Nat → Prop) (a : Act) (w : World) (ρ : Nat → Loc), Rel w0 X st a w ρ → ∃ ρ', Rel w0 X st' a w ρ' ∧ LtB B w w (Ow X ρ) (Ow X ρ') ρ ρ'

section
variable {w0 : World} {X : Nat → Prop} {E : Env} {B : Nat} {fl : Bool} {st : St} {Q : Ex → St → Prop}

theorem Post.chain {a a1 : Act} {w w1 : World} {ρ ρ1 : Nat → Loc} {Ds : List Nat} (hl : LtB B w w1 (Ow X ρ) (Ow X ρ1) ρ ρ1) (hd : a1.defers = List.map markOf Ds ++ a.defers) (hD : ∀ D ∈ Ds, w.heap.size ≤ D)
    {e : Exit} {a2 : Act} {w2 : World} (h : Post w0 X B a1 w1 ρ1 Q e a2 w2) : Post w0 X B a w ρ Q e a2 w2 := by
  obtain ⟨e0, st', ρ', Ds', rfl, hq, hrel, hl', hd', hD'⟩ := h
  refine ⟨e0, st', ρ', Ds' ++ Ds, rfl, hq, hrel, hl.trans hl', by rw [hd', hd, List.map_append, List.append_assoc], fun D hm => ?_⟩
  rcases List.mem_append.1 hm with h | h
  · exact Nat.le_trans hl.size (hD' D h)
  · exact hD D h

theorem W.mono {c : Code} {Q' : Ex → St → Prop} (h : W E B fl c st Q) (hq : ∀ e s, Q e s → Q' e s) : W E B fl c st Q' := fun ro n w0 X a w ρ hro hr => by
  refine wpIn_mono (h ro n w0 X a w ρ hro hr) ?_
  rintro e a' w' ⟨e0, st', ρ', Ds, rfl, h1, h2⟩
  exact ⟨e0, st', ρ', Ds, rfl, hq _ _ h1, h2⟩

theorem W.weak {c : Code} {st' : St} (hw : Weak B st st') (h : W E B fl c st' Q) : W E B fl c st Q := fun ro n w0 X a w ρ hro hr => by
  obtain ⟨ρ', h1, h2⟩ := hw _ _ _ _ _ hr
  exact wpIn_mono (h ro n w0 X a w ρ' hro h1) fun e a' w' hp => Post.chain (Ds := []) h2 rfl (by simp) hp

theorem W.skip (h : Q .normal st) : W E B fl .skip st Q := fun ro n w0 X a w ρ hro hr => wpIn_skip ⟨.normal, st, ρ, [], rfl, h, hr, LtB.refl _ _ _ _, rfl, by simp⟩
theorem W.exit {id : Nat} (h : Q (.exit id) st) : W E B fl (.exit id) st Q := fun ro n w0 X a w ρ hro hr => wpIn_exit ⟨.exit id, st, ρ, [], rfl, h, hr, LtB.refl _ _ _ _, rfl, by simp⟩
theorem W.ret (h : Q .ret st) : W E B fl .ret st Q := fun ro n w0 X a w ρ hro hr => wpIn_ret ⟨.ret, st, ρ, [], rfl, h, hr, LtB.refl _ _ _ _, rfl, by simp⟩

theorem W.seq {c d : Code} (h : W E B fl c st fun e s => match e with | .normal => W E B fl d s Q | .exit i => Q (.exit i) s | .ret => Q .ret s) : W E B fl (.seq c d) st Q := fun ro n w0 X a w ρ hro hr => by
  refine wpIn_seq (wpIn_mono (h ro n w0 X a w ρ hro hr) ?_)
  rintro e a' w' ⟨e0, st', ρ', Ds, rfl, h1, h2, h3, h4, h5⟩
  cases e0 with
  | normal => exact wpIn_mono (h1 ro n w0 X a' w' ρ' hro h2) fun e a'' w'' hp => Post.chain h3 h4 h5 hp
  | exit id => exact ⟨.exit id, st', ρ', Ds, rfl, h1, h2, h3, h4, h5⟩
  | ret => exact ⟨.ret, st', ρ', Ds, rfl, h1, h2, h3, h4, h5⟩

theorem W.block {id : Nat} {c : Code} (h : W E B fl c st fun e s => match e with | .normal => Q .normal s | .exit i => (if i = id then Q .normal s else Q (.exit i) s) | .ret => Q .ret s) : W E B fl (.block id c) st Q := fun ro n w0 X a w ρ hro hr => by
  refine wpIn_block (wpIn_mono (h ro n w0 X a w ρ hro hr) ?_)
  rintro e a' w' ⟨e0, st', ρ', Ds, rfl, h1, h2, h3, h4, h5⟩
  cases e0 with
  | normal => exact ⟨.normal, st', ρ', Ds, rfl, h1, h2, h3, h4, h5⟩
  | exit i =>
    simp only [Ex.of, Exit.inBlock]
    simp only at h1
    by_cases hi : i = id
    · rw [if_pos hi]; rw [if_pos hi] at h1
      exact ⟨.normal, st', ρ', Ds, rfl, h1, h2, h3, h4, h5⟩
    · rw [if_neg hi]; rw [if_neg hi] at h1
      exact ⟨.exit i, st', ρ', Ds, rfl, h1, h2, h3, h4, h5⟩
  | ret => exact ⟨.ret, st', ρ', Ds, rfl, h1, h2, h3, h4, h5⟩

theorem W.condB {x : Operand} {c d : Code} {b : Bool} (hx : evA st.tmps x = .bool b ∨ evA st.tmps x = .kb b) (ht : b = true → W E B fl c st Q) (hf : b = false → W E B fl d st Q) : W E B fl (.cond x c d) st Q := fun ro n w0 X a w ρ hro hr => by
  have hx' : a.eval x = .bool b := by
    have := evA_R hr.tmp x
    rcases hx with hx | hx <;> (rw [hx] at this; simpa only [R] using this)
  exact wpIn_cond_split hx' (fun h => ht h ro n w0 X a w ρ hro hr) fun h => hf h ro n w0 X a w ρ hro hr
theorem W.condAny {x : Operand} {c d : Code} (hx : evA st.tmps x = .anyb) (ht : W E B fl c st Q) (hf : W E B fl d st Q) : W E B fl (.cond x c d) st Q := fun ro n w0 X a w ρ hro hr => by
  have := evA_R hr.tmp x
  rw [hx] at this
  simp only [R] at this
  obtain ⟨b, hx'⟩ := this
  exact wpIn_cond_split hx' (fun h => ht ro n w0 X a w ρ hro hr) fun h => hf ro n w0 X a w ρ hro hr

theorem W.region {id : Nat} {ops : Array Oper} (h : WO E B fl ops (List.range ops.size) st fun s => Q .normal s) : W E B fl (.region id ops false) st Q := fun ro n w0 X a w ρ hro hr =>
  wpIn_region (h ro n w0 X a w ρ _ hro hr fun st' a' w' ρ' hk hr' hl hd => ⟨.normal, st', ρ', [], rfl, hk, hr', hl.ltB, hd, by simp⟩)

theorem W.draw (hE : EqOK E) {id : Nat} {ops : Array Oper} {st' : St} {k : Nat} (hc : chkD ops = true) (hk : k ≤ ops.size) (ht : tailB ops k = true) (h : RunI E B (sitesOf B ops.toList) ops (List.range k) st st')
    (hw : WO E B fl ops (List.range' k (ops.size - k)) st' fun s => Q .normal s) : W E B fl (.region id ops true) st Q := fun ro n w0 X a w ρ hro hr =>
  wpIn_region_draw fun t => by
    obtain ⟨p, hp, hrun⟩ := orders_tail (E := E) (B := B) hc hk ht (E.P.follows .mixedOrders) t
    rw [hp]
    refine RunI.soundK hE p _ _ _ _ _ (hrun _ _ h) hr.drew fun a' w' ρ' hr' hl hd => ?_
    exact hw ro n w0 X a' w' ρ' _ hro hr' fun st'' a'' w'' ρ'' hk' hr'' hl'' hd'' => ⟨.normal, st'', ρ'', [], rfl, hk', hr'', (((laterDrew w _ ρ).trans hl).trans hl'').ltB, hd''.trans hd, by simp⟩

theorem WO.nil {ops : Array Oper} {K : St → Prop} (h : K st) : WO E B fl ops [] st K := fun ro n w0 X a w ρ Q hro hr hq => hq st a w ρ h hr (Later.refl _ _ _) rfl

theorem WO.step (hE : EqOK E) {F : List Nat} {ops : Array Oper} {i : Nat} {l : List Nat} {o : Oper} {s1 : St} {K : St → Prop} (ho : ops[i]? = some o) (hs : Step E B F ops.toList o st s1) (h : WO E B fl ops l s1 K) : WO E B fl ops (i :: l) st K := fun ro n w0 X a w ρ Q hro hr hq => by
  simp only [wpOpsIn, ho]
  exact Step.sound hE hr hs fun a' w' ρ' h' hL hd => h ro n w0 X a' w' ρ' Q hro h' fun st'' a'' w'' ρ'' hk hr'' hl hd' => hq st'' a'' w'' ρ'' hk hr'' (hL.trans hl) (hd'.trans hd)

theorem exists_min {p : Nat → Prop} (h : ∃ n, p n) : ∃ n, p n ∧ ∀ m, p m → n ≤ m := by
  obtain ⟨n, hn⟩ := h
  induction n using Nat.strongRecOn with
  | _ n ih =>
    rcases Classical.em (∃ m, m < n ∧ p m) with ⟨m, hm, hp⟩ | hno
    · exact ih m hm hp
    · exact ⟨n, hn, fun m hm => Nat.le_of_not_lt fun hlt => hno ⟨m, hlt, hm⟩⟩

/-- A loop by a family of states and a measure on the family. -/
theorem wpIn_loop_family {F : Fence} {n : Nat} {P : Program} {Q : Exit → Act → World → Prop} {a : Act} {w : World} {c : Code} {σ : Type} (I : σ → Act → World → Prop) (m : σ → Nat) (s0 : σ) (h0 : I s0 a w)
    (round : ∀ s a w, I s a w → c.wpIn F n P (Exit.then (fun a' w' => ∃ s', I s' a' w' ∧ m s' < m s) Q) a w) : (Code.loop c).wpIn F n P Q a w := by
  have hmin : ∀ a w, (∃ s, I s a w) → ∃ k, (∃ s, I s a w ∧ m s = k) ∧ ∀ s, I s a w → k ≤ m s := by
    intro a w ⟨s, hs⟩
    obtain ⟨k, hk, hmin⟩ := exists_min (p := fun k => ∃ s, I s a w ∧ m s = k) ⟨m s, s, hs, rfl⟩
    exact ⟨k, hk, fun s hs => hmin _ ⟨s, hs, rfl⟩⟩
  let μ : Act → World → Nat := fun a w => @dite _ (∃ s, I s a w) (Classical.propDecidable _) (fun h => Classical.choose (hmin a w h)) (fun _ => 0)
  have hμ : ∀ a w, (∃ s, I s a w) → (∃ s, I s a w ∧ m s = μ a w) ∧ ∀ s, I s a w → μ a w ≤ m s := by
    intro a w h
    have := Classical.choose_spec (hmin a w h)
    simp only [μ, dif_pos h]
    exact this
  refine wpIn_loop (fun a w => ∃ s, I s a w) μ ⟨s0, h0⟩ fun a w h => ?_
  obtain ⟨⟨s, hs, hm⟩, _⟩ := hμ a w h
  refine wpIn_mono (round s a w hs) fun e a' w' hp => ?_
  cases e with
  | normal =>
    obtain ⟨s', h1, h2⟩ := hp
    exact ⟨⟨s', h1⟩, by have := (hμ a' w' ⟨s', h1⟩).2 s' h1; omega⟩
  | _ => exact hp

/-- THE LOOP RULE: a family of states at the head, and a measure. -/
theorem W.loop {σ : Type} (hd : σ → St) (m : σ → Nat) (s0 : σ) {body : Code} (hw : Weak B st (hd s0))
    (step : ∀ s, W E B fl body (hd s) fun e st' => match e with | .normal => (∃ s', m s' < m s ∧ Weak B st' (hd s')) | .exit i => Q (.exit i) st' | .ret => Q .ret st') : W E B fl (.loop body) st Q := fun ro n w0 X a w ρ hro hr => by
  obtain ⟨ρ0, hr0, hl0⟩ := hw _ _ _ _ _ hr
  refine wpIn_loop_family (fun s a' w' => ∃ ρ' Ds, Rel w0 X (hd s) a' w' ρ' ∧ LtB B w w' (Ow X ρ) (Ow X ρ') ρ ρ' ∧ a'.defers = List.map markOf Ds ++ a.defers ∧ ∀ D ∈ Ds, w.heap.size ≤ D) m s0 ⟨ρ0, [], hr0, hl0, rfl, by simp⟩ ?_
  rintro s a1 w1 ⟨ρ1, Ds1, hr1, hl1, hd1, hD1⟩
  refine wpIn_mono (step s ro n w0 X a1 w1 ρ1 hro hr1) ?_
  rintro e a' w' ⟨e0, st', ρ', Ds, rfl, h1, h2, h3, h4, h5⟩
  have hc : a'.defers = List.map markOf (Ds ++ Ds1) ++ a.defers := by rw [h4, hd1, List.map_append, List.append_assoc]
  have hD : ∀ D ∈ Ds ++ Ds1, w.heap.size ≤ D := fun D hm => by
    rcases List.mem_append.1 hm with h | h
    · exact Nat.le_trans hl1.size (h5 D h)
    · exact hD1 D h
  cases e0 with
  | normal =>
    obtain ⟨s', hlt, hwk⟩ := h1
    obtain ⟨ρ2, hr2, hl2⟩ := hwk _ _ _ _ _ h2
    exact ⟨s', ⟨ρ2, Ds ++ Ds1, hr2, (hl1.trans h3).trans hl2, hc, hD⟩, hlt⟩
  | exit id => exact ⟨.exit id, st', ρ', Ds ++ Ds1, rfl, h1, h2, hl1.trans h3, hc, hD⟩
  | ret => exact ⟨.ret, st', ρ', Ds ++ Ds1, rfl, h1, h2, hl1.trans h3, hc, hD⟩
end
end Go.Sy
