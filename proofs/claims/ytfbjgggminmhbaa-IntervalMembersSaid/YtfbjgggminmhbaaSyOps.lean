import Derived.Test.YtfbjgggminmhbaaSyRel
import Derived.Laws.Build
import Derived.Laws.StructEq
import Derived.Laws.BytesString
set_option linter.unusedSimpArgs false
set_option linter.unusedSectionVars false
set_option linter.unusedVariables false
namespace Go.Sy
open Go.RowKit

theorem ofCell_R (w : World) (O : Nat → Prop) (ρ : Nat → Loc) (v : Value) : R w O (ofCell v) ρ v := by
  unfold ofCell
  split <;> simp [R, RL, Value.oneCell']

theorem ofCells_R (w : World) (O : Nat → Prop) (ρ : Nat → Loc) : ∀ vs : List Value, RL w O (ofCells vs) ρ vs
  | [] => by simp [ofCells, RL]
  | v :: vs => by
    simp only [ofCells, RL]
    refine ⟨v, vs, rfl, ?_, ofCells_R w O ρ vs⟩
    split
    · simp only [R]
    · exact ofCell_R w O ρ _

theorem ofVal_R (w : World) (O : Nat → Prop) (ρ : Nat → Loc) (v : Value) : R w O (ofVal v) ρ v := by
  unfold ofVal
  split
  · rename_i cs
    simp only [R]
    exact ⟨cs.toList, by simp, ofCells_R w O ρ _⟩
  · simp [R, RL]
  · exact ofCell_R w O ρ v

theorem evA_R {w : World} {O : Nat → Prop} {ρ : Nat → Loc} {tmps : List A} {a : Act} (h : ∀ i, R w O (getA tmps i) ρ (a.tmps.getD i undef)) (x : Operand) : R w O (evA tmps x) ρ (a.eval x) := by
  cases x with
  | tmp t => exact h t
  | const v => exact ofVal_R w O ρ v
  | global g => simp [evA, R]
  | func f => simp [evA, R, Act.eval, RL]

section
variable {P : Program} {w : World} {O : Nat → Prop} {ρ : Nat → Loc}

theorem isAggT_run {t : TypeId} {b : Bool} (h : isAggT P t = some b) : (isAgg t).run P w = .ok b w := by
  unfold isAggT at h
  unfold isAgg
  split at h <;> simp at h <;> subst h <;> rename_i hu <;> simp [run_underlying hu]

theorem sizeT_run {t : TypeId} {s : Nat} (h : sizeT P t = some s) : (sizeOf t).run P w = .ok s w := by
  unfold sizeT at h
  simp only [Option.map_eq_some_iff] at h
  obtain ⟨i, hi, rfl⟩ := h
  simp [sizeOf, typeInfo, hi]

theorem run_loadVar_list {t : TypeId} {s : Nat} (h : isAggT P t = some true) (hs : sizeT P t = some s) (ad : Addr) (vs : List Value) (hl : vs.length = s)
    (hc : ∀ j v, vs[j]? = some v → w.cell? (ad.add j) = some v) : (loadVar t ad).run P w = .ok (.agg vs.toArray) w := by
  subst hl
  simp [loadVar, isAggT_run h, sizeT_run hs, run_loadCells_list w ad vs hc]

theorem run_loadVar_cell {t : TypeId} (h : isAggT P t = some false) (ad : Addr) (v : Value) (hc : w.cell? ad = some v) : (loadVar t ad).run P w = .ok v w := by
  simp [loadVar, isAggT_run h, hc]

theorem add_zero (a : Addr) : a.add 0 = a := by simp [Addr.add]

theorem RL_rangeMap {vs : List Value} {el : Nat → A} : ∀ (n i : Nat), vs.length = n → (∀ j v, vs[j]? = some v → R w O (el (i + j)) ρ v) → RL w O (rangeMap el i n) ρ vs := by
  intro n
  induction n generalizing vs with
  | zero => intro i hl _; simp [rangeMap, RL]; exact List.eq_nil_of_length_eq_zero hl
  | succ n ih =>
    intro i hl h
    cases vs with
    | nil => simp at hl
    | cons v vs =>
      simp only [rangeMap, RL]
      refine ⟨v, vs, rfl, by simpa using h 0 v rfl, ih (i + 1) (by simpa using hl) fun j u hu => ?_⟩
      have := h (j + 1) u (by simpa using hu)
      rwa [show i + (j + 1) = i + 1 + j by omega] at this

/-- A list of values out of 'for each j there is one'. -/
theorem exists_list (n : Nat) (p : Nat → Value → Prop) (h : ∀ j, j < n → ∃ u, p j u) : ∃ vs : List Value, vs.length = n ∧ ∀ j v, vs[j]? = some v → p j v := by
  induction n with
  | zero => exact ⟨[], rfl, fun j v h => by simp at h⟩
  | succ n ih =>
    obtain ⟨vs, hl, hv⟩ := ih fun j hj => h j (by omega)
    obtain ⟨u, hu⟩ := h n (by omega)
    refine ⟨vs ++ [u], by simp [hl], fun j v hj => ?_⟩
    rw [List.getElem?_append] at hj
    split at hj
    · exact hv j v hj
    · rename_i hge
      have : j - vs.length = 0 := by
        rcases Nat.eq_zero_or_pos (j - vs.length) with h0 | h0
        · exact h0
        · rw [List.getElem?_eq_none (by simp; omega)] at hj; cases hj
      rw [this] at hj
      simp at hj
      subst hj
      have : j = n := by omega
      subst this
      exact hu

theorem R_virg {a : A} {v : Value} (h : R w O a virg v) : R w O a ρ v := R.later a virg ρ v ⟨Nat.le_refl _, fun _ _ _ => rfl, fun _ _ h => h, fun _ => .inr (.inl rfl)⟩ h
theorem RL_virg {l : List A} {vs : List Value} (h : RL w O l virg vs) : RL w O l ρ vs := RL.later l virg ρ vs ⟨Nat.le_refl _, fun _ _ _ => rfl, fun _ _ h => h, fun _ => .inr (.inl rfl)⟩ h

theorem ownsRow_cell {e c n : Nat} {v : Value} {xs : List Value} (h : rowR w e c v n xs) (hn : 0 < n) :
    ∃ g cap, v = .slice (some ⟨g, 0, none⟩) n (cap + 1) ∧ n ≤ cap + 1 ∧ cap + 1 ≤ maxLen ∧ ∀ j u, xs[j]? = some u → w.cell? ⟨g, j, none⟩ = some u := by
  obtain ⟨hl, h⟩ := h
  rcases h with ⟨rfl, _⟩ | ⟨g, cap, cur, rfl, hg, hnc, hcm, hcs, ht⟩
  · omega
  · refine ⟨g, cap, rfl, hnc, hcm, fun j u hu => ?_⟩
    simp only [World.cell?, hg]
    have hj : j < n * c := by
      rw [← hl]
      rcases Nat.lt_or_ge j xs.length with h | h
      · exact h
      · rw [List.getElem?_eq_none h] at hu; cases hu
    rw [← ht, List.getElem?_take] at hu
    rw [if_pos hj] at hu
    simpa using hu

/-- The objects that may be looked into. -/
def Obs (w : World) (O : Nat → Prop) (ρ : Nat → Loc) (objs : List Ob) : Prop := ∀ id, getO objs id = .dead ∨ ObR w O ρ (getO objs id) (ρ id)

theorem box_cells {cells : List A} {l : Loc} (h : ObR w O ρ (.box cells) l) : ∃ b vs t, l = .blk b ∧ w.heap[b]? = some (.cells (List.toArray vs) t (0, 0)) ∧ RL w O cells ρ vs := h

theorem cell_of_block {b : Nat} {vs : List Value} {t : TypeId} {f : Nat × Nat} (h : w.heap[b]? = some (.cells (List.toArray vs) t f)) (j : Nat) : w.cell? ⟨b, j, none⟩ = vs[j]? := by
  simp [World.cell?, h]

theorem add_at (b off j : Nat) : (⟨b, off, none⟩ : Addr).add j = ⟨b, off + j, none⟩ := by
  unfold Addr.add
  split
  · rename_i h; subst h; rfl
  · rfl

theorem loadA_sound {objs : List Ob} {t : TypeId} {a a' : A} {v : Value} (hob : Obs w O ρ objs) (ha : R w O a ρ v) (h : (loadA P objs t a).eval = some a') :
    ∃ v', (Instr.loadAt t v).run P w = .ok v' w ∧ R w O a' ρ v' := by
  unfold loadA at h
  split at h
  · rename_i ag s hag hs
    cases a with
    | ptr id off =>
      simp only at h
      split at h
      · rename_i cells hcells
        rcases hob id with hd | hob'
        · rw [hcells] at hd; cases hd
        · rw [hcells] at hob'
          obtain ⟨b, vs, bt, hρ, hg, hr⟩ := hob'
          simp only [R, hρ] at ha
          subst ha
          simp only [Instr.loadAt, Instr.sureAddr, Sem.run_bind, Sem.run_pure, Result.andThen_ok]
          cases ag with
          | true =>
            simp only at h
            split at h
            · rename_i cs hcs
              simp [T.eval] at h; subst h
              obtain ⟨h1, h2⟩ := RL.take s (RL.drop off hr) hcs
              refine ⟨_, run_loadVar_list hag hs _ _ h2 (fun j v hj => ?_), ?_⟩
              · rw [add_at, cell_of_block hg]
                rw [List.getElem?_take] at hj
                split at hj
                · simpa using hj
                · cases hj
              · simp only [R]; exact ⟨_, rfl, h1⟩
            · simp [T.eval] at h
          | false =>
            simp only at h
            split at h
            · rename_i c rest hd
              simp [T.eval] at h; subst h
              have h1 := RL.drop off hr
              rw [hd] at h1
              simp only [RL] at h1
              obtain ⟨u, us, hu, h2, _⟩ := h1
              refine ⟨u, run_loadVar_cell hag _ _ ?_, h2⟩
              rw [cell_of_block hg]
              have : (vs.drop off)[0]? = some u := by rw [hu]; rfl
              simpa using this
            · simp [T.eval] at h
      · simp [T.eval] at h
    | ip c el =>
      simp only [R] at ha
      obtain ⟨ad, rfl, hc⟩ := ha
      simp only [Instr.loadAt, Instr.sureAddr, Sem.run_bind, Sem.run_pure, Result.andThen_ok]
      cases ag with
      | true =>
        simp only at h
        split at h
        · rename_i hsc
          simp [T.eval] at h; subst h
          obtain ⟨vs, hl, hv⟩ := exists_list s (fun j u => w.cell? (ad.add j) = some u ∧ R w O (el j) virg u) (fun j hj => (hc (by omega)).2 j (by omega))
          refine ⟨_, run_loadVar_list hag hs _ vs hl (fun j v hj => (hv j v hj).1), ?_⟩
          simp only [R]
          exact ⟨vs, rfl, RL_rangeMap s 0 hl fun j v hj => by simpa using R_virg (hv j v hj).2⟩
        · simp [T.eval] at h
      | false =>
        simp only at h
        split at h
        · rename_i hsc
          simp [T.eval] at h; subst h
          obtain ⟨u, hu, hr⟩ := (hc (by omega)).2 0 (by omega)
          rw [add_zero] at hu
          exact ⟨u, run_loadVar_cell hag _ _ hu, R_virg hr⟩
        · simp [T.eval] at h
    | rp id c i off =>
      simp only at h
      split at h
      · rename_i e c' n el hrow
        rcases hob id with hd | hob'
        · rw [hrow] at hd; cases hd
        · rw [hrow] at hob'
          obtain ⟨rv, xs, hρ, hown, hxs, hel⟩ := hob'
          split at h
          · rename_i hcc
            subst hcc
            simp only [T.need, T.eval] at h
            split at h
            · rename_i hin
              simp only [decide_eq_true_eq] at hin
              obtain ⟨g, cap, rfl, _, _, hcell⟩ := ownsRow_cell hown (by omega)
              simp only [R, hρ] at ha
              obtain ⟨ad, n', cap', hv', rfl⟩ := ha
              simp only [Value.slice.injEq, Option.some.injEq] at hv'
              obtain ⟨rfl, _, _⟩ := hv'
              simp only [Instr.loadAt, Instr.sureAddr, Sem.run_bind, Sem.run_pure, Result.andThen_ok]
              cases ag with
              | true =>
                simp only at h
                split at h
                · rename_i hsc
                  simp [T.eval] at h; subst h
                  obtain ⟨vs, hl, hv⟩ := exists_list s (fun j u => w.cell? ⟨g, i * c + off + j, none⟩ = some u ∧ R w O (el i (off + j)) virg u) (fun j hj => by
                    obtain ⟨u, hu, hr⟩ := hel i hin (off + j) (by omega)
                    exact ⟨u, hcell _ _ (by rw [← hu]; congr 1; omega), hr⟩)
                  refine ⟨_, run_loadVar_list hag hs _ vs hl (fun j v hj => ?_), ?_⟩
                  · rw [add_at, add_at]; have := (hv j v hj).1; rw [show 0 + (i * c + off) + j = i * c + off + j by omega]; exact this
                  · simp only [R]
                    exact ⟨vs, rfl, RL_rangeMap s off hl fun j v hj => R_virg (hv j v hj).2⟩
                · simp [T.eval] at h
              | false =>
                simp only at h
                split at h
                · rename_i hsc
                  simp [T.eval] at h; subst h
                  obtain ⟨u, hu, hr⟩ := hel i hin off (by omega)
                  refine ⟨u, run_loadVar_cell hag _ _ ?_, R_virg hr⟩
                  rw [add_at]
                  have := hcell _ _ hu
                  rwa [show 0 + (i * c + off) = i * c + off by omega]
                · simp [T.eval] at h
            · simp at h
          · simp [T.eval] at h
      · simp [T.eval] at h
    | _ => simp [T.eval] at h
  · simp [T.eval] at h

theorem nth_eq {α : Type} : ∀ (l : List α), nth l = fun i => l[i]?
  | [] => by funext i; simp [nth]
  | a :: l => by funext i; cases i <;> simp [nth, nth_eq l]

theorem fieldA_sound {s : TypeId} {f off : Nat} {a a' : A} {v : Value} (ha : R w O a ρ v) (hf : fieldOff P s f = some off) (h : (fieldA a off).eval = some a') :
    ∃ v', (Instr.fieldAt s v f).run P w = .ok v' w ∧ R w O a' ρ v' := by
  unfold fieldOff at hf
  split at hf
  · rename_i fs hu
    split at hf
    · rename_i fl hfl
      have hfl : fs[f]? = some fl := by rw [nth_eq] at hfl; simpa using hfl
      split at hf
      · rename_i i hi
        split at hf
        · cases hf
        · rename_i hsz
          simp at hf; subst hf
          have key : ∀ ad : Addr, (Instr.fieldAt s (.pointer (some ad)) f).run P w = .ok (.pointer (some (ad.add fl.offset))) w := by
            intro ad
            simp [Instr.fieldAt, run_underlying hu, hfl, Instr.sureAddr, fieldPlace, sizeOf, typeInfo, hi, hsz]
          cases a with
          | ptr id o =>
            simp [fieldA, T.eval] at h; subst h
            simp only [R] at ha ⊢
            split at ha
            · subst ha; exact ⟨_, key _, by simp [add_at]⟩
            · obtain ⟨ad, rfl⟩ := ha; exact ⟨_, key _, _, rfl⟩
            · exact ha.elim
          | ip c el =>
            simp [fieldA, T.eval] at h; subst h
            simp only [R] at ha ⊢
            obtain ⟨ad, rfl, hc⟩ := ha
            refine ⟨_, key _, _, rfl, fun hp => ?_⟩
            obtain ⟨hi, hc⟩ := hc (by omega)
            refine ⟨by rw [add_block]; exact hi, fun j hj => ?_⟩
            rw [add_add]
            exact hc _ (by omega)
          | rp id c i o =>
            simp [fieldA, T.eval] at h; subst h
            simp only [R] at ha ⊢
            split at ha
            · obtain ⟨ad, n, cap, rfl, rfl⟩ := ha
              exact ⟨_, key _, ad, n, cap, rfl, by rw [add_add, Nat.add_assoc]⟩
            · obtain ⟨ad, rfl⟩ := ha; exact ⟨_, key _, _, rfl⟩
            · exact ha.elim
          | _ => simp [fieldA, T.eval] at h
      · cases hf
    · cases hf
  · cases hf

theorem enumT_spec {α : Type} {i : Int} {k : Nat → T α} {x : α} : ∀ (m j : Nat), (enumT i k m j).eval = some x → ∃ q : Nat, j ≤ q ∧ q < j + m ∧ i = (q : Int) ∧ (k q).eval = some x
  | 0, j, h => by simp [enumT, T.eval] at h
  | m + 1, j, h => by
    simp only [enumT, T.eval] at h
    split at h
    · rename_i hb
      exact ⟨j, Nat.le_refl _, by omega, by simpa using hb, h⟩
    · obtain ⟨q, h1, h2, h3, h4⟩ := enumT_spec m (j + 1) h
      exact ⟨q, by omega, by omega, h3, h4⟩

theorem fieldA_addr {a a' : A} {v : Value} {o : Nat} (ha : R w O a ρ v) (h : (fieldA a o).eval = some a') :
    ∃ ad, v = .pointer (some ad) ∧ R w O a' ρ (.pointer (some (ad.add o))) := by
  cases a with
  | ptr id off =>
    simp [fieldA, T.eval] at h; subst h
    simp only [R] at ha ⊢
    split at ha
    · subst ha; exact ⟨_, rfl, by simp [add_at]⟩
    · obtain ⟨ad, rfl⟩ := ha; exact ⟨_, rfl, _, rfl⟩
    · exact ha.elim
  | ip c el =>
    simp [fieldA, T.eval] at h; subst h
    simp only [R] at ha ⊢
    obtain ⟨ad, rfl, hc⟩ := ha
    refine ⟨_, rfl, _, rfl, fun hp => ?_⟩
    obtain ⟨hi, hc⟩ := hc (by omega)
    refine ⟨by rw [add_block]; exact hi, fun j hj => ?_⟩
    rw [add_add]
    exact hc _ (by omega)
  | rp id c i off =>
    simp [fieldA, T.eval] at h; subst h
    simp only [R] at ha ⊢
    split at ha
    · obtain ⟨ad, n, cap, rfl, rfl⟩ := ha
      exact ⟨_, rfl, ad, n, cap, rfl, by rw [add_add, Nat.add_assoc]⟩
    · obtain ⟨ad, rfl⟩ := ha; exact ⟨_, rfl, _, rfl⟩
    · exact ha.elim
  | _ => simp [fieldA, T.eval] at h

theorem indexAddrA_sound {objs : List Ob} {t : TypeId} {x i a' : A} {vx vi : Value} (hob : Obs w O ρ objs) (hx : R w O x ρ vx) (hi : R w O i ρ vi) (h : (indexAddrA P objs t x i).eval = some a') :
    ∃ v', (Instr.indexAt t vx vi).run P w = .ok v' w ∧ R w O a' ρ v' := by
  unfold indexAddrA at h
  split at h
  · rename_i k n
    simp only [R] at hi
    subst hi
    split at h
    · rename_i e hu
      split at h
      · rename_i c m el s hs
        split at h
        · rename_i hcs
          obtain ⟨rfl, hc0⟩ := hcs
          simp only [T.need, T.eval] at h
          split at h
          · rename_i hb
            simp only [decide_eq_true_eq] at hb
            simp at h; subst h
            simp only [R] at hx ⊢
            obtain ⟨a, cap, rfl, h1, h2, h3⟩ := hx
            have hm : 0 < m := by omega
            cases a with
            | none => obtain ⟨ad, hh, _⟩ := h3 (Nat.mul_pos hm hc0); cases hh
            | some ad =>
              refine ⟨_, by simp [Instr.indexAt, asIntOf, run_underlying hu, sizeT_run hs, hb.1, hb.2]; rfl, _, rfl, fun hc => ?_⟩
              obtain ⟨ad', hh, him, hcell⟩ := h3 (Nat.mul_pos hm hc)
              cases hh
              refine ⟨by rw [add_block]; exact him, fun j hj => ?_⟩
              obtain ⟨u, hu1, _, hu2⟩ := hcell n.toNat (by omega) j hj
              exact ⟨u, by rw [add_add]; exact hu1, hu2⟩
          · cases h
        · simp [T.eval] at h
      · rename_i id s hs
        split at h
        · rename_i e' c m el hrow
          split at h
          · rename_i hcs
            subst hcs
            simp only [T.need, T.eval] at h
            split at h
            · rename_i hb
              simp only [decide_eq_true_eq] at hb
              simp at h; subst h
              rcases hob id with hd | hob'
              · rw [hrow] at hd; cases hd
              · rw [hrow] at hob'
                obtain ⟨rv, xs, hρ, hown, hxs, hel⟩ := hob'
                obtain ⟨g, cap, rfl, _, _, hcell⟩ := ownsRow_cell hown (by omega)
                simp only [R, hρ] at hx ⊢
                obtain ⟨rfl, _⟩ := hx
                refine ⟨_, by simp [Instr.indexAt, asIntOf, run_underlying hu, sizeT_run hs, hb.1, hb.2]; rfl, _, _, _, rfl, by simp⟩
            · cases h
          · simp [T.eval] at h
        · simp [T.eval] at h
      · rename_i id c lo m s hs
        split at h
        · rename_i e' c' m' el hrow
          split at h
          · rename_i hcs
            subst hcs
            simp only [T.need, T.eval] at h
            split at h
            · rename_i hb
              simp only [decide_eq_true_eq] at hb
              simp at h; subst h
              rcases hob id with hd | hob'
              · rw [hrow] at hd; cases hd
              · rw [hrow] at hob'
                obtain ⟨rv, xs, hρ, hown, hxs, hel⟩ := hob'
                simp only [R, hρ] at hx ⊢
                obtain ⟨a, N, cap, a', h1, h2, rfl, h4, h5⟩ := hx
                obtain ⟨ad, rfl, rfl⟩ := h5 (by omega)
                refine ⟨_, by simp [Instr.indexAt, asIntOf, run_underlying hu, sizeT_run hs, hb.1, hb.2]; rfl, ad, N, cap, h1, ?_⟩
                rw [add_add, Nat.add_mul, Nat.add_zero]
            · cases h
          · simp [T.eval] at h
        · simp [T.eval] at h
      · simp [T.eval] at h
    · rename_i len e hu
      split at h
      · rename_i s hs
        obtain ⟨q, h1, h2, rfl, h4⟩ := enumT_spec len 0 h
        obtain ⟨ad, rfl, hr⟩ := fieldA_addr hx h4
        have hq : q < len := by omega
        exact ⟨_, by simp [Instr.indexAt, asIntOf, run_underlying hu, sizeT_run hs, Instr.sureAddr, hq], hr⟩
      · simp [T.eval] at h
    · simp [T.eval] at h
  · simp [T.eval] at h

theorem partA_sound {e : TypeId} {ag : Bool} {s o : Nat} {cs : List A} {vs : List Value} {a' : A} (hag : isAggT P e = some ag) (hs : sizeT P e = some s) (hr : RL w O cs ρ vs)
    (h : (partA ag s cs o).eval = some a') : ∃ v', (part e vs.toArray o).run P w = .ok v' w ∧ R w O a' ρ v' := by
  cases ag with
  | true =>
    simp only [partA] at h
    split at h
    · rename_i l hl
      simp [T.eval] at h; subst h
      obtain ⟨h1, h2⟩ := RL.take s (RL.drop o hr) hl
      refine ⟨.agg (List.toArray ((vs.drop o).take s)), ?_, by simp only [R]; exact ⟨_, rfl, h1⟩⟩
      simp only [part, Sem.run_bind, isAggT_run hag, Result.andThen_ok, sizeT_run hs, if_true, Sem.run_pure, List.extract_toArray, List.extract_eq_take_drop, Nat.add_sub_cancel_left]
    · simp [T.eval] at h
  | false =>
    simp only [partA] at h
    split at h
    · rename_i c rest hd
      simp [T.eval] at h; subst h
      have h1 := RL.drop o hr
      rw [hd] at h1
      simp only [RL] at h1
      obtain ⟨u, us, hu, h2, _⟩ := h1
      have hv : vs[o]? = some u := by
        have : (vs.drop o)[0]? = some u := by rw [hu]; rfl
        simpa using this
      exact ⟨u, by simp [part, isAggT_run hag, hv], h2⟩
    · simp [T.eval] at h

theorem indexA_sound {t : TypeId} {x i a' : A} {vx vi : Value} (hx : R w O x ρ vx) (hi : R w O i ρ vi) (h : (indexA P t x i).eval = some a') :
    ∃ v', (Instr.index t vx vi).run P w = .ok v' w ∧ R w O a' ρ v' := by
  unfold indexA at h
  split at h
  · rename_i k n
    simp only [R] at hi
    subst hi
    split at h
    · rename_i len e cs hu
      simp only [R] at hx
      obtain ⟨vs, rfl, hr⟩ := hx
      split at h
      · rename_i s ag hs hag
        obtain ⟨q, h1, h2, rfl, h4⟩ := enumT_spec len 0 h
        obtain ⟨v', hv, hrv⟩ := partA_sound hag hs hr h4
        refine ⟨v', ?_, hrv⟩
        have hq : q < len := by omega
        simp [Instr.index, asIntOf, run_underlying hu, hq, sizeT_run hs, hv]
      · simp [T.eval] at h
    · rename_i s hu
      simp only [R] at hx
      subst hx
      simp only [T.need, T.eval] at h
      split at h
      · rename_i hb
        simp only [decide_eq_true_eq] at hb
        simp only [Option.some.injEq] at h; subst h
        have hlt : n.toNat < s.size := by omega
        refine ⟨_, ?_, by simp only [R]; rfl⟩
        have hg : s[n.toNat]? = some s[n.toNat] := ByteArray.getElem?_lt' s _ hlt
        have hd : s.data.toList.getD n.toNat 0 = s[n.toNat] := by
          have : n.toNat < s.data.toList.length := by simpa using hlt
          rw [List.getD_eq_getElem?_getD, List.getElem?_eq_getElem this]
          rfl
        simp only [Instr.index, asIntOf, Sem.run_bind, Sem.run_pure, Result.andThen_ok, run_underlying hu, if_pos hb.1, hg, hd]
      · cases h
    · simp [T.eval] at h
  · simp [T.eval] at h

theorem boundA_R {lo : Option A} {vlo : Option Value} {d : Nat} {l : Int} (hlo : match lo, vlo with | none, none => True | some a, some v => R w O a ρ v | _, _ => False) (h : boundA lo d = some l) :
    (vlo = none ∧ l = d) ∨ ∃ k, vlo = some (.int k l) := by
  cases lo with
  | none =>
    cases vlo with
    | none => simp [boundA] at h; exact .inl ⟨rfl, h.symm⟩
    | some v => exact hlo.elim
  | some a =>
    cases vlo with
    | none => exact hlo.elim
    | some v =>
      cases a with
      | int k n =>
        simp [boundA] at h; subst h
        simp only [R] at hlo
        subst hlo
        exact .inr ⟨k, rfl⟩
      | _ => simp [boundA] at h

theorem run_sliceBounds {isS : Bool} {len cap : Nat} {vlo vhi : Option Value} {l h : Int} (hl : (vlo = none ∧ l = ((0 : Nat) : Int)) ∨ ∃ k, vlo = some (.int k l)) (hh : (vhi = none ∧ h = (len : Int)) ∨ ∃ k, vhi = some (.int k h))
    (h0 : 0 ≤ l) (h1 : l ≤ h) (h2 : h ≤ cap) : (Instr.sliceBounds isS len cap vlo vhi none).run P w = .ok (l.toNat, h.toNat, cap) w := by
  have e2 : (h.toNat : Int) = h := by omega
  rcases hl with ⟨rfl, rfl⟩ | ⟨k, rfl⟩ <;> rcases hh with ⟨rfl, rfl⟩ | ⟨k', rfl⟩ <;>
    simp [Instr.sliceBounds, Instr.sliceBound, asIntOf, h0, h2, e2, h1] <;> omega

theorem sliceA_sound {objs : List Ob} {t : TypeId} {x a' : A} {vx : Value} {lo hi : Option A} {vlo vhi : Option Value} (hob : Obs w O ρ objs) (hx : R w O x ρ vx)
    (hlo : match lo, vlo with | none, none => True | some a, some v => R w O a ρ v | _, _ => False) (hhi : match hi, vhi with | none, none => True | some a, some v => R w O a ρ v | _, _ => False)
    (h : (sliceA P objs t x lo hi).eval = some a') : ∃ v', (Instr.sliceAt t vx vlo vhi none).run P w = .ok v' w ∧ R w O a' ρ v' := by
  unfold sliceA at h
  split at h
  · rename_i s hu
    simp only [R] at hx
    subst hx
    split at h
    · rename_i l hh hl' hh'
      simp only [T.need, T.eval] at h
      split at h
      · rename_i hb
        simp only [decide_eq_true_eq] at hb
        simp at h; subst h
        have hbs := run_sliceBounds (P := P) (w := w) (isS := false) (len := s.size) (cap := s.size) (boundA_R hlo hl') (boundA_R hhi hh') hb.1 hb.2.1 hb.2.2
        refine ⟨_, ?_, by simp only [R]; rfl⟩
        simp [Instr.sliceAt, Instr.slice, run_underlying hu, hbs]
      · cases h
    · simp [T.eval] at h
  · rename_i e c n el hu
    simp only [R] at hx
    obtain ⟨a, cap, rfl, h1, h2, h3⟩ := hx
    split at h
    · rename_i s l hh hs hl' hh'
      split at h
      · rename_i hcs
        subst hcs
        simp only [T.need, T.eval] at h
        split at h
        · rename_i hb
          simp only [decide_eq_true_eq] at hb
          simp at h; subst h
          have hbs := run_sliceBounds (P := P) (w := w) (isS := true) (len := n) (cap := cap) (boundA_R hlo hl') (boundA_R hhi hh') hb.1 hb.2.1 (by omega)
          refine ⟨.slice (if cap = l.toNat then a else a.map (·.add (l.toNat * c))) (hh.toNat - l.toNat) (cap - l.toNat), ?_, ?_⟩
          · simp [Instr.sliceAt, Instr.slice, run_underlying hu, hbs, sizeT_run hs]
          · simp only [R]
            refine ⟨_, _, by rw [show hh.toNat - l.toNat = (hh - l).toNat by omega], by omega, by omega, fun hp => ?_⟩
            have hlt : 0 < (hh - l).toNat := Nat.pos_of_mul_pos_right hp
            have hc : 0 < c := Nat.pos_of_mul_pos_left hp
            obtain ⟨ad, rfl, hi, hcell⟩ := h3 (Nat.mul_pos (by omega) hc)
            rw [if_neg (by omega)]
            refine ⟨ad.add (l.toNat * c), rfl, by rw [add_block]; exact hi, fun i hi j hj => ?_⟩
            obtain ⟨u, hu1, hu2, hu3⟩ := hcell (l.toNat + i) (by omega) j hj
            refine ⟨u, ?_, hu2, hu3⟩
            rw [add_add, ← hu1, Nat.add_mul]
            congr 2
            omega
        · cases h
      · simp [T.eval] at h
    · simp [T.eval] at h
  · rename_i e id hu
    split at h
    · rename_i e' c n el hrow
      split at h
      · rename_i s l hh hs hl' hh'
        split at h
        · rename_i hcs
          subst hcs
          simp only [T.need, T.eval] at h
          split at h
          · rename_i hb
            simp only [decide_eq_true_eq] at hb
            simp at h; subst h
            rcases hob id with hd | hob'
            · rw [hrow] at hd; cases hd
            · rw [hrow] at hob'
              obtain ⟨rv, xs, hρ, hown, hxs, hel⟩ := hob'
              simp only [R, hρ] at hx ⊢
              obtain ⟨rfl, _⟩ := hx
              have key : ∃ a cap, vx = .slice a n cap ∧ n ≤ cap ∧ (0 < n → ∃ ad, a = some ad) := by
                rcases hown.2 with ⟨rfl, a, rfl⟩ | ⟨g, cap, cur, rfl, _, hnc, _⟩
                · exact ⟨a, 0, rfl, Nat.le_refl _, fun h => absurd h (Nat.lt_irrefl _)⟩
                · exact ⟨_, _, rfl, hnc, fun _ => ⟨_, rfl⟩⟩
              obtain ⟨a, cap, rfl, hnc, had⟩ := key
              have hbs := run_sliceBounds (P := P) (w := w) (isS := true) (len := n) (cap := cap) (boundA_R hlo hl') (boundA_R hhi hh') hb.1 hb.2.1 (by omega)
              refine ⟨.slice (if cap = l.toNat then a else a.map (·.add (l.toNat * c))) (hh.toNat - l.toNat) (cap - l.toNat), ?_, a, n, cap, _, rfl, by omega, by rw [show hh.toNat - l.toNat = (hh - l).toNat by omega], fun h0 => ?_, fun hp => ?_⟩
              · simp [Instr.sliceAt, Instr.slice, run_underlying hu, hbs, sizeT_run hs]
              · rw [h0]
                split
                · rfl
                · cases a with
                  | none => rfl
                  | some ad => simp [add_zero]
              · obtain ⟨ad, rfl⟩ := had (by omega)
                exact ⟨ad, rfl, by rw [if_neg (by omega)]; rfl⟩
          · cases h
        · simp [T.eval] at h
      · simp [T.eval] at h
    · simp [T.eval] at h
  · simp [T.eval] at h

theorem lenA_sound {objs : List Ob} {t ty : TypeId} {x a' : A} {vx : Value} (hob : Obs w O ρ objs) (hx : R w O x ρ vx) (h : (lenA P objs t x).eval = some a') :
    ∃ v', (Builtin.len_ #[t] ty #[vx]).run P w = .ok v' w ∧ R w O a' ρ v' := by
  unfold lenA at h
  split at h
  · rename_i s hu
    simp only [R] at hx; subst hx
    simp [T.eval] at h; subst h
    exact ⟨_, by simp [Builtin.len_, run_underlying hu]; rfl, by simp [R, goInt]⟩
  · rename_i e c n el hu
    simp only [R] at hx
    obtain ⟨a, cap, rfl, _⟩ := hx
    simp [T.eval] at h; subst h
    exact ⟨_, by simp [Builtin.len_, run_underlying hu]; rfl, by simp [R, goInt]⟩
  · rename_i e hu
    simp only [R] at hx; obtain ⟨_, rfl⟩ := hx
    simp [T.eval] at h; subst h
    exact ⟨_, by simp [Builtin.len_, run_underlying hu]; rfl, by simp [R, goInt]⟩
  · rename_i e id hu
    split at h
    · rename_i e' c n el hrow
      simp [T.eval] at h; subst h
      rcases hob id with hd | hob'
      · rw [hrow] at hd; cases hd
      · rw [hrow] at hob'
        obtain ⟨rv, xs, hρ, hown, hxs, hel⟩ := hob'
        simp only [R, hρ] at hx ⊢
        obtain ⟨rfl, _⟩ := hx
        rcases hown.2 with ⟨rfl, _, rfl⟩ | ⟨g, cap, cur, rfl, _⟩
        · exact ⟨_, by simp [Builtin.len_, run_underlying hu]; rfl, by simp [goInt]⟩
        · exact ⟨_, by simp [Builtin.len_, run_underlying hu]; rfl, by simp [goInt]⟩
    · simp [T.eval] at h
  · rename_i e id c lo n hu
    obtain ⟨a, cap, rfl⟩ := hx.ov_shape
    simp [T.eval] at h; subst h
    exact ⟨_, by simp [Builtin.len_, run_underlying hu]; rfl, by simp [R, goInt]⟩
  · simp [T.eval] at h

theorem slice0A_sound {t : TypeId} {x h m a' : A} {vx vh vm : Value} (hx : R w O x ρ vx) (hh : R w O h ρ vh) (hm : R w O m ρ vm) (h : (slice0A P t x h m).eval = some a') :
    ∃ v', (Instr.sliceAt t vx none (some vh) (some vm)).run P w = .ok v' w ∧ R w O a' ρ v' := by
  unfold slice0A at h
  split at h
  · rename_i e k a k' b hu
    simp only [R] at hh hm
    subst hh; subst hm
    split at h
    · rename_i s hs
      split at h
      · rename_i hab
        obtain ⟨rfl, rfl⟩ := hab
        have key : ∀ (s : Option Addr) (len cap : Nat), (Instr.sliceAt t (.slice s len cap) none (some (.int k 0)) (some (.int k' 0))).run P w = .ok (.slice s 0 0) w := by
          intro s len cap
          simp [Instr.sliceAt, Instr.slice, run_underlying hu, Instr.sliceBounds, Instr.sliceBound, asIntOf, sizeT_run hs]
        split at h
        · simp only [T.eval, Option.some.injEq] at h; subst h
          simp only [R] at hx ⊢
          subst hx
          exact ⟨_, key _ _ _, rfl⟩
        · cases h
      · cases h
    · cases h
  · cases h

theorem allN_spec {f : Nat → Bool} : ∀ {n : Nat}, allN f n = true → ∀ i, i < n → f i = true
  | n + 1, h, i, hi => by
    simp only [allN, Bool.and_eq_true] at h
    rcases Nat.lt_or_ge i n with h1 | h1
    · exact allN_spec h.1 i h1
    · have : i = n := by omega
      subst this; exact h.2

theorem push_bytes : ∀ (ns : List Int) (s : ByteArray), ns.foldl (fun r n => r.push (UInt8.ofNat n.toNat)) s = ⟨(s.data.toList ++ ns.map fun n => UInt8.ofNat n.toNat).toArray⟩
  | [], s => by simp
  | n :: ns, s => by
    simp only [List.foldl_cons]
    rw [push_bytes ns]
    simp [ByteArray.push]

theorem bytes_conv {s d e : TypeId} {n cap : Nat} {a : Option Addr} {el : Nat → Nat → A} (hs : P.underlying s = some (.slice e)) (he : P.underlying e = some (.int .u8)) (hd : P.underlying d = some .string)
    (hb : allN (fun i => isU8 (el i 0)) n = true) (hc : 0 < n → ∃ ad, a = some ad ∧ ∀ i, i < n → ∃ u, w.cell? (ad.add i) = some u ∧ R w O (el i 0) virg u) :
    (convert s d (.slice a n cap)).run P w = .ok (.string (bytesOf el n)) w := by
  rw [run_convert_bytes_string w s d e a n cap hs he hd]
  have hu : ∀ i, i < n → ∃ q, el i 0 = .int .u8 q := by
    intro i hi
    have := allN_spec hb i hi
    unfold isU8 at this
    split at this
    · rename_i q hq; exact ⟨q, hq⟩
    · cases this
  rcases Nat.eq_zero_or_pos n with hn | hn
  · subst hn
    cases a with
    | none => simp [Conv.bytesToString, bytesOf]; rfl
    | some ad =>
      have := run_bytesToString (P := P) w ad 0 cap [] (by simp [loadCells, loadCellsFrom])
      rw [this]; rfl
  · obtain ⟨ad, rfl, hcell⟩ := hc hn
    have hl := run_loadCells_list (P := P) w ad (((List.range n).map fun i => u8Of (el i 0)).map (Value.int .u8)) (fun j v hj => by
      simp only [List.getElem?_map, Option.map_eq_some_iff] at hj
      obtain ⟨y, ⟨x, hx, rfl⟩, rfl⟩ := hj
      have hjn : j < n := by
        rcases Nat.lt_or_ge j n with h | h
        · exact h
        · rw [List.getElem?_eq_none (by simpa using h)] at hx; cases hx
      rw [List.getElem?_range hjn] at hx
      cases hx
      obtain ⟨u, hu1, hu2⟩ := hcell j hjn
      obtain ⟨q, hq⟩ := hu j hjn
      rw [hq] at hu2 ⊢
      simp only [R] at hu2
      rw [hu1, hu2]; rfl)
    simp only [List.length_map, List.length_range] at hl
    rw [run_bytesToString (P := P) w ad n cap _ hl, push_bytes]
    have e0 : ByteArray.empty.data.toList = [] := rfl
    rw [e0, List.nil_append, List.map_map]
    rfl

theorem convA_sound {objs : List Ob} {s d : TypeId} {x a' : A} {vx : Value} (hob : Obs w O ρ objs) (hx : R w O x ρ vx) (h : (convA P objs s d x).eval = some a') :
    ∃ v', (convert s d vx).run P w = .ok v' w ∧ R w O a' ρ v' := by
  unfold convA at h
  split at h
  · rename_i k' k hs hd
    split at h
    · simp only [R] at hx; subst hx
      simp [T.eval] at h; subst h
      exact ⟨_, by simp [convert, run_underlying hs, run_underlying hd, Conv.intToInt]; rfl, by simp [R]⟩
    · cases h
  · rename_i hs hd
    split at h
    · simp only [R] at hx; subst hx
      simp [T.eval] at h; subst h
      exact ⟨_, by simp [convert, run_underlying hs, run_underlying hd]; rfl, by simp [R]⟩
    · cases h
  · rename_i e hs hd
    split at h
    · rename_i he
      split at h
      · simp only [R] at hx; subst hx
        simp [T.eval] at h; subst h
        have := bytes_conv (P := P) (w := w) (O := O) (n := 0) (cap := 0) (a := none) (el := fun _ _ => .junk) hs he hd rfl (fun h => by omega)
        exact ⟨_, this, by simp only [R]; rfl⟩
      · rename_i c n el
        split at h
        · rename_i hc
          subst hc
          simp only [T.need, T.eval] at h
          split at h
          · rename_i hb
            simp only [Option.some.injEq] at h; subst h
            simp only [R] at hx
            obtain ⟨a, cap, rfl, h1, h2, h3⟩ := hx
            refine ⟨_, bytes_conv (O := O) hs he hd hb (fun hn => ?_), by simp only [R]⟩
            obtain ⟨ad, rfl, _, hcell⟩ := h3 (by omega)
            refine ⟨ad, rfl, fun i hi => ?_⟩
            obtain ⟨u, hu, _, hr⟩ := hcell i hi 0 (by omega)
            exact ⟨u, by simpa using hu, hr⟩
          · cases h
        · cases h
      · rename_i id
        split at h
        · rename_i e' c n el hrow
          split at h
          · rename_i hc
            subst hc
            simp only [T.need, T.eval] at h
            split at h
            · rename_i hb
              simp only [Option.some.injEq] at h; subst h
              rcases hob id with hd' | hob'
              · rw [hrow] at hd'; cases hd'
              · rw [hrow] at hob'
                obtain ⟨rv, xs, hρ, hown, hxs, hel⟩ := hob'
                simp only [R, hρ] at hx ⊢
                obtain ⟨rfl, _⟩ := hx
                have hsh : ∃ a cap, vx = .slice a n cap := by
                  rcases hown.2 with ⟨rfl, a, rfl⟩ | ⟨g, cap, cur, rfl, _⟩
                  · exact ⟨_, _, rfl⟩
                  · exact ⟨_, _, rfl⟩
                obtain ⟨a, cap, rfl⟩ := hsh
                refine ⟨_, bytes_conv (O := O) hs he hd hb (fun hn => ?_), rfl⟩
                obtain ⟨g, cap', hv, _, _, hcell⟩ := ownsRow_cell hown hn
                simp only [Value.slice.injEq] at hv
                obtain ⟨rfl, _, rfl⟩ := hv
                refine ⟨_, rfl, fun i hi => ?_⟩
                obtain ⟨u, hu, hr⟩ := hel i hi 0 (by omega)
                exact ⟨u, by rw [add_at, Nat.zero_add]; exact hcell _ _ (by simpa using hu), hr⟩
            · cases h
          · cases h
        · cases h
      · cases h
    · cases h
  · cases h

theorem unA_sound {op : UnOp} {x a' : A} {vx : Value} (hx : R w O x ρ vx) (h : (unA op x).eval = some a') :
    ∃ v', (Op.unary op vx).run P w = .ok v' w ∧ R w O a' ρ v' := by
  unfold unA at h
  split at h
  all_goals first
    | (simp [T.eval] at h; done)
    | (simp only [R] at hx; subst hx; simp [T.eval] at h; subst h; exact ⟨_, by simp [Op.unary, Op.intArith]; rfl, by simp [R]⟩)
    | (simp only [R] at hx; obtain ⟨b, rfl⟩ := hx; simp [T.eval] at h; subst h; exact ⟨.bool (!b), by simp [Op.unary], by simp only [R]; exact ⟨_, rfl⟩⟩)

theorem minmaxA_sound {mx : Bool} {l : List A} {vs : List Value} {a' : A} {ts : Array TypeId} {ty : TypeId} (hx : RL w O l ρ vs) (h : (minmaxA mx l).eval = some a') :
    ∃ v', (match mx with | true => Builtin.max_ ts ty vs.toArray | false => Builtin.min_ ts ty vs.toArray).run P w = .ok v' w ∧ R w O a' ρ v' := by
  unfold minmaxA at h
  split at h
  · rename_i k a k' b
    split at h
    · rename_i hk
      subst hk
      simp only [RL, R] at hx
      obtain ⟨v, vs', rfl, rfl, v2, vs2, rfl, rfl, rfl⟩ := hx
      cases mx
      · simp [T.eval] at h; subst h
        exact ⟨_, by simp [Builtin.min_, Builtin.min2]; rfl, by simp [R]⟩
      · simp [T.eval] at h; subst h
        exact ⟨_, by simp [Builtin.max_, Builtin.max2]; rfl, by simp [R]⟩
    · simp [T.eval] at h
  · simp [T.eval] at h

theorem arith_sound {op : BinOp} {t : TypeId} {k : IntKind} {a b : Int} {a' : A} (hsh : isShift op = false) (h : (arith op k a b).eval = some a') :
    ∃ v', (binOp op t (.int k a) (.int k b)).run P w = .ok v' w ∧ R w O a' ρ v' := by
  cases op <;> simp only [arith, isShift, T.need, T.eval] at h hsh <;> first
    | (cases hsh; done)
    | (split at h
       · rename_i hb
         simp only [Option.some.injEq] at h
         subst h
         refine ⟨_, ?_, by simp only [R]; rfl⟩
         simp only [bne_iff_ne, ne_eq] at hb
         simp [binOp, Op.intDiv, hb]
       · cases h)
    | (simp only [Option.some.injEq] at h; subst h; refine ⟨_, ?_, by simp only [R]; rfl⟩; simp [binOp, Op.intArith, Op.intBits, Op.intCmp])
    | (cases h)

theorem shiftA_sound {op : BinOp} {t : TypeId} {k k' : IntKind} {a b : Int} {a' : A} (h : (shiftA op k a b).eval = some a') :
    ∃ v', (binOp op t (.int k a) (.int k' b)).run P w = .ok v' w ∧ R w O a' ρ v' := by
  cases op <;> simp only [shiftA, T.need, T.eval] at h <;> first
    | (split at h
       · rename_i hb
         simp only [Option.some.injEq] at h
         subst h
         refine ⟨_, ?_, by simp only [R]; rfl⟩
         simp only [decide_eq_true_eq] at hb
         have hb' : ¬ b < 0 := by omega
         simp [binOp, Op.shift, hb']
       · cases h)
    | (cases h)

theorem strOp_sound {op : BinOp} {t : TypeId} {a b : ByteArray} {a' : A} (h : (strOp op a b).eval = some a') :
    ∃ v', (binOp op t (.string a) (.string b)).run P w = .ok v' w ∧ R w O a' ρ v' := by
  cases op <;> simp only [strOp, T.need, T.eval] at h <;> first
    | (split at h
       · rename_i hb
         simp only [Option.some.injEq] at h
         subst h
         refine ⟨_, ?_, by simp only [R]; rfl⟩
         simp only [decide_eq_true_eq] at hb
         have hb' : ¬ (((a.size + b.size : Nat) : Int) > IntKind.i64.max) := by
           have : IntKind.i64.max = 9223372036854775807 := by decide
           rw [this]; omega
         simp only [binOp, Op.stringOp, if_neg hb', Sem.run_pure]
       · cases h)
    | (simp only [Option.some.injEq] at h; subst h; refine ⟨_, ?_, by simp only [R]; rfl⟩; simp [binOp, Op.stringOp])
    | (cases h)

theorem boolOp_sound {op : BinOp} {t : TypeId} {a b : Bool} {a' : A} (hu : P.underlying t = some .bool) (h : (boolOp op a b).eval = some a') :
    ∃ v', (binOp op t (.bool a) (.bool b)).run P w = .ok v' w ∧ R w O a' ρ v' := by
  have hq : (Op.equal t (.bool a) (.bool b)).run P w = .ok (a == b) w := run_equalIn_bool w 9999 t a b hu
  have h1 : (binOp .eql t (.bool a) (.bool b)).run P w = .ok (.bool (a == b)) w := by
    show ((Op.equal t (.bool a) (.bool b) >>= fun r => (pure (.bool r) : Sem Value))).run P w = _
    rw [Sem.run_bind, hq]; rfl
  have h2 : (binOp .neq t (.bool a) (.bool b)).run P w = .ok (.bool (!(a == b))) w := by
    show ((Op.equal t (.bool a) (.bool b) >>= fun r => (pure (.bool (!r)) : Sem Value))).run P w = _
    rw [Sem.run_bind, hq]; rfl
  cases op <;> simp only [boolOp, T.eval] at h <;> first
    | (simp only [Option.some.injEq] at h; subst h; exact ⟨_, h1, by simp only [R]⟩)
    | (simp only [Option.some.injEq] at h; subst h; exact ⟨_, h2, by simp only [R]⟩)
    | (cases h)

theorem eqA_V {c : CK} {a b : A} {va vb : Value} {x : Bool} (ha : R w O a ρ va) (hb : R w O b ρ vb) (h : eqA c a b = some x) : eqV c va vb = some x := by
  unfold eqA at h
  split at h <;> first
    | (simp only [R] at ha hb; subst ha; subst hb; simpa [eqV] using h)
    | (cases h)

theorem eqL_Vs : ∀ {cs : List CK} {l m : List A} {vs us : List Value} {x : Bool}, RL w O l ρ vs → RL w O m ρ us → eqL cs l m = some x → eqVs cs vs us = some x
  | [], [], [], vs, us, x, h1, h2, h => by
    simp only [RL] at h1 h2; subst h1; subst h2; simpa [eqL, eqVs] using h
  | c :: cs, a :: l, b :: m, vs, us, x, h1, h2, h => by
    simp only [RL] at h1 h2
    obtain ⟨v, vs', rfl, ha, hl⟩ := h1
    obtain ⟨u, us', rfl, hb, hm⟩ := h2
    simp only [eqL] at h
    split at h
    · rename_i p q hp hq
      simp only [eqVs, eqA_V ha hb hp, eqL_Vs hl hm hq]
      exact h
    · cases h
  | [], [], _ :: _, _, _, _, _, _, h => by simp [eqL] at h
  | [], _ :: _, _, _, _, _, _, _, h => by simp [eqL] at h
  | _ :: _, [], _, _, _, _, _, _, h => by simp [eqL] at h
  | _ :: _, _ :: _, [], _, _, _, _, _, h => by simp [eqL] at h

/-- What is asked of the list of types whose '==' goes cell by cell. -/
def EqOK (E : Env) : Prop := ∀ t ks, E.eqT t = some ks → E.P.eqGuardType E.P.depth t = false ∧
  ∀ (xs ys : List Value) (b : Bool) (w : World), eqVs ks xs ys = some b → (Op.equalIn 10000 t (.agg xs.toArray) (.agg ys.toArray)).run E.P w = .ok b w

theorem run_equal_slice_nil (P : Program) (w : World) (t e : TypeId) (a : Option Addr) (l c : Nat) (h : P.underlying t = some (.slice e)) : (Op.equal t (.slice a l c) (.slice none 0 0)).run P w = .ok a.isNone w := by
  have : ∀ d : Nat, (Op.equalIn (d + 1) t (.slice a l c) (.slice none 0 0)).run P w = .ok a.isNone w := fun d => by cases a <;> simp [Op.equalIn, run_underlying h]
  exact this 9999

def isNilV : Value → Bool
  | .slice none _ _ => true
  | _ => false
theorem nilA_sound {E : Env} {op : BinOp} {t : TypeId} {a' yes no : A} {px py : Operand} {vx vy : Value} (hy : R w O .nils ρ vy) (hs : ∃ a n c, vx = .slice a n c) (hr : ∀ _ : Bool, R w O yes ρ (.bool (isNilV vx)) ∧ R w O no ρ (.bool (!(isNilV vx)))) (h : (nilA E op t yes no).eval = some a') :
    ∃ v', ((do eqGuard op t px py vx vy; binOp op t vx vy : Sem Value)).run E.P w = .ok v' w ∧ R w O a' ρ v' := by
  obtain ⟨a, n, c, rfl⟩ := hs
  simp only [R] at hy
  subst hy
  have hg : eqGuard op t px py (.slice a n c) (.slice none 0 0) = pure () := by cases op <;> rfl
  simp only [hg, Sem.run_bind, Sem.run_pure, Result.andThen_ok]
  have hm : isNilV (.slice a n c) = a.isNone := by cases a <;> rfl
  rw [hm] at hr
  unfold nilA at h
  split at h
  · rename_i e hu
    split at h
    · simp only [T.eval, Option.some.injEq] at h; subst h
      refine ⟨.bool a.isNone, ?_, (hr true).1⟩
      simp only [binOp, Sem.run_bind, run_equal_slice_nil E.P w t e a n c hu, Result.andThen_ok, Sem.run_pure]
    · simp only [T.eval, Option.some.injEq] at h; subst h
      refine ⟨.bool (!a.isNone), ?_, (hr true).2⟩
      simp only [binOp, Sem.run_bind, run_equal_slice_nil E.P w t e a n c hu, Result.andThen_ok, Sem.run_pure]
    · cases h
  · cases h

theorem binA_sound {E : Env} (hE : EqOK E) {op : BinOp} {t : TypeId} {x y a' : A} {px py : Operand} {vx vy : Value} (hx : R w O x ρ vx) (hy : R w O y ρ vy) (h : (binA E op t x y).eval = some a') :
    ∃ v', ((do eqGuard op t px py vx vy; binOp op t vx vy : Sem Value)).run E.P w = .ok v' w ∧ R w O a' ρ v' := by
  unfold binA at h
  split at h
  · rename_i k a k' b
    simp only [R] at hx hy; subst hx; subst hy
    have hg : eqGuard op t px py (.int k a) (.int k' b) = pure () := by cases op <;> rfl
    simp only [hg, Sem.run_bind, Sem.run_pure, Result.andThen_ok]
    split at h
    · exact shiftA_sound h
    · rename_i hsh
      split at h
      · rename_i hk; subst hk
        exact arith_sound hsh h
      · cases h
  · rename_i a b
    simp only [R] at hx hy; subst hx; subst hy
    have hg : eqGuard op t px py (.string a) (.string b) = pure () := by cases op <;> rfl
    simp only [hg, Sem.run_bind, Sem.run_pure, Result.andThen_ok]
    exact strOp_sound h
  iterate 4
    · rename_i a b
      simp only [R] at hx hy; subst hx; subst hy
      have hg : eqGuard op t px py (.bool a) (.bool b) = pure () := by cases op <;> rfl
      simp only [hg, Sem.run_bind, Sem.run_pure, Result.andThen_ok]
      split at h
      · rename_i hu; exact boolOp_sound hu h
      · cases h
  · rename_i l m
    simp only [R] at hx hy
    obtain ⟨vs, rfl, hl⟩ := hx
    obtain ⟨us, rfl, hm⟩ := hy
    split at h
    · rename_i ks hks
      obtain ⟨hgt, heq⟩ := hE t ks hks
      split at h
      · rename_i b hb
        have hrun := heq vs us b w (eqL_Vs hl hm hb)
        simp only [Sem.run_bind, run_eqGuard_agg w op t px py _ _ hgt, Result.andThen_ok]
        split at h
        · simp only [T.eval, Option.some.injEq] at h; subst h
          exact ⟨_, by rw [run_eql_struct, hrun]; rfl, by simp only [R]⟩
        · simp only [T.eval, Option.some.injEq] at h; subst h
          exact ⟨_, by rw [run_neq_struct, hrun]; rfl, by simp only [R]⟩
        · cases h
      · cases h
    · cases h
  · exact nilA_sound hy (by simp only [R] at hx; exact ⟨_, _, _, hx⟩) (fun hx' => by simp only [R] at hx; rw [hx]; exact ⟨by simp only [R]; rfl, by simp only [R]; rfl⟩) h
  · rename_i c n el
    simp only [R] at hx
    obtain ⟨a, cap, rfl, h1, h2, h3⟩ := hx
    split at h
    · rename_i hc
      simp only [T.eval] at h
      split at h
      · exact nilA_sound hy ⟨_, _, _, rfl⟩ (fun a => ⟨by simp only [R]; exact ⟨_, rfl⟩, by simp only [R]; exact ⟨_, rfl⟩⟩) h
      · rename_i hn
        simp only [decide_eq_false_iff_not] at hn
        obtain ⟨ad, rfl, _⟩ := h3 (Nat.mul_pos (Nat.pos_of_ne_zero hn) hc)
        exact nilA_sound hy ⟨_, _, _, rfl⟩ (fun a => ⟨by simp only [R]; rfl, by simp only [R]; rfl⟩) h
    · cases h
  · exact nilA_sound hy (by obtain ⟨a, n, c, rfl⟩ := hx.own_shape; exact ⟨_, _, _, rfl⟩) (fun a => ⟨by simp only [R]; exact ⟨_, rfl⟩, by simp only [R]; exact ⟨_, rfl⟩⟩) h
  · cases h

theorem mapEv_RL {ev : Operand → A} {va : Operand → Value} (hev : ∀ x, R w O (ev x) ρ (va x)) : ∀ l : List Operand, RL w O (mapEv ev l) ρ (l.map va)
  | [] => by simp [mapEv, RL]
  | x :: l => by simp only [mapEv, RL, List.map_cons]; exact ⟨_, _, rfl, hev x, mapEv_RL hev l⟩

theorem cellsOf_R {a : A} {v : Value} {cs : List A} (h : R w O a ρ v) (hc : cellsOf a = some cs) : RL w O cs ρ v.cells.toList := by
  cases a with
  | agg l =>
    simp [cellsOf] at hc; subst hc
    simp only [R] at h
    obtain ⟨vs, rfl, h⟩ := h
    simpa [Value.cells] using h
  | tup l => simp [cellsOf] at hc
  | junk => simp [cellsOf] at hc
  | _ =>
    have h1 := h.cell_of rfl
    simp only [cellsOf, Option.some.injEq] at hc
    subst hc
    have e : v.cells = #[v] := by cases v <;> simp_all [Value.cells, Value.oneCell']
    rw [e]
    simp only [RL]
    exact ⟨v, [], rfl, h, rfl⟩

theorem fold_set (cells : Array Value) (off : Nat) : ∀ (vs : List Value) (k : Nat), off + k + vs.length ≤ cells.size →
    ((vs.zipIdx k).foldl (fun cs (c, j) => cs.setIfInBounds (off + j) c) cells) = (cells.toList.take (off + k) ++ vs ++ cells.toList.drop (off + k + vs.length)).toArray
  | [], k, h => by simp
  | v :: vs, k, h => by
    simp only [List.zipIdx_cons, List.foldl_cons]
    rw [fold_set (cells.setIfInBounds (off + k) v) off vs (k + 1) (by simp at h ⊢; omega)]
    congr 1
    simp only [Array.toList_setIfInBounds, List.length_cons]
    have h' : off + k + (vs.length + 1) ≤ cells.size := by simpa using h
    have hz : cells.toList.length = cells.size := by simp
    have l1 : (List.take (off + (k + 1)) (cells.toList.set (off + k) v)).length = off + k + 1 := by simp; omega
    have l2 : (List.take (off + k) cells.toList).length = off + k := by simp; omega
    have hd : List.drop (off + (k + 1) + vs.length) (cells.toList.set (off + k) v) = List.drop (off + k + (vs.length + 1)) cells.toList := by
      rw [List.drop_set, if_pos (by omega)]
      congr 1
      omega
    rw [hd]
    apply List.ext_getElem?
    intro i
    rw [List.append_assoc, List.append_assoc]
    rcases Nat.lt_trichotomy i (off + k) with hi | hi | hi
    · rw [List.getElem?_append_left (by omega), List.getElem?_append_left (by omega)]
      rw [List.getElem?_take_of_lt (by omega), List.getElem?_take_of_lt (by omega), List.getElem?_set_ne (by omega)]
    · subst hi
      rw [List.getElem?_append_left (by omega), List.getElem?_take_of_lt (by omega), List.getElem?_set_self (by omega)]
      rw [List.getElem?_append_right (by omega), l2]
      simp
    · rw [List.getElem?_append_right (l₁ := List.take (off + (k + 1)) (cells.toList.set (off + k) v)) (by omega), List.getElem?_append_right (l₁ := List.take (off + k) cells.toList) (by omega), l1, l2]
      rw [List.cons_append, show i - (off + k) = (i - (off + k + 1)) + 1 by omega, List.getElem?_cons_succ]

theorem fill_sound {place : Nat → Option (Nat × Nat)} : ∀ {ps : List (Nat × A)} {vps : List (Nat × Value)} {cells cs : List A} {vs : List Value},
    (ps.map (·.1) = vps.map (·.1) ∧ RL w O (ps.map (·.2)) ρ (vps.map (·.2))) → RL w O cells ρ vs → fillP place cells ps = some cs →
    ∃ us, Instr.fill place (List.toArray vs) vps = some (List.toArray us) ∧ RL w O cs ρ us
  | [], vps, cells, cs, vs, hp, hc, h => by
    simp [fillP] at h; subst h
    have : vps = [] := by have := hp.1; simpa using this.symm
    subst this
    exact ⟨vs, rfl, hc⟩
  | (i, a) :: ps, vps, cells, cs, vs, hp, hc, h => by
    cases vps with
    | nil => simp at hp
    | cons vp vps =>
      obtain ⟨i', v⟩ := vp
      simp only [List.map_cons, List.cons.injEq, RL] at hp
      obtain ⟨⟨rfl, hp1⟩, v', vs', ⟨rfl, rfl⟩, hr, hp2⟩ := hp
      simp only [fillP] at h
      split at h
      · rename_i off size acs hpl hacs
        split at h
        · rename_i hsz
          split at h
          · rename_i c' hc'
            have hcells := cellsOf_R hr hacs
            have hlen := hcells.len
            rcases RL.setN hc hcells hc' with ⟨h5, h6⟩ | ⟨rfl, rfl⟩
            · obtain ⟨us, hf, hu⟩ := fill_sound ⟨hp1, hp2⟩ h5 h
              refine ⟨us, ?_, hu⟩
              simp only [Instr.fill, hpl]
              have e1 : v.cells.size = size := by rw [← hsz.1, ← hlen]; simp
              rw [if_neg (by simp [e1] at h6 ⊢; omega)]
              rw [← hf]
              congr 1
              have := fold_set (List.toArray vs) off v.cells.toList 0 (by simpa using h6)
              rw [← Array.foldl_toList, Array.toList_zipIdx]
              simpa using this
            · simp at hsz; omega
          · cases h
        · cases h
      · cases h

theorem zeroCells_sound {t : TypeId} {z : List A} (h : zeroCells P t = some z) : ∃ i v, P.info? t = some i ∧ i.zero = some v ∧ RL w O z ρ v.cells.toList := by
  unfold zeroCells at h
  split at h
  · rename_i i hi
    split at h
    · rename_i v hv
      simp at h; subst h
      exact ⟨i, v, hi, hv, ofCells_R w O ρ _⟩
    · cases h
  · cases h

theorem mapEvP_spec {ev : Operand → A} {va : Operand → Value} (hev : ∀ x, R w O (ev x) ρ (va x)) : ∀ l : List (Nat × Operand),
    (mapEvP ev l).map (·.1) = (l.map fun p => (p.1, va p.2)).map (·.1) ∧ RL w O ((mapEvP ev l).map (·.2)) ρ ((l.map fun p => (p.1, va p.2)).map (·.2))
  | [] => by simp [mapEvP, RL]
  | (i, x) :: l => by
    obtain ⟨h1, h2⟩ := mapEvP_spec hev l
    simp only [mapEvP, List.map_cons, h1, RL, true_and]
    exact ⟨_, _, rfl, hev x, h2⟩

theorem placesOf_run (w : World) : ∀ (fs : List Field) (pl : List (Nat × Nat)), placesOf P fs = some pl → (fs.mapM fun f => Functor.map (Prod.mk f.offset) (sizeOf f.type)).run P w = .ok pl w
  | [], pl, h => by simp [placesOf] at h; subst h; simp
  | f :: fs, pl, h => by
    simp only [placesOf] at h
    split at h
    · rename_i i m hi hm
      simp at h; subst h
      have hs : (sizeOf f.type).run P w = .ok i.size w := by simp [sizeOf, typeInfo, hi]
      simp [List.mapM_cons, hs, placesOf_run w fs m hm]
    · cases h
theorem build_sound {t : TypeId} {parts : Array (Nat × Operand)} {ev : Operand → A} {va : Operand → Value} {a' : A} {E : Env} {objs : List Ob} (hev : ∀ x, R w O (ev x) ρ (va x))
    (h : (semV E objs (.build t parts) ev).eval = some a') : ∃ v', (Instr.build t (parts.map fun (i, x) => (i, va x))).run E.P w = .ok v' w ∧ R w O a' ρ v' := by
  have hparts : (parts.map fun (i, x) => (i, va x)).toList = parts.toList.map fun p => (p.1, va p.2) := by simp
  simp only [semV] at h
  split at h
  · rename_i fs z hu hz
    obtain ⟨i, v, hi, hv, hr⟩ := zeroCells_sound (w := w) (O := O) (ρ := ρ) hz
    split at h
    · rename_i pl hpl
      split at h
      · rename_i cs hcs
        simp [T.eval] at h; subst h
        obtain ⟨us, hf, hu'⟩ := fill_sound (mapEvP_spec hev parts.toList) hr hcs
        refine ⟨.agg us.toArray, ?_, by simp only [R]; exact ⟨us, rfl, hu'⟩⟩
        simp only [Array.toArray_toList, nth_eq] at hf
        have hm : (fs.mapM fun f => (do pure (f.offset, ← sizeOf f.type) : Sem (Nat × Nat))).run E.P w = .ok pl.toArray w := by
          rw [Array.mapM_eq_mapM_toList]
          simp [placesOf_run w fs.toList pl hpl]
        simp only [Instr.build, Sem.run_bind, zeroValue, typeInfo, run_program, hi, hv, Sem.run_pure, Result.andThen_ok, run_underlying hu, hm, hparts, List.getElem?_toArray, hf]
      · cases h
    · cases h
  · rename_i len e z hu hz
    obtain ⟨i, v, hi, hv, hr⟩ := zeroCells_sound (w := w) (O := O) (ρ := ρ) hz
    split at h
    · rename_i s hs
      split at h
      · rename_i cs hcs
        simp [T.eval] at h; subst h
        obtain ⟨us, hf, hu'⟩ := fill_sound (mapEvP_spec hev parts.toList) hr hcs
        refine ⟨.agg us.toArray, ?_, by simp only [R]; exact ⟨us, rfl, hu'⟩⟩
        simp only [Array.toArray_toList] at hf
        simp only [Instr.build, Sem.run_bind, zeroValue, typeInfo, run_program, hi, hv, Sem.run_pure, Result.andThen_ok, run_underlying hu, sizeT_run hs, hparts, hf]
      · cases h
    · cases h
  · cases h

theorem mapEvO_R {ev : Operand → A} {va : Operand → Value} (hev : ∀ x, R w O (ev x) ρ (va x)) (x : Option Operand) :
    match mapEvO ev x, x.map va with | none, none => True | some a, some v => R w O a ρ v | _, _ => False := by
  cases x with
  | none => trivial
  | some x => exact hev x

theorem run_value {s : Sem Value} {v : Value} (h : s.run P w = .ok v w) : ((do pure (.value (← s)) : Sem Next)).run P w = .ok (.value v) w := by
  simp [h]

theorem semV_sound {E : Env} (hE : EqOK E) {objs : List Ob} {o : Oper} {ev : Operand → A} {va : Operand → Value} {a' : A} (hev : ∀ x, R w O (ev x) ρ (va x)) (hob : Obs w O ρ objs)
    (h : (semV E objs o.op ev).eval = some a') : ∃ v', (execOp va o).run E.P w = .ok (.value v') w ∧ R w O a' ρ v' := by
  obtain ⟨dst, op, type, pos, after, guard⟩ := o
  simp only at h
  cases op with
  | move x => simp [semV, T.eval] at h; subst h; exact ⟨_, by simp [execOp], hev x⟩
  | assign x => simp [semV, T.eval] at h; subst h; exact ⟨_, by simp [execOp], hev x⟩
  | pick c x y =>
    have hc := hev c
    simp only [semV] at h
    split at h
    · rename_i q hq
      rw [hq] at hc; simp only [R] at hc
      simp only [T.eval] at h
      cases q <;> simp only [Option.some.injEq] at h <;> subst h
      · exact ⟨_, by simp [execOp, hc, asBool], hev y⟩
      · exact ⟨_, by simp [execOp, hc, asBool], hev x⟩
    · rename_i hq
      rw [hq] at hc; simp only [R] at hc
      simp only [T.eval, Option.some.injEq] at h; subst h
      exact ⟨_, by simp [execOp, hc, asBool], hev x⟩
    · rename_i hq
      rw [hq] at hc; simp only [R] at hc
      simp only [T.eval, Option.some.injEq] at h; subst h
      exact ⟨_, by simp [execOp, hc, asBool], hev y⟩
    · cases h
  | build t parts =>
    obtain ⟨v, hv, hr⟩ := build_sound hev h
    exact ⟨v, run_value hv, hr⟩
  | load t a =>
    obtain ⟨v, hv, hr⟩ := loadA_sound hob (hev a) h
    exact ⟨v, run_value hv, hr⟩
  | binOp op t x y yt =>
    obtain ⟨v, hv, hr⟩ := binA_sound hE (px := x) (py := y) (hev x) (hev y) h
    exact ⟨v, run_value hv, hr⟩
  | unOp op t x =>
    obtain ⟨v, hv, hr⟩ := unA_sound (P := E.P) (hev x) h
    exact ⟨v, run_value hv, hr⟩
  | convert s d x =>
    obtain ⟨v, hv, hr⟩ := convA_sound hob (hev x) h
    exact ⟨v, run_value hv, hr⟩
  | makeFunc fn first caps =>
    cases fn with
    | func f =>
      obtain ⟨first⟩ := first
      cases first with
      | nil =>
        simp only [semV, T.eval, Option.some.injEq] at h; subst h
        refine ⟨.func (.func f) #[] (List.toArray (caps.toList.map va)), by simp [execOp, Instr.makeFunc]; rw [← Array.toList_map], ?_⟩
        simp only [R]
        exact ⟨_, rfl, mapEv_RL hev _⟩
      | cons x l => simp [semV, T.eval] at h
    | _ => simp [semV, T.eval] at h
  | slice t x lo hi mx =>
    cases mx with
    | none =>
      obtain ⟨v, hv, hr⟩ := sliceA_sound hob (hev x) (mapEvO_R hev lo) (mapEvO_R hev hi) h
      exact ⟨v, run_value hv, hr⟩
    | some m =>
      cases lo with
      | some l => simp [semV, T.eval] at h
      | none =>
        cases hi with
        | none => simp [semV, T.eval] at h
        | some hh =>
          simp only [semV] at h
          obtain ⟨v, hv, hr⟩ := slice0A_sound (hev x) (hev hh) (hev m) h
          exact ⟨v, run_value hv, hr⟩
  | fieldAddr s x f =>
    simp only [semV] at h
    split at h
    · rename_i off hoff
      obtain ⟨v, hv, hr⟩ := fieldA_sound (hev x) hoff h
      exact ⟨v, run_value hv, hr⟩
    · cases h
  | indexAddr t x i =>
    obtain ⟨v, hv, hr⟩ := indexAddrA_sound hob (hev x) (hev i) h
    exact ⟨v, run_value hv, hr⟩
  | index t x i =>
    obtain ⟨v, hv, hr⟩ := indexA_sound (hev x) (hev i) h
    exact ⟨v, run_value hv, hr⟩
  | extract x i =>
    have hx := hev x
    simp only [semV] at h
    split at h
    · rename_i l hl
      rw [hl] at hx; simp only [R] at hx
      obtain ⟨vs, hv, hr⟩ := hx
      split at h
      · rename_i a rest hd
        simp only [T.eval, Option.some.injEq] at h; subst h
        have h1 := RL.drop i hr
        rw [hd] at h1
        simp only [RL] at h1
        obtain ⟨u, us, hu, h2, _⟩ := h1
        have hv' : vs[i]? = some u := by
          have : (vs.drop i)[0]? = some u := by rw [hu]; rfl
          simpa using this
        exact ⟨u, by simp [execOp, hv, Instr.extract, hv'], h2⟩
      · cases h
    · cases h
  | nilCheck x =>
    have hx := hev x
    simp only [semV] at h
    split at h
    · rename_i id off hl
      rw [hl] at hx
      simp only [T.eval, Option.some.injEq] at h; subst h
      obtain ⟨ad, he⟩ := hx.ptr_shape
      exact ⟨va x, by simp [execOp, he], hx⟩
    · rename_i c el hl
      rw [hl] at hx
      simp only [T.eval, Option.some.injEq] at h; subst h
      have hx' := hx
      simp only [R] at hx'
      obtain ⟨ad, he, _⟩ := hx'
      exact ⟨va x, by simp [execOp, he], hx⟩
    · rename_i id c i off hl
      rw [hl] at hx
      simp only [T.eval, Option.some.injEq] at h; subst h
      obtain ⟨ad, he⟩ := hx.rp_shape
      exact ⟨va x, by simp [execOp, he], hx⟩
    · rename_i f l hl
      rw [hl] at hx
      simp only [T.eval, Option.some.injEq] at h; subst h
      have hx' := hx
      simp only [R] at hx'
      obtain ⟨vs, he, _⟩ := hx'
      exact ⟨va x, by simp [execOp, he], hx⟩
    · cases h
  | call c =>
    obtain ⟨callee, ⟨args⟩, ⟨ts⟩⟩ := c
    cases callee with
    | value f => simp [semV, T.eval] at h
    | invoke r m => simp [semV, T.eval] at h
    | builtin b =>
      cases b with
      | len =>
        match args, ts, h with
        | [x], [t], h =>
          simp only [semV] at h
          obtain ⟨v, hv, hr⟩ := lenA_sound (ty := type) hob (hev x) h
          exact ⟨v, by simp [execOp, resolve, invoke, builtin, hv], hr⟩
        | [], _, h => simp [semV, T.eval] at h
        | _ :: _ :: _, _, h => simp [semV, T.eval] at h
        | [_], [], h => simp [semV, T.eval] at h
        | [_], _ :: _ :: _, h => simp [semV, T.eval] at h
      | min =>
        simp only [semV] at h
        obtain ⟨v, hv, hr⟩ := minmaxA_sound (P := E.P) (ts := ⟨ts⟩) (ty := type) (mapEv_RL hev args) h
        exact ⟨v, by simp only at hv; simp [execOp, resolve, invoke, builtin, hv], hr⟩
      | max =>
        simp only [semV] at h
        obtain ⟨v, hv, hr⟩ := minmaxA_sound (P := E.P) (ts := ⟨ts⟩) (ty := type) (mapEv_RL hev args) h
        exact ⟨v, by simp only at hv; simp [execOp, resolve, invoke, builtin, hv], hr⟩
      | _ => simp [semV, T.eval] at h
  | _ => simp [semV, T.eval] at h
end
end Go.Sy
