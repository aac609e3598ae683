/- What can be read as data has a shadow; a law's row out of its function's contract. -/
import Derived.Test.YtphegncldncaiaaSyX
import Derived.Carry
import Derived.ChangeArms
import Derived.ChangeSame
import Derived.OpenShut
set_option linter.unusedSimpArgs false
set_option linter.unusedSectionVars false
set_option linter.unusedVariables false
namespace Go.Sy
open Go.RowKit Go.ChangeShapes Go.WideShapes
set_option linter.unusedVariables false

/-- What a cell may hold. -/
inductive Sh where
  | int (k : IntKind)
  | bool
  | str
  | sl (c : Nat) (es : List Sh)

mutual
def ShA : Sh → A → Prop
  | .int k, a => ∃ n, a = .int k n ∧ (Lit.int k n).wf = true
  | .bool, a => ∃ b, a = .bool b
  | .str, a => ∃ s, a = .str s ∧ s.size ≤ maxLen
  | .sl c es, a => ∃ n el, a = .sl c n el ∧ n ≤ maxLen ∧ ∀ i, i < n → ShAs es (el i) 0
def ShAs : List Sh → (Nat → A) → Nat → Prop
  | [], _, _ => True
  | s :: l, f, j => ShA s (f j) ∧ ShAs l f (j + 1)
end

def shFs (P : Program) (sh : TypeId → Option (List Sh)) : Nat → List Field → Option (List Sh)
  | _, [] => some []
  | off, f :: fs => match sh f.type with
    | some ks => if f.offset = off ∧ P.cellsOf f.type = ks.length then (match shFs P sh (off + ks.length) fs with
        | some m => some (ks ++ m)
        | none => none) else none
    | none => none
def shOf (P : Program) : Nat → TypeId → Option (List Sh)
  | 0, _ => none
  | d + 1, t => match P.underlying t with
    | some .bool => some [.bool]
    | some (.int k) => some [.int k]
    | some .string => some [.str]
    | some (.slice e) => match shOf P d e with
      | some es => if P.cellsOf e = es.length then some [.sl es.length es] else none
      | none => none
    | some (.struct fs) => match shFs P (shOf P d) 0 fs.toList with
      | some m => if P.cellsOf t = m.length then some m else none
      | none => none
    | _ => none

theorem ShAs_append {f : Nat → A} : ∀ {l m : List Sh} {j : Nat}, ShAs (l ++ m) f j ↔ ShAs l f j ∧ ShAs m f (j + l.length)
  | [], m, j => by simp [ShAs]
  | s :: l, m, j => by
    simp only [List.cons_append, ShAs, ShAs_append (l := l) (m := m), List.length_cons, and_assoc]
    rw [Nat.add_assoc, Nat.add_comm 1 l.length]
theorem ShAs_shift {f g : Nat → A} : ∀ {l : List Sh} {j k : Nat}, (∀ i, i < l.length → f (j + i) = g (k + i)) → ShAs l f j → ShAs l g k
  | [], _, _, _, _ => by simp [ShAs]
  | s :: l, j, k, h, hs => by
    simp only [ShAs] at hs ⊢
    refine ⟨by have := h 0 (by simp); rw [Nat.add_zero, Nat.add_zero] at this; rw [← this]; exact hs.1, ShAs_shift (fun i hi => ?_) hs.2⟩
    have := h (i + 1) (by simp; omega)
    rw [show j + 1 + i = j + (i + 1) from by omega, show k + 1 + i = k + (i + 1) from by omega]
    exact this
theorem ShAs_get {f : Nat → A} : ∀ {l : List Sh} {j i : Nat} {s : Sh}, ShAs l f j → l[i]? = some s → ShA s (f (j + i))
  | [], _, _, _, _, h => by simp at h
  | s :: l, j, 0, s', h, hs => by simp at hs; subst hs; exact h.1
  | s :: l, j, i + 1, s', h, hs => by
    have := ShAs_get (i := i) h.2 (by simpa using hs)
    rwa [show j + 1 + i = j + (i + 1) from by omega] at this
theorem ShA_cell {s : Sh} {a : A} (h : ShA s a) : isCell a = true := by
  cases s with
  | int k => obtain ⟨n, rfl, _⟩ := h; rfl
  | bool => obtain ⟨b, rfl⟩ := h; rfl
  | str => obtain ⟨s, rfl, _⟩ := h; rfl
  | sl c es => obtain ⟨n, el, rfl, _⟩ := h; rfl

section
variable {H : Type} {enc : TypeId × Value → H} {P : Program} {w : World} {base : Nat} {spare : Nat → Bool} {held : Bool} {X : Nat → Prop}

theorem cells_get {a : Addr} {n : Nat} {cs : List Value} (h : w.cells? base a n = some cs) : cs.length = n ∧ ∀ j, j < n → w.cell? (a.add j) = cs[j]? := by
  unfold World.cells? at h
  split at h
  · exact ⟨by simpa using mapM_some_length h, fun j hj => mapM_some_get h j j (by simp [hj])⟩
  · cases h

theorem cell_lt {a : Addr} {u : Value} (h : w.cell? a = some u) : a.block < w.heap.size := by
  rcases Nat.lt_or_ge a.block w.heap.size with h' | h'
  · exact h'
  · simp [World.cell?, Array.getElem?_eq_none h'] at h

theorem RL_app {l m : List A} {vs us : List Value} {ρ : Nat → Loc} (h : RL w X l ρ vs) (h' : RL w X m ρ us) : RL w X (l ++ m) ρ (vs ++ us) := RL.append h h'

/-- What is read has a shadow of its type's form. -/
theorem lift (hX : ∀ b, ¬ X b) : ∀ (d : Nat) {t : TypeId} {shs : List Sh} {fuel : Nat} {cs : List Value} {x : DataW H × List MemPlace}, shOf P d t = some shs → DataW.trod enc P w base spare held fuel t cs = some x →
    ∃ as : List A, as.length = shs.length ∧ RL w X as virg cs ∧ ShAs shs (getA as) 0
  | 0, t, shs, fuel, cs, x, hs, h => by simp [shOf] at hs
  | d + 1, t, shs, fuel, cs, x, hs, h => by
    simp only [shOf] at hs
    split at hs
    · rename_i hu
      simp only [Option.some.injEq] at hs; subst hs
      obtain ⟨b, rfl, _⟩ := DataW.trod_bool hu h
      exact ⟨[.bool b], rfl, ⟨_, _, rfl, by simp only [R], by simp only [RL]⟩, ⟨b, rfl⟩, trivial⟩
    · rename_i k hu
      simp only [Option.some.injEq] at hs; subst hs
      obtain ⟨n, rfl, _, hw⟩ := DataW.trod_int hu h
      exact ⟨[.int k n], rfl, ⟨_, _, rfl, by simp only [R], by simp only [RL]⟩, ⟨n, rfl, hw⟩, trivial⟩
    · rename_i hu
      simp only [Option.some.injEq] at hs; subst hs
      obtain ⟨s, rfl, _, hw⟩ := DataW.trod_string hu h
      exact ⟨[.str s], rfl, ⟨_, _, rfl, by simp only [R], by simp only [RL]⟩, ⟨s, rfl, hw⟩, trivial⟩
    · rename_i e hu
      split at hs
      · rename_i es hes
        split at hs
        · rename_i hc
          simp only [Option.some.injEq] at hs; subst hs
          rcases DataW.trod_slice hu h with ⟨rfl, _⟩ | ⟨a, len, cap, elems, rest, n, _, rfl, _, _, hlc, hcm, hel, hget, _⟩
          · refine ⟨[.sl es.length 0 fun _ _ => .junk], rfl, ⟨_, _, rfl, ?_, by simp only [RL]⟩, ⟨0, _, rfl, Nat.zero_le _, fun i hi => by omega⟩, trivial⟩
            simp only [R]
            exact ⟨none, 0, rfl, Nat.le_refl _, Nat.zero_le _, fun hp => by simp at hp⟩
          · have hEl : ∀ i, i < len → ∃ as : List A, ∃ csi, w.cells? base (a.add (i * es.length)) es.length = some csi ∧ as.length = es.length ∧ RL w X as virg csi ∧ ShAs es (getA as) 0 := by
              intro i hi
              have h1 := hget i hi
              rw [hc] at h1
              have h2 : elems[i]? = some elems[i] := List.getElem?_eq_getElem (by omega)
              rw [h2, Option.bind_eq_some_iff] at h1
              obtain ⟨csi, h3, h4⟩ := h1
              obtain ⟨as, h5, h6, h7⟩ := lift hX d hes h4
              exact ⟨as, csi, h3, h5, h6, h7⟩
            have hch : ∃ f : Nat → List A, ∀ i, i < len → ∃ csi, w.cells? base (a.add (i * es.length)) es.length = some csi ∧ (f i).length = es.length ∧ RL w X (f i) virg csi ∧ ShAs es (getA (f i)) 0 := by
              refine ⟨fun i => @dite _ (i < len) (Classical.propDecidable _) (fun hi => Classical.choose (hEl i hi)) (fun _ => []), fun i hi => ?_⟩
              simp only [dif_pos hi]
              exact Classical.choose_spec (hEl i hi)
            obtain ⟨f, hf⟩ := hch
            refine ⟨[.sl es.length len fun i j => getA (f i) j], rfl, ⟨_, _, rfl, ?_, by simp only [RL]⟩, ⟨len, _, rfl, Nat.le_trans hlc hcm, fun i hi => ?_⟩, trivial⟩
            · simp only [R]
              refine ⟨some a, cap, rfl, hlc, hcm, fun hp => ?_⟩
              have hcell : ∀ i, i < len → ∀ j, j < es.length → ∃ u, w.cell? (a.add (i * es.length + j)) = some u ∧ u.oneCell' = true ∧ R w X (getA (f i) j) virg u := by
                intro i hi j hj
                obtain ⟨csi, h1, h2, h3, h4⟩ := hf i hi
                obtain ⟨h5, h6⟩ := cells_get h1
                have h7 : csi[j]? = some csi[j] := List.getElem?_eq_getElem (by omega)
                have hr := h3.get j _ h7
                refine ⟨csi[j], ?_, ?_, hr⟩
                · rw [← add_add, h6 j hj, h7]
                · have hs := ShAs_get (i := j) h4 (List.getElem?_eq_getElem hj)
                  rw [Nat.zero_add] at hs
                  exact hr.cell_of (ShA_cell hs)
              have hn : 0 < len := Nat.pos_of_mul_pos_right hp
              have hc0 : 0 < es.length := Nat.pos_of_mul_pos_left hp
              obtain ⟨u, hu, _⟩ := hcell 0 hn 0 hc0
              have hlt := cell_lt hu
              rw [add_block] at hlt
              exact ⟨a, rfl, ⟨hlt, hX _⟩, hcell⟩
            · obtain ⟨_, _, _, _, h4⟩ := hf i hi
              exact h4
        · cases hs
      · cases hs
    · rename_i fs hu
      split at hs
      · rename_i m hm
        split at hs
        · rename_i hct
          simp only [Option.some.injEq] at hs; subst hs
          obtain ⟨xs, n, _, _, hcl, hxl, hget⟩ := DataW.trod_struct hu h
          have key : ∀ (fl : List Field) (off : Nat) (m : List Sh), shFs P (shOf P d) off fl = some m → (∀ f ∈ fl, ∃ y, DataW.trod enc P w base spare held n f.type ((cs.drop f.offset).take (P.cellsOf f.type)) = some y) →
              ∃ as : List A, as.length = m.length ∧ RL w X as virg ((cs.drop off).take m.length) ∧ ShAs m (getA as) 0 := by
            intro fl
            induction fl with
            | nil =>
              intro off m hm _
              simp only [shFs, Option.some.injEq] at hm; subst hm
              exact ⟨[], rfl, by simp [RL], trivial⟩
            | cons f fl ih =>
              intro off m hm hall
              simp only [shFs] at hm
              split at hm
              · rename_i ks hks
                split at hm
                · rename_i hoff
                  obtain ⟨ho, hck⟩ := hoff
                  split at hm
                  · rename_i m' hm'
                    simp only [Option.some.injEq] at hm; subst hm
                    obtain ⟨y, hy⟩ := hall f List.mem_cons_self
                    obtain ⟨as1, l1, r1, s1⟩ := lift hX d hks hy
                    obtain ⟨as2, l2, r2, s2⟩ := ih (off + ks.length) m' hm' fun g hg => hall g (List.mem_cons_of_mem _ hg)
                    refine ⟨as1 ++ as2, by simp [l1, l2], ?_, ?_⟩
                    · have := RL_app r1 r2
                      rw [ho, hck] at this
                      rw [List.length_append, List.take_add, List.drop_drop]
                      exact this
                    · rw [ShAs_append]
                      refine ⟨ShAs_shift (fun i hi => ?_) s1, ShAs_shift (fun i hi => ?_) s2⟩
                      · rw [Nat.zero_add, getA_append, if_pos (by omega)]
                      · rw [Nat.zero_add, Nat.zero_add, getA_append, if_neg (by omega), l1, Nat.add_sub_cancel_left]
                  · cases hm
                · cases hm
              · cases hm
          have hall : ∀ f ∈ fs.toList, ∃ y, DataW.trod enc P w base spare held n f.type ((cs.drop f.offset).take (P.cellsOf f.type)) = some y := by
            intro f hf
            obtain ⟨i, hi, rfl⟩ := List.getElem_of_mem hf
            have := hget i fs.toList[i] (by simp)
            rw [List.getElem?_eq_getElem (by simp at hi; omega)] at this
            exact ⟨_, this⟩
          obtain ⟨as, h1, h2, h3⟩ := key fs.toList 0 m hm hall
          refine ⟨as, h1, ?_, h3⟩
          rw [List.drop_zero, List.take_of_length_le (by omega)] at h2
          exact h2
        · cases hs
      · cases hs
    · cases hs

/-- An argument: its shadow. -/
def argA (P : Program) (t : TypeId) (as : List A) : A := match isAggT P t with
  | some true => .agg as
  | _ => getA as 0

theorem lift_arg (hX : ∀ b, ¬ X b) {D : Nat} {t : TypeId} {shs : List Sh} {v : Value} {dd : DataW H} {ps : List MemPlace} {r : Reach} {b0 : Nat} (hs : shOf P D t = some shs) (hok : Value.okWide P w r b0 t v) (h : DataW.Trod enc P w base spare held t v dd ps) :
    ∃ as : List A, as.length = shs.length ∧ R w X (argA P t as) virg v ∧ ShAs shs (getA as) 0 := by
  obtain ⟨fuel, hf⟩ := h
  obtain ⟨as, h1, h2, h3⟩ := lift hX D hs hf
  refine ⟨as, h1, ?_, h3⟩
  have hcell : (∀ cs, v ≠ .agg cs) → isAggT P t ≠ some true → R w X (argA P t as) virg v := by
    intro hna hn
    have hv : v.cells.toList = [v] := by cases v <;> first | rfl | exact absurd rfl (hna _)
    rw [hv] at h2
    have : argA P t as = getA as 0 := by
      unfold argA
      split
      · rename_i e; exact absurd e hn
      · rfl
    rw [this]
    exact h2.get 0 v rfl
  cases D with
  | zero => simp [shOf] at hs
  | succ D =>
    unfold Value.okWide at hok
    cases hu : P.underlying t with
    | none => simp [shOf, hu] at hs
    | some td =>
      rw [hu] at hok
      cases td with
      | struct fs =>
        obtain ⟨cs, rfl, _⟩ := hok
        have : argA P t as = .agg as := by unfold argA isAggT; rw [hu]
        rw [this]
        simp only [R]
        exact ⟨cs.toList, by simp, h2⟩
      | bool => exact hcell (by rintro cs rfl; simp [Cell.okWide, Cell.ok, hu] at hok) (by unfold isAggT; rw [hu]; simp)
      | int k => exact hcell (by rintro cs rfl; simp [Cell.okWide, Cell.ok, hu] at hok) (by unfold isAggT; rw [hu]; simp)
      | string => exact hcell (by rintro cs rfl; simp [Cell.okWide, Cell.ok, hu] at hok) (by unfold isAggT; rw [hu]; simp)
      | slice e => exact hcell (by rintro cs rfl; simp [Cell.okWide, Cell.ok, hu] at hok) (by unfold isAggT; rw [hu]; simp)
      | _ => simp [shOf, hu] at hs
end

section
variable {H : Type} {enc : TypeId × Value → H} {P : Program}
/-- The row's last step where nothing that was there has changed. -/
theorem post_below {f : Func} {s : ChangeSpec} {apart fresh handsOn again : Bool} {W W' : World} {args : Array Value} {v : Value} {ds gs : List (DataW H)} {before pa pv : List MemPlace}
    (hW : DataW.Whole enc P f.params.toList s.vars apart W args.toList ds gs before)
    (hres : ∀ (b : Nat) (sp : Nat → Bool) (hd : Bool), DataW.TrodAll enc P W' b sp hd f.resultTypes.toList (v.resultList f.resultTypes.size) (s.fn H (ds ++ gs)).results [])
    (hargs : ∀ sp : Nat → Bool, (∀ p ∈ before, sp p.block = true) → DataW.TrodAll enc P W' 0 sp true f.params.toList args.toList (s.fn H (ds ++ gs)).args pa)
    (hvars : ∀ sp : Nat → Bool, (∀ p ∈ before, sp p.block = true) → DataW.TrodVars enc P W' sp s.vars (s.fn H (ds ++ gs)).vars pv)
    (hps : before = pa ++ pv) (hb : Below W.heap.size W W')
    (hok : ∀ (j : Nat) (t : TypeId) (r : Value), f.resultTypes[j]? = some t → (v.resultList f.resultTypes.size)[j]? = some r → Value.okWide P W' .any 0 t r) :
    s.post enc P f apart fresh handsOn again W args v W' := by
  have hlt : ∀ p ∈ before, p.block < W.heap.size := fun p hp => hW.lt p hp
  have hold : ∀ p ∈ before, (fun b => decide (b < W.heap.size)) p.block = true := fun p hp => by simpa using hlt p hp
  refine ⟨ds, gs, before, [], pa, pv, hW, hres _ _ _, hargs _ hold, hvars _ hold, World.keptBut_mono (fun p hp => ⟨hp, ?_⟩) (hb.frame (· ∈ before)), fun _ => ?_⟩
  · rw [hps, List.mem_append] at hp
    exact Or.inr hp
  · obtain ⟨_, _, _, _, _, hz, hn⟩ := hW
    refine ⟨hok, _, _, ([] ++ pa) ++ pv, ⟨[] ++ pa, pv, trodAll_append (hargs _ (fun _ _ => rfl)) (hres _ _ _), hvars _ (fun _ _ => rfl), rfl, ?_, ?_⟩, ?_⟩
    · intro b off hp
      have hin : MemPlace.cell b off ∈ before := by rw [hps]; simpa using hp
      rw [hb.frozen (hlt _ hin)]
      exact hz b off hin
    · intro ha
      have := hn ha
      rw [hps] at this
      simpa using this
    · intro p hp _
      rw [hps]
      simpa using hp

theorem trodAll_stays (hl : laidOutB P = true) {W W' : World} {sp : Nat → Bool} (hb : Below W.heap.size W W') : ∀ {ts : List TypeId} {vs : List Value} {ds : List (DataW H)} {ps : List MemPlace}, (∀ t ∈ ts, P.readableRec t = true ∧ t < P.types.size) → DataW.TrodAll enc P W 0 (fun _ => true) true ts vs ds ps →
    (∀ p ∈ ps, p.block < W.heap.size) → (∀ p ∈ ps, sp p.block = true) → DataW.TrodAll enc P W' 0 sp true ts vs ds ps
  | [], vs, ds, ps, _, h, _, _ => by
    obtain ⟨rfl, rfl, rfl⟩ := trodAll_nil h
    exact trodAll_mk0
  | t :: ts, vs, ds, ps, hr, h, hlt, hsp => by
    obtain ⟨v, vs', d, ds', p, q, rfl, rfl, rfl, h1, h2⟩ := trodAll_cons h
    refine trodAll_cons_mk (WideElems.Trod_stays hl (hr t List.mem_cons_self).1 (hr t List.mem_cons_self).2 h1 (fun x hx => hb.same (hlt x (List.mem_append_left _ hx))) fun x hx => hsp x (List.mem_append_left _ hx)) ?_
    exact trodAll_stays hl hb (fun t ht => hr t (List.mem_cons_of_mem _ ht)) h2 (fun x hx => hlt x (List.mem_append_right _ hx)) fun x hx => hsp x (List.mem_append_right _ hx)
end
end Go.Sy
