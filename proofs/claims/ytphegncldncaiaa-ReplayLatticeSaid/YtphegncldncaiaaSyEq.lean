import Derived.Test.YtphegncldncaiaaSyAid
set_option linter.unusedSimpArgs false
set_option linter.unusedSectionVars false
set_option linter.unusedVariables false
namespace Go.Sy

/-- The kinds of a type's cells, if its '==' goes cell by cell. -/
def kindsF (P : Program) (kt : TypeId → Option (List CK)) : Nat → List Field → Option (List CK)
  | _, [] => some []
  | off, f :: fs => match kt f.type with
    | some ks => if f.offset = off ∧ f.name ≠ "_" ∧ sizeT P f.type = some ks.length ∧ 0 < ks.length then (match kindsF P kt (off + ks.length) fs with
        | some m => some (ks ++ m)
        | none => none) else none
    | none => none
def kindsT (P : Program) : Nat → TypeId → Option (List CK)
  | 0, _ => none
  | d + 1, t => match P.underlying t with
    | some .bool => some [.b]
    | some (.int k) => some [.i k]
    | some .string => some [.s]
    | some (.struct fs) => if P.stoodInHeld t then none else kindsF P (kindsT P d) 0 fs.toList
    | _ => none

/-- The value of a type's cells. -/
def valT (P : Program) (t : TypeId) (xs : List Value) : Value :=
  match P.underlying t, xs with
  | some (.struct _), xs => .agg xs.toArray
  | _, [v] => v
  | _, xs => .agg xs.toArray

theorem eqVs_len : ∀ {ks : List CK} {xs ys : List Value} {b : Bool}, eqVs ks xs ys = some b → xs.length = ks.length ∧ ys.length = ks.length
  | [], [], [], b, _ => ⟨rfl, rfl⟩
  | c :: cs, x :: xs, y :: ys, b, h => by
    simp only [eqVs] at h
    split at h
    · rename_i p q hp hq
      obtain ⟨h1, h2⟩ := eqVs_len hq
      simp [h1, h2]
    · cases h
  | [], _ :: _, _, _, h => by simp [eqVs] at h
  | [], [], _ :: _, _, h => by simp [eqVs] at h
  | _ :: _, [], _, _, h => by simp [eqVs] at h
  | _ :: _, _ :: _, [], _, h => by simp [eqVs] at h

theorem eqVs_split : ∀ {ks ms : List CK} {xs ys : List Value} {b : Bool}, eqVs (ks ++ ms) xs ys = some b →
    ∃ b1 b2, eqVs ks (xs.take ks.length) (ys.take ks.length) = some b1 ∧ eqVs ms (xs.drop ks.length) (ys.drop ks.length) = some b2 ∧ b = (b1 && b2)
  | [], ms, xs, ys, b, h => ⟨true, b, by simp [eqVs], by simpa using h, by simp⟩
  | c :: cs, ms, x :: xs, y :: ys, b, h => by
    simp only [List.cons_append, eqVs] at h
    split at h
    · rename_i p q hp hq
      obtain ⟨b1, b2, h1, h2, rfl⟩ := eqVs_split hq
      simp only [Option.some.injEq] at h
      refine ⟨p && b1, b2, ?_, by simpa using h2, by rw [← h]; cases p <;> rfl⟩
      simp only [List.length_cons, List.take_succ_cons, eqVs, hp, h1]
    · cases h
  | _ :: _, _, [], _, _, h => by simp [eqVs] at h
  | _ :: _, _, _ :: _, [], _, h => by simp [eqVs] at h

theorem eqV_b {x y : Value} {p : Bool} (h : eqV .b x y = some p) : ∃ a c, x = .bool a ∧ y = .bool c ∧ p = (a == c) := by
  cases x <;> cases y <;> simp [eqV] at h
  exact ⟨_, _, rfl, rfl, h.symm⟩
theorem eqV_i {k : IntKind} {x y : Value} {p : Bool} (h : eqV (.i k) x y = some p) : ∃ a c, x = .int k a ∧ y = .int k c ∧ p = (a == c) := by
  cases x <;> cases y <;> simp [eqV] at h
  obtain ⟨⟨rfl, rfl⟩, h⟩ := h
  exact ⟨_, _, rfl, rfl, h.symm⟩
theorem eqV_s {x y : Value} {p : Bool} (h : eqV .s x y = some p) : ∃ a c, x = .string a ∧ y = .string c ∧ p = (a.toList == c.toList) := by
  cases x <;> cases y <;> simp [eqV] at h
  exact ⟨_, _, rfl, rfl, h.symm⟩

theorem part_run {P : Program} {w : World} {t : TypeId} {ks : List CK} {d off : Nat} {xs : List Value} (hk : kindsT P d t = some ks) (hs : sizeT P t = some ks.length) (hl : off + ks.length ≤ xs.length) :
    (part t xs.toArray off).run P w = .ok (valT P t ((xs.drop off).take ks.length)) w := by
  cases d with
  | zero => cases hk
  | succ d =>
    simp only [kindsT] at hk
    have scal : ∀ (td : TypeDesc), P.underlying t = some td → isAggT P t = some false → ks.length = 1 → (∀ ys, valT P t ys = match ys with | [v] => v | ys => .agg ys.toArray) →
        (part t xs.toArray off).run P w = .ok (valT P t ((xs.drop off).take ks.length)) w := by
      intro td hu hag hl1 hval
      have hv : xs[off]? = some (xs[off]'(by omega)) := List.getElem?_eq_getElem (by omega)
      have e : (xs.drop off).take ks.length = [xs[off]'(by omega)] := by
        rw [hl1, List.drop_eq_getElem_cons (by omega)]; rfl
      rw [e, hval]
      simp [part, isAggT_run hag, hv]
    split at hk
    · rename_i hu
      simp at hk; subst hk
      exact scal _ hu (by simp [isAggT, hu]) rfl (fun ys => by unfold valT; rw [hu]; split <;> simp_all)
    · rename_i k hu
      simp at hk; subst hk
      exact scal _ hu (by simp [isAggT, hu]) rfl (fun ys => by unfold valT; rw [hu]; split <;> simp_all)
    · rename_i hu
      simp at hk; subst hk
      exact scal _ hu (by simp [isAggT, hu]) rfl (fun ys => by unfold valT; rw [hu]; split <;> simp_all)
    · rename_i fs hu
      have hag : isAggT P t = some true := by simp [isAggT, hu]
      have hval : ∀ ys, valT P t ys = .agg ys.toArray := fun ys => by unfold valT; rw [hu]
      rw [hval]
      simp only [part, Sem.run_bind, isAggT_run hag, Result.andThen_ok, sizeT_run hs, if_true, Sem.run_pure, List.extract_toArray, List.extract_eq_take_drop, Nat.add_sub_cancel_left]
    · cases hk

theorem eq_kinds {P : Program} {w : World} : ∀ (d : Nat) {t : TypeId} {ks : List CK} {D : Nat} {xs ys : List Value} {b : Bool}, kindsT P d t = some ks → d ≤ D → eqVs ks xs ys = some b →
    (Op.equalIn D t (valT P t xs) (valT P t ys)).run P w = .ok b w
  | 0, t, ks, D, xs, ys, b, hk, _, _ => by cases hk
  | d + 1, t, ks, D, xs, ys, b, hk, hD, he => by
    obtain ⟨D, rfl⟩ : ∃ k, D = k + 1 := ⟨D - 1, by omega⟩
    simp only [kindsT] at hk
    split at hk
    · rename_i hu
      simp at hk; subst hk
      obtain ⟨hx, hy⟩ := eqVs_len he
      match xs, ys, hx, hy with
      | [x], [y], _, _ =>
        simp only [eqVs] at he
        split at he
        · rename_i p q hp hq
          obtain ⟨_, _, rfl, rfl, rfl⟩ := eqV_b hp
          simp at hq; subst hq
          simp at he; subst he
          unfold valT
          rw [hu]
          simp only
          rw [run_equalIn_bool' w D t _ _ hu]
        · cases he
    · rename_i k hu
      simp at hk; subst hk
      obtain ⟨hx, hy⟩ := eqVs_len he
      match xs, ys, hx, hy with
      | [x], [y], _, _ =>
        simp only [eqVs] at he
        split at he
        · rename_i p q hp hq
          obtain ⟨_, _, rfl, rfl, rfl⟩ := eqV_i hp
          simp at hq; subst hq
          simp at he; subst he
          unfold valT
          rw [hu]
          simp only
          rw [run_equalIn_int w D t _ _ _ _ hu]
        · cases he
    · rename_i hu
      simp at hk; subst hk
      obtain ⟨hx, hy⟩ := eqVs_len he
      match xs, ys, hx, hy with
      | [x], [y], _, _ =>
        simp only [eqVs] at he
        split at he
        · rename_i p q hp hq
          obtain ⟨_, _, rfl, rfl, rfl⟩ := eqV_s hp
          simp at hq; subst hq
          simp at he; subst he
          unfold valT
          rw [hu]
          simp only
          rw [run_equalIn_string w D t _ _ hu]
        · cases he
    · rename_i fs hu
      split at hk
      · cases hk
      · rename_i hst
        have hval : ∀ ys, valT P t ys = .agg ys.toArray := fun ys => by unfold valT; rw [hu]
        rw [hval, hval]
        have hfs : P.fieldsOf t = fs := by simp [Program.fieldsOf, hu]
        rw [run_equalIn_struct w D t _ _ (by rw [hfs]; exact hu) (by simpa using hst), hfs]
        have key : ∀ (fl : List Field) (off : Nat) (ms : List CK) (b : Bool), kindsF P (kindsT P d) off fl = some ms → eqVs ms (xs.drop off) (ys.drop off) = some b → (Op.eqFields D xs.toArray ys.toArray fl).run P w = .ok b w := by
          intro fl
          induction fl with
          | nil =>
            intro off ms b hk he
            simp [kindsF] at hk; subst hk
            obtain ⟨hx, hy⟩ := eqVs_len he
            have ex : xs.drop off = [] := List.eq_nil_of_length_eq_zero (by simpa using hx)
            have ey : ys.drop off = [] := List.eq_nil_of_length_eq_zero (by simpa using hy)
            rw [ex, ey] at he
            simp [eqVs] at he; subst he
            simp [Op.eqFields]
          | cons f fl ih =>
            intro off ms b hk he
            simp only [kindsF] at hk
            split at hk
            · rename_i ks hks
              split at hk
              · rename_i hc
                obtain ⟨rfl, hnm, hsz, hks0⟩ := hc
                split at hk
                · rename_i m hm
                  simp at hk; subst hk
                  obtain ⟨b1, b2, h1, h2, rfl⟩ := eqVs_split he
                  obtain ⟨hx, hy⟩ := eqVs_len he
                  simp only [List.length_drop, List.length_append] at hx hy
                  have px := part_run (w := w) hks hsz (xs := xs) (off := f.offset) (by omega)
                  have py := part_run (w := w) hks hsz (xs := ys) (off := f.offset) (by omega)
                  have he1 := eq_kinds d (D := D) (w := w) hks (by omega) h1
                  simp only [Op.eqFields, ne_eq, hnm, not_false_eq_true, if_true, Sem.run_bind, px, py, Result.andThen_ok, he1]
                  simp only [List.drop_drop] at h2
                  have := ih (f.offset + ks.length) m b2 hm (by simpa [Nat.add_comm] using h2)
                  cases b1
                  · simp
                  · simp [this]
                · cases hk
              · cases hk
            · cases hk
        exact key fs.toList 0 ks b hk (by simpa using he)
    · cases hk

/-- The types whose '==' goes cell by cell, as a table. -/
def EqTab (P : Program) (tab : List (TypeId × List CK)) : Prop := ∀ p ∈ tab, kindsT P 6 p.1 = some p.2 ∧ P.eqGuardType P.depth p.1 = false ∧ (match P.underlying p.1 with | some (.struct _) => True | _ => False)
def lookE : List (TypeId × List CK) → TypeId → Option (List CK)
  | [], _ => none
  | (u, ks) :: l, t => if t = u then some ks else lookE l t

theorem eqOK_of {P : Program} {tab : List (TypeId × List CK)} (h : EqTab P tab) : EqOK { P := P, eqT := lookE tab } := by
  intro t ks hk
  have hm : (t, ks) ∈ tab := by
    simp only at hk
    clear h
    induction tab with
    | nil => cases hk
    | cons p l ih =>
      obtain ⟨u, m⟩ := p
      simp only [lookE] at hk
      split at hk
      · rename_i e; subst e; simp at hk; subst hk; exact List.mem_cons_self
      · exact List.mem_cons_of_mem _ (ih hk)
  obtain ⟨h1, h2, h3⟩ := h _ hm
  refine ⟨h2, fun xs ys b w he => ?_⟩
  have := eq_kinds (w := w) 6 (D := 10000) h1 (by omega) he
  have hval : ∀ ys, valT P t ys = .agg ys.toArray := by
    intro ys
    unfold valT
    revert h3
    cases P.underlying t with
    | none => intro h3; exact h3.elim
    | some td => cases td <;> intro h3 <;> first | rfl | exact h3.elim
  rw [hval, hval] at this
  exact this
end Go.Sy
