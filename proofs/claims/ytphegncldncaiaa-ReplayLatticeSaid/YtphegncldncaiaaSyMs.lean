/- The machine is sound. -/
import Derived.Test.YtphegncldncaiaaSyM
set_option linter.unusedSimpArgs false
set_option linter.unusedSectionVars false
set_option linter.unusedVariables false
namespace Go.Sy
open Go.RowKit
set_option linter.unusedVariables false

/-- What is left, from state st on, comes to Q. -/
def Den (E : Env) (Q : Ex → St → Prop) : List It → Fr → Ex → St → List (Nat × Bool) → Prop
  | [], _, e, st, _ => Q e st
  | .code c :: s, fr, e, st, _ => match e with
    | .normal => W E fr.base fr.fl c st fun e st' => Den E Q s fr e st' []
    | .exit i => Den E Q s fr (.exit i) st []
    | .ret => Den E Q s fr .ret st []
  | .ops dr F all i rest :: s, fr, e, st, kn => match e with
    | .normal => rest = all.toList.drop i → KnOK kn st.tmps → (match dr with
      | false => WO E fr.base fr.fl all (List.range' i rest.length) st fun st' => Den E Q s fr .normal st' []
      | true => F = sitesOf fr.base all.toList → ∃ m st', m ≤ rest.length ∧ tailB all (i + m) = true ∧ RunI E fr.base F all (List.range' i m) st st' ∧ WO E fr.base fr.fl all (List.range' (i + m) (rest.length - m)) st' fun st' => Den E Q s fr .normal st' [])
    | .exit i => Den E Q s fr (.exit i) st []
    | .ret => Den E Q s fr .ret st []
  | .blk id :: s, fr, e, st, _ => match e with
    | .normal => Den E Q s fr .normal st []
    | .exit i => if i = id then Den E Q s fr .normal st [] else Den E Q s fr (.exit i) st []
    | .ret => Den E Q s fr .ret st []
  | .fin res ts dst kn fr' :: s, _, e, st, _ => e.out ∧ ∃ l, resV E.P st res = some l ∧ Den E Q s fr' .normal ⟨putT ts dst (packV l), st.objs⟩ (eraseK kn dst)
  | .rnd L ts dst kn fr' :: s, _, e, st, _ => ∃ t p a b x y, getO st.objs L = .lp t p a b x y ∧ Den E Q s fr' .normal ⟨putT ts dst (.kb e.goes), setX st.objs L (.lp t p a b e.sta e.jump)⟩ (eraseK kn dst)
  | .asg bod L :: s, fr, e, st, _ => match e with
    | .normal => ∃ t p a b q, getO st.objs L = .lp t p a b .ready q ∧ W E fr.base fr.fl bod ⟨st.tmps, setX st.objs L (.lp t p a b .busy q)⟩ fun e st' => Den E Q s fr e st' []
    | _ => False
  | .rfe L res ts fr' :: s, _, e, st, _ => e.out ∧ ∃ r, resV E.P st res = some r ∧ ∃ t p a b sta pend, getO st.objs L = .lp t p a b sta pend ∧ (match sta with | .busy => False | _ => True) ∧ rangeEnd (fun e st => Den E Q s fr' e st []) ⟨ts, setX st.objs L .dead⟩ pend

/-- A call, from its operation on. -/
def CallC (E : Env) (Q : Ex → St → Prop) (s : List It) (fr : Fr) (kn : List (Nat × Bool)) (st : St) (dst : Option Tmp) (f : A) (args : List A) : Prop :=
  match s with
  | .ops dr F all i rest :: s => ∀ j o, i = j + 1 → all[j]? = some o → o.dst = dst → guardO all.toList st.tmps o = some true → CallAt o st.tmps f args → rest = all.toList.drop i → KnOK kn st.tmps → (match dr with
    | false => WO E fr.base fr.fl all (j :: List.range' i rest.length) st fun st' => Den E Q s fr .normal st' []
    | true => F = sitesOf fr.base all.toList → ∃ m st', m ≤ rest.length + 1 ∧ tailB all (j + m) = true ∧ RunI E fr.base F all (List.range' j m) st st' ∧ WO E fr.base fr.fl all (List.range' (j + m) (rest.length + 1 - m)) st' fun st' => Den E Q s fr .normal st' [])
  | _ => False

def SatM (E : Env) (Q : Ex → St → Prop) (t : OT) (s : List It) (fr : Fr) : Prop := OSat (fun kn st => Den E Q s fr .normal st kn) (CallC E Q s fr) t

def NdSat (E : Env) (Q : Ex → St → Prop) : Nd → Prop
  | .done e st => Q e st
  | .ite b t s t' s' fr => (b = true → SatM E Q t s fr) ∧ (b = false → SatM E Q t' s' fr)
  | .both t s t' s' fr => SatM E Q t s fr ∧ SatM E Q t' s' fr
  | .chk b t s fr => b = true ∧ SatM E Q t s fr
  | .fail => False
  | .loop body st s fr => W E fr.base fr.fl (.loop body) st fun e st' => Den E Q s fr e st' []
  | .call g vals cl kn st dst s fr => ∃ r, FnOK E.P g vals r ∧ SatM E Q (resume fr.base kn st dst cl r) s fr
  | .mut g args kn st dst s fr => ∃ id e c n el vals post, getO st.objs id = .row e c n el ∧ expoM id (setX st.objs id .dead) args = some vals ∧ FnMu E.P g vals (.row e c n el) post ∧
      ∀ ob' r, post ob' r → SatM E Q (setO st.objs id ob' fun os => putK ⟨st.tmps, os⟩ dst (ren 0 id 6 r) (endK kn dst)) s fr

section
variable {E : Env} {Q : Ex → St → Prop} {inl : List FuncId}

theorem SatM.more_iff {kn : List (Nat × Bool)} {st : St} {s : List It} {fr : Fr} : SatM E Q (.more kn st) s fr ↔ Den E Q s fr .normal st kn :=
  ⟨fun h => by cases h; assumption, fun h => .more h⟩

theorem isOut_out {e : Ex} (h : e.isOut = true) : e.out := by cases e <;> first | exact trivial | cases h

theorem putK_satM {st : St} {dst : Option Tmp} {v : A} {kn : List (Nat × Bool)} {s : List It} {fr : Fr} (h : SatM E Q (putK st dst v (endK kn dst)) s fr) : Den E Q s fr .normal ⟨putT st.tmps dst v, st.objs⟩ (eraseK kn dst) := by
  unfold SatM at h
  rw [putK_eq] at h
  exact endK_sat h

def LvSat (E : Env) (Q : Ex → St → Prop) : Lv → Prop
  | .go t s fr => SatM E Q t s fr
  | .out e st => Q e st
  | .bad => False

def It.ends : List It → Bool
  | .fin .. :: _ => true
  | .rnd .. :: _ => true
  | .rfe .. :: _ => true
  | _ => false

theorem leave_sound : ∀ (s : List It) (e : Ex) (st : St) (fr : Fr) (kn : List (Nat × Bool)), (e.goes = false ∨ It.ends s = true) → LvSat E Q (leave E.P e st s fr) → Den E Q s fr e st kn
  | [], e, st, fr, kn, _, h => by simp only [leave, LvSat] at h; simpa only [Den] using h
  | .code c :: s, e, st, fr, kn, hc, h => by
    cases e with
    | normal => rcases hc with hc | hc <;> cases hc
    | exit i => simp only [leave] at h; simp only [Den]; exact leave_sound s _ st fr [] (.inl rfl) h
    | ret => simp only [leave] at h; simp only [Den]; exact leave_sound s _ st fr [] (.inl rfl) h
  | .ops dr F all i rest :: s, e, st, fr, kn, hc, h => by
    cases e with
    | normal => rcases hc with hc | hc <;> cases hc
    | exit i => simp only [leave] at h; simp only [Den]; exact leave_sound s _ st fr [] (.inl rfl) h
    | ret => simp only [leave] at h; simp only [Den]; exact leave_sound s _ st fr [] (.inl rfl) h
  | .blk id :: s, e, st, fr, kn, hc, h => by
    cases e with
    | normal => rcases hc with hc | hc <;> cases hc
    | exit i =>
      simp only [leave] at h
      simp only [Den]
      split
      · rename_i hi; rw [if_pos hi] at h; exact SatM.more_iff.1 h
      · rename_i hi; rw [if_neg hi] at h; exact leave_sound s _ st fr [] (.inl rfl) h
    | ret => simp only [leave] at h; simp only [Den]; exact leave_sound s _ st fr [] (.inl rfl) h
  | .fin res ts dst kn' fr' :: s, e, ⟨ts', os⟩, fr, kn, hc, h => by
    simp only [leave] at h
    split at h
    · rename_i ho
      split at h
      · rename_i l hl
        simp only [Den]
        exact ⟨isOut_out ho, l, hl, putK_satM h⟩
      · exact h.elim
    · exact h.elim
  | .rnd L ts dst kn' fr' :: s, e, ⟨ts', os⟩, fr, kn, hc, h => by
    simp only [leave] at h
    split at h
    · rename_i t p a b x y hl
      simp only [Den]
      refine ⟨t, p, a, b, x, y, hl, ?_⟩
      simp only [LvSat, SatM] at h
      rw [setO_eq] at h
      exact putK_satM h
    · exact h.elim
  | .asg bod L :: s, e, st, fr, kn, hc, h => by simp only [leave] at h; exact h.elim
  | .rfe L res ts fr' :: s, e, ⟨ts', os⟩, fr, kn, hc, h => by
    simp only [leave] at h
    split at h
    · rename_i ho
      simp only [Den]
      refine ⟨isOut_out ho, ?_⟩
      split at h
      · rename_i r t p a b hr hl
        refine ⟨r, hr, t, p, a, b, _, _, hl, trivial, ?_⟩
        simp only [LvSat, SatM] at h
        rw [setO_eq] at h
        exact SatM.more_iff.1 h
      · rename_i r t p a b hr hl
        exact ⟨r, hr, t, p, a, b, _, _, hl, trivial, leave_sound s _ _ fr' [] (.inl rfl) h⟩
      · rename_i r t p a b i hr hl
        exact ⟨r, hr, t, p, a, b, _, _, hl, trivial, leave_sound s _ _ fr' [] (.inl rfl) h⟩
      · exact h.elim
    · exact h.elim

theorem lenO_eq : ∀ l : List Ob, lenO l = l.length
  | [] => rfl
  | _ :: l => by simp [lenO, lenO_eq l]
theorem lenA_eq : ∀ l : List A, lenA' l = l.length
  | [] => rfl
  | _ :: l => by simp [lenA', lenA_eq l]
theorem le_maxN (a b : Nat) : b ≤ maxN a b := by
  unfold maxN
  cases h : Nat.ble a b with
  | true => exact Nat.le_refl _
  | false => simp only [cond_false]; have : ¬ a ≤ b := by rw [← Nat.ble_eq]; simp [h]
             omega

theorem forceOs_eq : ∀ (l : List Ob) (k : List Ob → OT), forceOs l k = k l
  | [], k => rfl
  | o :: l, k => by simp only [forceOs, forceO_eq, forceOs_eq l]
theorem forceSt_eq (st : St) (k : St → OT) : forceSt st k = k st := by unfold forceSt; rw [forceL_eq, forceOs_eq]

theorem enters_some {g : FuncId} {fn : Func} {c : Code} (h : enters E inl g = some (fn, c)) : entB E.P g = true ∧ E.P.funcs[g]? = some fn ∧ fn.body = some c := by
  unfold enters at h
  cases hm : memN inl g with
  | false => rw [hm] at h; cases h
  | true =>
    rw [hm] at h
    simp only [cond_true] at h
    split at h
    · rename_i fn' he hf
      split at h
      · rename_i c' hc
        simp only [Option.some.injEq, Prod.mk.injEq] at h
        obtain ⟨rfl, rfl⟩ := h
        exact ⟨he, hf, hc⟩
      · cases h
    · cases h

theorem setX_length : ∀ (l : List Ob) (L : Nat) (o : Ob), (setX l L o).length = max l.length (L + 1)
  | [], 0, o => by simp [setX]
  | [], L + 1, o => by simp [setX, setX_length [] L o]
  | a :: l, 0, o => by simp [setX]
  | a :: l, L + 1, o => by simp [setX, setX_length l L o]

theorem drop_cons {all : Array Oper} {i : Nat} {o : Oper} {rest : List Oper} (h : o :: rest = all.toList.drop i) : all[i]? = some o ∧ rest = all.toList.drop (i + 1) := by
  have h1 : (all.toList.drop i)[0]? = some o := by rw [← h]; rfl
  refine ⟨by simpa using h1, ?_⟩
  have : (all.toList.drop i).drop 1 = rest := by rw [← h]; rfl
  rw [← this, List.drop_drop, Nat.add_comm]

theorem opAt_eq {all : Array Oper} {B : Nat} {F : List Nat} {j : Nat} {o : Oper} (ho : all[j]? = some o) : opAt all B F (j + 1) = foM B F o := by
  unfold opAt
  cases F with
  | nil => rfl
  | cons s F =>
    have : ∀ (l : List Oper) (j : Nat), l[j]? = some o → ∃ r, dropN j l = o :: r := by
      intro l
      induction l with
      | nil => intro j h; simp at h
      | cons a l ih =>
        intro j h
        cases j with
        | zero => simp at h; subst h; exact ⟨l, rfl⟩
        | succ j => exact ih j (by simpa using h)
    obtain ⟨r, hr⟩ := this all.toList j (by simpa using ho)
    simp only [hr]

/-- A call behind which the order is the text's. -/
theorem seq_call {E : Env} {F : List Nat} {all : Array Oper} {j n : Nat} {st : St} {B : Nat} {fl dr : Bool} {K : St → Prop} {i : Nat} (hs : seqB dr all i = true) (hi : i = j + 1) (h : WO E B fl all (j :: List.range' (j + 1) n) st K) :
    (match dr with
    | false => WO E B fl all (j :: List.range' (j + 1) n) st K
    | true => F = sitesOf B all.toList → ∃ m st', m ≤ n + 1 ∧ tailB all (j + m) = true ∧ RunI E B F all (List.range' j m) st st' ∧ WO E B fl all (List.range' (j + m) (n + 1 - m)) st' K) := by
  subst hi
  cases dr with
  | false => exact h
  | true => exact fun _ => ⟨0, st, by omega, hs, rfl, h⟩

theorem adv_sound (hE : EqOK E) : ∀ (n : Nat) (t : OT) (s : List It) (fr : Fr), NdSat E Q (adv E inl n t s fr) → SatM E Q t s fr
  | 0, t, s, fr, h => by exact h.elim
  | n + 1, t, s, fr, h => by
    cases t with
    | ite b t e =>
      simp only [adv, NdSat] at h
      exact .ite h.1 h.2
    | fail => simp only [adv, NdSat] at h
    | call kn st dst f args =>
      obtain ⟨ts, os⟩ := st
      simp only [adv] at h
      split at h
      · rename_i dr F all i rest s
        refine .call ?_
        intro j o hij ho hdst hg hcall hrest hk
        subst hij
        split at h
        · -- a Go function
          rename_i g caps
          rcases Bool.eq_false_or_eq_true (memN E.mu g) with hmu | hmu
          · rw [hmu, cond_true] at h
            split at h
            · rename_i hsq
              obtain ⟨id, e, c, n, el, vals, post, h1, h2, h3, h4⟩ := h
              refine seq_call hsq rfl (WO.mut id ho hg hcall h1 h2 h3 fun ob' r hp => ?_)
              have h5 := h4 ob' r hp
              unfold SatM at h5
              rw [setO_eq] at h5
              have h6 := putK_satM (show SatM E Q _ _ fr from h5)
              rw [hdst]
              exact h6 hrest (hk.erase _ _)
            · exact h.elim
          rw [hmu, cond_false] at h
          split at h
          · -- run in place
            rename_i fn c hen
            split at h
            case h_2 => exact h.elim
            rename_i hsq
            refine seq_call hsq rfl ?_
            obtain ⟨he, hf, hb⟩ := enters_some hen
            have h1 := adv_sound hE n _ _ _ h
            rw [forceSt_eq] at h1
            have h2 := SatM.more_iff.1 h1
            simp only [Den] at h2
            refine WO.inl ho hg hcall he hf hb (B' := maxN fr.top (lenO os)) (by rw [← lenO_eq]; exact le_maxN _ _) (h2.mono ?_)
            rintro e s1 ⟨h3, l, h4, h5⟩
            refine ⟨h3, l, h4, ?_⟩
            rw [hdst]
            exact h5 hrest (hk.erase _ _)
          · -- by its contract
            split at h
            · rename_i g' vals cl hcp
              obtain ⟨r, hfn, hs⟩ := h
              obtain ⟨cx, as, tys, hop, hfv, hav⟩ := hcall
              cases hd : dst with
              | none => rw [hd] at hs; simp only [resume] at hs; cases hs
              | some d =>
                rw [hd] at hs
                simp only [resume] at hs
                have key : ∀ (a : A) (ob : Option Ob), callFin fr.base d cl r = some (a, ob) → ∀ s1, (match ob with | none => s1 = ⟨putT ts (some d) a, os⟩ | some x => getO os (fr.base + d) = .virgin ∧ s1 = ⟨setL ts d a, setX os (fr.base + d) x⟩) → Step E fr.base F all.toList o ⟨ts, os⟩ s1 := by
                  intro a ob hfin s1 hs1
                  unfold Step
                  rw [hg]
                  simp only
                  have hcl : cls o.op = 1 := by rw [hop]; rfl
                  rw [hcl]
                  simp only
                  refine ⟨by unfold slOK; rw [hop]; split <;> rfl, a, ob, ?_, ?_⟩
                  · unfold Sem1
                    rw [hop]
                    simp only
                    refine ⟨g', vals, cl, r, d, ?_, hfn, by rw [hdst, hd], hfin⟩
                    rw [← hfv, ← hav, ← opAt_eq ho]; exact hcp
                  · cases ob with
                    | none => simp only at hs1 ⊢; rw [hdst, hd]; exact hs1
                    | some x => exact ⟨d, by rw [hdst, hd], hs1⟩
                split at hs
                · rename_i a hfin
                  have h2 := putK_satM hs
                  have h3 := h2 hrest (hk.erase _ _)
                  cases dr with
                  | false => exact WO.step hE ho (key a none hfin _ rfl) h3
                  | true =>
                    intro hF
                    obtain ⟨m, st', h4, h5, h6, h7⟩ := h3 hF
                    exact ⟨m + 1, st', by omega, by rw [show j + (m + 1) = j + 1 + m by omega]; exact h5, ⟨o, _, ho, key a none hfin _ rfl, h6⟩, by rw [show j + (m + 1) = j + 1 + m by omega, show rest.length + 1 - (m + 1) = rest.length - m by omega]; exact h7⟩
                · rename_i a ob hfin
                  unfold SatM at hs
                  obtain ⟨hv, hs⟩ := makeK_sat hs
                  have h2 := endK_sat hs
                  have hk2 : KnOK (eraseK kn (some d)) (setL ts d a) := hk.erase (some d) a
                  have h3 := h2 hrest hk2
                  cases dr with
                  | false => exact WO.step hE ho (key a (some ob) hfin _ ⟨hv, rfl⟩) h3
                  | true =>
                    intro hF
                    obtain ⟨m, st', h4, h5, h6, h7⟩ := h3 hF
                    exact ⟨m + 1, st', by omega, by rw [show j + (m + 1) = j + 1 + m by omega]; exact h5, ⟨o, _, ho, key a (some ob) hfin _ ⟨hv, rfl⟩, h6⟩, by rw [show j + (m + 1) = j + 1 + m by omega, show rest.length + 1 - (m + 1) = rest.length - m by omega]; exact h7⟩
                · cases hs
            · exact h.elim
        · -- yield
          rename_i L
          split at h
          · rename_i t p a b q hsq hlp
            refine seq_call hsq rfl ?_
            cases hl : Nat.beq (lenA' args) p.length with
            | false => rw [hl] at h; exact h.elim
            | true =>
              rw [hl] at h
              simp only [cond_true] at h
              have hlen : args.length = p.length := by rw [← lenA_eq]; exact Nat.eq_of_beq_eq_true hl
              have h1 := adv_sound hE n _ _ _ h
              rw [forceL_eq] at h1
              have h2 := SatM.more_iff.1 h1
              simp only [Den] at h2
              refine WO.yield ho hg hcall hlp hlen (B' := maxN fr.top (lenO os)) (by rw [← lenO_eq]; exact le_maxN _ _) (h2.mono ?_)
              intro e s1 h3
              cases e with
              | normal =>
                obtain ⟨t1, p1, a1, b1, q1, h4, h5⟩ := h3
                refine ⟨t1, p1, a1, b1, q1, h4, h5.mono ?_⟩
                rintro e2 s2 ⟨t2, p2, a2, b2, x2, y2, h6, h7⟩
                refine ⟨t2, p2, a2, b2, x2, y2, h6, ?_⟩
                rw [hdst]
                exact h7 hrest (hk.erase _ _)
              | exit i => exact h3
              | ret => exact h3
          · exact h.elim
        · exact h.elim
      · exact h.elim
    | more kn st =>
      obtain ⟨ts, os⟩ := st
      rw [SatM.more_iff]
      have lv : ∀ (e : Ex) (s : List It) (st : St) (kn : List (Nat × Bool)), (e.goes = false ∨ It.ends s = true) → NdSat E Q (match leave E.P e st s fr with | .go t s fr => adv E inl n t s fr | .out e st => .done e st | .bad => .fail) → Den E Q s fr e st kn := by
        intro e s st kn hc h
        refine leave_sound s e st fr kn hc ?_
        cases hl : leave E.P e st s fr with
        | go t s' fr' => rw [hl] at h; exact adv_sound hE n _ _ _ h
        | out e st => rw [hl] at h; exact h
        | bad => rw [hl] at h; exact h
      simp only [adv] at h
      split at h
      · exact h
      · rename_i s _
        have := SatM.more_iff.1 (adv_sound hE n _ _ _ h)
        simpa only [Den] using this
      · rename_i dr F all i s
        have h1 := SatM.more_iff.1 (adv_sound hE n _ _ _ h)
        simp only [Den]
        intro _ _
        cases dr with
        | false => exact WO.nil h1
        | true =>
          rename_i hr0 _
          intro hF
          refine ⟨0, _, Nat.le_refl _, tailB_end ?_, rfl, WO.nil h1⟩
          have := congrArg List.length hr0
          simp at this
          omega
      · rename_i dr F all i o rest s
        have h1 := adv_sound hE n _ _ _ h
        simp only [Den]
        intro hrest hk
        obtain ⟨ho, hrest'⟩ := drop_cons hrest
        unfold SatM at h1
        rcases stepK_sat hk h1 with ⟨st', kn', hs, hk', h2⟩ | ⟨kn', f, args, hg, hk', hc, h2⟩
        · have h3 := h2 hrest' hk'
          cases dr with
          | false => exact WO.step hE ho hs h3
          | true =>
            intro hF
            obtain ⟨m, st'', h4, h5, h6, h7⟩ := h3 hF
            exact ⟨m + 1, st'', by simp only [List.length_cons]; omega, by rw [show i + (m + 1) = i + 1 + m by omega]; exact h5, ⟨o, st', ho, hs, h6⟩, by rw [show i + (m + 1) = i + 1 + m by omega, show (o :: rest).length - (m + 1) = rest.length - m by simp only [List.length_cons]; omega]; exact h7⟩
        · have h3 := h2 i o rfl ho rfl hg hc hrest' hk'
          cases dr with
          | false => exact h3
          | true => exact h3
      · rename_i bod L s
        split at h
        · rename_i t p a b q hlp
          have h1 := adv_sound hE n _ _ _ h
          rw [setO_eq] at h1
          have h2 := SatM.more_iff.1 h1
          simp only [Den] at h2 ⊢
          exact ⟨t, p, a, b, q, hlp, h2⟩
        · exact h.elim
      · exact lv .normal _ _ kn (.inr rfl) h
      · exact lv .normal _ _ kn (.inr rfl) h
      · exact lv .normal _ _ kn (.inr rfl) h
      · rename_i c s
        split at h
        · exact W.skip (SatM.more_iff.1 (adv_sound hE n _ _ _ h))
        · rename_i id ops
          have h1 := SatM.more_iff.1 (adv_sound hE n _ _ _ h)
          simp only [Den] at h1 ⊢
          refine W.region ?_
          have := h1 (by simp) (fun d v h => by simp [lookK] at h)
          rw [List.range_eq_range']
          simpa using this
        · rename_i id ops
          obtain ⟨hb, h1⟩ := h
          have h1 := SatM.more_iff.1 h1
          simp only [Den] at h1 ⊢
          obtain ⟨m, st', h2, h3, h4, h5⟩ := h1 (by simp) (fun d v h => by simp [lookK] at h) trivial
          refine W.draw hE hb (st' := st') (k := m) (by simpa using h2) (by simpa using h3) ?_ ?_
          · rw [List.range_eq_range']
            exact h4
          · simpa using h5
        · rename_i a b
          have h1 := SatM.more_iff.1 (adv_sound hE n _ _ _ h)
          simp only [Den] at h1 ⊢
          exact W.seq (h1.mono fun e s1 h2 => by cases e <;> exact h2)
        · rename_i x a b
          simp only [Den]
          split at h
          · rename_i q hq
            exact W.condB (.inl hq) (fun e => SatM.more_iff.1 (h.1 e)) fun e => SatM.more_iff.1 (h.2 e)
          · rename_i hq
            exact W.condB (.inr hq) (fun _ => SatM.more_iff.1 (adv_sound hE n _ _ _ h)) fun e => by cases e
          · rename_i hq
            exact W.condB (.inr hq) (fun e => by cases e) fun _ => SatM.more_iff.1 (adv_sound hE n _ _ _ h)
          · rename_i hq
            exact W.condAny hq (SatM.more_iff.1 h.1) (SatM.more_iff.1 h.2)
          · exact h.elim
        · rename_i id c
          have h1 := SatM.more_iff.1 (adv_sound hE n _ _ _ h)
          simp only [Den] at h1 ⊢
          exact W.block (h1.mono fun e s1 h2 => by cases e <;> exact h2)
        · exact h
        · rename_i id
          simp only [Den]
          exact W.exit (lv (.exit id) s _ [] (.inl rfl) h)
        · simp only [Den]
          exact W.ret (lv .ret s _ [] (.inl rfl) h)
        · rename_i g ps asg bod
          split at h
          · rename_i gf caps hfl hg
            split at h
            · rename_i fn c hen
              obtain ⟨he, hf, hb⟩ := enters_some hen
              have h1 := adv_sound hE n _ _ _ h
              rw [setO_eq, forceSt_eq] at h1
              have h2 := SatM.more_iff.1 h1
              simp only [Den] at h2 ⊢
              rw [hfl]
              refine W.range (L := maxN fr.top (lenO os)) (B' := maxN fr.top (lenO os) + 1) hg he hf hb (len_virgin _ _ (by rw [← lenO_eq]; exact le_maxN _ _)) ?_ ?_
              · rw [setX_length]
                have := le_maxN fr.top (lenO os)
                rw [lenO_eq] at this ⊢
                simp only
                omega
              · exact h2.mono fun e s1 h3 => h3
            · exact h.elim
          · exact h.elim
        · exact h.elim
end
end Go.Sy
