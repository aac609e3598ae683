import Derived.Test.YtphegncldncaiaaSyRange
set_option linter.unusedSimpArgs false
set_option linter.unusedSectionVars false
set_option linter.unusedVariables false
namespace Go.Sy
open Go.RowKit
set_option linter.unusedVariables false

/-- A known truth value is a truth value. -/
def nrm : Nat → A → A
  | 0, a => a
  | d + 1, a => match a with
    | .kb b => .bool b
    | .agg l => .agg (renL (nrm d) l)
    | .tup l => .tup (renL (nrm d) l)
    | a => a

theorem nrm_sound {w : World} {O : Nat → Prop} {ρ : Nat → Loc} : ∀ (d : Nat), (∀ (x : A) (v : Value), R w O x ρ v → R w O (nrm d x) ρ v) ∧ (∀ (xs : List A) (vs : List Value), RL w O xs ρ vs → RL w O (renL (nrm d) xs) ρ vs)
  | 0 => ⟨fun x v h => h, fun xs => by
      induction xs with
      | nil => intro vs h; simpa only [renL, RL] using h
      | cons x xs ih =>
        intro vs h
        simp only [RL] at h
        obtain ⟨v, vs', rfl, h1, h2⟩ := h
        simp only [renL, RL]
        exact ⟨v, vs', rfl, h1, ih vs' h2⟩⟩
  | d + 1 => by
    obtain ⟨_, ih2⟩ := nrm_sound (w := w) (O := O) (ρ := ρ) d
    have H : ∀ (x : A) (v : Value), R w O x ρ v → R w O (nrm (d + 1) x) ρ v := by
      intro x v h
      cases x with
      | kb b => simpa only [nrm, R] using h
      | agg l =>
        simp only [nrm, R] at h ⊢
        obtain ⟨vs, rfl, h⟩ := h
        exact ⟨vs, rfl, ih2 l vs h⟩
      | tup l =>
        simp only [nrm, R] at h ⊢
        obtain ⟨vs, rfl, h⟩ := h
        exact ⟨vs, rfl, ih2 l vs h⟩
      | _ => exact h
    refine ⟨H, fun xs => ?_⟩
    induction xs with
    | nil => intro vs h; simpa only [renL, RL] using h
    | cons x xs ih =>
      intro vs h
      simp only [RL] at h
      obtain ⟨v, vs', rfl, h1, h2⟩ := h
      simp only [renL, RL]
      exact ⟨v, vs', rfl, H x v h1, ih vs' h2⟩

def flatRow : Ob → Prop
  | .row _ c n el => ∀ i, i < n → ∀ j, j < c → flat 3 (el i j) = true
  | _ => False

theorem ren_sound2 {w' : World} {O O' : Nat → Prop} {ρ : Nat → Loc} {id : Nat} (hO : ∀ b, O' b → O b) : ∀ (n : Nat),
    (∀ (x : A) (v : Value), R w' O x ρ v → R w' O' (ren id 0 n x) (upd virg 0 (ρ id)) v) ∧ (∀ (xs : List A) (vs : List Value), RL w' O xs ρ vs → RL w' O' (renL (ren id 0 n) xs) (upd virg 0 (ρ id)) vs)
  | 0 => ⟨fun x v _ => by simp [ren, R], fun xs => by
      induction xs with
      | nil => intro vs h; simpa only [renL, RL] using h
      | cons x xs ih =>
        intro vs h
        simp only [RL] at h
        obtain ⟨v, vs', rfl, _, h2⟩ := h
        simp only [renL, RL]
        exact ⟨v, vs', rfl, by simp [ren, R], ih vs' h2⟩⟩
  | n + 1 => by
    obtain ⟨_, ih2⟩ := ren_sound2 (w' := w') (ρ := ρ) (id := id) hO n
    have hL : Later w' w' O O' virg virg := ⟨Nat.le_refl _, fun _ _ _ => rfl, fun b _ h => hO b h, fun _ => .inl rfl⟩
    have H : ∀ (x : A) (v : Value), R w' O x ρ v → R w' O' (ren id 0 (n + 1) x) (upd virg 0 (ρ id)) v := by
      intro x v h
      cases x with
      | own j =>
        simp only [ren]
        split
        · rename_i hj
          subst hj
          simp only [R, upd_same] at h ⊢
          exact h
        · simp only [R]
      | ptr i off => simp only [ren, R]
      | rp i c q off => simp only [ren, R]
      | yld i => simp only [ren, R]
      | ov i c lo n => simp only [ren, R]
      | ap i j => simp only [ren, R]
      | fn f xs =>
        simp only [ren, R] at h ⊢
        obtain ⟨vs, rfl, h⟩ := h
        exact ⟨vs, rfl, ih2 xs vs h⟩
      | agg xs =>
        simp only [ren, R] at h ⊢
        obtain ⟨vs, rfl, h⟩ := h
        exact ⟨vs, rfl, ih2 xs vs h⟩
      | tup xs =>
        simp only [ren, R] at h ⊢
        obtain ⟨vs, rfl, h⟩ := h
        exact ⟨vs, rfl, ih2 xs vs h⟩
      | junk => simp only [ren, R]
      | sl c m el =>
        have h1 : R w' O (.sl c m el) virg v := by simpa only [R] using h
        have := R.later _ virg virg v hL h1
        simpa only [ren, R] using this
      | ip c el =>
        have h1 : R w' O (.ip c el) virg v := by simpa only [R] using h
        have := R.later _ virg virg v hL h1
        simpa only [ren, R] using this
      | _ => simpa only [ren, R] using h
    refine ⟨H, fun xs => ?_⟩
    induction xs with
    | nil => intro vs h; simpa only [renL, RL] using h
    | cons x xs ih =>
      intro vs h
      simp only [RL] at h
      obtain ⟨v, vs', rfl, h1, h2⟩ := h
      simp only [renL, RL]
      exact ⟨v, vs', rfl, H x v h1, ih vs' h2⟩

/-- Whatever reads as a reads as b. -/
def LeA (a b : A) : Prop := ∀ (w : World) (O : Nat → Prop) (ρ : Nat → Loc) (v : Value), R w O a ρ v → R w O b ρ v
def LeL (a b : List A) : Prop := ∀ (w : World) (O : Nat → Prop) (ρ : Nat → Loc) (v : List Value), RL w O a ρ v → RL w O b ρ v
theorem LeA.refl (a : A) : LeA a a := fun _ _ _ _ h => h
theorem LeA.of {a b : A} (h : a = b) : LeA a b := by rw [h]; exact LeA.refl b
theorem LeA.trans {a b c : A} (h : LeA a b) (h' : LeA b c) : LeA a c := fun w O ρ v hr => h' w O ρ v (h w O ρ v hr)
theorem LeA.junk (a : A) : LeA a .junk := fun _ _ _ _ _ => by simp only [R]
theorem LeA.nil (c : Nat) (el : Nat → Nat → A) : LeA .nils (.sl c 0 el) := fun w O ρ v h => by
  simp only [R] at h ⊢
  exact ⟨none, 0, h, Nat.le_refl _, Nat.zero_le _, fun h => by simp at h⟩
theorem LeA.nil' {c n : Nat} {el : Nat → Nat → A} (hn : n = 0) : LeA .nils (.sl c n el) := by subst hn; exact LeA.nil c el
theorem LeA.sl {c n n' : Nat} {el el' : Nat → Nat → A} (hn : n = n') (h : ∀ i, i < n → ∀ j, j < c → el i j = el' i j) : LeA (.sl c n el) (.sl c n' el') := fun w O ρ v hr => by
  subst hn
  simp only [R] at hr ⊢
  obtain ⟨a, cap, rfl, h1, h2, h3⟩ := hr
  refine ⟨a, cap, rfl, h1, h2, fun hp => ?_⟩
  obtain ⟨ad, rfl, hi, hc⟩ := h3 hp
  refine ⟨ad, rfl, hi, fun i hin j hj => ?_⟩
  rw [← h i hin j hj]
  exact hc i hin j hj
theorem LeL.nil : LeL [] [] := fun _ _ _ _ h => h
theorem LeL.cons {a b : A} {l m : List A} (h : LeA a b) (h' : LeL l m) : LeL (a :: l) (b :: m) := fun w O ρ v hr => by
  simp only [RL] at hr ⊢
  obtain ⟨v, vs, rfl, h1, h2⟩ := hr
  exact ⟨v, vs, rfl, h _ _ _ _ h1, h' _ _ _ _ h2⟩
theorem LeL.refl (l : List A) : LeL l l := fun _ _ _ _ h => h
theorem LeA.agg {l m : List A} (h : LeL l m) : LeA (.agg l) (.agg m) := fun w O ρ v hr => by
  simp only [R] at hr ⊢
  obtain ⟨vs, rfl, h1⟩ := hr
  exact ⟨vs, rfl, h _ _ _ _ h1⟩
theorem LeA.tup {l m : List A} (h : LeL l m) : LeA (.tup l) (.tup m) := fun w O ρ v hr => by
  simp only [R] at hr ⊢
  obtain ⟨vs, rfl, h1⟩ := hr
  exact ⟨vs, rfl, h _ _ _ _ h1⟩
theorem LeA.tup2 {a b c d : A} (h : LeA a c) (h' : LeA b d) : LeA (.tup [a, b]) (.tup [c, d]) := LeA.tup (.cons h (.cons h' .nil))
theorem LeA.tup3 {a b c d e f : A} (h : LeA a d) (h' : LeA b e) (h'' : LeA c f) : LeA (.tup [a, b, c]) (.tup [d, e, f]) := LeA.tup (.cons h (.cons h' (.cons h'' .nil)))
theorem LeA.tup4 {a b c d a' b' c' d' : A} (h : LeA a a') (h' : LeA b b') (h'' : LeA c c') (h3 : LeA d d') : LeA (.tup [a, b, c, d]) (.tup [a', b', c', d']) := LeA.tup (.cons h (.cons h' (.cons h'' (.cons h3 .nil))))

/-- The same row. -/
def LeO (a b : Ob) : Prop := match a, b with
  | .row e c n el, .row e' c' n' el' => e = e' ∧ c = c' ∧ n = n' ∧ ∀ i, i < n → ∀ j, j < c → el i j = el' i j
  | _, _ => False

/-- What a function hands back. -/
def RetQ (r : A × Option Ob) (x : A) (objs : List Ob) : Prop :=
  match r.2 with
  | none => ∃ a, expo objs 6 x = some a ∧ LeA (nrm 6 a) r.1
  | some ob => (∃ id, LeO (getO objs id) ob ∧ LeA (nrm 6 (ren id 0 6 x)) r.1 ∧ flatRow ob) ∨ (x = .nils ∧ r.1 = .own 0 ∧ ∃ e c el, ob = .row e c 0 el)

/-- A FUNCTION KEEPS ITS CONTRACT. -/
theorem fn_okW {E : Env} {f : FuncId} {fn : Func} {c : Code} {args : List A} {r : A × Option Ob} (hent : entB E.P f = true) (hf : E.P.funcs[f]? = some fn) (hb : fn.body = some c)
    (h : W E 0 false c (st0 fn.ntmps args []) fun e s => e.out ∧ ∃ l, resV E.P s fn.results.toList = some l ∧ RetQ r (packV l) s.objs) : FnOK E.P f args r := by
  refine ⟨hent, fun w X vs hX hargs => ?_⟩
  have hno : ∀ b, ¬ owned virg b := by rintro b ⟨id, hid⟩; cases hid
  have hp : Hp w X [] w virg := ⟨fun id => rfl, (fun i j b hi => by cases hi), Below.refl _ _, fun b hb => (hno b hb).elim, hX⟩
  have hargs' : RL w (Ow X virg) args virg vs := RL.later _ virg virg _ ⟨Nat.le_refl _, fun _ _ _ => rfl, fun b _ ho => by
    rcases ho with ho | ho
    · exact ho
    · exact (hno b ho).elim, fun _ => .inl rfl⟩ hargs
  refine (call_inl (Q := RetQ r) hp hargs' hf hb (fun _ _ => rfl) h).mono ?_
  rintro e w' ⟨v, x, objs', ρ', rfl, hout, hrv, hp', hl⟩
  unfold RetQ at hout
  cases hr2 : r.2 with
  | none =>
    rw [hr2] at hout
    simp only at hout
    obtain ⟨xa, hout, hnrm⟩ := hout
    refine ⟨v, .virgin, rfl, hp'.kept, ?_, rfl, fun b hb => by cases hb⟩
    refine hnrm _ _ _ _ ?_
    refine (nrm_sound 6).1 _ _ ?_
    have h0 : upd virg 0 Loc.virgin = virg := by funext i; simp [upd, virg]
    rw [h0]
    refine (expo_sound (O' := fun b => X b ∨ (Loc.virgin).block = some b) (fun id => .inr (hp'.obj id)) (fun b _ ho => ?_) (fun id b _ hb => ?_) 6).1 _ _ _ hrv hout
    · rcases ho with ho | ho
      · exact .inl ho
      · cases ho
    · have := hp'.new b ⟨id, hb⟩
      refine ⟨this.2, ?_⟩
      rintro (ho | ho)
      · have := hX b ho; omega
      · cases ho
  | some ob =>
    rw [hr2] at hout
    simp only at hout
    rcases hout with ⟨id, hle, hr1, hfl⟩ | ⟨rfl, hr1, e, c, el, rfl⟩
    case inr =>
      simp only [R] at hrv
      subst hrv
      refine ⟨_, .row (.slice none 0 0), rfl, hp'.kept, ?_, ⟨_, [], rfl, ⟨by simp, .inl ⟨rfl, _, rfl⟩⟩, by simp, fun i hi => by omega⟩, fun b hb => by cases hb⟩
      rw [hr1]
      simp only [R, upd_same]
      exact ⟨trivial, _, _, _, rfl⟩
    refine ⟨v, ρ' id, rfl, hp'.kept, ?_, ?_, fun b hb => hp'.new b ⟨id, hb⟩⟩
    · refine hr1 _ _ _ _ ?_
      refine (nrm_sound 6).1 _ _ ?_
      refine (ren_sound2 (fun b ho => ?_) 6).1 _ _ hrv
      rcases ho with ho | ho
      · exact .inl ho
      · exact .inr ⟨id, ho⟩
    · have hob := hp'.obj id
      revert hle hob
      cases getO objs' id with
      | row e c n el =>
        cases ob with
        | row e' c' n' el' =>
          rintro ⟨rfl, rfl, rfl, hel'⟩ hob
          obtain ⟨rv, xs, hρ, hown, hxs, hel⟩ := hob
          refine ⟨rv, xs, hρ, hown, hxs, fun i hi j hj => ?_⟩
          obtain ⟨u, hu, hru⟩ := hel i hi j hj
          rw [hel' i hi j hj] at hru
          exact ⟨u, hu, (flat_sound 3).1 _ _ (hfl i hi j hj) hru⟩
        | _ => intro hle; exact hle.elim
      | _ => intro hle; exact hle.elim
end Go.Sy
