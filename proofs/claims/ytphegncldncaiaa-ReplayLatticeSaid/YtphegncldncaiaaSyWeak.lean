import Derived.Test.YtphegncldncaiaaSyFn
set_option linter.unusedSimpArgs false
set_option linter.unusedSectionVars false
set_option linter.unusedVariables false
namespace Go.Sy
open Go.RowKit
set_option linter.unusedVariables false

theorem Weak.refl (B : Nat) (st : St) : Weak B st st := fun _ _ _ _ ρ h => ⟨ρ, h, LtB.refl _ _ _ _⟩
theorem Weak.trans {B : Nat} {a b c : St} (h : Weak B a b) (h' : Weak B b c) : Weak B a c := fun w0 X x w ρ hr => by
  obtain ⟨ρ1, h1, l1⟩ := h w0 X x w ρ hr
  obtain ⟨ρ2, h2, l2⟩ := h' w0 X x w ρ1 h1
  exact ⟨ρ2, h2, l1.trans l2⟩

def lookT : List (Nat × A) → Nat → A
  | [], _ => .junk
  | (j, a) :: l, i => if i = j then a else lookT l i
def spreadT (ts : List (Nat × A)) (i : Nat) : Nat → List A
  | 0 => []
  | n + 1 => lookT ts i :: spreadT ts (i + 1) n
def takeO : Nat → List Ob → List Ob
  | 0, _ => []
  | _ + 1, [] => []
  | n + 1, a :: l => a :: takeO n l
def putOs : List Ob → List (Nat × Ob) → List Ob
  | l, [] => l
  | l, (i, o) :: os => setX (putOs l os) i o

/-- A state of which only these slots and objects are known; the objects below B that are not named are as they were (objs0). -/
def hd (B : Nat) (objs0 : List Ob) (n : Nat) (ts : List (Nat × A)) (os : List (Nat × Ob)) : St := ⟨spreadT ts 0 n, putOs (takeO B objs0) os⟩

def look1 : List (Nat × Nat) → Nat → Nat
  | [], i => i
  | (j, k) :: l, i => if i = j then k else look1 l i

def RenA (σ : Nat → Nat) : A → A → Prop
  | .own j, b => b = .own (σ j)
  | .ptr j o, b => b = .ptr (σ j) o
  | .rp j c i o, b => b = .rp (σ j) c i o
  | .ov j c lo n, b => b = .ov (σ j) c lo n
  | .ap j i, b => b = .ap (σ j) i
  | .yld j, b => b = .yld (σ j)
  | .junk, _ => True
  | .bool x, b => b = .bool x ∨ b = .kb x
  | a, b => b = a
def RenL (σ : Nat → Nat) : List A → List A → Prop
  | [], b => b = []
  | a :: l, b => ∃ x m, b = x :: m ∧ RenA σ a x ∧ RenL σ l m
def RenO (σ : Nat → Nat) : Ob → Ob → Prop
  | .box cs, b => ∃ cs', b = .box cs' ∧ RenL σ cs cs'
  | .row e c n el, b => ∃ el', b = .row e c n el' ∧ ∀ i, i < n → ∀ j, j < c → el' i j = el i j
  | .lp ts ps asg bod sta pend, b => b = .lp ts ps asg bod sta pend
  | _, _ => False

/-- The names in a value are good ones. -/
def refs (top good : Nat → Bool) : Nat → A → Bool
  | 0, _ => false
  | d + 1, a => match a with
    | .own j => top j
    | .ptr j _ => top j
    | .rp j _ _ _ => top j
    | .yld j => top j
    | .ov j _ _ _ => top j
    | .ap j _ => top j
    | .fn _ l => allL (refs good good d) l
    | .agg l => allL (refs good good d) l
    | .tup l => allL (refs good good d) l
    | _ => true
def refsOb (top good : Nat → Bool) : Ob → Bool
  | .box cs => allL (refs top good 5) cs
  | .lp ts _ _ _ _ _ => allL (refs good good 5) ts
  | _ => true

def AllT (σ : Nat → Nat) (ts0 : List A) : List (Nat × A) → Prop
  | [] => True
  | (i, a) :: l => RenA σ a (getA ts0 i) ∧ AllT σ ts0 l
def AllO (σ : Nat → Nat) (objs : List Ob) : List (Nat × Ob) → Prop
  | [] => True
  | (i, a) :: l => RenO σ a (getO objs (σ i)) ∧ AllO σ objs l
/-- The objects below B that are not named. -/
def Pre (keys : List Nat) (objs : List Ob) : Nat → Nat → List Ob → Prop
  | 0, _, _ => True
  | B + 1, i, [] => (keys.contains i = true ∨ getO objs i = .virgin) ∧ Pre keys objs B (i + 1) []
  | B + 1, i, o :: l => (keys.contains i = true ∨ getO objs i = o) ∧ Pre keys objs B (i + 1) l

def keysOf : List (Nat × Ob) → List Nat
  | [] => []
  | (i, _) :: l => i :: keysOf l
def nodupB : List Nat → Bool
  | [] => true
  | a :: l => !l.contains a && nodupB l
def allTB (f : A → Bool) : List (Nat × A) → Bool
  | [] => true
  | (_, a) :: l => f a && allTB f l
def allOB (f : Ob → Bool) : List (Nat × Ob) → Bool
  | [] => true
  | (_, a) :: l => f a && allOB f l
def mapN (σ : Nat → Nat) : List Nat → List Nat
  | [] => []
  | a :: l => σ a :: mapN σ l
def allNB (f : Nat → Bool) : List Nat → Bool
  | [] => true
  | a :: l => f a && allNB f l
def preB (keys : List Nat) (good : Nat → Bool) : Nat → Nat → List Ob → Bool
  | 0, _, _ => true
  | _ + 1, _, [] => true
  | B + 1, i, o :: l => (keys.contains i || refsOb good good o) && preB keys good B (i + 1) l

def goodK (B : Nat) (keys : List Nat) (σ : Nat → Nat) (j : Nat) : Bool := (keys.contains j && σ j == j) || (!keys.contains j && decide (j < B))
def topK (B : Nat) (keys : List Nat) (σ : Nat → Nat) (j : Nat) : Bool := keys.contains j || (decide (j < B) && σ j == j)

/-- What is asked of the names. -/
def chkH (B : Nat) (objs0 : List Ob) (σ : Nat → Nat) (ts : List (Nat × A)) (os : List (Nat × Ob)) : Bool :=
  allTB (refs (topK B (keysOf os) σ) (goodK B (keysOf os) σ) 5) ts && allOB (refsOb (topK B (keysOf os) σ) (goodK B (keysOf os) σ)) os && nodupB (keysOf os) && nodupB (mapN σ (keysOf os)) &&
    allNB (fun j => (!decide (j < B) || σ j == j) && (!decide (σ j < B) || (keysOf os).contains (σ j))) (keysOf os) && preB (keysOf os) (goodK B (keysOf os) σ) B 0 objs0

theorem getA_spread (ts : List (Nat × A)) : ∀ (n i j : Nat), getA (spreadT ts i n) j = if j < n then lookT ts (i + j) else .junk
  | 0, i, j => by simp [spreadT, getA]
  | n + 1, i, 0 => by simp [spreadT, getA]
  | n + 1, i, j + 1 => by simp [spreadT, getA, getA_spread ts n (i + 1) j, Nat.add_assoc, Nat.add_comm 1 j]
theorem length_spread (ts : List (Nat × A)) : ∀ (n i : Nat), (spreadT ts i n).length = n
  | 0, i => rfl
  | n + 1, i => by simp [spreadT, length_spread ts n]
theorem getO_take : ∀ (B : Nat) (l : List Ob) (i : Nat), getO (takeO B l) i = if i < B then getO l i else .virgin
  | 0, l, i => by simp [takeO, getO]
  | B + 1, [], i => by simp [takeO, getO]
  | B + 1, a :: l, 0 => by simp [takeO, getO]
  | B + 1, a :: l, i + 1 => by simp [takeO, getO, getO_take B l i]
theorem getO_putOs (l : List Ob) : ∀ (os : List (Nat × Ob)) (i : Nat), (i ∉ keysOf os ∧ getO (putOs l os) i = getO l i) ∨ (i ∈ keysOf os ∧ (i, getO (putOs l os) i) ∈ os)
  | [], i => .inl ⟨by simp [keysOf], rfl⟩
  | (j, o) :: os, i => by
    simp only [putOs, keysOf, getO_setX]
    by_cases hij : i = j
    · subst hij
      rw [if_pos rfl]
      exact .inr ⟨List.mem_cons_self, List.mem_cons_self⟩
    · rw [if_neg hij]
      rcases getO_putOs l os i with ⟨h1, h2⟩ | ⟨h1, h2⟩
      · exact .inl ⟨by simp [hij, h1], h2⟩
      · exact .inr ⟨List.mem_cons_of_mem _ h1, List.mem_cons_of_mem _ h2⟩

theorem lookT_mem {ts : List (Nat × A)} {i : Nat} : lookT ts i = .junk ∨ (i, lookT ts i) ∈ ts := by
  induction ts with
  | nil => exact .inl rfl
  | cons p l ih =>
    obtain ⟨j, a⟩ := p
    simp only [lookT]
    split
    · rename_i h; subst h; exact .inr List.mem_cons_self
    · rcases ih with h | h
      · exact .inl h
      · exact .inr (List.mem_cons_of_mem _ h)

theorem AllT_mem {σ : Nat → Nat} {ts0 : List A} : ∀ {l : List (Nat × A)} {i : Nat} {a : A}, AllT σ ts0 l → (i, a) ∈ l → RenA σ a (getA ts0 i)
  | (j, b) :: l, i, a, h, hm => by
    rcases List.mem_cons.1 hm with e | hm
    · cases e; exact h.1
    · exact AllT_mem h.2 hm
theorem AllO_mem {σ : Nat → Nat} {objs : List Ob} : ∀ {l : List (Nat × Ob)} {i : Nat} {a : Ob}, AllO σ objs l → (i, a) ∈ l → RenO σ a (getO objs (σ i))
  | (j, b) :: l, i, a, h, hm => by
    rcases List.mem_cons.1 hm with e | hm
    · cases e; exact h.1
    · exact AllO_mem h.2 hm
theorem allTB_mem {f : A → Bool} : ∀ {l : List (Nat × A)} {i : Nat} {a : A}, allTB f l = true → (i, a) ∈ l → f a = true
  | (j, b) :: l, i, a, h, hm => by
    simp only [allTB, Bool.and_eq_true] at h
    rcases List.mem_cons.1 hm with e | hm
    · cases e; exact h.1
    · exact allTB_mem h.2 hm
theorem allOB_mem {f : Ob → Bool} : ∀ {l : List (Nat × Ob)} {i : Nat} {a : Ob}, allOB f l = true → (i, a) ∈ l → f a = true
  | (j, b) :: l, i, a, h, hm => by
    simp only [allOB, Bool.and_eq_true] at h
    rcases List.mem_cons.1 hm with e | hm
    · cases e; exact h.1
    · exact allOB_mem h.2 hm
theorem allNB_mem {f : Nat → Bool} : ∀ {l : List Nat} {i : Nat}, allNB f l = true → i ∈ l → f i = true
  | j :: l, i, h, hm => by
    simp only [allNB, Bool.and_eq_true] at h
    rcases List.mem_cons.1 hm with e | hm
    · cases e; exact h.1
    · exact allNB_mem h.2 hm
theorem mapN_inj {σ : Nat → Nat} : ∀ {l : List Nat} {i j : Nat}, nodupB (mapN σ l) = true → i ∈ l → j ∈ l → σ i = σ j → i = j
  | a :: l, i, j, h, hi, hj, he => by
    simp only [mapN, nodupB, Bool.and_eq_true, Bool.not_eq_true'] at h
    have hm : ∀ {m : List Nat} {x : Nat}, x ∈ m → σ x ∈ mapN σ m := by
      intro m
      induction m with
      | nil => intro x hx; cases hx
      | cons y m ih =>
        intro x hx
        rcases List.mem_cons.1 hx with rfl | hx
        · exact List.mem_cons_self
        · exact List.mem_cons_of_mem _ (ih hx)
    have hn : σ a ∉ mapN σ l := by simpa using h.1
    rcases List.mem_cons.1 hi with e1 | h1 <;> rcases List.mem_cons.1 hj with e2 | h2
    · rw [e1, e2]
    · have := hm h2
      rw [← he, e1] at this
      exact (hn this).elim
    · have := hm h1
      rw [he, e2] at this
      exact (hn this).elim
    · exact mapN_inj h.2 h1 h2 he
theorem Pre_get {keys : List Nat} {objs : List Ob} : ∀ (B i : Nat) (l : List Ob), Pre keys objs B i l → ∀ k, k < B → keys.contains (i + k) = true ∨ getO objs (i + k) = getO l k
  | 0, _, _, _, k, hk => by omega
  | B + 1, i, [], h, k, hk => by
    cases k with
    | zero => exact h.1
    | succ k =>
      have := Pre_get B (i + 1) [] h.2 k (by omega)
      simpa [getO, Nat.add_assoc, Nat.add_comm 1 k] using this
  | B + 1, i, o :: l, h, k, hk => by
    cases k with
    | zero => exact h.1
    | succ k =>
      have := Pre_get B (i + 1) l h.2 k (by omega)
      simpa [getO, Nat.add_assoc, Nat.add_comm 1 k] using this
theorem preB_get {keys : List Nat} {good : Nat → Bool} : ∀ (B i : Nat) (l : List Ob), preB keys good B i l = true → ∀ k, k < B → keys.contains (i + k) = true ∨ refsOb good good (getO l k) = true
  | 0, _, _, _, k, hk => by omega
  | B + 1, i, [], h, k, hk => .inr rfl
  | B + 1, i, o :: l, h, k, hk => by
    simp only [preB, Bool.and_eq_true, Bool.or_eq_true] at h
    cases k with
    | zero => exact h.1
    | succ k =>
      have := preB_get B (i + 1) l h.2 k (by omega)
      simpa [getO, Nat.add_assoc, Nat.add_comm 1 k] using this

section
variable {w : World} {O O' : Nat → Prop} {ρ ρ' : Nat → Loc} {top good : Nat → Bool} {σ : Nat → Nat}

/-- The names stay. -/
theorem refs_in (hL : Later w w O O' virg virg) (hρ : ∀ j, good j = true → ρ' j = ρ j) : ∀ (d : Nat),
    (∀ (a : A) (v : Value), refs good good d a = true → R w O a ρ v → R w O' a ρ' v) ∧ (∀ (l : List A) (vs : List Value), allL (refs good good d) l = true → RL w O l ρ vs → RL w O' l ρ' vs)
  | 0 => ⟨fun a v h => by simp [refs] at h, fun l vs h hr => by
      cases l with
      | nil => simpa only [RL] using hr
      | cons a l => simp [allL, refs] at h⟩
  | d + 1 => by
    obtain ⟨_, ih2⟩ := refs_in hL hρ d
    have H : ∀ (a : A) (v : Value), refs good good (d + 1) a = true → R w O a ρ v → R w O' a ρ' v := by
      intro a v hc hr
      cases a with
      | own j => simp only [refs] at hc; simp only [R, hρ j hc] at hr ⊢; exact hr
      | ptr j o => simp only [refs] at hc; simp only [R, hρ j hc] at hr ⊢; exact hr
      | rp j c i o => simp only [refs] at hc; simp only [R, hρ j hc] at hr ⊢; exact hr
      | yld j => simp only [refs] at hc; simp only [R, hρ j hc] at hr ⊢; exact hr
      | ov j c lo n => simp only [refs] at hc; simp only [R, hρ j hc] at hr ⊢; exact hr
      | ap j i => simp only [refs] at hc; simp only [R, hρ j hc] at hr ⊢; exact hr
      | fn f l =>
        simp only [R] at hr ⊢
        obtain ⟨vs, rfl, h⟩ := hr
        exact ⟨vs, rfl, ih2 l vs hc h⟩
      | agg l =>
        simp only [R] at hr ⊢
        obtain ⟨vs, rfl, h⟩ := hr
        exact ⟨vs, rfl, ih2 l vs hc h⟩
      | tup l =>
        simp only [R] at hr ⊢
        obtain ⟨vs, rfl, h⟩ := hr
        exact ⟨vs, rfl, ih2 l vs hc h⟩
      | junk => simp only [R]
      | sl c m el =>
        have h1 : R w O (.sl c m el) virg v := by simpa only [R] using hr
        have := R.later _ virg virg v hL h1
        simpa only [R] using this
      | ip c el =>
        have h1 : R w O (.ip c el) virg v := by simpa only [R] using hr
        have := R.later _ virg virg v hL h1
        simpa only [R] using this
      | _ => simpa only [R] using hr
    refine ⟨H, fun l => ?_⟩
    induction l with
    | nil => intro vs _ h; simpa only [RL] using h
    | cons a l ih =>
      intro vs hc h
      simp only [allL, Bool.and_eq_true] at hc
      simp only [RL] at h ⊢
      obtain ⟨v, vs', rfl, h1, h2⟩ := h
      exact ⟨v, vs', rfl, H a v hc.1 h1, ih vs' hc.2 h2⟩

theorem RenA_sound (hL : Later w w O O' virg virg) (hρ : ∀ j, top j = true → ρ' j = ρ (σ j)) (hg : ∀ j, good j = true → ρ' j = ρ j) {a b : A} {v : Value} (hk : refs top good 5 a = true) (hab : RenA σ a b) (hr : R w O b ρ v) : R w O' a ρ' v := by
  cases a with
  | own j => simp only [RenA] at hab; subst hab; simp only [refs] at hk; simp only [R, hρ j hk] at hr ⊢; exact hr
  | ptr j o => simp only [RenA] at hab; subst hab; simp only [refs] at hk; simp only [R, hρ j hk] at hr ⊢; exact hr
  | rp j c i o => simp only [RenA] at hab; subst hab; simp only [refs] at hk; simp only [R, hρ j hk] at hr ⊢; exact hr
  | yld j => simp only [RenA] at hab; subst hab; simp only [refs] at hk; simp only [R, hρ j hk] at hr ⊢; exact hr
  | ov j c lo n => simp only [RenA] at hab; subst hab; simp only [refs] at hk; simp only [R, hρ j hk] at hr ⊢; exact hr
  | ap j i => simp only [RenA] at hab; subst hab; simp only [refs] at hk; simp only [R, hρ j hk] at hr ⊢; exact hr
  | junk => simp only [R]
  | bool x =>
    simp only [RenA] at hab
    rcases hab with rfl | rfl <;> simpa only [R] using hr
  | fn f l => simp only [RenA] at hab; subst hab; exact (refs_in hL hg 5).1 _ _ (by simpa only [refs] using hk) hr
  | agg l => simp only [RenA] at hab; subst hab; exact (refs_in hL hg 5).1 _ _ (by simpa only [refs] using hk) hr
  | tup l => simp only [RenA] at hab; subst hab; exact (refs_in hL hg 5).1 _ _ (by simpa only [refs] using hk) hr
  | sl c m el => simp only [RenA] at hab; subst hab; exact (refs_in hL hg 5).1 _ _ (by rfl) hr
  | ip c el => simp only [RenA] at hab; subst hab; exact (refs_in hL hg 5).1 _ _ (by rfl) hr
  | _ => simp only [RenA] at hab; subst hab; simpa only [R] using hr

theorem RenL_sound (hL : Later w w O O' virg virg) (hρ : ∀ j, top j = true → ρ' j = ρ (σ j)) (hg : ∀ j, good j = true → ρ' j = ρ j) : ∀ {l m : List A} {vs : List Value}, allL (refs top good 5) l = true → RenL σ l m → RL w O m ρ vs → RL w O' l ρ' vs
  | [], m, vs, _, h, hr => by simp only [RenL] at h; subst h; simpa only [RL] using hr
  | a :: l, m, vs, hk, h, hr => by
    simp only [RenL] at h
    obtain ⟨x, m', rfl, h1, h2⟩ := h
    simp only [allL, Bool.and_eq_true] at hk
    simp only [RL] at hr ⊢
    obtain ⟨v, vs', rfl, h3, h4⟩ := hr
    exact ⟨v, vs', rfl, RenA_sound hL hρ hg hk.1 h1 h3, RenL_sound hL hρ hg hk.2 h2 h4⟩

theorem ObR_same (hL : Later w w O O' virg virg) (hg : ∀ j, good j = true → ρ' j = ρ j) {o : Ob} {l : Loc} (hk : refsOb good good o = true) (h : ObR w O ρ o l) : ObR w O' ρ' o l := by
  cases o with
  | virgin => exact h
  | dead => exact h
  | box cs =>
    obtain ⟨b, vs, t, h1, h2, h3⟩ := h
    exact ⟨b, vs, t, h1, h2, (refs_in hL hg 5).2 _ _ hk h3⟩
  | row e c m el =>
    obtain ⟨v, xs, h1, h2, h3, h4⟩ := h
    refine ⟨v, xs, h1, h2, h3, fun i hi j hj => ?_⟩
    obtain ⟨u, hu, hr⟩ := h4 i hi j hj
    exact ⟨u, hu, R.later _ virg virg u hL hr⟩
  | lp ts ps asg bod sta pend =>
    obtain ⟨b, r, vs, h1, h2, h3, h4, h5⟩ := h
    exact ⟨b, r, vs, h1, h2, h3, (refs_in hL hg 5).2 _ _ hk h4, h5⟩
end

/-- FORGETTING, AND RENAMING. -/
theorem weak_hd {B n : Nat} {st : St} {objs0 : List Ob} (sg : List (Nat × Nat)) {ts : List (Nat × A)} {os : List (Nat × Ob)} (hlen : st.tmps.length = n) (ht : AllT (look1 sg) st.tmps ts) (ho : AllO (look1 sg) st.objs os) (hp : Pre (keysOf os) st.objs B 0 objs0) (hc : chkH B objs0 (look1 sg) ts os = true) :
    Weak B st (hd B objs0 n ts os) := by
  generalize look1 sg = σ at ht ho hc
  intro w0 X a w ρ h
  simp only [chkH, Bool.and_eq_true] at hc
  obtain ⟨⟨⟨⟨⟨hct, hco⟩, hnd⟩, hinj⟩, hkk⟩, hpb⟩ := hc
  have hK1 : ∀ j ∈ keysOf os, (j < B → σ j = j) ∧ (σ j < B → σ j ∈ keysOf os) := by
    intro j hj
    have := allNB_mem hkk hj
    simp only [Bool.and_eq_true, Bool.or_eq_true, Bool.not_eq_true', decide_eq_false_iff_not, beq_iff_eq, List.contains_eq_mem, decide_eq_true_eq] at this
    refine ⟨fun hb => ?_, fun hb => ?_⟩
    · rcases this.1 with h | h
      · exact (h hb).elim
      · exact h
    · rcases this.2 with h | h
      · exact (h hb).elim
      · exact h
  let ρ' : Nat → Loc := fun id => if id ∈ keysOf os then ρ (σ id) else if id < B then ρ id else .virgin
  have hρk : ∀ j ∈ keysOf os, ρ' j = ρ (σ j) := fun j hj => by simp only [ρ']; rw [if_pos hj]
  have hρb : ∀ j, j ∉ keysOf os → j < B → ρ' j = ρ j := fun j hj hb => by simp only [ρ']; rw [if_neg hj, if_pos hb]
  have hgood : ∀ j, goodK B (keysOf os) σ j = true → ρ' j = ρ j := by
    intro j hj
    simp only [goodK, Bool.or_eq_true, Bool.and_eq_true, List.contains_eq_mem, decide_eq_true_eq, beq_iff_eq, Bool.not_eq_true', decide_eq_false_iff_not] at hj
    rcases hj with ⟨h1, h2⟩ | ⟨h1, h2⟩
    · rw [hρk j h1, h2]
    · exact hρb j h1 h2
  have htop : ∀ j, topK B (keysOf os) σ j = true → ρ' j = ρ (σ j) := by
    intro j hj
    simp only [topK, Bool.or_eq_true, Bool.and_eq_true, List.contains_eq_mem, decide_eq_true_eq, beq_iff_eq] at hj
    by_cases hk : j ∈ keysOf os
    · exact hρk j hk
    · rcases hj with h1 | ⟨h1, h2⟩
      · exact (hk h1).elim
      · rw [hρb j hk h1, h2]
  have hblk : ∀ id b, (ρ' id).block = some b → (id ∈ keysOf os ∧ (ρ (σ id)).block = some b) ∨ (id ∉ keysOf os ∧ id < B ∧ (ρ id).block = some b) := by
    intro id b hb
    simp only [ρ'] at hb
    split at hb
    · rename_i hk; exact .inl ⟨hk, hb⟩
    · rename_i hk
      split at hb
      · rename_i hlt; exact .inr ⟨hk, hlt, hb⟩
      · cases hb
  have how : ∀ b, owned ρ' b → owned ρ b := by
    rintro b ⟨id, hid⟩
    rcases hblk id b hid with ⟨_, h⟩ | ⟨_, _, h⟩
    · exact ⟨_, h⟩
    · exact ⟨_, h⟩
  have hO : ∀ b, b < w.heap.size → Ow X ρ' b → Ow X ρ b := fun b _ hb => by
    rcases hb with hb | hb
    · exact .inl hb
    · exact .inr (how b hb)
  have hL : Later w w (Ow X ρ) (Ow X ρ') virg virg := ⟨Nat.le_refl _, fun _ _ _ => rfl, hO, fun _ => .inl rfl⟩
  refine ⟨ρ', ⟨by rw [h.len, hlen]; simp [hd, length_spread], fun i => ?_, fun id => ?_, fun i j b hi hj => ?_, h.kept, fun b hb => h.new b (how b hb), h.old, h.dfr⟩, ⟨Nat.le_refl _, fun _ _ _ => rfl, hO, fun id hid => ?_⟩⟩
  · simp only [hd, getA_spread]
    split
    · rw [Nat.zero_add]
      rcases lookT_mem (ts := ts) (i := i) with e | hm
      · rw [e]; simp only [R]
      · exact RenA_sound hL htop hgood (allTB_mem hct hm) (AllT_mem ht hm) (h.tmp i)
    · simp only [R]
  · simp only [hd]
    rcases getO_putOs (takeO B objs0) os id with ⟨hn, e⟩ | ⟨hk, hm⟩
    · rw [e, getO_take]
      split
      · rename_i hlt
        rw [hρb id hn hlt]
        have h1 := Pre_get B 0 objs0 hp id hlt
        have h2 := preB_get B 0 objs0 hpb id hlt
        simp only [Nat.zero_add, List.contains_eq_mem, decide_eq_true_eq] at h1 h2
        rcases h1 with h1 | h1
        · exact (hn h1).elim
        · rcases h2 with h2 | h2
          · exact (hn h2).elim
          · rw [← h1] at h2 ⊢
            exact ObR_same hL hgood h2 (h.obj id)
      · rename_i hlt
        show ρ' id = .virgin
        simp only [ρ']; rw [if_neg hn, if_neg hlt]
    · have hren := AllO_mem ho hm
      have hob := h.obj (σ id)
      rw [hρk id hk]
      generalize hlo : getO (putOs (takeO B objs0) os) id = ob at hren hm
      have hrf := allOB_mem hco hm
      cases ob with
      | virgin => simp [RenO] at hren
      | dead => simp [RenO] at hren
      | box cs =>
        obtain ⟨cs', hb, hcs⟩ := hren
        rw [hb] at hob
        obtain ⟨b, vs, t, h1, h2, h3⟩ := hob
        exact ⟨b, vs, t, h1, h2, RenL_sound hL htop hgood hrf hcs h3⟩
      | row e c m el =>
        obtain ⟨el', hb, hel⟩ := hren
        rw [hb] at hob
        obtain ⟨v, xs, h1, h2, h3, h4⟩ := hob
        refine ⟨v, xs, h1, h2, h3, fun i hi j hj => ?_⟩
        obtain ⟨u, hu, hr⟩ := h4 i hi j hj
        rw [hel i hi j hj] at hr
        exact ⟨u, hu, R.later _ virg virg u hL hr⟩
      | lp ts' ps asg bod sta pend =>
        simp only [RenO] at hren
        rw [hren] at hob
        obtain ⟨b, r, vs, h1, h2, h3, h4, h5⟩ := hob
        exact ⟨b, r, vs, h1, h2, h3, (refs_in hL hgood 5).2 _ _ hrf h4, h5⟩
  · rcases hblk i b hi with ⟨hki, hi⟩ | ⟨hki, hli, hi⟩ <;> rcases hblk j b hj with ⟨hkj, hj⟩ | ⟨hkj, hlj, hj⟩
    · exact mapN_inj hinj hki hkj (h.dis _ _ b hi hj)
    · have := h.dis _ _ b hi hj
      have h2 := (hK1 i hki).2 (by omega)
      rw [this] at h2
      exact (hkj h2).elim
    · have := h.dis _ _ b hi hj
      have h2 := (hK1 j hkj).2 (by omega)
      rw [← this] at h2
      exact (hki h2).elim
    · exact h.dis _ _ b hi hj
  · by_cases hk : id ∈ keysOf os
    · rw [hρk id hk, (hK1 id hk).1 hid]; exact .inl rfl
    · exact .inl (hρb id hk hid)

/-- The nil slice is an empty row of the call's own. -/
theorem weak_promote {B : Nat} {st : St} (t d : Nat) (e c : Nat) (el : Nat → Nat → A) (ht : getA st.tmps t = .nils) (hd : getO st.objs d = .virgin) : Weak B st ⟨setL st.tmps t (.own d), setX st.objs d (.row e c 0 el)⟩ := by
  intro w0 X a w ρ h
  have hv := h.virgin hd
  have hsl := h.tmp t
  rw [ht] at hsl
  simp only [R] at hsl
  let ρ' := upd ρ d (.row (.slice none 0 0))
  have hblk : ∀ id b, (ρ' id).block = some b → (ρ id).block = some b := by
    intro id b hb
    by_cases hid : id = d
    · subst hid; simp only [ρ', upd_same] at hb; cases hb
    · simp only [ρ', upd_ne _ _ _ hid] at hb; exact hb
  have how : ∀ b, owned ρ' b → owned ρ b := by rintro b ⟨id, hid⟩; exact ⟨id, hblk id b hid⟩
  have hL : Later w w (Ow X ρ) (Ow X ρ') ρ ρ' := ⟨Nat.le_refl _, fun _ _ _ => rfl, fun b _ hb => by
    rcases hb with hb | hb
    · exact .inl hb
    · exact .inr (how b hb), fun id => by
    by_cases hid : id = d
    · subst hid; exact .inr (.inl hv)
    · exact .inl (upd_ne _ _ _ hid)⟩
  refine ⟨ρ', ⟨by simp [length_setL, h.len], fun i => ?_, fun id => ?_, fun i j b hi hj => h.dis i j b (hblk i b hi) (hblk j b hj), h.kept, fun b hb => h.new b (how b hb), h.old, h.dfr⟩, hL.ltB⟩
  · simp only [getA_setL]
    split
    · rename_i hi
      obtain ⟨rfl, _⟩ := hi
      simp only [R, ρ', upd_same]
      exact ⟨hsl, _, _, _, hsl⟩
    · exact R.later _ ρ ρ' _ hL (h.tmp i)
  · simp only [getO_setX]
    by_cases hid : id = d
    · subst hid
      rw [if_pos rfl]
      refine ⟨.slice none 0 0, [], by simp only [ρ', upd_same], ⟨by simp, .inl ⟨rfl, _, rfl⟩⟩, by simp, fun i hi => by omega⟩
    · rw [if_neg hid]
      simp only [ρ']
      rw [upd_ne _ _ _ hid]
      exact (h.obj id).later hL fun _ _ => rfl

theorem RL_setL {w : World} {O : Nat → Prop} {ρ : Nat → Loc} {x : A} : ∀ {l : List A} {vs : List Value} (i : Nat), RL w O l ρ vs → (∀ v, vs[i]? = some v → R w O x ρ v) → RL w O (setL l i x) ρ vs
  | [], vs, i, h, _ => by simpa only [setL] using h
  | a :: l, vs, 0, h, hx => by
    simp only [RL] at h
    obtain ⟨v, vs', rfl, h1, h2⟩ := h
    simp only [setL, RL]
    exact ⟨v, vs', rfl, hx v rfl, h2⟩
  | a :: l, vs, i + 1, h, hx => by
    simp only [RL] at h
    obtain ⟨v, vs', rfl, h1, h2⟩ := h
    simp only [setL, RL]
    exact ⟨v, vs', rfl, h1, RL_setL i h2 fun u hu => hx u (by simpa using hu)⟩

/-- The same, of a nil slice that lies in a box. -/
theorem weak_promoteB {B : Nat} {st : St} (b i d : Nat) (e c : Nat) (el : Nat → Nat → A) {cells : List A} (hb : getO st.objs b = .box cells) (hi : getA cells i = .nils) (hd : getO st.objs d = .virgin) : Weak B st ⟨st.tmps, setX (setX st.objs b (.box (setL cells i (.own d)))) d (.row e c 0 el)⟩ := by
  intro w0 X a w ρ h
  have hv := h.virgin hd
  have hbd : b ≠ d := by rintro rfl; rw [hb] at hd; cases hd
  let ρ' := upd ρ d (.row (.slice none 0 0))
  have hblk : ∀ id b, (ρ' id).block = some b → (ρ id).block = some b := by
    intro id b hb
    by_cases hid : id = d
    · subst hid; simp only [ρ', upd_same] at hb; cases hb
    · simp only [ρ', upd_ne _ _ _ hid] at hb; exact hb
  have how : ∀ b, owned ρ' b → owned ρ b := by rintro b ⟨id, hid⟩; exact ⟨id, hblk id b hid⟩
  have hL : Later w w (Ow X ρ) (Ow X ρ') ρ ρ' := ⟨Nat.le_refl _, fun _ _ _ => rfl, fun b _ hb => by
    rcases hb with hb | hb
    · exact .inl hb
    · exact .inr (how b hb), fun id => by
    by_cases hid : id = d
    · subst hid; exact .inr (.inl hv)
    · exact .inl (upd_ne _ _ _ hid)⟩
  refine ⟨ρ', ⟨h.len, fun i => R.later _ ρ ρ' _ hL (h.tmp i), fun id => ?_, fun i j b hi hj => h.dis i j b (hblk i b hi) (hblk j b hj), h.kept, fun b hb => h.new b (how b hb), h.old, h.dfr⟩, hL.ltB⟩
  simp only [getO_setX]
  by_cases hid : id = d
  · subst hid
    rw [if_pos rfl]
    refine ⟨.slice none 0 0, [], by simp only [ρ', upd_same], ⟨by simp, .inl ⟨rfl, _, rfl⟩⟩, by simp, fun i hi => by omega⟩
  · rw [if_neg hid]
    simp only [ρ']
    rw [upd_ne _ _ _ hid]
    by_cases hib : id = b
    · subst hib
      rw [if_pos rfl]
      have hob := h.obj id
      rw [hb] at hob
      obtain ⟨bb, vs, t, h1, h2, h3⟩ := hob
      refine ⟨bb, vs, t, h1, h2, RL_setL i (RL.later _ _ _ _ hL h3) fun v hv' => ?_⟩
      have := h3.get i v hv'
      rw [hi] at this
      simp only [R] at this
      subst this
      simp only [R, upd_same]
      exact ⟨trivial, _, _, _, rfl⟩
    · rw [if_neg hib]
      exact (h.obj id).later hL fun _ _ => rfl
end Go.Sy
