import Derived.Test.YtphegncldncaiaaSyDef
import Derived.Below
import Derived.Maps.AppendAt
import Derived.Laws.CopyRow
import Derived.Laws.Cells
import Derived.Laws.Entries
import Derived.Laws.IdiomStrings
import Derived.Deep.AppendSrc
set_option linter.unusedSimpArgs false
set_option linter.unusedSectionVars false
set_option linter.unusedVariables false
namespace Go.Sy
open Go.RowKit

/-- Where an object lies. -/
inductive Loc where
  | virgin
  | dead
  | blk (b : Nat)
  | row (v : Value)
  | loop (b : Nat)

/-- The block of a row; one without capacity has none. -/
def rowB : Value → Option Nat
  | .slice (some a) _ (_ + 1) => some a.block
  | _ => none

def Loc.block : Loc → Option Nat
  | .blk b => some b
  | .row v => rowB v
  | .loop b => some b
  | _ => none

/-- A block that holds these cells, of which none is frozen. -/
def cellsAt (w : World) (g : Nat) (cur : Array Value) (e : TypeId) : Prop := ∃ fz, w.heap[g]? = some (.cells cur e fz) ∧ (cur.size ≤ fz.1 ∨ fz.2 = 0)

/-- A row of the call's own: without capacity (nil among these), or a block of its own. -/
def rowR (w : World) (e : TypeId) (c : Nat) (v : Value) (n : Nat) (xs : List Value) : Prop :=
  xs.length = n * c ∧ ((n = 0 ∧ ∃ a, v = .slice a 0 0) ∨
    ∃ g cap cur, v = .slice (some ⟨g, 0, none⟩) n (cap + 1) ∧ cellsAt w g cur e ∧ n ≤ cap + 1 ∧ cap + 1 ≤ maxLen ∧ cur.size = (cap + 1) * c ∧ cur.toList.take (n * c) = xs)

def virg : Nat → Loc := fun _ => .virgin

def Imm (w : World) (O : Nat → Prop) (b : Nat) : Prop := b < w.heap.size ∧ ¬ O b

mutual
def R (w : World) (O : Nat → Prop) : A → (Nat → Loc) → Value → Prop
  | .junk, _, _ => True
  | .opq, _, v => v.oneCell' = true
  | .kb b, _, v => v = .bool b
  | .bool b, _, v => v = .bool b
  | .int k n, _, v => v = .int k n
  | .str s, _, v => v = .string s
  | .nils, _, v => v = .slice none 0 0
  | .sl c n el, _, v => ∃ a cap, v = .slice a n cap ∧ n ≤ cap ∧ cap ≤ maxLen ∧
      (0 < n * c → ∃ ad, a = some ad ∧ Imm w O ad.block ∧ ∀ i, i < n → ∀ j, j < c → ∃ u, w.cell? (ad.add (i * c + j)) = some u ∧ u.oneCell' = true ∧ R w O (el i j) virg u)
  | .ip c el, _, v => ∃ ad, v = .pointer (some ad) ∧ (0 < c → Imm w O ad.block ∧ ∀ j, j < c → ∃ u, w.cell? (ad.add j) = some u ∧ R w O (el j) virg u)
  | .own id, ρ, v => match ρ id with
    | .row v' => v = v' ∧ ∃ a n c, v = .slice a n c
    | .dead => ∃ a n c, v = .slice a n c
    | _ => False
  | .ptr id off, ρ, v => match ρ id with
    | .blk b => v = .pointer (some ⟨b, off, none⟩)
    | .dead => ∃ ad, v = .pointer (some ad)
    | _ => False
  | .rp id c i off, ρ, v => match ρ id with
    | .row v' => ∃ ad n cap, v' = .slice (some ad) n cap ∧ v = .pointer (some (ad.add (i * c + off)))
    | .dead => ∃ ad, v = .pointer (some ad)
    | _ => False
  | .fn f caps, ρ, v => ∃ vs, v = .func (.func f) #[] (List.toArray vs) ∧ RL w O caps ρ vs
  | .agg cs, ρ, v => ∃ vs, v = .agg (List.toArray vs) ∧ RL w O cs ρ vs
  | .tup cs, ρ, v => ∃ vs, v = .tuple (List.toArray vs) ∧ RL w O cs ρ vs
  | .anyb, _, v => ∃ b, v = .bool b
  | .nilp, _, v => v = .pointer none
  | .yld id, ρ, v => match ρ id with
    | .loop b => v = .func (.yield b) #[] #[]
    | .dead => v.oneCell' = true
    | _ => False
  | .ov id c lo n, ρ, v => match ρ id with
    | .row v' => ∃ a N cap a', v' = .slice a N cap ∧ lo + n ≤ N ∧ v = .slice a' n (cap - lo) ∧ (lo = 0 → a' = a) ∧ (0 < n → ∃ ad, a = some ad ∧ a' = some (ad.add (lo * c)))
    | .dead => ∃ a cap, v = .slice a n cap
    | _ => False
  | .ap id off, ρ, v => match ρ id with
    | .blk b => v = .pointer (some ⟨b, off, none⟩)
    | .dead => ∃ ad, v = .pointer (some ad)
    | _ => False
def RL (w : World) (O : Nat → Prop) : List A → (Nat → Loc) → List Value → Prop
  | [], _, vs => vs = []
  | a :: l, ρ, vs => ∃ v vs', vs = v :: vs' ∧ R w O a ρ v ∧ RL w O l ρ vs'
end

/-- What keeps readings: old blocks that nobody owns are as they were; an object may die, a virgin one may be made. -/
structure Later (w w' : World) (O O' : Nat → Prop) (ρ ρ' : Nat → Loc) : Prop where
  size : w.heap.size ≤ w'.heap.size
  same : ∀ b, b < w.heap.size → ¬ O b → w'.heap[b]? = w.heap[b]?
  own : ∀ b, b < w.heap.size → O' b → O b
  loc : ∀ id, ρ' id = ρ id ∨ ρ id = .virgin ∨ ρ' id = .dead

theorem Later.virg {w w' : World} {O O' : Nat → Prop} {ρ ρ' : Nat → Loc} (h : Later w w' O O' ρ ρ') : Later w w' O O' virg virg :=
  ⟨h.size, h.same, h.own, fun _ => .inl rfl⟩

theorem Later.imm {w w' : World} {O O' : Nat → Prop} {ρ ρ' : Nat → Loc} (h : Later w w' O O' ρ ρ') {b : Nat} (hb : Imm w O b) : Imm w' O' b :=
  ⟨Nat.lt_of_lt_of_le hb.1 h.size, fun ho => hb.2 (h.own b hb.1 ho)⟩

theorem Later.cell {w w' : World} {O O' : Nat → Prop} {ρ ρ' : Nat → Loc} (h : Later w w' O O' ρ ρ') {p : Addr} (hb : Imm w O p.block) : w'.cell? p = w.cell? p :=
  World.cell?_of_block (w := w) (h.same p.block hb.1 hb.2)

theorem add_block (a : Addr) (n : Nat) : (a.add n).block = a.block := by unfold Addr.add; split <;> rfl
theorem add_add (a : Addr) (i j : Nat) : (a.add i).add j = a.add (i + j) := by
  unfold Addr.add
  by_cases hi : i = 0 <;> by_cases hj : j = 0 <;> simp [hi, hj, Nat.add_assoc]

theorem R.own_shape {w : World} {O : Nat → Prop} {id : Nat} {ρ : Nat → Loc} {v : Value} (h : R w O (.own id) ρ v) : ∃ a n c, v = .slice a n c := by
  simp only [R] at h
  split at h
  · exact h.2
  · exact h
  · exact h.elim
theorem R.ptr_shape {w : World} {O : Nat → Prop} {id off : Nat} {ρ : Nat → Loc} {v : Value} (h : R w O (.ptr id off) ρ v) : ∃ ad, v = .pointer (some ad) := by
  simp only [R] at h
  split at h
  · exact ⟨_, h⟩
  · exact h
  · exact h.elim
theorem R.ap_shape {w : World} {O : Nat → Prop} {id off : Nat} {ρ : Nat → Loc} {v : Value} (h : R w O (.ap id off) ρ v) : ∃ ad, v = .pointer (some ad) := by
  simp only [R] at h
  split at h
  · exact ⟨_, h⟩
  · exact h
  · exact h.elim
theorem R.rp_shape {w : World} {O : Nat → Prop} {id c i off : Nat} {ρ : Nat → Loc} {v : Value} (h : R w O (.rp id c i off) ρ v) : ∃ ad, v = .pointer (some ad) := by
  simp only [R] at h
  split at h
  · obtain ⟨_, _, _, _, rfl⟩ := h; exact ⟨_, rfl⟩
  · exact h
  · exact h.elim

theorem R.yld_shape {w : World} {O : Nat → Prop} {id : Nat} {ρ : Nat → Loc} {v : Value} (h : R w O (.yld id) ρ v) : v.oneCell' = true := by
  simp only [R] at h
  split at h
  · subst h; rfl
  · exact h
  · exact h.elim
theorem R.ov_shape {w : World} {O : Nat → Prop} {id c lo n : Nat} {ρ : Nat → Loc} {v : Value} (h : R w O (.ov id c lo n) ρ v) : ∃ a cap, v = .slice a n cap := by
  simp only [R] at h
  split at h
  · obtain ⟨_, _, _, _, _, _, rfl, _⟩ := h; exact ⟨_, _, rfl⟩
  · exact h
  · exact h.elim

theorem R.cell_of {w : World} {O : Nat → Prop} {a : A} {ρ : Nat → Loc} {v : Value} (h : R w O a ρ v) (hc : isCell a = true) : v.oneCell' = true := by
  cases a with
  | junk => cases hc
  | agg _ => cases hc
  | tup _ => cases hc
  | own id => obtain ⟨_, _, _, rfl⟩ := h.own_shape; rfl
  | ptr id off => obtain ⟨_, rfl⟩ := h.ptr_shape; rfl
  | rp id c i off => obtain ⟨_, rfl⟩ := h.rp_shape; rfl
  | yld id => exact h.yld_shape
  | ov id c lo n => obtain ⟨_, _, rfl⟩ := h.ov_shape; rfl
  | ap id off => obtain ⟨_, rfl⟩ := h.ap_shape; rfl
  | anyb => simp only [R] at h; obtain ⟨_, rfl⟩ := h; rfl
  | nilp => simp only [R] at h; subst h; rfl
  | opq => simpa only [R] using h
  | kb b => simp only [R] at h; subst h; rfl
  | bool b => simp only [R] at h; subst h; rfl
  | int k n => simp only [R] at h; subst h; rfl
  | str s => simp only [R] at h; subst h; rfl
  | nils => simp only [R] at h; subst h; rfl
  | sl c n el => simp only [R] at h; obtain ⟨_, _, rfl, _⟩ := h; rfl
  | ip c el => simp only [R] at h; obtain ⟨_, rfl, _⟩ := h; rfl
  | fn f l => simp only [R] at h; obtain ⟨_, rfl, _⟩ := h; rfl

mutual
theorem R.later {w w' : World} {O O' : Nat → Prop} : ∀ (a : A) (ρ ρ' : Nat → Loc) (v : Value), Later w w' O O' ρ ρ' → R w O a ρ v → R w' O' a ρ' v
  | .junk, _, _, _, _, _ => by simp only [R]
  | .opq, _, _, _, _, h => by simpa only [R] using h
  | .kb _, _, _, _, _, h => by simpa only [R] using h
  | .bool _, _, _, _, _, h => by simpa only [R] using h
  | .int _ _, _, _, _, _, h => by simpa only [R] using h
  | .str _, _, _, _, _, h => by simpa only [R] using h
  | .nils, _, _, _, _, h => by simpa only [R] using h
  | .sl c n el, _, _, _, hl, h => by
    simp only [R] at h ⊢
    obtain ⟨a, cap, rfl, h1, h2, h3⟩ := h
    refine ⟨a, cap, rfl, h1, h2, fun hp => ?_⟩
    obtain ⟨ad, rfl, hi, hc⟩ := h3 hp
    refine ⟨ad, rfl, hl.imm hi, fun i hin j hj => ?_⟩
    obtain ⟨u, hu, h1, hr⟩ := hc i hin j hj
    exact ⟨u, (hl.cell (by rw [add_block]; exact hi)).trans hu, h1, R.later (el i j) virg virg u hl.virg hr⟩
  | .ip c el, _, _, _, hl, h => by
    simp only [R] at h ⊢
    obtain ⟨ad, rfl, h3⟩ := h
    refine ⟨ad, rfl, fun hp => ?_⟩
    obtain ⟨hi, hc⟩ := h3 hp
    refine ⟨hl.imm hi, fun j hj => ?_⟩
    obtain ⟨u, hu, hr⟩ := hc j hj
    exact ⟨u, (hl.cell (by rw [add_block]; exact hi)).trans hu, R.later (el j) virg virg u hl.virg hr⟩
  | .own id, ρ, ρ', v, hl, h => by
    have hc := h.own_shape
    simp only [R] at h ⊢
    rcases hl.loc id with e | e | e
    · rw [e]; exact h
    · rw [e] at h; exact h.elim
    · rw [e]; exact hc
  | .ptr id off, ρ, ρ', v, hl, h => by
    have hc := h.ptr_shape
    simp only [R] at h ⊢
    rcases hl.loc id with e | e | e
    · rw [e]; exact h
    · rw [e] at h; exact h.elim
    · rw [e]; exact hc
  | .rp id c i off, ρ, ρ', v, hl, h => by
    have hc := h.rp_shape
    simp only [R] at h ⊢
    rcases hl.loc id with e | e | e
    · rw [e]; exact h
    · rw [e] at h; exact h.elim
    · rw [e]; exact hc
  | .fn f l, ρ, ρ', v, hl, h => by
    simp only [R] at h ⊢
    obtain ⟨vs, rfl, h⟩ := h
    exact ⟨vs, rfl, RL.later l ρ ρ' vs hl h⟩
  | .agg l, ρ, ρ', v, hl, h => by
    simp only [R] at h ⊢
    obtain ⟨vs, rfl, h⟩ := h
    exact ⟨vs, rfl, RL.later l ρ ρ' vs hl h⟩
  | .tup l, ρ, ρ', v, hl, h => by
    simp only [R] at h ⊢
    obtain ⟨vs, rfl, h⟩ := h
    exact ⟨vs, rfl, RL.later l ρ ρ' vs hl h⟩
  | .anyb, _, _, _, _, h => by simpa only [R] using h
  | .nilp, _, _, _, _, h => by simpa only [R] using h
  | .yld id, ρ, ρ', v, hl, h => by
    have hc := h.yld_shape
    simp only [R] at h ⊢
    rcases hl.loc id with e | e | e
    · rw [e]; exact h
    · rw [e] at h; exact h.elim
    · rw [e]; exact hc
  | .ov id c lo n, ρ, ρ', v, hl, h => by
    have hc := h.ov_shape
    simp only [R] at h ⊢
    rcases hl.loc id with e | e | e
    · rw [e]; exact h
    · rw [e] at h; exact h.elim
    · rw [e]; exact hc
  | .ap id off, ρ, ρ', v, hl, h => by
    have hc := h.ap_shape
    simp only [R] at h ⊢
    rcases hl.loc id with e | e | e
    · rw [e]; exact h
    · rw [e] at h; exact h.elim
    · rw [e]; exact hc
theorem RL.later {w w' : World} {O O' : Nat → Prop} : ∀ (l : List A) (ρ ρ' : Nat → Loc) (vs : List Value), Later w w' O O' ρ ρ' → RL w O l ρ vs → RL w' O' l ρ' vs
  | [], _, _, _, _, h => by simpa only [RL] using h
  | a :: l, ρ, ρ', vs, hl, h => by
    simp only [RL] at h ⊢
    obtain ⟨v, vs', rfl, h1, h2⟩ := h
    exact ⟨v, vs', rfl, R.later a ρ ρ' v hl h1, RL.later l ρ ρ' vs' hl h2⟩
end

section lists
variable {w : World} {O : Nat → Prop} {ρ : Nat → Loc}
theorem RL.len : ∀ {l : List A} {vs : List Value}, RL w O l ρ vs → vs.length = l.length
  | [], vs, h => by simp only [RL] at h; subst h; rfl
  | a :: l, vs, h => by simp only [RL] at h; obtain ⟨v, vs', rfl, _, h2⟩ := h; simp [RL.len h2]
theorem RL.get : ∀ {l : List A} {vs : List Value} (i : Nat) (v : Value), RL w O l ρ vs → vs[i]? = some v → R w O (getA l i) ρ v
  | [], vs, i, v, h, hv => by simp only [RL] at h; subst h; simp at hv
  | a :: l, vs, i, v, h, hv => by
    simp only [RL] at h; obtain ⟨v', vs', rfl, h1, h2⟩ := h
    cases i with
    | zero => simp at hv; subst hv; exact h1
    | succ i => simp at hv; exact RL.get i v h2 hv
theorem RL.append : ∀ {l m : List A} {vs us : List Value}, RL w O l ρ vs → RL w O m ρ us → RL w O (l ++ m) ρ (vs ++ us)
  | [], m, vs, us, h, h' => by simp only [RL] at h; subst h; simpa using h'
  | a :: l, m, vs, us, h, h' => by
    simp only [RL] at h; obtain ⟨v, vs', rfl, h1, h2⟩ := h
    simp only [List.cons_append, RL]
    exact ⟨v, vs' ++ us, rfl, h1, RL.append h2 h'⟩
theorem RL.drop : ∀ (n : Nat) {l : List A} {vs : List Value}, RL w O l ρ vs → RL w O (dropN n l) ρ (vs.drop n)
  | 0, l, vs, h => by simpa [dropN] using h
  | n + 1, [], vs, h => by simp only [RL] at h; subst h; simp [dropN, RL]
  | n + 1, a :: l, vs, h => by
    simp only [RL] at h; obtain ⟨v, vs', rfl, h1, h2⟩ := h
    simpa [dropN] using RL.drop n h2
theorem RL.take : ∀ (n : Nat) {l m : List A} {vs : List Value}, RL w O l ρ vs → takeN n l = some m → RL w O m ρ (vs.take n) ∧ (vs.take n).length = n
  | 0, l, m, vs, h, hm => by simp [takeN] at hm; subst hm; simp [RL]
  | n + 1, [], m, vs, h, hm => by simp [takeN] at hm
  | n + 1, a :: l, m, vs, h, hm => by
    simp only [RL] at h; obtain ⟨v, vs', rfl, h1, h2⟩ := h
    simp only [takeN] at hm
    split at hm
    · rename_i m' hm'
      simp at hm; subst hm
      obtain ⟨h3, h4⟩ := RL.take n h2 hm'
      simp only [List.take_succ_cons, RL]
      exact ⟨⟨v, vs'.take n, rfl, h1, h3⟩, by simp [h4]⟩
    · cases hm
theorem RL.setN : ∀ {l : List A} {o : Nat} {cs m : List A} {vs us : List Value}, RL w O l ρ vs → RL w O cs ρ us → Sy.setN l o cs = some m →
    RL w O m ρ (vs.take o ++ us ++ vs.drop (o + us.length)) ∧ o + us.length ≤ vs.length ∨ (cs = [] ∧ m = l)
  | l, o, [], m, vs, us, h, h', hm => by simp [Sy.setN] at hm; exact .inr ⟨rfl, hm.symm⟩
  | [], o, c :: cs, m, vs, us, h, h', hm => by simp [Sy.setN] at hm
  | a :: l, 0, c :: cs, m, vs, us, h, h', hm => by
    simp only [RL] at h h'
    obtain ⟨v, vs', rfl, h1, h2⟩ := h
    obtain ⟨u, us', rfl, h3, h4⟩ := h'
    simp only [Sy.setN] at hm
    split at hm
    · rename_i m' hm'
      simp at hm; subst hm
      left
      rcases RL.setN h2 h4 hm' with ⟨h5, h6⟩ | ⟨rfl, rfl⟩
      · simp only [RL]
        refine ⟨⟨u, us' ++ vs'.drop us'.length, by simp, h3, by simpa using h5⟩, by simp; omega⟩
      · simp only [RL] at h4
        subst h4
        simp only [RL]
        exact ⟨⟨u, vs', by simp, h3, h2⟩, by simp⟩
    · cases hm
  | a :: l, o + 1, c :: cs, m, vs, us, h, h', hm => by
    simp only [RL] at h
    obtain ⟨v, vs', rfl, h1, h2⟩ := h
    simp only [Sy.setN] at hm
    split at hm
    · rename_i m' hm'
      simp at hm; subst hm
      left
      rcases RL.setN h2 h' hm' with ⟨h5, h6⟩ | ⟨h7, _⟩
      · simp only [RL]
        refine ⟨⟨v, _, rfl, h1, ?_⟩, by simp; omega⟩
        have e : o + 1 + us.length = (o + us.length) + 1 := by omega
        simpa [e] using h5
      · cases h7
    · cases hm
theorem RL.mem_cell : ∀ {l : List A} {vs : List Value}, RL w O l ρ vs → allCell l = true → ∀ v ∈ vs, v.oneCell' = true
  | [], vs, h, _ => by simp only [RL] at h; subst h; simp
  | a :: l, vs, h, hc => by
    simp only [RL] at h; obtain ⟨v, vs', rfl, h1, h2⟩ := h
    simp only [allCell, Bool.and_eq_true] at hc
    intro u hu
    rcases List.mem_cons.1 hu with rfl | hu
    · exact h1.cell_of hc.1
    · exact RL.mem_cell h2 hc.2 u hu
end lists

theorem allL_spec {f : A → Bool} : ∀ {l : List A}, allL f l = true → ∀ i, i < l.length → f (getA l i) = true
  | [], _, i, hi => by simp at hi
  | a :: l, h, i, hi => by
    simp only [allL, Bool.and_eq_true] at h
    cases i with
    | zero => exact h.1
    | succ i => exact allL_spec h.2 i (by simpa using hi)

theorem R.closed {w : World} {O : Nat → Prop} {ρ : Nat → Loc} (ρ' : Nat → Loc) : ∀ (d : Nat),
    (∀ (a : A) (v : Value), Sy.closed d a = true → R w O a ρ v → R w O a ρ' v) ∧ (∀ (l : List A) (vs : List Value), allL (Sy.closed d) l = true → RL w O l ρ vs → RL w O l ρ' vs)
  | 0 => ⟨fun a v h => by simp [Sy.closed] at h, fun l vs h hr => by
      cases l with
      | nil => simpa only [RL] using hr
      | cons a l => simp [allL, Sy.closed] at h⟩
  | d + 1 => by
    obtain ⟨_, ih2⟩ := R.closed ρ' d
    have H : ∀ (a : A) (v : Value), Sy.closed (d + 1) a = true → R w O a ρ v → R w O a ρ' v := by
      intro a v hc hr
      cases a with
      | own id => simp [Sy.closed] at hc
      | ptr id off => simp [Sy.closed] at hc
      | rp id c i off => simp [Sy.closed] at hc
      | yld id => simp [Sy.closed] at hc
      | ov id c lo n => simp [Sy.closed] at hc
      | ap id off => simp [Sy.closed] at hc
      | fn f l =>
        simp only [R] at hr ⊢
        obtain ⟨vs, rfl, h⟩ := hr
        exact ⟨vs, rfl, ih2 l vs hc h⟩
      | agg l =>
        simp only [R] at hr ⊢
        obtain ⟨vs, rfl, h⟩ := hr
        exact ⟨vs, rfl, ih2 l vs hc h⟩
      | tup l =>
        simp only [R] at hr ⊢
        obtain ⟨vs, rfl, h⟩ := hr
        exact ⟨vs, rfl, ih2 l vs hc h⟩
      | junk => simp only [R]
      | _ => simpa only [R] using hr
    refine ⟨H, ?_⟩
    intro l
    induction l with
    | nil => intro vs _ h; simpa only [RL] using h
    | cons a l ih =>
      intro vs hc h
      simp only [allL, Bool.and_eq_true] at hc
      simp only [RL] at h ⊢
      obtain ⟨v, vs', rfl, h1, h2⟩ := h
      exact ⟨v, vs', rfl, H a v hc.1 h1, ih vs' hc.2 h2⟩

/-- What an object of the frame is. -/
def ObR (w : World) (O : Nat → Prop) (ρ : Nat → Loc) (o : Ob) (l : Loc) : Prop :=
  match o with
  | .virgin => l = .virgin
  | .dead => l = .dead
  | .box cells => ∃ b vs t, l = .blk b ∧ w.heap[b]? = some (.cells (List.toArray vs) t (0, 0)) ∧ RL w O cells ρ vs
  | .row e c n el => ∃ v xs, l = .row v ∧ rowR w e c v n xs ∧ (∀ u ∈ xs, u.oneCell' = true) ∧
      ∀ i, i < n → ∀ j, j < c → ∃ u, xs[i * c + j]? = some u ∧ R w O (el i j) virg u
  | .lp ts ps asg bod sta pend => ∃ b r vs, l = .loop b ∧ w.heap[b]? = some (.loop r) ∧ r.tmps = List.toArray vs ∧ RL w O ts ρ vs ∧ r.params.toList = ps ∧ r.assign = asg ∧ r.body = bod ∧ r.state = sta ∧ r.pending = pend

def owned (ρ : Nat → Loc) (b : Nat) : Prop := ∃ id, (ρ id).block = some b

def markOf (D : Nat) : Deferred := { target := .collected D, args := #[] }

/-- The frame's state: w0: the world when the call began; X: the blocks that the call's results must not lie in. -/
structure Rel (w0 : World) (X : Nat → Prop) (st : St) (a : Act) (w : World) (ρ : Nat → Loc) : Prop where
  len : a.tmps.size = st.tmps.length
  tmp : ∀ i, R w (fun b => X b ∨ owned ρ b) (getA st.tmps i) ρ (a.tmps.getD i undef)
  obj : ∀ id, ObR w (fun b => X b ∨ owned ρ b) ρ (getO st.objs id) (ρ id)
  dis : ∀ i j b, (ρ i).block = some b → (ρ j).block = some b → i = j
  kept : Below w0.heap.size w0 w
  new : ∀ b, owned ρ b → w0.heap.size ≤ b ∧ b < w.heap.size
  old : ∀ b, X b → b < w0.heap.size
  dfr : ∃ Ds : List Nat, a.defers = Ds.map markOf ∧ Ds.Nodup ∧ ∀ D ∈ Ds, w.heap[D]? = some (.deferred (some [])) ∧ w0.heap.size ≤ D

end Go.Sy
