/- What two nodes do, in plain words. -/
import Derived.Test.YthfbahebeembeaaUZA
set_option linter.unusedSimpArgs false
set_option linter.unusedSectionVars false
set_option linter.unusedVariables false
namespace Go.Mb
open Go.Sy
set_option linter.unusedVariables false
/-- The changes of one node. -/
structure Part (o : Int) (P : List Chg) : Prop where
  g : GoodH 4 P
  o : ∀ y ∈ P, y.org = o
theorem good_take {n : Int} {l : List Chg} (g : GoodH n l) (m : Nat) : GoodH n (l.take m) := by
  have e : ∀ k, k < m → (l.take m).getD k default = l.getD k default := fun k hk => by
    unfold List.getD; rw [List.getElem?_take_of_lt hk]
  refine ⟨fun k hk => ?_, fun k hk => ?_⟩
  · rw [List.length_take] at hk
    rw [e k (by omega)]; exact g.v k (by omega)
  · rw [List.length_take] at hk
    rw [e k (by omega)]
    have := g.f k (by omega)
    cases k with
    | zero => exact this
    | succ k =>
      show folE (some ((l.take m).getD k default)) _ = 0
      rw [e k (by omega)]; exact this
theorem good_append {n : Int} {P Q : List Chg} (gP : GoodH n P) (gQ : GoodH n Q) (h : ∀ x ∈ P, ∀ y ∈ Q, x.org < y.org) : GoodH n (P ++ Q) := by
  refine ⟨fun k hk => ?_, fun k hk => ?_⟩
  · rw [List.length_append] at hk
    by_cases c : k < P.length
    · rw [getD_append_left c]; exact gP.v k c
    · rw [getD_append_right (by omega)]; exact gQ.v _ (by omega)
  · rw [List.length_append] at hk
    by_cases c : k < P.length
    · rw [getD_append_left c]
      have := gP.f k c
      cases k with
      | zero => exact this
      | succ k =>
        show folE (some ((P ++ Q).getD k default)) _ = 0
        rw [getD_append_left (by omega)]; exact this
    · rw [getD_append_right (by omega)]
      cases k with
      | zero =>
        have : P.length = 0 := by omega
        rw [this]; exact gQ.f 0 (by omega)
      | succ k =>
        show folE (some ((P ++ Q).getD k default)) _ = 0
        by_cases c2 : k < P.length
        · have e : P.length = k + 1 := by omega
          rw [getD_append_left c2, e, Nat.sub_self]
          have h0 := folE_none.1 (gQ.f 0 (by omega))
          refine folE_some.2 (.inl ⟨h _ (by rw [getD_lt c2]; exact List.getElem_mem _) _ (by rw [getD_lt (show 0 < Q.length by omega)]; exact List.getElem_mem _), h0⟩)
        · rw [getD_append_right (by omega)]
          have := gQ.f (k - P.length + 1) (by omega)
          rw [show k + 1 - P.length = k - P.length + 1 by omega]
          exact this
theorem Part.take {o : Int} {P : List Chg} (h : Part o P) (m : Nat) : Part o (P.take m) := ⟨good_take h.g m, fun y hy => h.o y (List.mem_of_mem_take hy)⟩
theorem Part.cnt {o : Int} {P : List Chg} (h : Part o P) {k : Nat} (hk : k < P.length) : (P.getD k default).cnt = (k : Int) + 1 := by
  have h1 := h.g.cnt hk
  have h2 := h.o (P.getD k default) (by rw [getD_lt hk]; exact List.getElem_mem _)
  rw [h1, h2]
  have : cntO (P.take k) o = k := by
    unfold cntO
    rw [List.filter_eq_self.2 (fun y hy => by rw [h.o y (List.mem_of_mem_take hy)]; simp), List.length_take]; omega
  rw [this]
theorem Part.count {o : Int} {P : List Chg} (h : Part o P) : cntO P o = P.length := by
  unfold cntO
  rw [List.filter_eq_self.2 (fun y hy => by rw [h.o y hy]; simp)]
theorem Part.other {o q : Int} {P : List Chg} (h : Part o P) (hne : o ≠ q) : cntO P q = 0 := cntO_none fun y hy e => hne (by rw [← h.o y hy, e])
/-- The first a changes of one node, the first b of the other one. -/
def J (P Q : List Chg) (a b : Nat) : List Chg := P.take a ++ Q.take b
section
variable {P Q : List Chg} (hP : Part 0 P) (hQ : Part 1 Q)
include hP hQ
theorem J_good (a b : Nat) : GoodH 4 (J P Q a b) := good_append (good_take hP.g a) (good_take hQ.g b) fun x hx y hy => by
  rw [hP.o x (List.mem_of_mem_take hx), hQ.o y (List.mem_of_mem_take hy)]; omega
theorem J_cnt0 {a : Nat} (b : Nat) (ha : a ≤ P.length) : cntO (J P Q a b) 0 = a := by
  have h1 := (hP.take a).count
  have h2 := (hQ.take b).other (q := 0) (by omega)
  unfold cntO at h1 h2 ⊢
  unfold J
  rw [List.filter_append, List.length_append, h1, h2, List.length_take]; omega
theorem J_cnt1 (a : Nat) {b : Nat} (hb : b ≤ Q.length) : cntO (J P Q a b) 1 = b := by
  have h1 := (hP.take a).other (q := 1) (by omega)
  have h2 := (hQ.take b).count
  unfold cntO at h1 h2 ⊢
  unfold J
  rw [List.filter_append, List.length_append, h1, h2, List.length_take]; omega
theorem J_cntx (a b : Nat) {o : Int} (h0 : o ≠ 0) (h1 : o ≠ 1) : cntO (J P Q a b) o = 0 := by
  refine cntO_none fun y hy e => ?_
  rcases List.mem_append.1 hy with h | h
  · exact h0 (by rw [← e, hP.o y (List.mem_of_mem_take h)])
  · exact h1 (by rw [← e, hQ.o y (List.mem_of_mem_take h)])
theorem J_vec {a b : Nat} (ha : a ≤ P.length) (hb : b ≤ Q.length) : vecL 4 (J P Q a b) = [(a : Int), (b : Int), 0, 0] := by
  have e0 := J_cnt0 hP hQ b ha
  have e1 := J_cnt1 hP hQ a hb
  have e2 := J_cntx hP hQ a b (o := 2) (by omega) (by omega)
  have e3 := J_cntx hP hQ a b (o := 3) (by omega) (by omega)
  show [(cntO (J P Q a b) ((0 : Nat) : Int) : Int), (cntO (J P Q a b) ((1 : Nat) : Int) : Int), (cntO (J P Q a b) ((2 : Nat) : Int) : Int), (cntO (J P Q a b) ((3 : Nat) : Int) : Int)] = _
  rw [show cntO (J P Q a b) ((0 : Nat) : Int) = a from e0, show cntO (J P Q a b) ((1 : Nat) : Int) = b from e1, show cntO (J P Q a b) ((2 : Nat) : Int) = 0 from e2, show cntO (J P Q a b) ((3 : Nat) : Int) = 0 from e3]
  rfl
omit hP hQ in
theorem J_mem {a b : Nat} {z : Chg} : z ∈ J P Q a b ↔ (∃ k, k < a ∧ k < P.length ∧ P.getD k default = z) ∨ ∃ k, k < b ∧ k < Q.length ∧ Q.getD k default = z := by
  have key : ∀ {R : List Chg} {m : Nat}, z ∈ R.take m ↔ ∃ k, k < m ∧ k < R.length ∧ R.getD k default = z := by
    intro R m
    constructor
    · intro h
      obtain ⟨i, hi, e⟩ := List.getElem_of_mem h
      rw [List.length_take] at hi
      exact ⟨i, by omega, by omega, by rw [getD_lt (by omega), ← e, List.getElem_take]⟩
    · rintro ⟨k, h1, h2, rfl⟩
      rw [getD_lt h2, List.mem_take_iff_getElem]
      exact ⟨k, by omega, rfl⟩
  unfold J
  rw [List.mem_append, key, key]
omit hP hQ in
theorem J_len (a b : Nat) : (J P Q a b).length ≤ P.length + Q.length := by
  unfold J
  rw [List.length_append, List.length_take, List.length_take]; omega
/-- MERGING. -/
theorem J_merge {a b m n : Nat} {l : List Chg} (hs : P.length + Q.length ≤ 1000) (h1 : ∀ z ∈ J P Q a b, z ∈ J P Q m n) (h2 : ∀ z ∈ l, z ∈ J P Q m n) (h3 : ∀ z ∈ J P Q m n, z ∈ J P Q a b ∨ z ∈ l) : mergeM ⟨4, J P Q a b⟩ l = (⟨4, J P Q m n⟩, 0) := by
  have q1 := J_len (P := P) (Q := Q) a b
  have q2 := J_len (P := P) (Q := Q) m n
  exact merge_eq (by omega) (by omega) (J_good hP hQ a b) (J_good hP hQ m n) (by omega) (by omega) fun z => ⟨h3 z, fun h => h.elim (h1 z) (h2 z)⟩
theorem J_check (a b : Nat) (hs : P.length + Q.length ≤ 1000) : chkHi ⟨4, J P Q a b⟩ = 0 := by
  have q1 := J_len (P := P) (Q := Q) a b
  exact GoodH.check (h := ⟨4, J P Q a b⟩) (J_good hP hQ a b) (by show (1 : Int) ≤ 4; omega) (by show (4 : Int) ≤ 16; omega) (by show (J P Q a b).length ≤ 1000; omega)
theorem J_miss {a b : Nat} (a' b' : Nat) (hs : P.length + Q.length ≤ 1000) (ha : a ≤ P.length) (hb : b ≤ Q.length) : missM ⟨4, J P Q a' b'⟩ (vecL 4 (J P Q a b)) = ((J P Q a' b').filter (unkB [(a : Int), (b : Int), 0, 0]), 0) := by
  rw [J_vec hP hQ ha hb]
  unfold missM
  rw [J_check hP hQ a' b' hs, if_neg (by simp), if_neg (by show ¬ (((4 : Nat) : Int) != 4) = true; decide), if_neg]
  simp
/-- AN EXCHANGE: what one gets from the other one. -/
theorem J_exch {a b a' b' : Nat} (hs : P.length + Q.length ≤ 1000) (ha : a ≤ P.length) (hb : b ≤ Q.length) : mergeM ⟨4, J P Q a b⟩ ((J P Q a' b').filter (unkB [(a : Int), (b : Int), 0, 0])) = (⟨4, J P Q (max a a') (max b b')⟩, 0) := by
  refine J_merge hP hQ hs (fun z hz => ?_) (fun z hz => ?_) fun z hz => ?_
  · rw [J_mem] at hz ⊢
    rcases hz with ⟨k, h1, h2, h3⟩ | ⟨k, h1, h2, h3⟩
    · exact .inl ⟨k, by omega, h2, h3⟩
    · exact .inr ⟨k, by omega, h2, h3⟩
  · have hz := (List.mem_filter.1 hz).1
    rw [J_mem] at hz ⊢
    rcases hz with ⟨k, h1, h2, h3⟩ | ⟨k, h1, h2, h3⟩
    · exact .inl ⟨k, by omega, h2, h3⟩
    · exact .inr ⟨k, by omega, h2, h3⟩
  · rw [J_mem] at hz
    rw [J_mem, List.mem_filter, J_mem]
    rcases hz with ⟨k, h1, h2, h3⟩ | ⟨k, h1, h2, h3⟩
    · by_cases c : k < a
      · exact .inl (.inl ⟨k, c, h2, h3⟩)
      · refine .inr ⟨.inl ⟨k, by omega, h2, h3⟩, ?_⟩
        have e1 := hP.cnt h2
        have e2 := hP.o (P.getD k default) (by rw [getD_lt h2]; exact List.getElem_mem _)
        rw [h3] at e1 e2
        unfold unkB
        rw [e1, e2, decide_eq_true_eq]
        show (k : Int) + 1 > (a : Int)
        omega
    · by_cases c : k < b
      · exact .inl (.inr ⟨k, c, h2, h3⟩)
      · refine .inr ⟨.inr ⟨k, by omega, h2, h3⟩, ?_⟩
        have e1 := hQ.cnt h2
        have e2 := hQ.o (Q.getD k default) (by rw [getD_lt h2]; exact List.getElem_mem _)
        rw [h3] at e1 e2
        unfold unkB
        rw [e1, e2, decide_eq_true_eq]
        show (k : Int) + 1 > (b : Int)
        omega
end
theorem good_snoc {n : Int} {P : List Chg} {x : Chg} (g : GoodH n P) (hv : validX n x = true) (h0 : P.length = 0 → x.cnt = 1) (h1 : 0 < P.length → Nxt (P.getD (P.length - 1) default) x) : GoodH n (P ++ [x]) := by
  refine ⟨fun k hk => ?_, fun k hk => ?_⟩
  · rw [List.length_append] at hk
    by_cases c : k < P.length
    · rw [getD_append_left c]; exact g.v k c
    · rw [getD_append_right (by omega)]
      simp only [List.length_singleton] at hk
      rw [show k - P.length = 0 by omega]; exact hv
  · rw [List.length_append] at hk
    simp only [List.length_singleton] at hk
    by_cases c : k < P.length
    · rw [getD_append_left c]
      have := g.f k c
      cases k with
      | zero => exact this
      | succ k =>
        show folE (some ((P ++ [x]).getD k default)) _ = 0
        rw [getD_append_left (by omega)]; exact this
    · rw [getD_append_right (by omega), show k - P.length = 0 by omega]
      cases k with
      | zero => exact folE_none.2 (h0 (by omega))
      | succ k =>
        show folE (some ((P ++ [x]).getD k default)) x = 0
        rw [getD_append_left (by omega), show k = P.length - 1 by omega]
        exact folE_some.2 (h1 (by omega))
/-- One more change of a node, at the end of its changes. -/
theorem part_next {o : Int} {P l : List Chg} (hP : Part o P) (g : GoodH 4 l) (hl : l.length ≤ 1000) (hsub : ∀ y ∈ P, y ∈ l) (hc : cntO l o = P.length) (kind : Int) (c : Ctc) (hv : validX 4 (nextM l o kind c) = true) : Part o (P ++ [nextM l o kind c]) := by
  obtain ⟨h1, _, h3⟩ := next_num g (by omega) o kind c
  refine ⟨good_snoc hP.g hv (fun e => by rw [h1, hc, e]; rfl) fun e => ?_, fun y hy => ?_⟩
  · have hm : P.getD (P.length - 1) default ∈ P := by rw [getD_lt (by omega)]; exact List.getElem_mem _
    refine .inr ⟨hP.o _ hm, ?_, h3 _ (hsub _ hm)⟩
    rw [h1, hc, hP.cnt (by omega)]; omega
  · rcases List.mem_append.1 hy with h | h
    · exact hP.o y h
    · rw [List.mem_singleton.1 h]; rfl
/-- What is known of both nodes behind m steps. -/
def Inv (m : Nat) (L : List His) : Prop := ∃ P Q a b, L = [⟨4, J P Q P.length b⟩, ⟨4, J P Q a Q.length⟩] ∧ a ≤ P.length ∧ b ≤ Q.length ∧ Part 0 P ∧ Part 1 Q ∧ P.length + Q.length ≤ m
theorem ins_J0 {P Q : List Chg} {b : Nat} {kind : Int} {c : Ctc} (hP : Part 0 P) (hQ : Part 1 Q) (hs : P.length + Q.length ≤ 900) (hv : validX 4 (nextM (J P Q P.length b) 0 kind c) = true) :
    Part 0 (P ++ [nextM (J P Q P.length b) 0 kind c]) ∧ insM (J P Q P.length b) (nextM (J P Q P.length b) 0 kind c) = J (P ++ [nextM (J P Q P.length b) 0 kind c]) Q (P.length + 1) b := by
  have g := J_good hP hQ P.length b
  have hlen := J_len (P := P) (Q := Q) P.length b
  have hp := part_next hP g (by omega) (fun y hy => by unfold J; rw [List.take_length]; exact List.mem_append.2 (.inl hy)) (J_cnt0 hP hQ b (Nat.le_refl _)) kind c hv
  refine ⟨hp, sorted_eq (next_good g (by omega) 0 kind c hv).sorted (J_good hp hQ _ b).sorted fun z => ?_⟩
  rw [(insM_perm _ _).mem_iff, List.mem_cons]
  unfold J
  have ht : (P ++ [nextM (J P Q P.length b) 0 kind c]).take (P.length + 1) = P ++ [nextM (J P Q P.length b) 0 kind c] := List.take_of_length_le (by simp)
  unfold J at ht
  rw [List.take_length] at ht
  rw [List.take_length, ht]
  simp only [List.mem_append, List.mem_singleton]
  constructor
  · rintro (h | h | h)
    · exact .inl (.inr h)
    · exact .inl (.inl h)
    · exact .inr h
  · rintro ((h | h) | h)
    · exact .inr (.inl h)
    · exact .inl h
    · exact .inr (.inr h)
theorem ins_J1 {P Q : List Chg} {a : Nat} {kind : Int} {c : Ctc} (hP : Part 0 P) (hQ : Part 1 Q) (hs : P.length + Q.length ≤ 900) (hv : validX 4 (nextM (J P Q a Q.length) 1 kind c) = true) :
    Part 1 (Q ++ [nextM (J P Q a Q.length) 1 kind c]) ∧ insM (J P Q a Q.length) (nextM (J P Q a Q.length) 1 kind c) = J P (Q ++ [nextM (J P Q a Q.length) 1 kind c]) a (Q.length + 1) := by
  have g := J_good hP hQ a Q.length
  have hlen := J_len (P := P) (Q := Q) a Q.length
  have hp := part_next hQ g (by omega) (fun y hy => by unfold J; rw [List.take_length]; exact List.mem_append.2 (.inr hy)) (J_cnt1 hP hQ a (Nat.le_refl _)) kind c hv
  refine ⟨hp, sorted_eq (next_good g (by omega) 1 kind c hv).sorted (J_good hP hp a _).sorted fun z => ?_⟩
  rw [(insM_perm _ _).mem_iff, List.mem_cons]
  unfold J
  have ht : (Q ++ [nextM (J P Q a Q.length) 1 kind c]).take (Q.length + 1) = Q ++ [nextM (J P Q a Q.length) 1 kind c] := List.take_of_length_le (by simp)
  unfold J at ht
  rw [List.take_length] at ht
  rw [List.take_length, ht]
  simp only [List.mem_append, List.mem_singleton]
  constructor
  · rintro (h | h | h)
    · exact .inr (.inr h)
    · exact .inl h
    · exact .inr (.inl h)
  · rintro (h | h | h)
    · exact .inr (.inl h)
    · exact .inr (.inr h)
    · exact .inl h
/-- A change that a node makes itself. -/
def chgM (A : His) (own : Int) (rem : Bool) (c : Ctc) : His × Int := if rem then remM A own c else putM A own c
theorem chgM_some {A : His} {own : Int} {rem : Bool} {c : Ctc} (e : (chgM A own rem c).2 = 0) : ∃ kind d, validX A.nodes (nextM A.l own kind d) = true ∧ chgM A own rem c = (⟨A.nodes, insM A.l (nextM A.l own kind d)⟩, 0) := by
  unfold chgM at e ⊢
  cases rem with
  | true =>
    obtain ⟨_, h2, h3⟩ := remM_some (show (remM A own c).2 = 0 from e)
    exact ⟨2, nameC c, h2, h3⟩
  | false =>
    obtain ⟨_, h2, h3⟩ := putM_some (show (putM A own c).2 = 0 from e)
    exact ⟨1, c, h2, h3⟩
def exchM (A B : His) : His := (mergeM A (missM B (vecL A.nodes.toNat A.l)).1).1
/-- One step of a script. -/
def stepM (x : Scr) (L : List His) (n : Nat) : List His :=
  if n / 2 % 4 == 0 || x.cts.length == 0 then L.set (n % 2) (exchM (L.getD (n % 2) default) (L.getD (1 - n % 2) default))
  else if (chgM (L.getD (n % 2) default) ((n % 2 : Nat) : Int) (n / 2 % 4 == 1) (x.cts.getD (n / 8 % x.cts.length) default)).2 == 0 then L.set (n % 2) (chgM (L.getD (n % 2) default) ((n % 2 : Nat) : Int) (n / 2 % 4 == 1) (x.cts.getD (n / 8 % x.cts.length) default)).1 else L
def plK (x : Scr) : Nat → List His
  | 0 => [⟨4, []⟩, ⟨4, []⟩]
  | k + 1 => stepM x (plK x k) (x.acts.getD k default)
theorem inv_zero : Inv 0 [⟨4, []⟩, ⟨4, []⟩] := ⟨[], [], 0, 0, rfl, Nat.le_refl _, Nat.le_refl _, ⟨⟨fun k hk => (by cases hk), fun k hk => (by cases hk)⟩, fun y hy => (by cases hy)⟩, ⟨⟨fun k hk => (by cases hk), fun k hk => (by cases hk)⟩, fun y hy => (by cases hy)⟩, Nat.le_refl _⟩
theorem Inv.len {m : Nat} {L : List His} (h : Inv m L) : L.length = 2 := by obtain ⟨P, Q, a, b, rfl, _⟩ := h; rfl
/-- Each history is a valid one of four nodes. -/
theorem Inv.at {m : Nat} {L : List His} (h : Inv m L) (hm : m ≤ 100) {i : Nat} (hi : i < 2) : (L.getD i default).nodes = 4 ∧ chkHi (L.getD i default) = 0 ∧ (L.getD i default).l.length ≤ m := by
  obtain ⟨P, Q, a, b, rfl, ha, hb, hP, hQ, hs⟩ := h
  have q1 := J_len (P := P) (Q := Q) P.length b
  have q2 := J_len (P := P) (Q := Q) a Q.length
  match i, hi with
  | 0, _ => exact ⟨rfl, J_check hP hQ _ _ (by omega), by show (J P Q P.length b).length ≤ m; omega⟩
  | 1, _ => exact ⟨rfl, J_check hP hQ _ _ (by omega), by show (J P Q a Q.length).length ≤ m; omega⟩
/-- An exchange does not fail. -/
theorem Inv.exch {m : Nat} {L : List His} (h : Inv m L) (hm : m ≤ 100) {i : Nat} (hi : i < 2) : (missM (L.getD (1 - i) default) (vecL 4 (L.getD i default).l)).2 = 0 ∧ (mergeM (L.getD i default) (missM (L.getD (1 - i) default) (vecL 4 (L.getD i default).l)).1).2 = 0 ∧ Inv m (L.set i (exchM (L.getD i default) (L.getD (1 - i) default))) := by
  obtain ⟨P, Q, a, b, rfl, ha, hb, hP, hQ, hs⟩ := h
  match i, hi with
  | 0, _ =>
    have e1 := J_miss hP hQ (a := P.length) (b := b) a Q.length (by omega) (Nat.le_refl _) hb
    have e2 := J_exch hP hQ (a := P.length) (b := b) (a' := a) (b' := Q.length) (by omega) (Nat.le_refl _) hb
    refine ⟨by show (missM ⟨4, J P Q a Q.length⟩ (vecL 4 (J P Q P.length b))).2 = 0; rw [e1], ?_, ?_⟩
    · show (mergeM ⟨4, J P Q P.length b⟩ (missM ⟨4, J P Q a Q.length⟩ (vecL 4 (J P Q P.length b))).1).2 = 0
      rw [e1]; simp only; rw [e2]
    · refine ⟨P, Q, a, Q.length, ?_, ha, Nat.le_refl _, hP, hQ, hs⟩
      show [exchM ⟨4, J P Q P.length b⟩ ⟨4, J P Q a Q.length⟩, _] = _
      unfold exchM
      rw [show (His.mk 4 (J P Q P.length b)).nodes.toNat = 4 from rfl, e1]
      simp only
      rw [e2, show max P.length a = P.length by omega, show max b Q.length = Q.length by omega]
  | 1, _ =>
    have e1 := J_miss hP hQ (a := a) (b := Q.length) P.length b (by omega) ha (Nat.le_refl _)
    have e2 := J_exch hP hQ (a := a) (b := Q.length) (a' := P.length) (b' := b) (by omega) ha (Nat.le_refl _)
    refine ⟨by show (missM ⟨4, J P Q P.length b⟩ (vecL 4 (J P Q a Q.length))).2 = 0; rw [e1], ?_, ?_⟩
    · show (mergeM ⟨4, J P Q a Q.length⟩ (missM ⟨4, J P Q P.length b⟩ (vecL 4 (J P Q a Q.length))).1).2 = 0
      rw [e1]; simp only; rw [e2]
    · refine ⟨P, Q, P.length, b, ?_, Nat.le_refl _, hb, hP, hQ, hs⟩
      show [_, exchM ⟨4, J P Q a Q.length⟩ ⟨4, J P Q P.length b⟩] = _
      unfold exchM
      rw [show (His.mk 4 (J P Q a Q.length)).nodes.toNat = 4 from rfl, e1]
      simp only
      rw [e2, show max a P.length = P.length by omega, show max Q.length b = Q.length by omega]
theorem J_more0 {P Q : List Chg} {x : Chg} {a b : Nat} (ha : a ≤ P.length) : J (P ++ [x]) Q a b = J P Q a b := by
  unfold J
  rw [List.take_append_of_le_length ha]
theorem J_more1 {P Q : List Chg} {x : Chg} {a b : Nat} (hb : b ≤ Q.length) : J P (Q ++ [x]) a b = J P Q a b := by
  unfold J
  rw [List.take_append_of_le_length hb]
theorem Inv.chg {m : Nat} {L : List His} (h : Inv m L) (hm : m ≤ 100) {i : Nat} (hi : i < 2) {rem : Bool} {c : Ctc} (e : (chgM (L.getD i default) (i : Int) rem c).2 = 0) : Inv (m + 1) (L.set i (chgM (L.getD i default) (i : Int) rem c).1) := by
  obtain ⟨P, Q, a, b, rfl, ha, hb, hP, hQ, hs⟩ := h
  obtain ⟨kind, d, hv, hr⟩ := chgM_some e
  rw [hr]
  match i, hi with
  | 0, _ =>
    obtain ⟨h1, h2⟩ := ins_J0 (b := b) (kind := kind) (c := d) hP hQ (by omega) hv
    refine ⟨P ++ [nextM (J P Q P.length b) 0 kind d], Q, a, b, ?_, by simp; omega, hb, h1, hQ, by simp; omega⟩
    show [(⟨4, insM (J P Q P.length b) (nextM (J P Q P.length b) 0 kind d)⟩ : His), ⟨4, J P Q a Q.length⟩] = _
    rw [h2, J_more0 ha, List.length_append]; rfl
  | 1, _ =>
    obtain ⟨h1, h2⟩ := ins_J1 (a := a) (kind := kind) (c := d) hP hQ (by omega) hv
    refine ⟨P, Q ++ [nextM (J P Q a Q.length) 1 kind d], a, b, ?_, ha, by simp; omega, hP, h1, by simp; omega⟩
    show [(⟨4, J P Q P.length b⟩ : His), ⟨4, insM (J P Q a Q.length) (nextM (J P Q a Q.length) 1 kind d)⟩] = _
    rw [h2, J_more1 hb, List.length_append]; rfl
theorem Inv.mono {m n : Nat} {L : List His} (h : Inv m L) (hn : m ≤ n) : Inv n L := by
  obtain ⟨P, Q, a, b, h1, h2, h3, h4, h5, h6⟩ := h
  exact ⟨P, Q, a, b, h1, h2, h3, h4, h5, by omega⟩
theorem inv_step {x : Scr} {m : Nat} {L : List His} (h : Inv m L) (hm : m ≤ 100) (n : Nat) : Inv (m + 1) (stepM x L n) := by
  have hi : n % 2 < 2 := Nat.mod_lt _ (by omega)
  unfold stepM
  split
  · exact ((h.exch hm hi).2.2).mono (by omega)
  · split
    · rename_i e
      exact h.chg hm hi (by simpa using e)
    · exact h.mono (by omega)
theorem inv_all (x : Scr) : ∀ k, k ≤ 100 → Inv k (plK x k)
  | 0, _ => inv_zero
  | k + 1, hk => inv_step (inv_all x k (by omega)) (by omega) _
end Go.Mb
