import Derived.Test.YtphegncldncaiaaSySwap
set_option linter.unusedSimpArgs false
set_option linter.unusedSectionVars false
set_option linter.unusedVariables false
namespace Go.Sy
open Region (binds)

/-- The operations that may come next. -/
def rdy (m : Region.Mode) (ops : Array Oper) (listed : Array Bool) : List Nat :=
  (List.range ops.size).filter fun i => !listed.getD i true && ((ops[i]?).map (·.after.all fun e => !binds m e || listed.getD e.on false)).getD false

def Chain (m : Region.Mode) (ops : Array Oper) : Array Bool → List Nat → Prop
  | _, [] => True
  | listed, i :: l => i ∈ rdy m ops listed ∧ Chain m ops (listed.setIfInBounds i true) l

def setAll : Array Bool → List Nat → Array Bool
  | listed, [] => listed
  | listed, i :: l => setAll (listed.setIfInBounds i true) l

theorem go_spec (m : Region.Mode) (ops : Array Oper) : ∀ (fuel t : Nat) (listed : Array Bool) (acc : List Nat),
    ∃ l, Region.linearise.go m ops fuel t listed acc = acc.reverse ++ l ∧ Chain m ops listed l ∧ (l.length = fuel ∨ rdy m ops (setAll listed l) = [])
  | 0, t, listed, acc => ⟨[], by simp [Region.linearise.go], trivial, .inl rfl⟩
  | fuel + 1, t, listed, acc => by
    unfold Region.linearise.go
    simp only
    split
    · rename_i i hi
      obtain ⟨l, h1, h2, h3⟩ := go_spec m ops fuel (t / (rdy m ops listed).length) (listed.setIfInBounds i true) (i :: acc)
      refine ⟨i :: l, ?_, ⟨List.mem_of_getElem? hi, h2⟩, ?_⟩
      · refine Eq.trans h1 ?_
        simp
      · rcases h3 with h3 | h3
        · exact .inl (by simp [h3])
        · exact .inr h3
    · rename_i hn
      refine ⟨[], by simp, trivial, .inr ?_⟩
      change (rdy m ops listed)[t % (rdy m ops listed).length]? = none at hn
      rcases Nat.eq_zero_or_pos (rdy m ops listed).length with h0 | h0
      · exact List.eq_nil_of_length_eq_zero h0
      · rw [List.getElem?_eq_getElem (Nat.mod_lt _ h0)] at hn; cases hn

section
variable {m : Region.Mode} {ops : Array Oper}

theorem mem_rdy {listed : Array Bool} {i : Nat} (h : i ∈ rdy m ops listed) : i < ops.size ∧ listed.getD i true = false ∧ ∀ o, ops[i]? = some o → ∀ e ∈ o.after, binds m e = true → listed.getD e.on false = true := by
  unfold rdy at h
  simp only [List.mem_filter, List.mem_range, Bool.and_eq_true, Bool.not_eq_true'] at h
  obtain ⟨h1, h2, h3⟩ := h
  refine ⟨h1, h2, fun o ho e he hb => ?_⟩
  rw [ho] at h3
  simp only [Option.map_some, Option.getD_some, Array.all_eq_true_iff_forall_mem, Bool.or_eq_true, Bool.not_eq_true'] at h3
  rcases h3 e he with h | h
  · rw [hb] at h; cases h
  · exact h

theorem rdy_mem {listed : Array Bool} {i : Nat} {o : Oper} (ho : ops[i]? = some o) (h2 : listed.getD i true = false) (h3 : ∀ e ∈ o.after, binds m e = true → listed.getD e.on false = true) : i ∈ rdy m ops listed := by
  unfold rdy
  simp only [List.mem_filter, List.mem_range, Bool.and_eq_true, Bool.not_eq_true']
  refine ⟨?_, h2, ?_⟩
  · rcases Nat.lt_or_ge i ops.size with h | h
    · exact h
    · rw [Array.getElem?_eq_none h] at ho; cases ho
  · rw [ho]
    simp only [Option.map_some, Option.getD_some, Array.all_eq_true_iff_forall_mem, Bool.or_eq_true, Bool.not_eq_true']
    intro e he
    cases hb : binds m e with
    | false => exact .inl rfl
    | true => exact .inr (h3 e he hb)

theorem setAll_size : ∀ (l : List Nat) (listed : Array Bool), (setAll listed l).size = listed.size
  | [], listed => rfl
  | i :: l, listed => by rw [setAll, setAll_size l]; simp

/-- Listed in the end: listed before, or among those. -/
theorem setAll_get : ∀ (l : List Nat) (listed : Array Bool) (j : Nat), (setAll listed l).getD j false = true ↔ (listed.getD j false = true ∨ (j ∈ l ∧ j < listed.size))
  | [], listed, j => by simp [setAll]
  | i :: l, listed, j => by
    rw [setAll, setAll_get l]
    simp only [Array.size_setIfInBounds, List.mem_cons]
    by_cases hij : i = j
    · subst hij
      by_cases hlt : i < listed.size
      · simp [Array.getD, hlt]
      · simp [Array.getD, hlt]
    · have : (listed.setIfInBounds i true).getD j false = listed.getD j false := by
        simp [Array.getD_eq_getD_getElem?, Array.getElem?_setIfInBounds_ne hij]
      rw [this]
      constructor
      · rintro (h | h)
        · exact .inl h
        · exact .inr ⟨.inr h.1, h.2⟩
      · rintro (h | ⟨h | h, h'⟩)
        · exact .inl h
        · exact (hij h.symm).elim
        · exact .inr ⟨h, h'⟩

theorem getD_tf {listed : Array Bool} {i : Nat} (h : listed.getD i true = false) : listed.getD i false = false ∧ i < listed.size := by
  rw [Array.getD_eq_getD_getElem?] at h ⊢
  cases hg : listed[i]? with
  | none => rw [hg] at h; simp at h
  | some b =>
    rw [hg] at h
    refine ⟨by simpa using h, ?_⟩
    rcases Nat.lt_or_ge i listed.size with h' | h'
    · exact h'
    · rw [Array.getElem?_eq_none h'] at hg; cases hg

theorem Chain.pos : ∀ {p : List Nat} {i : Nat} {q : List Nat} {listed : Array Bool}, Chain m ops listed (p ++ i :: q) → i ∈ rdy m ops (setAll listed p)
  | [], i, q, listed, h => h.1
  | j :: p, i, q, listed, h => by
    have h2 : Chain m ops (listed.setIfInBounds j true) (p ++ i :: q) := h.2
    exact Chain.pos (p := p) h2

theorem Chain.nodup : ∀ (l : List Nat) (listed : Array Bool), Chain m ops listed l → (∀ x ∈ l, listed.getD x true = false) ∧ l.Nodup
  | [], listed, _ => ⟨(fun x hx => by cases hx), List.nodup_nil⟩
  | i :: l, listed, h => by
    obtain ⟨h1, h2⟩ := h
    obtain ⟨_, h3, _⟩ := mem_rdy h1
    obtain ⟨h4, h5⟩ := Chain.nodup l _ h2
    have hi := (getD_tf h3).2
    have hne : ∀ x ∈ l, x ≠ i := by
      rintro x hx rfl
      have := h4 x hx
      simp [Array.getD, hi] at this
    refine ⟨fun x hx => ?_, List.nodup_cons.2 ⟨fun h => hne i h rfl, h5⟩⟩
    rcases List.mem_cons.1 hx with rfl | hx
    · exact h3
    · have := h4 x hx
      rwa [Array.getD_eq_getD_getElem?, Array.getElem?_setIfInBounds_ne (Ne.symm (hne x hx)), ← Array.getD_eq_getD_getElem?] at this

theorem Chain.facts {n : Nat} {l : List Nat} (h : Chain m ops (Array.replicate n false) l) (hn : n = ops.size) :
    l.Nodup ∧ (∀ i ∈ l, i < ops.size) ∧ ∀ p i q, l = p ++ i :: q → ∀ o, ops[i]? = some o → ∀ e ∈ o.after, binds m e = true → e.on ∈ p := by
  have hrep : ∀ j, (Array.replicate n false).getD j false = false := by
    intro j; simp [Array.getD_eq_getD_getElem?, Array.getElem?_replicate]; split <;> rfl
  have A1 : ∀ p i q, l = p ++ i :: q → i < ops.size ∧ i ∉ p ∧ ∀ o, ops[i]? = some o → ∀ e ∈ o.after, binds m e = true → e.on ∈ p := by
    intro p i q hl
    rw [hl] at h
    obtain ⟨h1, h2, h3⟩ := mem_rdy h.pos
    refine ⟨h1, fun hp => ?_, fun o ho e he hb => ?_⟩
    · have := (getD_tf h2).1
      have h4 : (setAll (Array.replicate n false) p).getD i false = true := (setAll_get p _ i).2 (.inr ⟨hp, by simp; omega⟩)
      rw [this] at h4; cases h4
    · rcases (setAll_get p _ _).1 (h3 o ho e he hb) with h5 | h5
      · rw [hrep] at h5; cases h5
      · exact h5.1
  refine ⟨(Chain.nodup _ _ h).2, fun i hi => ?_, fun p i q hl => (A1 p i q hl).2.2⟩
  obtain ⟨p, q, hl⟩ := List.append_of_mem hi
  exact (A1 p i q hl).1

/-- An order in which everything can be done. -/
def Ord (m : Region.Mode) (ops : Array Oper) (ord : List Nat) : Prop := (∀ i, i ∈ ord ↔ i < ops.size) ∧ ∀ p i q, ord = p ++ i :: q → ∀ o, ops[i]? = some o → ∀ e ∈ o.after, binds m e = true → e.on ∈ p

theorem first_unlisted {ok : Nat → Prop} : ∀ (l : List Nat) (i : Nat), i ∈ l → ¬ ok i → ∃ p j q, l = p ++ j :: q ∧ ¬ ok j ∧ ∀ x ∈ p, ok x
  | a :: l, i, hi, hn => by
    by_cases ha : ok a
    · rcases List.mem_cons.1 hi with rfl | hi
      · exact (hn ha).elim
      · obtain ⟨p, j, q, h1, h2, h3⟩ := first_unlisted l i hi hn
        refine ⟨a :: p, j, q, by rw [h1]; rfl, h2, fun x hx => ?_⟩
        rcases List.mem_cons.1 hx with rfl | hx
        · exact ha
        · exact h3 x hx
    · exact ⟨[], a, l, rfl, ha, fun x hx => by cases hx⟩

theorem complete {n : Nat} {ord l : List Nat} (hn : n = ops.size) (ho : Ord m ops ord) (hc : Chain m ops (Array.replicate n false) l) (hl : l.length = n ∨ rdy m ops (setAll (Array.replicate n false) l) = []) : ∀ i, i < ops.size → i ∈ l := by
  obtain ⟨hnd, hlt, _⟩ := hc.facts hn
  rcases hl with hl | hl
  · intro i hi
    -- n different numbers below n are all of them
    apply Classical.byContradiction
    intro hni
    have hsub : (i :: l).Nodup := List.nodup_cons.2 ⟨hni, hnd⟩
    have hle : (i :: l).length ≤ (List.range ops.size).length := by
      have : ∀ (a b : List Nat), a.Nodup → (∀ x ∈ a, x ∈ b) → a.length ≤ b.length := by
        intro a
        induction a with
        | nil => intro b _ _; simp
        | cons x a ih =>
          intro b hnd hsub
          have hx := hsub x List.mem_cons_self
          obtain ⟨p, q, rfl⟩ := List.append_of_mem hx
          have h1 := ih (p ++ q) (List.nodup_cons.1 hnd).2 (fun y hy => by
            have := hsub y (List.mem_cons_of_mem _ hy)
            simp only [List.mem_append, List.mem_cons] at this ⊢
            rcases this with h | h | h
            · exact .inl h
            · subst h; exact ((List.nodup_cons.1 hnd).1 hy).elim
            · exact .inr h)
          simp only [List.length_append, List.length_cons] at h1 ⊢
          omega
      refine this _ _ hsub fun x hx => ?_
      rcases List.mem_cons.1 hx with rfl | hx
      · simpa using hi
      · simpa using hlt x hx
    simp at hle
    omega
  · intro i hi
    apply Classical.byContradiction
    intro hni
    obtain ⟨p, j, q, h1, h2, h3⟩ := first_unlisted (ok := fun x => x ∈ l ∨ ¬ x < ops.size) ord i ((ho.1 i).2 hi) (by rintro (h | h); exact hni h; exact h hi)
    have hj : j < ops.size := Classical.byContradiction fun h => h2 (.inr h)
    have hjl : j ∉ l := fun h => h2 (.inl h)
    have hoj : ops[j]? = some ops[j] := Array.getElem?_eq_getElem hj
    have hsz : (setAll (Array.replicate n false) l).size = ops.size := by rw [setAll_size]; simp [hn]
    have : j ∈ rdy m ops (setAll (Array.replicate n false) l) := by
      refine rdy_mem hoj ?_ fun e he hb => ?_
      · have hf : (setAll (Array.replicate n false) l).getD j false ≠ true := by
          intro h
          rcases (setAll_get l _ j).1 h with h | h
          · simp [Array.getD_eq_getD_getElem?, Array.getElem?_replicate] at h
            split at h <;> simp at h
          · exact hjl h.1
        have hg : (setAll (Array.replicate n false) l)[j]? = some (setAll (Array.replicate n false) l)[j] := Array.getElem?_eq_getElem (by omega)
        rw [Array.getD_eq_getD_getElem?, hg] at hf ⊢
        simpa using hf
      · have hp := ho.2 p j q h1 _ hoj e he hb
        rcases h3 _ hp with h | h
        · exact (setAll_get l _ _).2 (.inr ⟨h, by
            have := hlt _ h
            simp; omega⟩)
        · exact (h ((ho.1 _).1 (by rw [h1]; exact List.mem_append_left _ hp))).elim
    rw [hl] at this
    cases this

theorem ord_gc (h : (Region.linearise .gc ops 0).length = ops.size) : Ord .gc ops (Region.linearise .gc ops 0) := by
  unfold Region.linearise at h ⊢
  obtain ⟨l, h1, h2, _⟩ := go_spec .gc ops ops.size 0 (Array.replicate ops.size false) []
  rw [h1] at h ⊢
  simp only [List.reverse_nil, List.nil_append] at h ⊢
  obtain ⟨hnd, hlt, hp⟩ := h2.facts rfl
  refine ⟨fun i => ⟨hlt i, fun hi => ?_⟩, hp⟩
  -- as many as there are
  apply Classical.byContradiction
  intro hni
  have hsub : (i :: l).Nodup := List.nodup_cons.2 ⟨hni, hnd⟩
  have : ∀ (a b : List Nat), a.Nodup → (∀ x ∈ a, x ∈ b) → a.length ≤ b.length := by
    intro a
    induction a with
    | nil => intro b _ _; simp
    | cons x a ih =>
      intro b hnd hsub
      have hx := hsub x List.mem_cons_self
      obtain ⟨p, q, rfl⟩ := List.append_of_mem hx
      have h1 := ih (p ++ q) (List.nodup_cons.1 hnd).2 (fun y hy => by
        have := hsub y (List.mem_cons_of_mem _ hy)
        simp only [List.mem_append, List.mem_cons] at this ⊢
        rcases this with h | h | h
        · exact .inl h
        · subst h; exact ((List.nodup_cons.1 hnd).1 hy).elim
        · exact .inr h)
      simp only [List.length_append, List.length_cons] at h1 ⊢
      omega
  have hle := this (i :: l) (List.range ops.size) hsub fun x hx => by
    rcases List.mem_cons.1 hx with rfl | hx
    · simpa using hi
    · simpa using hlt x hx
  simp at hle
  omega

theorem binds_any {m : Region.Mode} {e : Edge} (h : binds .any e = true) : binds m e = true := by
  unfold binds at h ⊢
  split at h <;> first | rfl | (simp at h)

theorem range_split {n i : Nat} {p q : List Nat} (h : List.range n = p ++ i :: q) : p = List.range i := by
  have hl : p.length < n := by have := congrArg List.length h; simp at this; omega
  have hi : i = p.length := by
    have h1 : (List.range n)[p.length]? = some i := by rw [h]; simp
    rw [List.getElem?_range hl] at h1
    simpa using h1.symm
  have h2 : p = (List.range n).take p.length := by rw [h]; simp
  rw [h2, List.take_range, ← hi, Nat.min_eq_left (by omega)]

theorem ord_text (h : ∀ i o, ops[i]? = some o → ∀ e ∈ o.after, binds .text e = true → e.on < i) (hm : ∀ e, binds m e = true → binds .text e = true) : Ord m ops (List.range ops.size) := by
  refine ⟨fun i => List.mem_range, fun p i q hl o ho e he hb => ?_⟩
  rw [range_split hl]
  exact List.mem_range.2 (h i o ho e he (hm e hb))

/-- Every drawn order: each operation once, and what must come first has come. -/
theorem schedule_facts (hT : ∀ i o, ops[i]? = some o → ∀ e ∈ o.after, binds .text e = true → e.on < i) (hG : (Region.linearise .gc ops 0).length = ops.size) (mixed : Bool) (t : Nat) :
    (Region.schedule mixed ops t).Nodup ∧ (∀ i, i ∈ Region.schedule mixed ops t ↔ i < ops.size) ∧
    ∀ p i q, Region.schedule mixed ops t = p ++ i :: q → ∀ o, ops[i]? = some o → ∀ e ∈ o.after, binds .any e = true → e.on ∈ p := by
  have key : ∀ m t, (∃ ord, Ord m ops ord) → (Region.linearise m ops t).Nodup ∧ (∀ i, i ∈ Region.linearise m ops t ↔ i < ops.size) ∧
      ∀ p i q, Region.linearise m ops t = p ++ i :: q → ∀ o, ops[i]? = some o → ∀ e ∈ o.after, binds .any e = true → e.on ∈ p := by
    rintro m t ⟨ord, ho⟩
    unfold Region.linearise
    obtain ⟨l, h1, h2, h3⟩ := go_spec m ops ops.size t (Array.replicate ops.size false) []
    rw [h1]
    simp only [List.reverse_nil, List.nil_append]
    obtain ⟨hnd, hlt, hp⟩ := h2.facts rfl
    exact ⟨hnd, fun i => ⟨hlt i, complete rfl ho h2 h3 i⟩, fun p i q hl o ho e he hb => hp p i q hl o ho e he (binds_any hb)⟩
  unfold Region.schedule
  split
  · exact key .any t ⟨_, ord_text hT fun e he => binds_any he⟩
  · split
    · exact key .text _ ⟨_, ord_text hT fun e he => he⟩
    · exact key .gc _ ⟨_, ord_gc hG⟩
end

/-- What must come before, through others too. -/
def ancF (o : Oper) (acc : List (List Nat)) : List Nat := o.after.toList.flatMap fun e => if binds .any e then e.on :: (acc[e.on]?).getD [] else []

theorem ancs_spec : ∀ (rest : List Oper) (acc : List (List Nat)), (ancs rest acc).take acc.length = acc ∧ ∀ k o, rest[k]? = some o → (ancs rest acc)[acc.length + k]? = some (ancF o ((ancs rest acc).take (acc.length + k)))
  | [], acc => ⟨by simp [ancs], fun k o h => by simp at h⟩
  | r :: rest, acc => by
    obtain ⟨h1, h2⟩ := ancs_spec rest (acc ++ [ancF r acc])
    have e : ancs (r :: rest) acc = ancs rest (acc ++ [ancF r acc]) := rfl
    rw [e]
    simp only [List.length_append, List.length_cons, List.length_nil, Nat.zero_add] at h1 h2
    have h0 : (ancs rest (acc ++ [ancF r acc])).take acc.length = acc := by
      have := congrArg (List.take acc.length) h1
      rw [List.take_take, Nat.min_eq_left (by omega)] at this
      rw [this]; simp
    refine ⟨h0, fun k o hk => ?_⟩
    cases k with
    | zero =>
      simp at hk; subst hk
      have h3 : ((ancs rest (acc ++ [ancF r acc])).take (acc.length + 1))[acc.length]? = some (ancF r acc) := by rw [h1]; simp
      rw [List.getElem?_take_of_lt (by omega)] at h3
      rw [Nat.add_zero, h3, h0]
    | succ k =>
      have := h2 k o (by simpa using hk)
      rwa [show acc.length + 1 + k = acc.length + (k + 1) by omega] at this

section
variable {E : Env} {B : Nat} {F : List Nat} {ops : Array Oper}

theorem anc_before {l : List Nat} (hT : ∀ i o, ops[i]? = some o → ∀ e ∈ o.after, binds .text e = true → e.on < i) (hl : ∀ p i q, l = p ++ i :: q → ∀ o, ops[i]? = some o → ∀ e ∈ o.after, binds .any e = true → e.on ∈ p) :
    ∀ (i : Nat) (j : Nat), j ∈ ((ancs ops.toList [])[i]?).getD [] → ∀ p q, l = p ++ i :: q → j ∈ p := by
  intro i
  induction i using Nat.strongRecOn with
  | _ i ih =>
    intro j hj p q hpq
    cases ho : ops[i]? with
    | none =>
      exfalso
      have hlen : (ancs ops.toList []).length ≤ ops.size := by
        have : ∀ (r : List Oper) (a : List (List Nat)), (ancs r a).length = a.length + r.length := by
          intro r
          induction r with
          | nil => intro a; simp [ancs]
          | cons x r ih => intro a; rw [ancs, ih]; simp; omega
        rw [this]; simp
      have : ops.size ≤ i := by
        rcases Nat.lt_or_ge i ops.size with h | h
        · rw [Array.getElem?_eq_getElem h] at ho; cases ho
        · exact h
      rw [List.getElem?_eq_none (by omega)] at hj
      simp at hj
    | some o =>
      have hs := (ancs_spec ops.toList []).2 i o (by simpa using ho)
      simp only [List.length_nil, Nat.zero_add] at hs
      rw [hs] at hj
      simp only [Option.getD_some, ancF, List.mem_flatMap] at hj
      obtain ⟨e, he, hj⟩ := hj
      have he' : e ∈ o.after := by simpa using he
      split at hj
      · rename_i hb
        have hlt := hT i o ho e he' (binds_any hb)
        have hon := hl p i q hpq o ho e he' hb
        rcases List.mem_cons.1 hj with rfl | hj
        · exact hon
        · rw [List.getElem?_take_of_lt hlt] at hj
          obtain ⟨p1, p2, hp⟩ := List.append_of_mem hon
          have := ih e.on hlt j hj p1 (p2 ++ i :: q) (by rw [hpq, hp]; simp)
          rw [hp]
          exact List.mem_append_left _ this
      · cases hj

theorem move_back {h : Nat} {oh : Oper} (ho : ops[h]? = some oh) (hA : ∀ o : Oper, o ∈ ops.toList → cls o.op = 1 → ∀ d, o.dst = some d → B + d ∈ F) : ∀ (p : List Nat) {st s1 s2 : St}, (∀ x ∈ p, ∃ ox, ops[x]? = some ox ∧ indep ops.toList oh ox = true) → (∀ o : Oper, cls o.op = 1 → (o = oh ∨ ∃ x ∈ p, ops[x]? = some o) → ∀ d, o.dst = some d → B + d ∈ F) →
    Step E B F ops.toList oh st s1 → RunI E B F ops p s1 s2 → ∃ s1', RunI E B F ops p st s1' ∧ Step E B F ops.toList oh s1' s2
  | [], st, s1, s2, _, _, h1, h2 => by simp only [RunI] at h2; subst h2; exact ⟨st, rfl, h1⟩
  | x :: p, st, s1, s2, hi, hF, h1, h2 => by
    obtain ⟨ox, hx, hind⟩ := hi x List.mem_cons_self
    obtain ⟨ox', t1, hx', h3, h4⟩ := h2
    rw [hx] at hx'; cases hx'
    obtain ⟨t0, h5, h6⟩ := swap hind hA (fun o ho hc => hF o hc (by
      rcases ho with rfl | rfl
      · exact .inl rfl
      · exact .inr ⟨x, List.mem_cons_self, hx⟩)) h1 h3
    obtain ⟨s1', h7, h8⟩ := move_back ho hA p (fun y hy => hi y (List.mem_cons_of_mem _ hy)) (fun o hc hy => hF o hc (by
      rcases hy with rfl | ⟨y, hy, h⟩
      · exact .inl rfl
      · exact .inr ⟨y, List.mem_cons_of_mem _ hy, h⟩)) h6 h4
    exact ⟨s1', ⟨ox, t0, hx, h5, h7⟩, h8⟩

theorem reorder (hF : ∀ o : Oper, cls o.op = 1 → (∃ x : Nat, ops[x]? = some o) → ∀ d, o.dst = some d → B + d ∈ F)
    (hP : ∀ (i j : Nat) (oi oj : Oper), i < j → ops[i]? = some oi → ops[j]? = some oj → i ∈ ((ancs ops.toList [])[j]?).getD [] ∨ indep ops.toList oi oj = true) : ∀ (rem l : List Nat) {st st' : St}, rem.Pairwise (· < ·) → l.Nodup → (∀ i, i ∈ l ↔ i ∈ rem) →
    (∀ p i q, l = p ++ i :: q → ∀ j ∈ ((ancs ops.toList [])[i]?).getD [], j ∉ q) → RunI E B F ops rem st st' → RunI E B F ops l st st'
  | [], l, st, st', _, _, hm, _, hr => by
    cases l with
    | nil => exact hr
    | cons x l => have := (hm x).1 List.mem_cons_self; cases this
  | h :: rem, l, st, st', hs, hnd, hm, ha, hr => by
    obtain ⟨oh, s1, ho, h1, h2⟩ := hr
    obtain ⟨p, q, rfl⟩ := List.append_of_mem ((hm h).2 List.mem_cons_self)
    have hnd' := hnd
    rw [List.nodup_append] at hnd
    obtain ⟨hp, hq, hpq⟩ := hnd
    rw [List.nodup_cons] at hq
    have hhp : h ∉ p := fun hh => hpq h hh h List.mem_cons_self rfl
    have hs' := List.pairwise_cons.1 hs
    have hmem : ∀ i, i ∈ p ++ q ↔ i ∈ rem := by
      intro i
      have := hm i
      simp only [List.mem_append, List.mem_cons] at this ⊢
      constructor
      · intro hi
        have h3 : i ≠ h := by
          rintro rfl
          rcases hi with hi | hi
          · exact hhp hi
          · exact hq.1 hi
        rcases this.1 (by rcases hi with hi | hi; exact .inl hi; exact .inr (.inr hi)) with h4 | h4
        · exact (h3 h4).elim
        · exact h4
      · intro hi
        rcases this.2 (.inr hi) with h4 | h4 | h4
        · exact .inl h4
        · subst h4; exact (Nat.lt_irrefl _ (hs'.1 _ hi)).elim
        · exact .inr h4
    have ih := reorder hF hP rem (p ++ q) hs'.2 (by
      rw [List.nodup_append]
      exact ⟨hp, hq.2, fun a ha b hb => hpq a ha b (List.mem_cons_of_mem _ hb)⟩) hmem (by
      intro p' i q' hl j hj hjq
      -- where i stands in the whole
      rcases List.append_eq_append_iff.1 hl with ⟨r, h3, h4⟩ | ⟨r, h3, h4⟩
      · -- p' = p ++ r, q = r ++ i :: q'
        refine ha (p ++ h :: r) i q' (by rw [h4]; simp) j hj hjq
      · -- p = p' ++ r, i :: q' = r ++ q
        cases r with
        | nil =>
          simp at h3 h4
          refine ha (p ++ [h]) i q' (by rw [← h4]; simp) j hj hjq
        | cons y r =>
          simp only [List.cons_append, List.cons.injEq] at h4
          obtain ⟨rfl, rfl⟩ := h4
          refine ha p' i (r ++ h :: q) (by rw [h3]; simp) j hj ?_
          simp only [List.mem_append, List.mem_cons] at hjq ⊢
          rcases hjq with hh | hh
          · exact .inl hh
          · exact .inr (.inr hh)) h2
    rw [RunI.append] at ih
    obtain ⟨s2, h3, h4⟩ := ih
    obtain ⟨s1', h5, h6⟩ := move_back ho (fun o hm hc => hF o hc (by
      obtain ⟨x, hx⟩ := List.getElem?_of_mem hm
      exact ⟨x, by simpa using hx⟩)) p (fun x hx => by
      have hxl : x ∈ h :: rem := (hm x).1 (List.mem_append_left _ hx)
      have hlt : h < x := by
        rcases List.mem_cons.1 hxl with rfl | hh
        · exact (hhp hx).elim
        · exact hs'.1 x hh
      cases hox : ops[x]? with
      | none =>
        exfalso
        have : ∀ (l : List Nat) (s t : St), RunI E B F ops l s t → ∀ y ∈ l, ops[y]? ≠ none := by
          intro l
          induction l with
          | nil => intro s t _ y hy; cases hy
          | cons z l ihl =>
            rintro s t ⟨o, s1, hz, _, hr⟩ y hy
            rcases List.mem_cons.1 hy with rfl | hy
            · rw [hz]; simp
            · exact ihl s1 t hr y hy
        exact this p s1 s2 h3 x hx hox
      | some ox =>
        refine ⟨ox, rfl, ?_⟩
        rcases hP h x oh ox hlt ho hox with hh | hh
        · exfalso
          obtain ⟨p1, p2, hp12⟩ := List.append_of_mem hx
          refine ha p1 x (p2 ++ h :: q) (by rw [hp12]; simp) h hh (by simp)
        · exact hh) (fun o hc hy => hF o hc (by
          rcases hy with rfl | ⟨y, _, h⟩
          · exact ⟨_, ho⟩
          · exact ⟨y, h⟩)) h1 h3
    rw [RunI.append]
    exact ⟨s1', h5, oh, s2, ho, h6, h4⟩

theorem mem_sites (l : List Oper) (o : Oper) (d : Nat) (h : o ∈ l) (hc : cls o.op = 1) (hd : o.dst = some d) : B + d ∈ sitesOf B l := by
  induction l with
  | nil => cases h
  | cons x l ih =>
    rw [sitesOf]
    by_cases hx : o = x
    · subst hx
      rw [if_pos hc, hd]
      exact List.mem_cons_self
    · have h' : o ∈ l := by
        rcases List.mem_cons.1 h with e | h'
        · exact (hx e).elim
        · exact h'
      by_cases h1 : cls x.op = 1
      · rw [if_pos h1]
        cases x.dst with
        | none => exact ih h'
        | some d => exact List.mem_cons_of_mem _ (ih h')
      · rw [if_neg h1]; exact ih h'

theorem mem_ded : ∀ (l acc : List Nat) (x : Nat), x ∈ ded l acc → x ∈ l ∨ x ∈ acc
  | [], acc, x, h => .inr h
  | y :: l, acc, x, h => by
    rcases mem_ded l _ x h with h | h
    · exact .inl (List.mem_cons_of_mem _ h)
    · split at h
      · exact .inr h
      · rcases List.mem_cons.1 h with rfl | h
        · exact .inl (List.mem_cons_self ..)
        · exact .inr h
theorem ancsD_sub : ∀ (rest : List Oper) (a b : List (List Nat)), a.length = b.length → (∀ (i x : Nat), x ∈ (a[i]?).getD [] → x ∈ (b[i]?).getD []) → ∀ (i x : Nat), x ∈ ((ancsD rest a)[i]?).getD [] → x ∈ ((ancs rest b)[i]?).getD []
  | [], a, b, _, h => h
  | o :: rest, a, b, hl, h => by
    refine ancsD_sub rest _ _ (by simp [hl]) fun i x hx => ?_
    rw [List.getElem?_append] at hx ⊢
    rw [← hl]
    split at hx
    · rename_i hi
      rw [if_pos hi]
      exact h i x hx
    · rename_i hi
      rw [if_neg hi]
      cases hk : i - a.length with
      | zero =>
        rw [hk] at hx
        simp only [List.getElem?_cons_zero, Option.getD_some] at hx ⊢
        rcases mem_ded _ _ _ hx with hx | hx
        · rw [List.mem_flatMap] at hx ⊢
          obtain ⟨e, he, hx⟩ := hx
          refine ⟨e, he, ?_⟩
          split at hx
          · rename_i hb
            rw [if_pos hb]
            rcases List.mem_cons.1 hx with rfl | hx
            · exact List.mem_cons_self ..
            · exact List.mem_cons_of_mem _ (h _ _ hx)
          · cases hx
        · cases hx
      | succ k => rw [hk] at hx; simp at hx

theorem tail_list : ∀ (d k : Nat) (l : List Nat), l.Nodup → (∀ i, i ∈ l ↔ i < k + d) → (∀ j, k ≤ j → j < k + d → ∀ p q, l = p ++ j :: q → ∀ i, i < j → i ∈ p) → ∃ p, l = p ++ List.range' k d
  | 0, k, l, _, _, _ => ⟨l, by simp⟩
  | d + 1, k, l, hn, hm, ht => by
    obtain ⟨p, q, hl⟩ := List.append_of_mem ((hm (k + d)).2 (by omega))
    have hb := ht (k + d) (by omega) (by omega) p q hl
    have hn' := hn
    rw [hl, List.nodup_append] at hn
    obtain ⟨hp, hq, hpq⟩ := hn
    have hq0 : q = [] := by
      cases q with
      | nil => rfl
      | cons x q =>
        exfalso
        have hx : x < k + (d + 1) := (hm x).1 (by rw [hl]; simp)
        have hne : x ≠ k + d := by
          rintro rfl
          simp at hq
        exact hpq x (hb x (by omega)) x (by simp) rfl
    subst hq0
    obtain ⟨p', hp'⟩ := tail_list d k p hp (fun i => by
      have := hm i
      rw [hl] at this
      simp only [List.mem_append, List.mem_singleton] at this
      constructor
      · intro hi
        have h1 := this.1 (.inl hi)
        have h2 : i ≠ k + d := by rintro rfl; exact hpq _ hi _ (by simp) rfl
        omega
      · intro hi
        exact hb i hi) (fun j h1 h2 p1 q1 hl1 => ht j h1 (by omega) p1 (q1 ++ [k + d]) (by rw [hl, hl1]; simp))
    refine ⟨p', ?_⟩
    rw [hl, hp', List.range'_concat]
    simp

theorem chk_facts (h : chkD ops = true) : (∀ i o, ops[i]? = some o → ∀ e ∈ o.after, binds .text e = true → e.on < i) ∧ (Region.linearise .gc ops 0).length = ops.size ∧
    ∀ (i j : Nat) (oi oj : Oper), i < j → ops[i]? = some oi → ops[j]? = some oj → i ∈ ((ancs ops.toList [])[j]?).getD [] ∨ indep ops.toList oi oj = true := by
  unfold chkD at h
  simp only [Bool.and_eq_true] at h
  obtain ⟨⟨h1, h2⟩, h3⟩ := h
  refine ⟨?_, by simpa using h3, ?_⟩
  · intro i o ho e he hb
    have hi : i < ops.size := by
      rcases Nat.lt_or_ge i ops.size with h | h
      · exact h
      · rw [Array.getElem?_eq_none h] at ho; cases ho
    rw [List.all_eq_true] at h2
    have := h2 i (List.mem_range.2 hi)
    rw [ho] at this
    simp only [Option.map_some, Option.getD_some, Array.all_eq_true_iff_forall_mem, Bool.or_eq_true, decide_eq_true_eq, Bool.not_eq_true'] at this
    rcases this e he with h | h
    · exact h
    · rw [hb] at h; cases h
  · intro i j oi oj hij hoi hoj
    unfold chkPairs at h1
    rw [List.all_eq_true] at h1
    have hj : j < ops.size := by
      rcases Nat.lt_or_ge j ops.size with h | h
      · exact h
      · rw [Array.getElem?_eq_none h] at hoj; cases hoj
    have := h1 j (List.mem_range.2 (by simpa using hj))
    rw [List.all_eq_true] at this
    have := this i (List.mem_range.2 hij)
    simp only [Bool.or_eq_true] at this
    rcases this with hh | hh
    · left; exact ancsD_sub ops.toList [] [] rfl (fun _ _ h => h) j i (by simpa using hh)
    · right
      have e1 : ops.toList[i]? = some oi := by simpa using hoi
      have e2 : ops.toList[j]? = some oj := by simpa using hoj
      rw [e1, e2] at hh
      exact hh

/-- Every drawn order: the first k operations somehow, as the text's order does; the others behind them, in the text's order. -/
theorem orders_tail (h : chkD ops = true) {k : Nat} (hk : k ≤ ops.size) (ht : tailB ops k = true) (mixed : Bool) (t : Nat) : ∃ p, Region.schedule mixed ops t = p ++ List.range' k (ops.size - k) ∧
    ∀ st st', RunI E B (sitesOf B ops.toList) ops (List.range k) st st' → RunI E B (sitesOf B ops.toList) ops p st st' := by
  obtain ⟨hT, hG, hP⟩ := chk_facts h
  obtain ⟨hnd, hmem, hpre⟩ := schedule_facts hT hG mixed t
  have hb : ∀ (i : Nat) (j : Nat), j ∈ ((ancs ops.toList [])[i]?).getD [] → ∀ p q, Region.schedule mixed ops t = p ++ i :: q → j ∈ p := fun i j hj p q hl => anc_before hT hpre i j hj p q hl
  obtain ⟨p, hp⟩ := tail_list (ops.size - k) k _ hnd (fun i => by rw [hmem]; omega) (fun j h1 h2 p q hl i hi => by
    unfold tailB at ht
    simp only [List.all_eq_true, List.mem_range, Bool.or_eq_true] at ht
    rcases ht j (by omega) with h3 | h3
    · rw [Nat.blt_eq] at h3; omega
    · have h4 := h3 i hi
      exact hb j i (ancsD_sub ops.toList [] [] rfl (fun _ _ h => h) j i (by simpa using h4)) p q hl)
  refine ⟨p, hp, fun st st' hr => ?_⟩
  rw [hp, List.nodup_append] at hnd
  obtain ⟨hpn, _, hpq⟩ := hnd
  refine reorder ?_ hP (List.range k) p List.pairwise_lt_range hpn ?_ ?_ hr
  · rintro o hc ⟨x, hx⟩ d hd
    exact mem_sites _ o d (by simpa using Array.mem_of_getElem? hx) hc hd
  · intro i
    have := hmem i
    rw [hp] at this
    simp only [List.mem_append, List.mem_range'_1] at this
    rw [List.mem_range]
    constructor
    · intro hi
      have h1 := this.1 (.inl hi)
      rcases Nat.lt_or_ge i k with h2 | h2
      · exact h2
      · exact (hpq i hi i (by rw [List.mem_range'_1]; omega) rfl).elim
    · intro hi
      rcases this.2 (by omega) with h1 | h1
      · exact h1
      · omega
  · intro p1 i q hl j hj hjq
    have h1 := hb i j hj p1 (q ++ List.range' k (ops.size - k)) (by rw [hp, hl]; simp)
    rw [hl, List.nodup_append] at hpn
    exact hpn.2.2 j h1 j (List.mem_cons_of_mem _ hjq) rfl
theorem tailB_end {k : Nat} (h : ops.size ≤ k) : tailB ops k = true := by
  unfold tailB
  simp only [List.all_eq_true, List.mem_range, Bool.or_eq_true]
  intro j hj
  exact .inl (by rw [Nat.blt_eq]; omega)
end
end Go.Sy
