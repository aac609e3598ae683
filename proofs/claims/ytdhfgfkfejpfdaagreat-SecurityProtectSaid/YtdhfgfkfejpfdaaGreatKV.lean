/- Signatures in plain words: facts. -/
import Derived.Test.YtdhfgfkfejpfdaaGreatKU
set_option linter.unusedSimpArgs false
set_option linter.unusedSectionVars false
set_option linter.unusedVariables false
namespace Go.Mb
open Go.Sy
set_option linter.unusedVariables false

theorem gD_drop (l : List Nat) (a i : Nat) : (l.drop a).getD i 0 = l.getD (a + i) 0 := by simp [List.getD, List.getElem?_drop]
theorem sgsN_len : ∀ (n : Nat) (l : List Nat), (sgsN n l).length = n
  | 0, _ => rfl
  | n + 1, l => by rw [sgsN, List.length_cons, sgsN_len n]
theorem sgs_len (l : List Nat) : (sgs l).length = l.length / 9 := sgsN_len _ _
theorem sgsN_get : ∀ {n : Nat} {l : List Nat} {k : Nat}, k < n → (sgsN n l).getD k default = (l.getD (9 * k) 0, (l.drop (9 * k + 1)).take 8)
  | 0, _, k, h => absurd h (by omega)
  | n + 1, l, 0, _ => rfl
  | n + 1, l, k + 1, h => by
    have ih := sgsN_get (n := n) (l := l.drop 9) (k := k) (by omega)
    rw [sgsN, show (((l.getD 0 0, (l.drop 1).take 8) : Sg) :: sgsN n (l.drop 9)).getD (k + 1) default = (sgsN n (l.drop 9)).getD k default by simp [List.getD], ih, gD_drop, List.drop_drop, show 9 + 9 * k = 9 * (k + 1) by omega, show 9 + (9 * k + 1) = 9 * (k + 1) + 1 by omega]
theorem sgs_get {l : List Nat} {k : Nat} (h : k < l.length / 9) : (sgs l).getD k default = (l.getD (9 * k) 0, (l.drop (9 * k + 1)).take 8) := sgsN_get h
theorem enS_sgsN : ∀ {n : Nat} {l : List Nat}, l.length = 9 * n → enS (sgsN n l) = l
  | 0, l, h => by rw [List.length_eq_zero_iff.1 h]; rfl
  | n + 1, l, h => by
    have ih := enS_sgsN (n := n) (l := l.drop 9) (by rw [List.length_drop]; omega)
    rw [sgsN, show enS ((l.getD 0 0, (l.drop 1).take 8) :: sgsN n (l.drop 9)) = (l.getD 0 0 :: (l.drop 1).take 8) ++ enS (sgsN n (l.drop 9)) from rfl, ih]
    cases l with
    | nil => simp at h
    | cons a l => simp
theorem enS_sgs {l : List Nat} (h : l.length % 9 = 0) : enS (sgs l) = l := enS_sgsN (by omega)
theorem enS_cons (p : Sg) (l : List Sg) : enS (p :: l) = p.1 :: (p.2 ++ enS l) := rfl
theorem enS_append (l m : List Sg) : enS (l ++ m) = enS l ++ enS m := List.flatMap_append
theorem enS_len {l : List Sg} (h : ∀ p ∈ l, p.2.length = 8) : (enS l).length = 9 * l.length := by
  induction l with
  | nil => rfl
  | cons p l ih =>
    have h1 := h p (by simp)
    have h2 := ih fun q hq => h q (by simp [hq])
    rw [enS_cons, List.length_cons, List.length_append, List.length_cons]; omega
theorem sgsN_enS : ∀ {l : List Sg}, (∀ p ∈ l, p.2.length = 8) → sgsN l.length (enS l) = l
  | [], _ => rfl
  | p :: l, h => by
    obtain ⟨a, t⟩ := p
    have h1 : t.length = 8 := h (a, t) (by simp)
    have ih := sgsN_enS (l := l) fun q hq => h q (by simp [hq])
    rw [List.length_cons, sgsN, enS_cons]
    have e1 : (a :: (t ++ enS l)).drop 9 = enS l := by
      rw [show (9 : Nat) = 8 + 1 from rfl, List.drop_succ_cons, ← h1, List.drop_left]
    have e2 : ((a :: (t ++ enS l)).drop 1).take 8 = t := by
      rw [List.drop_succ_cons, List.drop_zero, ← h1, List.take_left]
    rw [e1, e2, ih]; rfl
theorem sgs_enS {l : List Sg} (h : ∀ p ∈ l, p.2.length = 8) : sgs (enS l) = l := by
  have e := enS_len h
  unfold sgs
  rw [e, show 9 * l.length / 9 = l.length by omega]
  exact sgsN_enS h
theorem ndsOK_iff : ∀ {l : List Sg} {p : Int}, ndsOK p l = true ↔ (∀ x ∈ l, p < (x.1 : Int) ∧ x.1 < 16) ∧ l.Pairwise (fun x y => x.1 < y.1)
  | [], p => by simp [ndsOK]
  | x :: l, p => by
    rw [ndsOK, Bool.and_eq_true, Bool.and_eq_true, decide_eq_true_eq, decide_eq_true_eq, ndsOK_iff, List.pairwise_cons]
    constructor
    · rintro ⟨⟨h1, h2⟩, h3, h4⟩
      refine ⟨fun y hy => ?_, fun y hy => ?_, h4⟩
      · rcases List.mem_cons.1 hy with rfl | hy
        · omega
        · have := h3 y hy; omega
      · have := h3 y hy; omega
    · rintro ⟨h1, h2, h3⟩
      have := h1 x (by simp)
      refine ⟨⟨by omega, by omega⟩, fun y hy => ?_, h3⟩
      have h4 := h1 y (by simp [hy])
      have h5 := h2 y hy
      omega
def GoodS (l : List Sg) : Prop := l.Pairwise (fun x y => x.1 < y.1) ∧ ∀ p ∈ l, p.1 < 16 ∧ p.2.length = 8 ∧ ∀ x ∈ p.2, x < 256
theorem GoodS.tags {l : List Sg} (h : GoodS l) : ∀ p ∈ l, p.2.length = 8 := fun p hp => (h.2 p hp).2.1
theorem GoodS.lt {l : List Sg} (h : GoodS l) : ∀ x ∈ enS l, x < 256 := by
  intro x hx
  simp only [enS, List.mem_flatMap] at hx
  obtain ⟨p, hp, hx⟩ := hx
  have h1 := h.2 p hp
  rcases List.mem_cons.1 hx with rfl | hx
  · omega
  · exact h1.2.2 x hx
theorem sorted_len : ∀ {l : List Sg} {p : Nat}, (∀ x ∈ l, p ≤ x.1 ∧ x.1 < 16) → l.Pairwise (fun x y => x.1 < y.1) → l.length = 0 ∨ l.length + p ≤ 16
  | [], _, _, _ => .inl rfl
  | x :: l, p, h, hp => by
    obtain ⟨h1, h2⟩ := List.pairwise_cons.1 hp
    have hx := h x (by simp)
    have ih := sorted_len (l := l) (p := x.1 + 1) (fun y hy => ⟨by have := h1 y hy; omega, (h y (by simp [hy])).2⟩) h2
    rw [List.length_cons]; omega
theorem GoodS.len {l : List Sg} (h : GoodS l) : l.length ≤ 16 := by
  have := sorted_len (p := 0) (fun x hx => ⟨Nat.zero_le _, (h.2 x hx).1⟩) h.1
  omega
theorem GoodS.filter {l : List Sg} (h : GoodS l) (q : Sg → Bool) : GoodS (l.filter q) := ⟨h.1.filter q, fun p hp => h.2 p (List.mem_filter.1 hp).1⟩
theorem goodS_sgsN : ∀ {n : Nat} {l : List Nat}, (∀ x ∈ l, x < 256) → l.length = 9 * n → ∀ p ∈ sgsN n l, p.2.length = 8 ∧ ∀ x ∈ p.2, x < 256
  | 0, _, _, _, p, hp => by cases hp
  | n + 1, l, hl, h, p, hp => by
    rcases List.mem_cons.1 hp with rfl | hp
    · refine ⟨by simp; omega, fun x hx => hl x (List.mem_of_mem_drop (List.mem_of_mem_take hx))⟩
    · exact goodS_sgsN (fun x hx => hl x (List.mem_of_mem_drop hx)) (by rw [List.length_drop]; omega) p hp
theorem goodS_sgs {l : List Nat} (hl : ∀ x ∈ l, x < 256) (h : dmgL l = false) : GoodS (sgs l) ∧ l ≠ [] ∧ l.length % 9 = 0 := by
  unfold dmgL at h
  simp only [Bool.or_eq_false_iff, Bool.not_eq_false', beq_eq_false_iff_ne, bne_eq_false_iff_eq] at h
  obtain ⟨h1, h2, h3⟩ := h
  rw [ndsOK_iff] at h1
  refine ⟨⟨h1.2, fun p hp => ⟨(h1.1 p hp).2, goodS_sgsN hl (by omega) p hp⟩⟩, fun e => h2 (by rw [e]; rfl), h3⟩
theorem dmgL_enS {l : List Sg} (h : GoodS l) (hn : l ≠ []) : dmgL (enS l) = false := by
  have e := enS_len h.tags
  have h0 : 0 < l.length := List.length_pos_iff.2 hn
  unfold dmgL
  rw [sgs_enS h.tags, e, ndsOK_iff.2 ⟨fun x hx => ⟨by omega, (h.2 x hx).1⟩, h.1⟩]
  simp; omega
theorem insS_mem {x y : Sg} : ∀ {l : List Sg}, y ∈ insS x l ↔ y = x ∨ y ∈ l
  | [] => by simp [insS]
  | z :: l => by
    rw [insS]
    split
    · simp
    · rw [List.mem_cons, insS_mem, List.mem_cons]
      constructor <;> (intro h; rcases h with h | h | h <;> simp [h])
theorem insS_sorted {x : Sg} : ∀ {l : List Sg}, l.Pairwise (fun x y => x.1 < y.1) → (∀ y ∈ l, y.1 ≠ x.1) → (insS x l).Pairwise (fun x y => x.1 < y.1)
  | [], _, _ => by simp [insS]
  | z :: l, h, hn => by
    rw [insS]
    obtain ⟨h1, h2⟩ := List.pairwise_cons.1 h
    have hz := hn z (by simp)
    split <;> rename_i hx
    · refine List.pairwise_cons.2 ⟨fun y hy => ?_, h⟩
      rcases List.mem_cons.1 hy with rfl | hy
      · exact hx
      · have := h1 y hy; omega
    · refine List.pairwise_cons.2 ⟨fun y hy => ?_, insS_sorted h2 fun y hy => hn y (by simp [hy])⟩
      rcases insS_mem.1 hy with rfl | hy
      · omega
      · exact h1 y hy
theorem insS_ne (x : Sg) (l : List Sg) : insS x l ≠ [] := by
  cases l with
  | nil => simp [insS]
  | cons y l => rw [insS]; split <;> simp
theorem GoodS.ins {l : List Sg} (h : GoodS l) {x : Sg} (h1 : x.1 < 16) (h2 : x.2.length = 8) (h3 : ∀ y ∈ x.2, y < 256) (hn : ∀ y ∈ l, y.1 ≠ x.1) : GoodS (insS x l) :=
  ⟨insS_sorted h.1 hn, fun p hp => by
    rcases insS_mem.1 hp with rfl | hp
    · exact ⟨h1, h2, h3⟩
    · exact h.2 p hp⟩
/-- Sorted lists of signatures with the same members are the same. -/
theorem sorted_ext : ∀ {l m : List Sg}, l.Pairwise (fun x y => x.1 < y.1) → m.Pairwise (fun x y => x.1 < y.1) → (∀ x, x ∈ l ↔ x ∈ m) → l = m
  | [], [], _, _, _ => rfl
  | [], y :: m, _, _, h => by have := (h y).2 (by simp); cases this
  | x :: l, [], _, _, h => by have := (h x).1 (by simp); cases this
  | x :: l, y :: m, hl, hm, h => by
    obtain ⟨a1, a2⟩ := List.pairwise_cons.1 hl
    obtain ⟨b1, b2⟩ := List.pairwise_cons.1 hm
    have e : x = y := by
      rcases List.mem_cons.1 ((h x).1 (by simp)) with e | e
      · exact e
      · rcases List.mem_cons.1 ((h y).2 (by simp)) with e2 | e2
        · exact e2.symm
        · have := b1 x e; have := a1 y e2; omega
    subst e
    congr 1
    refine sorted_ext a2 b2 fun z => ⟨fun hz => ?_, fun hz => ?_⟩
    · rcases List.mem_cons.1 ((h z).1 (by simp [hz])) with e | e
      · subst e; have := a1 z hz; omega
      · exact e
    · rcases List.mem_cons.1 ((h z).2 (by simp [hz])) with e | e
      · subst e; have := b1 z hz; omega
      · exact e
theorem fndS_some {l : List Sg} {n : Int} (h : (fndS l n).2 = true) : ∃ p ∈ l, (p.1 : Int) = n ∧ fndS l n = (p.2, true) := by
  unfold fndS at h ⊢
  split <;> rename_i p hp
  · exact ⟨p, List.mem_of_find?_eq_some hp, by simpa using List.find?_some hp, rfl⟩
  · rw [hp] at h; cases h
theorem fndS_none {l : List Sg} {n : Int} : (fndS l n).2 = false ↔ ∀ p ∈ l, (p.1 : Int) ≠ n := by
  unfold fndS
  split <;> rename_i hp
  · simp only [Bool.true_eq_false, false_iff]
    intro h
    exact h _ (List.mem_of_find?_eq_some hp) (by simpa using List.find?_some hp)
  · simp only [true_iff]
    intro p h
    have := List.find?_eq_none.1 hp p h
    simpa using this
theorem fndS_mem {l : List Sg} (h : GoodS l) {p : Sg} (hp : p ∈ l) : fndS l p.1 = (p.2, true) := by
  cases hb : (fndS l p.1).2 with
  | false => exact absurd rfl (fndS_none.1 hb p hp)
  | true =>
    obtain ⟨q, hq, hn, e⟩ := fndS_some hb
    rw [e]
    have : q = p := by
      obtain ⟨i, hi, rfl⟩ := List.getElem_of_mem hp
      obtain ⟨j, hj, rfl⟩ := List.getElem_of_mem hq
      have hpw := List.pairwise_iff_getElem.1 h.1
      rcases Nat.lt_trichotomy i j with hij | hij | hij
      · have := hpw i j hi hj hij; omega
      · subst hij; rfl
      · have := hpw j i hj hi hij; omega
    rw [this]
/-- Blocks. -/
theorem fndB_some {l : List Blk} {k : Int} (h : (fndB l k).2 = true) : (fndB l k).1 ∈ l ∧ (fndB l k).1.kind = k := by
  unfold fndB at h ⊢
  split <;> rename_i hp
  · exact ⟨List.mem_of_find?_eq_some hp, by simpa using List.find?_some hp⟩
  · rw [hp] at h; cases h
theorem fndB_none {l : List Blk} {k : Int} (h : (fndB l k).2 = false) : fndB l k = (default, false) ∧ ∀ x ∈ l, x.kind ≠ k := by
  unfold fndB at h ⊢
  split <;> rename_i hp
  · rw [hp] at h; cases h
  · refine ⟨rfl, fun x hx => ?_⟩
    have := List.find?_eq_none.1 hp x hx
    simpa using this
theorem kind_inj {l : List Blk} (h : l.Pairwise (fun x y => x.kind < y.kind)) {x y : Blk} (hx : x ∈ l) (hy : y ∈ l) (e : x.kind = y.kind) : x = y := by
  obtain ⟨i, hi, rfl⟩ := List.getElem_of_mem hx
  obtain ⟨j, hj, rfl⟩ := List.getElem_of_mem hy
  have hpw := List.pairwise_iff_getElem.1 h
  rcases Nat.lt_trichotomy i j with hij | hij | hij
  · have := hpw i j hi hj hij; omega
  · subst hij; rfl
  · have := hpw j i hj hi hij; omega
theorem fndB_mem {l : List Blk} (h : l.Pairwise (fun x y => x.kind < y.kind)) {x : Blk} (hx : x ∈ l) : fndB l x.kind = (x, true) := by
  cases hb : (fndB l x.kind).2 with
  | false => exact absurd rfl ((fndB_none hb).2 x hx)
  | true =>
    have h1 := fndB_some hb
    have e := kind_inj h h1.1 hx h1.2
    rw [← hb]; exact Prod.ext e rfl
theorem fndB_eq {l m : List Blk} {k : Int} (hl : l.Pairwise (fun x y => x.kind < y.kind)) (hm : m.Pairwise (fun x y => x.kind < y.kind)) (h : ∀ x, x.kind = k → (x ∈ l ↔ x ∈ m)) : fndB l k = fndB m k := by
  cases hb : (fndB l k).2 with
  | true =>
    obtain ⟨h1, h2⟩ := fndB_some hb
    have e1 := fndB_mem hl h1
    have e2 := fndB_mem hm ((h _ h2).1 h1)
    rw [h2] at e1 e2
    rw [e1, e2]
  | false =>
    obtain ⟨h1, h2⟩ := fndB_none hb
    cases hc : (fndB m k).2 with
    | false => rw [h1, (fndB_none hc).1]
    | true =>
      obtain ⟨h3, h4⟩ := fndB_some hc
      exact absurd h4 (h2 _ ((h _ h4).2 h3))
theorem split_sorted : ∀ {l : List Blk} (k : Int), l.Pairwise (fun x y => x.kind < y.kind) → l.filter (fun y => decide (y.kind < k)) ++ l.filter (fun y => decide (y.kind > k)) = remB l k
  | [], _, _ => rfl
  | x :: l, k, h => by
    obtain ⟨h1, h2⟩ := List.pairwise_cons.1 h
    have ih := split_sorted k h2
    unfold remB at ih ⊢
    rcases Int.lt_trichotomy x.kind k with hk | hk | hk
    · rw [List.filter_cons_of_pos (by simpa using hk), List.filter_cons_of_neg (by simp; omega), List.filter_cons_of_pos (by simp; omega), List.cons_append, ih]
    · rw [List.filter_cons_of_neg (by simp; omega), List.filter_cons_of_neg (by simp; omega), List.filter_cons_of_neg (by simp [hk]), ih]
    · have e : l.filter (fun y => decide (y.kind < k)) = [] := List.filter_eq_nil_iff.2 fun y hy => by have := h1 y hy; simp; omega
      rw [e, List.nil_append] at ih
      rw [List.filter_cons_of_neg (by simp; omega), e, List.nil_append, List.filter_cons_of_pos (by simpa using hk), List.filter_cons_of_pos (by simp; omega), ih]
theorem putL_mem {l : List Blk} {x y : Blk} : y ∈ putL l x ↔ y = x ∨ (y ∈ l ∧ y.kind ≠ x.kind) := by
  unfold putL
  simp only [List.mem_append, List.mem_filter, List.mem_singleton, decide_eq_true_eq]
  constructor
  · rintro ((⟨h1, h2⟩ | h) | ⟨h1, h2⟩)
    · exact .inr ⟨h1, by omega⟩
    · exact .inl h
    · exact .inr ⟨h1, by omega⟩
  · rintro (h | ⟨h1, h2⟩)
    · exact .inl (.inr h)
    · rcases Int.lt_or_gt_of_ne h2 with h | h
      · exact .inl (.inl ⟨h1, h⟩)
      · exact .inr ⟨h1, h⟩
theorem putL_sorted {l : List Blk} (h : l.Pairwise (fun x y => x.kind < y.kind)) (x : Blk) : (putL l x).Pairwise (fun x y => x.kind < y.kind) := by
  unfold putL
  rw [List.append_assoc, List.pairwise_append]
  refine ⟨h.filter _, ?_, ?_⟩
  · rw [List.singleton_append, List.pairwise_cons]
    exact ⟨fun y hy => by simpa using (List.mem_filter.1 hy).2, h.filter _⟩
  · intro a ha c hc
    have h1 : a.kind < x.kind := by simpa using (List.mem_filter.1 ha).2
    rcases List.mem_append.1 hc with hc | hc
    · rw [List.mem_singleton.1 hc]; exact h1
    · have : c.kind > x.kind := by simpa using (List.mem_filter.1 hc).2
      omega
theorem putL_len {l : List Blk} (h : l.Pairwise (fun x y => x.kind < y.kind)) (x : Blk) : (putL l x).length = (remB l x.kind).length + 1 := by
  rw [← split_sorted x.kind h]
  unfold putL
  simp only [List.length_append, List.length_singleton]; omega
theorem putL_good {l : List Blk} (h : GoodL l) {x : Blk} (hx : chkK x = 0) (hn : (putL l x).length ≤ 8) : GoodL (putL l x) :=
  ⟨hn, fun y hy => by
    rcases putL_mem.1 hy with rfl | hy
    · exact hx
    · exact h.2.1 y hy.1, putL_sorted h.2.2 x⟩
theorem remB_good {l : List Blk} (h : GoodL l) (k : Int) : GoodL (remB l k) :=
  ⟨Nat.le_trans (List.length_filter_le _ _) h.1, fun y hy => h.2.1 y (List.mem_filter.1 hy).1, h.2.2.filter _⟩
theorem remB_putL {l : List Blk} (h : l.Pairwise (fun x y => x.kind < y.kind)) (x : Blk) : remB (putL l x) x.kind = remB l x.kind := by
  have e := split_sorted x.kind h
  have e2 : remB (putL l x) x.kind = remB (l.filter (fun y => decide (y.kind < x.kind)) ++ l.filter (fun y => decide (y.kind > x.kind))) x.kind := by
    unfold putL remB
    simp only [List.filter_append]
    rw [show ([x].filter fun y => y.kind != x.kind) = [] by simp]
    simp
  rw [e2, e]
  unfold remB
  rw [List.filter_filter]
  exact List.filter_congr fun y _ => by simp
theorem remB_rem4 {l : List Blk} {k : Int} (hk : k = 1 ∨ k = 2 ∨ k = 3 ∨ k = 4) : rem4 l = rem4 (remB l k) := by
  unfold rem4 remB
  simp only [List.filter_filter]
  refine List.filter_congr fun y _ => ?_
  rcases hk with rfl | rfl | rfl | rfl <;> (rw [Bool.eq_iff_iff]; simp only [Bool.and_eq_true, bne_iff_ne, ne_eq]; constructor <;> (intro hh; omega))
theorem rem4_putL {l : List Blk} (h : l.Pairwise (fun x y => x.kind < y.kind)) (x : Blk) (hk : x.kind = 1 ∨ x.kind = 2 ∨ x.kind = 3 ∨ x.kind = 4) : rem4 (putL l x) = rem4 l := by
  rw [remB_rem4 hk, remB_putL h, ← remB_rem4 hk]
theorem rem4_good {l : List Blk} (h : GoodL l) : GoodL (rem4 l) := remB_good (remB_good (remB_good (remB_good h 1) 2) 3) 4
theorem putL_putL {l : List Blk} (h : l.Pairwise (fun x y => x.kind < y.kind)) {x y : Blk} (e : x.kind = y.kind) : putL (putL l x) y = putL l y := by
  have key : ∀ q : Blk → Bool, (∀ z, z.kind = x.kind → q z = false) → (putL l x).filter q = l.filter q := by
    intro q hq
    have e1 : (putL l x).filter q = (remB (putL l x) x.kind).filter q := by
      unfold remB; rw [List.filter_filter]
      refine List.filter_congr fun z _ => ?_
      by_cases hz : z.kind = x.kind
      · rw [hq z hz]; simp
      · simp [hz]
    have e2 : l.filter q = (remB l x.kind).filter q := by
      unfold remB; rw [List.filter_filter]
      refine List.filter_congr fun z _ => ?_
      by_cases hz : z.kind = x.kind
      · rw [hq z hz]; simp
      · simp [hz]
    rw [e1, e2, remB_putL h]
  have e3 := key (fun z => decide (z.kind < y.kind)) fun z hz => by simp; omega
  have e4 := key (fun z => decide (z.kind > y.kind)) fun z hz => by simp; omega
  rw [show putL (putL l x) y = (putL l x).filter (fun z => decide (z.kind < y.kind)) ++ [y] ++ (putL l x).filter (fun z => decide (z.kind > y.kind)) from rfl, e3, e4]
  rfl
/-- Putting a block that is there changes nothing. -/
theorem putL_self : ∀ {l : List Blk}, l.Pairwise (fun x y => x.kind < y.kind) → ∀ {x : Blk}, x ∈ l → putL l x = l
  | [], _, x, h => by cases h
  | y :: l, h, x, hx => by
    obtain ⟨h1, h2⟩ := List.pairwise_cons.1 h
    unfold putL
    rcases List.mem_cons.1 hx with rfl | hx
    · rw [List.filter_eq_nil_iff.2 fun z hz => by
        rcases List.mem_cons.1 hz with rfl | hz
        · simp
        · have := h1 z hz; simp only [decide_eq_true_eq]; omega]
      rw [List.filter_cons_of_neg (by simp), List.filter_eq_self.2 fun z hz => by have := h1 z hz; simpa using this]
      rfl
    · have hyx := h1 x hx
      have ih := putL_self h2 hx
      unfold putL at ih
      rw [List.filter_cons_of_pos (by simpa using hyx), List.filter_cons_of_neg (by simp; omega), List.cons_append, List.cons_append, ih]
end Go.Mb
