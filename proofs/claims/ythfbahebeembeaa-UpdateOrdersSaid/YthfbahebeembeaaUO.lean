/- Merging in plain words. -/
import Derived.Test.YthfbahebeembeaaUN
set_option linter.unusedSimpArgs false
set_option linter.unusedSectionVars false
set_option linter.unusedVariables false
namespace Go.Mb
open Go.Sy
set_option linter.unusedVariables false
def keq (a b : Chg) : Bool := a.org == b.org && a.cnt == b.cnt
theorem keq_iff {a b : Chg} : keq a b = true ↔ a.org = b.org ∧ a.cnt = b.cnt := by simp [keq]
def insStep (all : List Chg) (x : Chg) : Option (List Chg) :=
  if all.any (fun y => keq y x && !Chg.eqv y x) then none else if all.any (fun y => keq y x) then some all else some (insM all x)
def insAll : List Chg → List Chg → Option (List Chg)
  | all, [] => some all
  | all, x :: l => match insStep all x with
    | none => none
    | some a => insAll a l
/-- Two changes with the same key are one. -/
def Uni (l : List Chg) : Prop := ∀ a ∈ l, ∀ b ∈ l, a.org = b.org → a.cnt = b.cnt → a = b
theorem sorted_uni {l : List Chg} (h : l.Pairwise ltX) : Uni l := by
  intro a ha b hb h1 h2
  obtain ⟨i, hi, e1⟩ := List.getElem_of_mem ha
  obtain ⟨j, hj, e2⟩ := List.getElem_of_mem hb
  rw [List.pairwise_iff_getElem] at h
  rcases Nat.lt_trichotomy i j with c | c | c
  · have := h i j hi hj c; rw [e1, e2] at this; unfold ltX at this; omega
  · subst c; rw [← e1, ← e2]
  · have := h j i hj hi c; rw [e1, e2] at this; unfold ltX at this; omega
theorem sorted_nodup {l : List Chg} (h : l.Pairwise ltX) : l.Nodup := h.imp fun {a b} h1 h2 => by subst h2; exact ltX_irr a h1
theorem sorted_eq {r s : List Chg} (hr : r.Pairwise ltX) (hs : s.Pairwise ltX) (h : ∀ x, x ∈ r ↔ x ∈ s) : r = s :=
  sort_eq ((List.perm_ext_iff_of_nodup (sorted_nodup hr) (sorted_nodup hs)).2 (fun {x} => h x)) (hr.imp fun {a b} h1 h2 => ltX_irr a (ltX_trans h1 h2)) hs
theorem insStep_none {all : List Chg} {x : Chg} (h : insStep all x = none) : ∃ y ∈ all, y.org = x.org ∧ y.cnt = x.cnt ∧ y ≠ x := by
  unfold insStep at h
  split at h
  · rename_i h1
    obtain ⟨y, hy, h2⟩ := List.any_eq_true.1 h1
    rw [Bool.and_eq_true, keq_iff] at h2
    refine ⟨y, hy, h2.1.1, h2.1.2, fun e => ?_⟩
    have h3 := h2.2
    rw [Chg.eqv_iff.2 e] at h3; cases h3
  · split at h <;> cases h
theorem insStep_some {all r : List Chg} {x : Chg} (hs : all.Pairwise ltX) (h : insStep all x = some r) : r.Pairwise ltX ∧ ∀ z, z ∈ r ↔ z ∈ all ∨ z = x := by
  unfold insStep at h
  split at h
  · cases h
  · rename_i h1
    split at h
    · rename_i h2
      injection h with h
      subst h
      refine ⟨hs, fun z => ⟨.inl, fun hz => ?_⟩⟩
      rcases hz with hz | rfl
      · exact hz
      · obtain ⟨y, hy, h3⟩ := List.any_eq_true.1 h2
        have : y = z := by
          rw [← Chg.eqv_iff, ← Bool.not_eq_false]
          intro h4
          exact h1 (List.any_eq_true.2 ⟨y, hy, by rw [h3, h4]; rfl⟩)
        rw [← this]; exact hy
    · rename_i h2
      injection h with h
      subst h
      refine ⟨insM_sorted hs fun y hy => ?_, fun z => ?_⟩
      · have h3 : ¬ (y.org = x.org ∧ y.cnt = x.cnt) := fun e => h2 (List.any_eq_true.2 ⟨y, hy, keq_iff.2 e⟩)
        unfold ltX; omega
      · rw [(insM_perm all x).mem_iff, List.mem_cons]
        exact ⟨fun h => h.symm, fun h => h.symm⟩
theorem insAll_some : ∀ {l all r : List Chg}, all.Pairwise ltX → insAll all l = some r → r.Pairwise ltX ∧ ∀ z, z ∈ r ↔ z ∈ all ∨ z ∈ l
  | [], all, r, hs, h => by
    unfold insAll at h
    injection h with h
    subst h
    exact ⟨hs, fun z => by simp⟩
  | x :: l, all, r, hs, h => by
    unfold insAll at h
    split at h
    · cases h
    · rename_i a ha
      obtain ⟨h1, h2⟩ := insStep_some hs ha
      obtain ⟨h3, h4⟩ := insAll_some h1 h
      refine ⟨h3, fun z => ?_⟩
      rw [h4, h2, List.mem_cons, or_assoc]
theorem insAll_none : ∀ {l all : List Chg}, all.Pairwise ltX → insAll all l = none → ¬ Uni (all ++ l)
  | [], all, hs, h => by unfold insAll at h; cases h
  | x :: l, all, hs, h => by
    unfold insAll at h
    split at h
    · rename_i ha
      obtain ⟨y, hy, h1, h2, h3⟩ := insStep_none ha
      intro hu
      exact h3 (hu y (List.mem_append.2 (.inl hy)) x (List.mem_append.2 (.inr List.mem_cons_self)) h1 h2)
    · rename_i a ha
      obtain ⟨h1, h2⟩ := insStep_some hs ha
      have h3 := insAll_none h1 h
      intro hu
      refine h3 fun c hc d hd => hu c ?_ d ?_
      · rcases List.mem_append.1 hc with hc | hc
        · rcases (h2 c).1 hc with hc | rfl
          · exact List.mem_append.2 (.inl hc)
          · exact List.mem_append.2 (.inr List.mem_cons_self)
        · exact List.mem_append.2 (.inr (List.mem_cons_of_mem _ hc))
      · rcases List.mem_append.1 hd with hd | hd
        · rcases (h2 d).1 hd with hd | rfl
          · exact List.mem_append.2 (.inl hd)
          · exact List.mem_append.2 (.inr List.mem_cons_self)
        · exact List.mem_append.2 (.inr (List.mem_cons_of_mem _ hd))
theorem insAll_eq {all l s : List Chg} (ha : all.Pairwise ltX) (hs : s.Pairwise ltX) (h : ∀ z, z ∈ s ↔ z ∈ all ∨ z ∈ l) : insAll all l = some s := by
  cases hi : insAll all l with
  | none =>
    refine absurd ?_ (insAll_none ha hi)
    intro a h1 b h2
    exact sorted_uni hs a ((h a).2 (List.mem_append.1 h1)) b ((h b).2 (List.mem_append.1 h2))
  | some r =>
    obtain ⟨h1, h2⟩ := insAll_some ha hi
    rw [sorted_eq h1 hs fun x => by rw [h2, h]]
theorem insAll_none' {all l : List Chg} (ha : all.Pairwise ltX) (hu : ¬ Uni (all ++ l)) : insAll all l = none := by
  cases hi : insAll all l with
  | none => rfl
  | some r =>
    obtain ⟨h1, h2⟩ := insAll_some ha hi
    refine absurd ?_ hu
    intro a h3 b h4
    exact sorted_uni h1 a ((h2 a).2 (List.mem_append.1 h3)) b ((h2 b).2 (List.mem_append.1 h4))
/-- What is left of the first k elements without repetitions. -/
def cK (l : List Chg) : Nat → List Chg
  | 0 => []
  | k + 1 => if (decide (0 < k) && Chg.eqv (l.getD k default) (l.getD (k - 1) default)) = true then cK l k else cK l k ++ [l.getD k default]
theorem cK_len (l : List Chg) : ∀ k, (cK l k).length ≤ k
  | 0 => Nat.le_refl _
  | k + 1 => by
    have := cK_len l k
    unfold cK
    split
    · omega
    · rw [List.length_append]; simp; omega
/-- The loop over conflicts. -/
def cfl (l : List Chg) (k : Nat) : Bool := decide (0 < k) && (keq (l.getD (k - 1) default) (l.getD k default) && !Chg.eqv (l.getD (k - 1) default) (l.getD k default))
theorem cK_spec {l : List Chg} (hs : l.Pairwise (fun a b => ¬ ltX b a)) (hn : ∀ k, k < l.length → cfl l k = false) : ∀ {k : Nat}, k ≤ l.length → (cK l k).Pairwise ltX ∧ ∀ z, z ∈ cK l k ↔ z ∈ l.take k
  | 0, _ => ⟨List.Pairwise.nil, fun z => by simp [cK]⟩
  | k + 1, hk => by
    obtain ⟨h1, h2⟩ := cK_spec hs hn (k := k) (by omega)
    have hlt : k < l.length := by omega
    rw [take_snoc hlt]
    unfold cK
    split
    · rename_i h3
      rw [Bool.and_eq_true, decide_eq_true_eq, Chg.eqv_iff] at h3
      refine ⟨h1, fun z => ?_⟩
      rw [h2, List.mem_append, List.mem_singleton]
      refine ⟨.inl, fun h => ?_⟩
      rcases h with h | rfl
      · exact h
      · rw [h3.2, show k = (k - 1) + 1 by omega, take_snoc (by omega)]
        simp
    · rename_i h3
      refine ⟨?_, fun z => by rw [List.mem_append, List.mem_append, h2]⟩
      rw [List.pairwise_append]
      refine ⟨h1, by simp, fun y hy z hz => ?_⟩
      rw [List.mem_singleton.1 hz]
      obtain ⟨i, hi, e⟩ := List.getElem_of_mem ((h2 y).1 hy)
      have hi2 : i < k := by rw [List.length_take] at hi; omega
      have e2 : l.getD i default = y := by rw [getD_lt (by omega), ← e, List.getElem_take]
      rw [List.pairwise_iff_getElem] at hs
      have q : ∀ a b, a < b → b < l.length → ¬ ltX (l.getD b default) (l.getD a default) := fun a b hab hb => by
        rw [getD_lt hb, getD_lt (by omega)]; exact hs a b (by omega) hb hab
      have q1 := q i k hi2 hlt
      rw [← e2]
      by_cases c : ltX (l.getD i default) (l.getD k default)
      · exact c
      · exfalso
        have q2 := q (k - 1) k (by omega) hlt
        have q3 : i = k - 1 ∨ ¬ ltX (l.getD (k - 1) default) (l.getD i default) := by
          by_cases c2 : i = k - 1
          · exact .inl c2
          · exact .inr (q i (k - 1) (by omega) (by omega))
        have hc := hn k hlt
        unfold cfl at hc
        rw [decide_eq_true (by omega : 0 < k), Bool.true_and] at hc
        have hk1 : keq (l.getD (k - 1) default) (l.getD k default) = true := by
          rw [keq_iff]
          rcases q3 with q3 | q3
          · rw [← q3]; unfold ltX at *; omega
          · unfold ltX at *; omega
        rw [hk1, Bool.true_and] at hc
        have hc : Chg.eqv (l.getD (k - 1) default) (l.getD k default) = true := by simpa using hc
        refine h3 ?_
        rw [decide_eq_true (by omega : 0 < k), Bool.true_and, Chg.eqv_iff]
        exact (Chg.eqv_iff.1 hc).symm
/-- Sorted, without conflicts: what the program finds is what the reference finds. -/
theorem merge_some {all l zs : List Chg} (ha : all.Pairwise ltX) (hp : zs.Perm (all ++ l)) (hs : zs.Pairwise (fun a b => ¬ ltX b a)) (hn : ∀ k, k < zs.length → cfl zs k = false) : insAll all l = some (cK zs zs.length) := by
  obtain ⟨h1, h2⟩ := cK_spec hs hn (Nat.le_refl _)
  refine insAll_eq ha h1 fun z => ?_
  rw [h2, List.take_length, hp.mem_iff, List.mem_append]
theorem merge_none {all l zs : List Chg} (ha : all.Pairwise ltX) (hp : zs.Perm (all ++ l)) {k : Nat} (hk : k < zs.length) (hc : cfl zs k = true) : insAll all l = none := by
  refine insAll_none' ha fun hu => ?_
  unfold cfl at hc
  rw [Bool.and_eq_true, Bool.and_eq_true, decide_eq_true_eq, keq_iff] at hc
  obtain ⟨h0, ⟨h1, h2⟩, h3⟩ := hc
  have := hu (zs.getD (k - 1) default) (hp.mem_iff.1 (by rw [getD_lt (by omega)]; exact List.getElem_mem _)) (zs.getD k default) (hp.mem_iff.1 (by rw [getD_lt hk]; exact List.getElem_mem _)) h1 h2
  rw [Chg.eqv_iff.2 this] at h3; cases h3
/-- A gap in front of a change; stamps that do not ascend. -/
def gapX : Option Chg → Chg → Bool
  | some p, x => if p.org == x.org then x.cnt != IntKind.i64.wrap (p.cnt + 1) else x.cnt != 1
  | none, x => x.cnt != 1
def ordX : Option Chg → Chg → Bool
  | some p, x => p.org == x.org && decide (x.stamp ≤ p.stamp)
  | none, x => false
def anyK (f : Option Chg → Chg → Bool) (l : List Chg) : Nat → Bool
  | 0 => false
  | k + 1 => anyK f l k || f (optAt l k) (l.getD k default)
theorem anyK_iff {f : Option Chg → Chg → Bool} {l : List Chg} : ∀ {n : Nat}, anyK f l n = false ↔ ∀ k, k < n → f (optAt l k) (l.getD k default) = false
  | 0 => ⟨fun _ k hk => by omega, fun _ => rfl⟩
  | n + 1 => by
    unfold anyK
    rw [Bool.or_eq_false_iff, anyK_iff (n := n)]
    refine ⟨fun h k hk => ?_, fun h => ⟨fun k hk => h k (by omega), h n (by omega)⟩⟩
    by_cases e : k = n
    · rw [e]; exact h.2
    · exact h.1 k (by omega)
theorem anyK_true {f : Option Chg → Chg → Bool} {l : List Chg} {n k : Nat} (hk : k < n) (h : f (optAt l k) (l.getD k default) = true) : anyK f l n = true := by
  rw [← Bool.not_eq_false]
  intro e
  rw [anyK_iff.1 e k hk] at h; cases h
def gapL (l : List Chg) : Bool := anyK gapX l l.length
def ordL (l : List Chg) : Bool := anyK ordX l l.length
def mergeM (h : His) (l : List Chg) : His × Int :=
  if chkHi h != 0 then (⟨0, []⟩, 1) else if l.any (fun x => !validX h.nodes x) then (⟨0, []⟩, 2) else match insAll h.l l with
    | none => (⟨0, []⟩, 24)
    | some r => if gapL r then (⟨0, []⟩, 25) else if ordL r then (⟨0, []⟩, 9) else if decide ((r.length : Int) > 1000) then (⟨0, []⟩, 4) else (⟨h.nodes, r⟩, 0)
theorem good_gaps {n : Int} {l : List Chg} (g : GoodH n l) (hl : l.length ≤ 1000000) : gapL l = false ∧ ordL l = false := by
  have key : ∀ k, k < l.length → gapX (optAt l k) (l.getD k default) = false ∧ ordX (optAt l k) (l.getD k default) = false := by
    intro k hk
    have hf := g.f k hk
    cases k with
    | zero =>
      have := folE_none.1 hf
      exact ⟨by show ((l.getD 0 default).cnt != 1) = false; rw [this]; rfl, rfl⟩
    | succ k =>
      have hn := folE_some.1 hf
      have hc := g.cnt (k := k) (by omega)
      have hle := cntO_le (l.take k) (l.getD k default).org
      rw [List.length_take] at hle
      have hw : IntKind.i64.wrap ((l.getD k default).cnt + 1) = (l.getD k default).cnt + 1 := wrap_i64 (by omega) (by omega)
      unfold Nxt at hn
      constructor
      · show (if (l.getD k default).org == (l.getD (k + 1) default).org then (l.getD (k + 1) default).cnt != IntKind.i64.wrap ((l.getD k default).cnt + 1) else (l.getD (k + 1) default).cnt != 1) = false
        rw [hw]
        split
        · rename_i h
          rw [beq_iff_eq] at h
          rw [bne_eq_false_iff_eq]; omega
        · rename_i h
          rw [beq_iff_eq] at h
          rw [bne_eq_false_iff_eq]; omega
      · show ((l.getD k default).org == (l.getD (k + 1) default).org && decide ((l.getD (k + 1) default).stamp ≤ (l.getD k default).stamp)) = false
        rw [Bool.and_eq_false_iff, beq_eq_false_iff_ne, decide_eq_false_iff_not]
        omega
  exact ⟨anyK_iff.2 fun k hk => (key k hk).1, anyK_iff.2 fun k hk => (key k hk).2⟩
theorem GoodH.check {h : His} (g : GoodH h.nodes h.l) (hn : 1 ≤ h.nodes) (hm : h.nodes ≤ 16) (hl : h.l.length ≤ 1000) : chkHi h = 0 := by
  unfold chkHi
  rw [if_neg (by simp; omega), if_neg (by simp; omega)]
  exact good_iff.2 g
/-- MERGING, where a valid history holds all. -/
theorem merge_eq {n : Int} {a l s : List Chg} (hn : 1 ≤ n) (hm : n ≤ 16) (ga : GoodH n a) (gs : GoodH n s) (hla : a.length ≤ 1000) (hls : s.length ≤ 1000) (h : ∀ z, z ∈ s ↔ z ∈ a ∨ z ∈ l) : mergeM ⟨n, a⟩ l = (⟨n, s⟩, 0) := by
  obtain ⟨h1, h2⟩ := good_gaps gs (by omega)
  have hc : chkHi ⟨n, a⟩ = 0 := GoodH.check (h := ⟨n, a⟩) ga hn hm hla
  have hv : l.any (fun x => !validX n x) = false := by
    rw [List.any_eq_false]
    intro x hx
    obtain ⟨i, hi, e⟩ := List.getElem_of_mem ((h x).2 (.inr hx))
    have := gs.v i hi
    rw [getD_lt hi, e] at this
    rw [this]; simp
  unfold mergeM
  rw [hc, if_neg (by simp), if_neg (by rw [show (His.mk n a).nodes = n from rfl, hv]; simp), insAll_eq ga.sorted gs.sorted h]
  simp only [h1, h2]
  rw [if_neg (by simp), if_neg (by simp), if_neg (by simp; omega)]
end Go.Mb
