import Derived.Test.YtdhfgfkfejpfdaaSyE
import Derived.Shelf.Sort.Plain
import Derived.Shelf.Slices.In.SortNone
set_option linter.unusedSimpArgs false
set_option linter.unusedSectionVars false
set_option linter.unusedVariables false
/- Sorting a row of numbers, by the library's contract. -/
namespace Go.Sy
open Go.RowKit Go.Sort Go.Shelf Go.Proofs
set_option linter.unusedVariables false

section
variable {α : Type} [Inhabited α] {enc : α → Value} {w : World} {g o m : Nat} {d : Array α} {os : Array Obj}
theorem heap_same {b : Nat} (hb : b < w.heap.size) (hne : b ≠ g) : (grow (putRow enc (Sort.ahead w m) g o d) os).heap[b]? = w.heap[b]? := by
  simp only [grow, putRow, mapBlock, Sort.ahead]
  rw [Array.getElem?_append_left (by simpa using hb), Array.getElem?_modify, if_neg (Ne.symm hne)]
theorem heap_here {c : Array Value} {e : TypeId} {fr : Nat × Nat} (hg : w.heap[g]? = some (.cells c e fr)) : (grow (putRow enc (Sort.ahead w m) g o d) os).heap[g]? = some (.cells (putCells enc o d c) e fr) := by
  have hb : g < w.heap.size := by
    rcases Nat.lt_or_ge g w.heap.size with h | h
    · exact h
    · rw [Array.getElem?_eq_none h] at hg; cases hg
  simp only [grow, putRow, mapBlock, Sort.ahead]
  rw [Array.getElem?_append_left (by simpa using hb), Array.getElem?_modify, if_pos rfl, hg]
  rfl
theorem heap_below : Bel 0 w (grow (putRow enc (Sort.ahead w m) g o d) os) :=
  ⟨rfl, rfl, rfl, by simp [grow, putRow, mapBlock, Sort.ahead], fun k hk => by omega, Nat.le_add_right _ _⟩
theorem frozen_no {c : Array Value} {e : TypeId} {fz : Nat × Nat} (hg : w.heap[g]? = some (.cells c e fz)) (hz : c.size ≤ fz.1 ∨ fz.2 = 0) (j : Nat) (hj : j < c.size) : w.frozen? ⟨g, j, none⟩ = false := by
  obtain ⟨lo, hi⟩ := fz
  simp only [World.frozen?, hg, Bool.and_eq_false_iff, decide_eq_false_iff_not]
  simp only at hz
  omega
theorem take_put {c : Array Value} {n : Nat} (hn : d.size = n) (hc : n ≤ c.size) : (putCells enc 0 d c).toList.take n = d.toList.map enc := by
  apply List.ext_getElem?
  intro k
  rw [List.getElem?_take]
  split
  · rename_i hk
    have hk' : k < d.size := by omega
    simp only [putCells, Array.toList_mapIdx, List.getElem?_mapIdx, List.getElem?_map]
    rw [List.getElem?_eq_getElem (by simp; omega), List.getElem?_eq_getElem (by simpa using hk')]
    simp only [Option.map_some, Nat.zero_le, Nat.zero_add, true_and, Nat.sub_zero, if_pos hk']
    rw [getElem!_pos d k hk']
    simp
  · rename_i hk
    rw [List.getElem?_eq_none]
    simp; omega
end

/-- A row of numbers. -/
def elI (l : List Int) : Nat → Nat → A := fun i j => getA [.int .i64 (l.getD i default)] j

theorem ObR_ints {w : World} {O : Nat → Prop} {e : TypeId} {zs : List Int} {l : Loc} (h : ObR w O virg (.row e 1 zs.length (elI zs)) l) : ∃ v, l = .row v ∧ rowR w e 1 v zs.length (zs.map (Value.int .i64)) := by
  obtain ⟨v, xs, h1, h2, h3, h4⟩ := h
  refine ⟨v, h1, ?_⟩
  have hx : xs = zs.map (Value.int .i64) := by
    apply List.ext_getElem?
    intro k
    have hl := h2.1
    rcases Nat.lt_or_ge k zs.length with hk | hk
    · obtain ⟨u, h5, h6⟩ := h4 k hk 0 (by omega)
      simp only [Nat.mul_one, Nat.add_zero] at h5
      simp only [elI, getA, R] at h6
      rw [h5, h6]
      simp [List.getD, hk]
    · rw [List.getElem?_eq_none (by omega), List.getElem?_eq_none (by simp; omega)]
  rw [← hx]
  exact h2
theorem ints_ObR {w : World} {O : Nat → Prop} {e : TypeId} {zs : List Int} {v : Value} (h : rowR w e 1 v zs.length (zs.map (Value.int .i64))) : ObR w O virg (.row e 1 zs.length (elI zs)) (.row v) := by
  refine ⟨v, _, rfl, h, ?_, fun i hi j hj => ?_⟩
  · intro u hu
    simp only [List.mem_map] at hu
    obtain ⟨x, _, rfl⟩ := hu
    rfl
  · obtain rfl : j = 0 := by omega
    refine ⟨.int .i64 (zs.getD i default), ?_, rfl⟩
    simp [List.getD, hi]

def srt (zs : List Int) : List Int := zs.mergeSort fun x y => decide (x ≤ y)
theorem srt_len (zs : List Int) : (srt zs).length = zs.length := by simp [srt]

theorem sortI_mu {P : Program} {ρ : Ren} (L : Lays.n189 P ρ) (hent : entB P (ρ.f 189) = true) (zs : List Int) (e : TypeId) (hsz : zs.length < 4611686018427387904) :
    FnMu P (ρ.f 189) [.own 0] (.row e 1 zs.length (elI zs)) (fun ob r => ob = .row e 1 zs.length (elI (srt zs)) ∧ r = .tup []) := by
  refine ⟨hent, fun w l vs hb hob hr => ?_⟩
  obtain ⟨v, rfl, hx, hh⟩ := ObR_ints hob
  simp only [RL, R, upd_same] at hr
  obtain ⟨v', _, rfl, ⟨rfl, _⟩, rfl⟩ := hr
  rcases hh with ⟨hn, a, rfl⟩ | ⟨g, cap, cur, rfl, ⟨fz, hg, hfz⟩, h1, h2, h3, h4⟩
  · have hz : zs = [] := List.eq_nil_of_length_eq_zero hn
    subst hz
    refine (Any.slices_Sort_int_none L a 0 w).mono ?_
    rintro e' w' ⟨rfl, rfl⟩
    refine ⟨_, _, _, rfl, ⟨rfl, rfl⟩, Bel.refl _ _, fun _ _ _ => rfl, ?_, rfl, ?_⟩
    · rw [show srt [] = [] by simp [srt]]
      exact ints_ObR (zs := []) ⟨rfl, .inl ⟨rfl, a, rfl⟩⟩
    · simp [R, RL]
  · simp only [Nat.mul_one] at h3 h4 hx
    have hg0 : g < w.heap.size := hb g rfl
    have hH : Holds (Value.int .i64) w g 0 zs.toArray := by
      intro j hj
      simp only [List.size_toArray] at hj
      refine ⟨?_, frozen_no hg hfz _ (by omega)⟩
      have hcur : w.heap[g]? = some (.cells (List.toArray cur.toList) e fz) := by simpa using hg
      rw [Nat.zero_add, cell_of_block hcur]
      have h5 : cur.toList[j]? = (cur.toList.take zs.length)[j]? := by rw [List.getElem?_take_of_lt hj]
      rw [h5, h4]
      simp [hj]
    refine (Any.slices_Sort_int L g 0 (cap + 1) zs w hH hg0 hsz).mono ?_
    rintro e' w' ⟨rfl, m, os, rfl⟩
    refine ⟨_, _, _, rfl, ⟨rfl, rfl⟩, heap_below, fun b hb' hne => heap_same hb' (fun e => hne (by rw [e]; rfl)), ?_, rfl, ?_⟩
    · have hl := srt_len zs
      have := ints_ObR (w := grow (putRow (Value.int .i64) (Sort.ahead w m) g 0 (srt zs).toArray) os) (O := fun _ => True) (e := e) (zs := srt zs) (v := .slice (some ⟨g, 0, none⟩) zs.length (cap + 1)) ⟨by simp, .inr ⟨g, cap, putCells (Value.int .i64) 0 (srt zs).toArray cur, by rw [hl], ⟨fz, heap_here hg, by simpa [putCells] using hfz⟩, by omega, h2, by simp [putCells]; omega, ?_⟩⟩
      · rw [hl] at this
        exact this
      · rw [Nat.mul_one]
        have := take_put (enc := Value.int .i64) (d := (srt zs).toArray) (c := cur) (n := (srt zs).length) (by simp) (by omega)
        simpa using this
    · simp [R, RL]
end Go.Sy
