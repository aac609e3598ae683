/- Insertion sort of numbers, in plain words. -/
import Derived.Test.YtkgaaaidmaddnaaOA
set_option linter.unusedSimpArgs false
set_option linter.unusedSectionVars false
set_option linter.unusedVariables false
namespace Go.Proofs.Ytkgaaaidmaddnaa
open Go.Sy Go.Mb
set_option linter.unusedVariables false

/-- Elements j and j + 1 change places. -/
def swp (L : List Int) (j : Nat) : List Int := (L.set (j + 1) (L.getD j default)).set j (L.getD (j + 1) default)
def sink (lt : Int → Int → Bool) : Nat → List Int → List Int
  | 0, L => L
  | j + 1, L => if lt (L.getD (j + 1) default) (L.getD j default) then sink lt j (swp L j) else L
theorem swp_len (L : List Int) (j : Nat) : (swp L j).length = L.length := by simp [swp]
theorem sink_len (lt : Int → Int → Bool) : ∀ (j : Nat) (L : List Int), (sink lt j L).length = L.length
  | 0, L => rfl
  | j + 1, L => by
    unfold sink
    split
    · rw [sink_len lt j, swp_len]
    · rfl
theorem swp_append {A B : List Int} {j : Nat} (h : j + 1 < A.length) : swp (A ++ B) j = swp A j ++ B := by
  unfold swp
  rw [getD_append_left (by omega), getD_append_left h, List.set_append_left _ _ h, List.set_append_left _ _ (by simp; omega)]
theorem sink_append (lt : Int → Int → Bool) : ∀ (j : Nat) (A B : List Int), j < A.length → sink lt j (A ++ B) = sink lt j A ++ B
  | 0, A, B, h => rfl
  | j + 1, A, B, h => by
    unfold sink
    rw [getD_append_left h, getD_append_left (by omega)]
    split
    · rw [swp_append h, sink_append lt j _ _ (by rw [swp_len]; omega)]
    · rfl
theorem swp_mem {p : Int → Prop} {L : List Int} {j : Nat} (h : j + 1 < L.length) (hp : ∀ x ∈ L, p x) : ∀ x ∈ swp L j, p x := by
  intro x hx
  unfold swp at hx
  have h1 : L.getD j default ∈ L := by rw [getD_lt (by omega)]; exact List.getElem_mem _
  have h2 : L.getD (j + 1) default ∈ L := by rw [getD_lt h]; exact List.getElem_mem _
  rcases List.mem_or_eq_of_mem_set hx with hx | rfl
  · rcases List.mem_or_eq_of_mem_set hx with hx | rfl
    · exact hp x hx
    · exact hp _ h1
  · exact hp _ h2
theorem sink_mem {p : Int → Prop} (lt : Int → Int → Bool) : ∀ (j : Nat) (L : List Int), j < L.length → (∀ x ∈ L, p x) → ∀ x ∈ sink lt j L, p x
  | 0, L, h, hp => hp
  | j + 1, L, h, hp => by
    unfold sink
    split
    · exact sink_mem lt j _ (by rw [swp_len]; omega) (swp_mem h hp)
    · exact hp
def upto (k n : Nat) : List Int := (List.range (n - k)).map fun i => ((k + i : Nat) : Int)
theorem upto_cons {k n : Nat} (h : k < n) : upto k n = (k : Int) :: upto (k + 1) n := by
  unfold upto
  rw [show n - k = (n - (k + 1)) + 1 by omega, List.range_succ_eq_map]
  simp only [List.map_cons, List.map_map]
  congr 1
  refine List.map_congr_left fun i _ => ?_
  simp only [Function.comp]
  omega
theorem upto_end {k n : Nat} (h : n ≤ k) : upto k n = [] := by unfold upto; rw [show n - k = 0 by omega]; rfl
theorem upto_len (k n : Nat) : (upto k n).length = n - k := by simp [upto]
/-- The first n numbers in order. -/
def ordR (lt : Int → Int → Bool) : Nat → List Int
  | 0 => []
  | n + 1 => sink lt n (ordR lt n ++ [(n : Int)])
theorem ordR_len (lt : Int → Int → Bool) : ∀ n, (ordR lt n).length = n
  | 0 => rfl
  | n + 1 => by rw [ordR, sink_len]; simp [ordR_len lt n]
theorem ordR_mem (lt : Int → Int → Bool) : ∀ n, ∀ x ∈ ordR lt n, 0 ≤ x ∧ x < n
  | 0, x, h => by cases h
  | n + 1, x, h => by
    refine sink_mem (p := fun x => 0 ≤ x ∧ x < ((n + 1 : Nat) : Int)) lt n _ (by simp [ordR_len]) (fun y hy => ?_) x h
    rcases List.mem_append.1 hy with hy | hy
    · have := ordR_mem lt n y hy; omega
    · obtain rfl := List.mem_singleton.1 hy; omega
theorem ord_step (lt : Int → Int → Bool) {k n : Nat} (h : k < n) : sink lt k (ordR lt k ++ upto k n) = ordR lt (k + 1) ++ upto (k + 1) n := by
  rw [upto_cons h, show ordR lt k ++ (k : Int) :: upto (k + 1) n = (ordR lt k ++ [(k : Int)]) ++ upto (k + 1) n by simp, sink_append _ _ _ _ (by simp [ordR_len])]
  rfl
end Go.Proofs.Ytkgaaaidmaddnaa
