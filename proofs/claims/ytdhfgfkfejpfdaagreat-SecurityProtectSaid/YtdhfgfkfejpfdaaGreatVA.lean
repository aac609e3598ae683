/- Bytes and the encodings of numbers in plain words. -/
import Derived.Test.YtdhfgfkfejpfdaaGreatSyE
set_option linter.unusedSimpArgs false
set_option linter.unusedSectionVars false
set_option linter.unusedVariables false
namespace Go.Mb
open Go.Sy
set_option linter.unusedVariables false

/-- The bytes of a string; the string with some bytes. -/
def ls (s : ByteArray) : List Nat := s.data.toList.map UInt8.toNat
def bs (l : List Nat) : ByteArray := ⟨(l.map UInt8.ofNat).toArray⟩
theorem ls_len (s : ByteArray) : (ls s).length = s.size := by simp [ls]
theorem bs_ls (s : ByteArray) : bs (ls s) = s := by
  obtain ⟨⟨l⟩⟩ := s
  simp [bs, ls, Function.comp_def]
theorem ls_bs {l : List Nat} (h : ∀ x ∈ l, x < 256) : ls (bs l) = l := by
  simp only [ls, bs, List.map_map]
  rw [List.map_congr_left (g := id) (fun x hx => by simp [Nat.mod_eq_of_lt (h x hx)])]
  simp
theorem bs_len (l : List Nat) : (bs l).size = l.length := by
  have : (bs l).size = (bs l).data.size := rfl
  rw [this]; simp [bs]
theorem ls_append (a b : ByteArray) : ls (a ++ b) = ls a ++ ls b := by simp [ls, ByteArray.data_append]
theorem bs_append (a b : List Nat) : bs (a ++ b) = bs a ++ bs b := by
  have : (bs a ++ bs b).data = (bs a).data ++ (bs b).data := ByteArray.data_append
  have e : bs (a ++ b) = ⟨(bs a).data ++ (bs b).data⟩ := by simp [bs]
  rw [e, ← this]
theorem ls_inj {a b : ByteArray} (h : ls a = ls b) : a = b := by rw [← bs_ls a, ← bs_ls b, h]
theorem ls_lt (s : ByteArray) : ∀ x ∈ ls s, x < 256 := by
  intro x hx
  simp only [ls, List.mem_map] at hx
  obtain ⟨y, _, rfl⟩ := hx
  exact y.toNat_lt
theorem ls_get (s : ByteArray) (i : Nat) : (s.data.toList.getD i 0).toNat = (ls s).getD i 0 := by
  simp only [ls, List.getD, List.getElem?_map]
  cases s.data.toList[i]? <;> rfl
theorem ls_extract (s : ByteArray) (i j : Nat) : ls (s.extract i j) = ((ls s).take j).drop i := by
  simp only [ls, ByteArray.data_extract, Array.toList_extract, List.extract_eq_take_drop]
  rw [← List.map_take, ← List.map_drop, List.drop_take]
theorem ls_empty : ls .empty = [] := rfl
theorem bs_nil : bs [] = .empty := rfl
theorem toList_beq (a b : ByteArray) : (a.toList == b.toList) = (ls a == ls b) := by
  rw [Bool.eq_iff_iff, beq_iff_eq, beq_iff_eq, ba_inj]
  exact ⟨fun h => by rw [h], ls_inj⟩

/-- Rows of bytes. -/
def bC (n : Nat) : List A := [.int .u8 (n : Int)]
theorem bytesOf_row (l : List Nat) : bytesOf (rowL bC l) l.length = bs l := by
  unfold bytesOf bs
  congr 2
  apply List.ext_getElem
  · simp
  · intro i h1 h2
    simp only [List.length_map, List.length_range] at h1
    simp [rowL, bC, getA, u8Of, h1]
theorem bytesOf_congr {el el' : Nat → Nat → A} {n : Nat} (h : ∀ i, i < n → el i 0 = el' i 0) : bytesOf el n = bytesOf el' n := by
  unfold bytesOf
  congr 2
  apply List.map_congr_left
  intro i hi
  rw [h i (by simpa using hi)]
theorem allN_row {f : Nat → Bool} : ∀ {n : Nat}, (∀ i, i < n → f i = true) → allN f n = true
  | 0, _ => rfl
  | n + 1, h => by simp only [allN, Bool.and_eq_true]; exact ⟨allN_row fun i hi => h i (by omega), h n (by omega)⟩
theorem strEl_row (s : ByteArray) : ∀ i j, j < 1 → strEl s i j = rowL bC (ls s) i j := by
  intro i j hj
  obtain rfl : j = 0 := by omega
  simp only [strEl, rowL, bC, getA, ls_get]
  rfl
theorem flatB (l : List Nat) (i j : Nat) : flat 3 (rowL bC l i j) = true := flat_getA rfl j

/-- The groups of a number ahead of the last one, as bytes. -/
def pre (m : Nat) : List Nat := if h : m = 0 then [] else pre (m / 128) ++ [m % 128 + 128]
termination_by m
decreasing_by omega
def encZ (z : Nat) : List Nat := pre (z / 128) ++ [z % 128]
theorem pre_zero : pre 0 = [] := by rw [pre]; simp
theorem pre_pos {m : Nat} (h : m ≠ 0) : pre m = pre (m / 128) ++ [m % 128 + 128] := by rw [pre, dif_neg h]
theorem pre_snoc {m c : Nat} (hc : c < 128) (h : m * 128 + c ≠ 0) : pre (m * 128 + c) = pre m ++ [c + 128] := by
  rw [pre_pos h, show (m * 128 + c) / 128 = m by omega, show (m * 128 + c) % 128 = c by omega]
theorem pre_mem : ∀ (m : Nat), ∀ x ∈ pre m, 128 ≤ x ∧ x < 256 := by
  intro m
  induction m using Nat.strongRecOn with
  | ind m ih =>
    by_cases h : m = 0
    · subst h; simp [pre_zero]
    · rw [pre_pos h]
      intro x hx
      rcases List.mem_append.1 hx with hx | hx
      · exact ih (m / 128) (by omega) x hx
      · rw [List.mem_singleton.1 hx]; omega
theorem pre_len : ∀ (k m : Nat), m < 128 ^ k → (pre m).length ≤ k
  | 0, m, h => by
    have : m = 0 := by simpa using h
    subst this; simp [pre_zero]
  | k + 1, m, h => by
    by_cases hm : m = 0
    · subst hm; simp [pre_zero]
    · rw [pre_pos hm]
      have : m / 128 < 128 ^ k := by rw [Nat.pow_succ] at h; exact Nat.div_lt_of_lt_mul (by rw [Nat.mul_comm]; exact h)
      have := pre_len k (m / 128) this
      simp; omega
theorem encZ_mem {z x : Nat} (h : x ∈ encZ z) : x < 256 := by
  rcases List.mem_append.1 h with h | h
  · exact (pre_mem _ x h).2
  · rw [List.mem_singleton.1 h]; omega
theorem encZ_len {z : Nat} (h : z < 2 ^ 62) : (encZ z).length ≤ 9 := by
  have := pre_len 8 (z / 128) (by omega)
  simp [encZ]; omega
theorem encZ_ne (z : Nat) : encZ z ≠ [] := by simp [encZ]
/-- The first byte is not that of an empty group. -/
theorem pre_head : ∀ (m : Nat), m ≠ 0 → ∃ a l, pre m = a :: l ∧ a ≠ 128 := by
  intro m
  induction m using Nat.strongRecOn with
  | ind m ih =>
    intro hm
    rw [pre_pos hm]
    by_cases h : m / 128 = 0
    · rw [h, pre_zero]; exact ⟨m % 128 + 128, [], rfl, by omega⟩
    · obtain ⟨a, l, e, ha⟩ := ih (m / 128) (by omega) h
      rw [e]; exact ⟨a, _, rfl, ha⟩
theorem encZ_head (z : Nat) : ∃ a l, encZ z = a :: l ∧ a ≠ 128 := by
  unfold encZ
  by_cases h : z / 128 = 0
  · rw [h, pre_zero]; exact ⟨z % 128, [], rfl, by omega⟩
  · obtain ⟨a, l, e, ha⟩ := pre_head _ h
    rw [e]; exact ⟨a, _, rfl, ha⟩

def inI (n : Int) : Bool := decide (n ≥ -1152921504606846976) && decide (n ≤ 1152921504606846976)
def zig (n : Int) : Nat := if n < 0 then (-2 * n - 1).toNat else (2 * n).toNat
def unz (m : Nat) : Int := if m % 2 = 1 then -((m / 2 : Nat) : Int) - 1 else ((m / 2 : Nat) : Int)
theorem inI_iff {n : Int} : inI n = true ↔ -1152921504606846976 ≤ n ∧ n ≤ 1152921504606846976 := by simp [inI]
theorem zig_lt {n : Int} (h : inI n = true) : zig n ≤ 2 ^ 61 := by
  rw [inI_iff] at h; unfold zig; split <;> omega
theorem unz_zig (n : Int) : unz (zig n) = n := by
  unfold zig unz
  split <;> split <;> omega
theorem zig_unz (m : Nat) : zig (unz m) = m := by
  unfold zig unz
  split <;> split <;> omega
/-- What Int returns. -/
def encI (n : Int) : List Nat := encZ (zig n)
def intM (n : Int) : ByteArray × Int := if inI n then (bs (encI n), 0) else (.empty, 2)

/-- Reading groups: at most f of them; m and k: what was read so far, and its size. -/
def rdZ : Nat → List Nat → Nat → Nat → Int × Nat × Nat
  | 0, _, _, _ => (11, 0, 0)
  | _ + 1, [], _, _ => (12, 0, 0)
  | f + 1, c :: l, m, k => if c < 128 then (0, m * 128 + c, k + 1) else rdZ f l (m * 128 + (c - 128)) (k + 1)
def rdI (l : List Nat) : Int × Nat × Int :=
  let r := rdZ 9 l 0 0
  if r.1 != 0 then (0, 0, r.1) else if l.getD 0 0 == 128 || !inI (unz r.2.1) then (0, 0, 11) else (unz r.2.1, r.2.2, 0)

theorem rdZ_ok : ∀ {f : Nat} {l : List Nat} {m k z q : Nat}, rdZ f l m k = (0, z, q) → k < q ∧ q ≤ k + l.length ∧ q ≤ k + f
  | 0, l, m, k, z, q, h => by simp [rdZ] at h
  | f + 1, [], m, k, z, q, h => by simp [rdZ] at h
  | f + 1, c :: l, m, k, z, q, h => by
    rw [rdZ] at h
    split at h
    · simp only [Prod.mk.injEq, true_and] at h; simp; omega
    · have := rdZ_ok h; simp; omega
theorem rdZ_lt : ∀ {f : Nat} {l : List Nat} {m k z q : Nat}, (∀ x ∈ l, x < 256) → rdZ f l m k = (0, z, q) → z < (m + 1) * 128 ^ f
  | 0, l, m, k, z, q, _, h => by simp [rdZ] at h
  | f + 1, [], m, k, z, q, _, h => by simp [rdZ] at h
  | f + 1, c :: l, m, k, z, q, hl, h => by
    rw [rdZ] at h
    have hc := hl c List.mem_cons_self
    have h1 : 1 ≤ 128 ^ f := Nat.one_le_pow _ _ (by omega)
    split at h
    · simp only [Prod.mk.injEq, true_and] at h
      have : (m + 1) * 128 ≤ (m + 1) * 128 ^ (f + 1) := Nat.mul_le_mul_left _ (by rw [Nat.pow_succ]; omega)
      omega
    · have := rdZ_lt (fun x hx => hl x (List.mem_cons_of_mem _ hx)) h
      have e : (m * 128 + (c - 128) + 1) * 128 ^ f ≤ (m * 128 + 128) * 128 ^ f := Nat.mul_le_mul_right _ (by omega)
      have e2 : (m * 128 + 128) * 128 ^ f = (m + 1) * 128 ^ (f + 1) := by rw [Nat.pow_succ, show m * 128 + 128 = (m + 1) * 128 by omega, Nat.mul_assoc, Nat.mul_comm 128]
      omega
/-- Reading continues over groups that are there. -/
theorem rdZ_pre : ∀ (j : Nat) (m : Nat), m < 128 ^ j → ∀ (f : Nat) (r : List Nat) (k : Nat), rdZ (f + (pre m).length) (pre m ++ r) 0 k = rdZ f r m (k + (pre m).length)
  | 0, m, h, f, r, k => by
    have : m = 0 := by simpa using h
    subst this; simp [pre_zero]
  | j + 1, m, h, f, r, k => by
    by_cases hm : m = 0
    · subst hm; simp [pre_zero]
    · have h1 : m / 128 < 128 ^ j := by rw [Nat.pow_succ] at h; exact Nat.div_lt_of_lt_mul (by rw [Nat.mul_comm]; exact h)
      have e := rdZ_pre j (m / 128) h1 (f + 1) ([m % 128 + 128] ++ r) k
      rw [pre_pos hm, List.append_assoc]
      simp only [List.length_append, List.length_singleton]
      rw [show f + ((pre (m / 128)).length + 1) = f + 1 + (pre (m / 128)).length by omega, e]
      simp only [List.cons_append, List.nil_append]
      rw [rdZ, if_neg (by omega), show m / 128 * 128 + (m % 128 + 128 - 128) = m by omega]
      rfl
theorem rdZ_encZ {z : Nat} (h : z < 2 ^ 62) (r : List Nat) : rdZ 9 (encZ z ++ r) 0 0 = (0, z, (encZ z).length) := by
  have hl := pre_len 8 (z / 128) (by omega)
  have e := rdZ_pre 8 (z / 128) (by omega) (9 - (pre (z / 128)).length) ([z % 128] ++ r) 0
  rw [show 9 - (pre (z / 128)).length + (pre (z / 128)).length = 9 by omega] at e
  unfold encZ
  rw [List.append_assoc, e]
  obtain ⟨g, hg⟩ : ∃ g, 9 - (pre (z / 128)).length = g + 1 := ⟨8 - (pre (z / 128)).length, by omega⟩
  rw [hg]
  simp only [List.cons_append, List.nil_append, rdZ]
  rw [if_pos (by omega), show z / 128 * 128 + z % 128 = z by omega]
  simp
/-- What is read is what was encoded. -/
theorem rdZ_back : ∀ {f : Nat} {l : List Nat} {m k z q : Nat}, (∀ x ∈ l, x < 256) → (m ≠ 0 ∨ l.getD 0 0 ≠ 128) → rdZ f l m k = (0, z, q) → pre m ++ l.take (q - k) = encZ z
  | 0, l, m, k, z, q, _, _, h => by simp [rdZ] at h
  | f + 1, [], m, k, z, q, _, _, h => by simp [rdZ] at h
  | f + 1, c :: l, m, k, z, q, hl, h0, h => by
    have hc := hl c List.mem_cons_self
    rw [rdZ] at h
    split at h
    · rename_i hlt
      simp only [Prod.mk.injEq, true_and] at h
      obtain ⟨rfl, rfl⟩ := h
      rw [show k + 1 - k = 1 by omega]
      unfold encZ
      rw [show (m * 128 + c) / 128 = m by omega, show (m * 128 + c) % 128 = c by omega]
      rfl
    · rename_i hge
      have hne : m * 128 + (c - 128) ≠ 0 := by
        rcases h0 with h0 | h0
        · omega
        · have : c ≠ 128 := by simpa using h0
          omega
      obtain ⟨h1, _, _⟩ := rdZ_ok h
      have ih := rdZ_back (fun x hx => hl x (List.mem_cons_of_mem _ hx)) (.inl hne) h
      rw [pre_snoc (by omega) hne, show c - 128 + 128 = c by omega] at ih
      rw [← ih, show q - k = q - (k + 1) + 1 by omega]
      simp
theorem rdI_enc {n : Int} (h : inI n = true) (r : List Nat) : rdI (encI n ++ r) = (n, (encI n).length, 0) := by
  have hz := zig_lt h
  unfold rdI encI
  rw [rdZ_encZ (by omega)]
  obtain ⟨a, l, e, ha⟩ := encZ_head (zig n)
  have h0 : (encZ (zig n) ++ r).getD 0 0 = a := by rw [e]; rfl
  simp only [bne_self_eq_false, Bool.false_eq_true, if_false]
  rw [h0, unz_zig, h, show (a == 128) = false by simpa using ha]
  rfl
theorem rdI_ok {l : List Nat} {n : Int} {k : Nat} (hl : ∀ x ∈ l, x < 256) (h : rdI l = (n, k, 0)) : inI n = true ∧ l.take k = encI n ∧ k ≤ l.length ∧ 0 < k ∧ k ≤ 9 := by
  unfold rdI at h
  generalize hr : rdZ 9 l 0 0 = r at h
  obtain ⟨e, z, q⟩ := r
  simp only at h
  split at h
  · rename_i he
    simp only [Prod.mk.injEq] at h
    rw [h.2.2] at he; cases he
  · rename_i he
    split at h
    · simp at h
    · rename_i hc
      simp only [Prod.mk.injEq, and_true] at h
      obtain ⟨rfl, rfl⟩ := h
      simp only [Bool.or_eq_true, beq_iff_eq, Bool.not_eq_true', not_or, Bool.not_eq_false] at hc
      have he : e = 0 := by simpa using he
      subst he
      have hb := rdZ_back hl (.inr hc.1) hr
      obtain ⟨h1, h2, h3⟩ := rdZ_ok hr
      rw [pre_zero] at hb
      refine ⟨hc.2, ?_, by omega, by omega, by omega⟩
      unfold encI
      rw [zig_unz]
      simpa using hb
theorem rdI_cases (l : List Nat) : (∃ n k, rdI l = (n, k, 0)) ∨ (∃ e, e ≠ 0 ∧ rdI l = (0, 0, e)) := by
  unfold rdI
  simp only
  split
  · rename_i h; exact .inr ⟨_, by simpa using h, rfl⟩
  · split
    · exact .inr ⟨11, by decide, rfl⟩
    · exact .inl ⟨_, _, rfl⟩
end Go.Mb
