/- Bytes of blocks and bundles; signatures; in plain words. -/
import Derived.Test.YtdhfgfkfejpfdaaGreatKTA
import Derived.Test.YtdhfgfkfejpfdaaGreatWD
set_option linter.unusedSimpArgs false
set_option linter.unusedSectionVars false
set_option linter.unusedVariables false
namespace Go.Mb
open Go.Sy
set_option linter.unusedVariables false

def payL (s : ByteArray) : List Nat := encI s.size ++ ls s
def encB (x : Blk) : List Nat := sealL (encI x.kind ++ encI x.flags ++ payL x.data)
def encBs (l : List Blk) : List Nat := encI l.length ++ l.flatMap encB
def numsB (b : Bun) : List Int := [b.id.src, b.id.cre, b.id.seq, b.id.off, b.id.tot, b.dest.kind, b.dest.num, b.life, b.prio, b.flags]
def bodyB (b : Bun) : List Nat := ((encI 3 ++ [77, 66, 49]) ++ encL (numsB b)) ++ encBs b.l ++ payL b.pay
def encBun (b : Bun) : List Nat := sealL (bodyB b)
theorem encI_mem {n : Int} : ∀ x ∈ encI n, x < 256 := fun _ h => encZ_mem h
theorem payL_lt (s : ByteArray) : ∀ x ∈ payL s, x < 256 := by
  intro x hx
  rcases List.mem_append.1 hx with h | h
  · exact encI_mem x h
  · exact ls_lt s x h
theorem payL_len {s : ByteArray} (h : s.size ≤ 65536) : (payL s).length ≤ s.size + 9 := by
  have := encI_len (inI_nat (n := s.size) (by omega))
  rw [payL, List.length_append, ls_len]; omega
theorem inI_of {n : Int} (h : -1000000000000000 ≤ n) (h' : n ≤ 1000000000000000) : inI n = true := by rw [inI_iff]; omega
theorem encB_lt (x : Blk) : ∀ y ∈ encB x, y < 256 := by
  refine sealL_lt fun y hy => ?_
  rcases List.mem_append.1 hy with h | h
  · rcases List.mem_append.1 h with h | h <;> exact encI_mem y h
  · exact payL_lt _ y h
theorem encB_in {x : Blk} (h : chkK x = 0) : (encI x.kind ++ encI x.flags ++ payL x.data).length ≤ 1060 := by
  rw [chkK_zero] at h
  have h1 := encI_len (inI_of (n := x.kind) (by omega) (by omega))
  have h2 := encI_len (inI_of (n := x.flags) (by omega) (by omega))
  have h3 := payL_len (s := x.data) (by omega)
  simp only [List.length_append]; omega
theorem encB_len {x : Blk} (h : chkK x = 0) : (encB x).length ≤ 1100 := by
  have h1 := encB_in h
  have := (sealL_len (p := encI x.kind ++ encI x.flags ++ payL x.data) (by omega)).1
  unfold encB; omega
theorem flat_len {l : List Blk} (h : ∀ x ∈ l, chkK x = 0) : (l.flatMap encB).length ≤ 1100 * l.length := by
  induction l with
  | nil => simp
  | cons x l ih =>
    have h1 := encB_len (h x (by simp))
    have h2 := ih fun y hy => h y (by simp [hy])
    simp only [List.flatMap_cons, List.length_append, List.length_cons]; omega
theorem flat_lt (l : List Blk) : ∀ y ∈ l.flatMap encB, y < 256 := by
  intro y hy
  rw [List.mem_flatMap] at hy
  obtain ⟨x, _, h⟩ := hy
  exact encB_lt x y h
theorem encBs_lt (l : List Blk) : ∀ y ∈ encBs l, y < 256 := by
  intro y hy
  rcases List.mem_append.1 hy with h | h
  · exact encI_mem y h
  · exact flat_lt l y h
theorem encBs_len {l : List Blk} (h : GoodL l) : (encBs l).length ≤ 8809 := by
  have h1 := encI_len (inI_nat (n := l.length) (by have := h.1; omega))
  have h2 := flat_len h.2.1
  have h3 := h.1
  rw [encBs, List.length_append]; omega
theorem encL_lt' (l : List Int) : ∀ y ∈ encL l, y < 256 := by
  intro y hy
  simp only [encL, List.mem_flatMap] at hy
  obtain ⟨x, _, h⟩ := hy
  exact encI_mem y h
theorem head_lt : ∀ y ∈ encI 3 ++ [77, 66, 49], y < 256 := by
  intro y hy
  rcases List.mem_append.1 hy with h | h
  · exact encI_mem y h
  · simp only [List.mem_cons, List.not_mem_nil, or_false] at h; omega
theorem bodyB_lt (b : Bun) : ∀ y ∈ bodyB b, y < 256 := by
  intro y hy
  unfold bodyB at hy
  rcases List.mem_append.1 hy with h | h
  · rcases List.mem_append.1 h with h | h
    · rcases List.mem_append.1 h with h | h
      · exact head_lt y h
      · exact encL_lt' _ y h
    · exact encBs_lt _ y h
  · exact payL_lt _ y h
theorem numsB_ok {b : Bun} (h : GoodH b) : ∀ n ∈ numsB b, inI n = true := by
  obtain ⟨h1, h2, h3, h4, h5, h6, h7, h8⟩ := h
  have hE := of_decide_eq_true h1
  have hd : 0 ≤ b.dest.kind ∧ b.dest.kind ≤ 2 ∧ 0 ≤ b.dest.num ∧ b.dest.num ≤ 16 := by
    unfold chkDst at h2
    split at h2
    · split at h2
      · omega
      · cases h2
    · split at h2
      · split at h2
        · omega
        · cases h2
      · cases h2
  have hf : 0 ≤ b.flags ∧ b.flags ≤ 127 := by
    unfold okF at h7
    simp only [Bool.and_eq_true, decide_eq_true_eq] at h7
    exact h7.1
  intro n hn
  simp only [numsB, List.mem_cons, List.not_mem_nil, or_false] at hn
  rcases hn with rfl | rfl | rfl | rfl | rfl | rfl | rfl | rfl | rfl | rfl <;> exact inI_of (by omega) (by omega)
theorem pay_len {b : Bun} (h : chkP b = 0) : b.pay.size ≤ 4096 := by
  unfold chkP at h
  split at h
  · cases h
  · omega
theorem encI3_len : (encI 3 ++ [77, 66, 49]).length ≤ 12 := by
  have := encI_len (n := 3) (by rw [inI_iff]; omega)
  simp only [List.length_append, List.length_cons, List.length_nil]; omega
theorem bodyB_len {b : Bun} (h : GoodH b) (hl : GoodL b.l) : (bodyB b).length ≤ 14000 := by
  have h1 := encL_len (numsB_ok h)
  have h2 := encBs_len hl
  have h3 := pay_len h.2.2.2.2.2.2.2
  have h4 := payL_len (s := b.pay) (by omega)
  have h5 := encI3_len
  have h6 : (numsB b).length = 10 := rfl
  unfold bodyB
  rw [List.length_append, List.length_append, List.length_append]; omega
theorem encBun_lt (b : Bun) : ∀ y ∈ encBun b, y < 256 := sealL_lt (bodyB_lt b)
theorem encBun_len {b : Bun} (h : GoodH b) (hl : GoodL b.l) : (encBun b).length ≤ 15000 := by
  have h1 := bodyB_len h hl
  have := (sealL_len (p := bodyB b) (by omega)).1
  unfold encBun; omega

/-- The blocks of a list. -/
def fndB (l : List Blk) (k : Int) : Blk × Bool := match l.find? (fun x => x.kind == k) with
  | some x => (x, true)
  | none => (default, false)
def remB (l : List Blk) (k : Int) : List Blk := l.filter (fun x => x.kind != k)
def putL (l : List Blk) (x : Blk) : List Blk := l.filter (fun y => decide (y.kind < x.kind)) ++ [x] ++ l.filter (fun y => decide (y.kind > x.kind))
def rem4 (l : List Blk) : List Blk := remB (remB (remB (remB l 1) 2) 3) 4
def sdt (b : Bun) : List Nat := encBun { b with l := rem4 b.l }
def msgL (n : Nat) (t : List Nat) : List Nat := (bytesN 1 8 ++ [n]) ++ bytesN t.length 8 ++ t
def sgnM (b : Bun) (n : Nat) (key : ByteArray) : List Nat := tagL (ls key) (msgL n (sdt b))
/-- Signatures: nodes and tags. -/
abbrev Sg := Nat × List Nat
def sgsN : Nat → List Nat → List Sg
  | 0, _ => []
  | n + 1, l => (l.getD 0 0, (l.drop 1).take 8) :: sgsN n (l.drop 9)
def sgs (l : List Nat) : List Sg := sgsN (l.length / 9) l
def enS (l : List Sg) : List Nat := l.flatMap fun p => p.1 :: p.2
def ndsOK : Int → List Sg → Bool
  | _, [] => true
  | p, x :: l => (decide (p < (x.1 : Int)) && decide ((x.1 : Int) < 16)) && ndsOK x.1 l
def dmgL (l : List Nat) : Bool := !ndsOK (-1) (sgs l) || (l.length == 0 || l.length % 9 != 0)
def authD (b : Bun) : ByteArray := (fndB b.l 4).1.data
def sgB (b : Bun) : List Sg := sgs (ls (authD b))
def dmgB (b : Bun) : Bool := (fndB b.l 4).2 && dmgL (ls (authD b))
def fndS (l : List Sg) (n : Int) : List Nat × Bool := match l.find? (fun p => (p.1 : Int) == n) with
  | some p => (p.2, true)
  | none => ([], false)
def insS (x : Sg) : List Sg → List Sg
  | [] => [x]
  | y :: l => if x.1 < y.1 then x :: y :: l else y :: insS x l
def chkAll (b : Bun) (n : Int) (key : ByteArray) : Int := if chkB b != 0 then chkB b else if decide (n < 0) || decide (n ≥ 16) then 2 else if (key.size : Int) != 16 then 1 else if dmgB b then 11 else 0
def newB (b : Bun) (l : List Sg) : Blk := ⟨4, (fndB b.l 4).1.flags, bs (enS l)⟩
def protM (b : Bun) (n : Int) (key : ByteArray) : Bun × Int :=
  if chkAll b n key != 0 then (default, chkAll b n key) else
  if (fndS (sgB b) n).2 then (default, 6) else
  if decide (((putL b.l (newB b (insS (n.toNat, sgnM b n.toNat key) (sgB b)))).length : Int) > 8) then (default, 4) else
  ({ b with l := putL b.l (newB b (insS (n.toNat, sgnM b n.toNat key) (sgB b))) }, 0)
def verM (b : Bun) (n : Int) (key : ByteArray) : Int :=
  if chkAll b n key != 0 then chkAll b n key else
  if !(fndS (sgB b) n).2 then 7 else
  if (bs (fndS (sgB b) n).1).toList != (bs (sgnM b n.toNat key)).toList then 22 else 0
def signersM (b : Bun) : List Int × Int :=
  if chkB b != 0 then ([], chkB b) else if dmgB b then ([], 11) else ((sgB b).map fun p => (p.1 : Int), 0)
def stripM (b : Bun) (n : Int) : Bun × Int :=
  if chkB b != 0 then (default, chkB b) else
  if decide (n < 0) || decide (n ≥ 16) then (default, 2) else
  if dmgB b then (default, 11) else
  if !(fndS (sgB b) n).2 then (default, 7) else
  if ((sgB b).filter fun p => (p.1 : Int) != n).isEmpty then ({ b with l := remB b.l 4 }, 0) else
  ({ b with l := putL b.l (newB b ((sgB b).filter fun p => (p.1 : Int) != n)) }, 0)
end Go.Mb
