/- Times, claims and batches of segments. -/
import Derived.Test.YtbpdbibnfmdpoaaGG
set_option linter.unusedSimpArgs false
set_option linter.unusedSectionVars false
set_option linter.unusedVariables false
namespace Go.Mb
open Go.Sy
set_option linter.unusedVariables false
def timeM (r : Int) (s : Seg) : Int × Int := if chkG s != 0 then (0, 1) else if !inR r 1 1000 then (0, 2) else if s.kind != 1 then (0, 0) else (IntKind.i64.wrap ((IntKind.i64.wrap (IntKind.i64.wrap (IntKind.i64.wrap ((s.data.size : Int) + 8) + r) - 1)).tdiv r), 0)
def claimS (ses ser tot : Int) (l : List Spn) : Seg := ⟨2, ses, ser, 0, tot, false, .empty, l⟩
def claimM (ses ser tot : Int) (l : List Spn) : Seg × Int := if chkG (claimS ses ser tot l) != 0 then (zeroG, chkG (claimS ses ser tot l)) else (claimS ses ser tot l, 0)
def greatG (s : Seg) : Bool := decide ((s.data.size : Int) > 40) || (decide ((s.claims.length : Int) > 60) && decide ((s.claims.length : Int) ≤ 1000)) || decide ((s.claims.length : Int) > 1100)
def cutE (x hi : Nat) : Nat := min hi ((x / 16 + 1) * 16)
theorem cut_gt {x hi : Nat} (h : x < hi) : x < cutE x hi := by unfold cutE; omega
theorem cut_le {x hi : Nat} : cutE x hi ≤ hi := by unfold cutE; omega
def pcs (lo hi : Nat) : List Spn := if h : lo < hi then ⟨lo, cutE lo hi⟩ :: pcs (cutE lo hi) hi else []
termination_by hi - lo
decreasing_by have := cut_gt h; omega
theorem pcs_go {lo hi : Nat} (h : lo < hi) : pcs lo hi = ⟨lo, cutE lo hi⟩ :: pcs (cutE lo hi) hi := by rw [pcs, dif_pos h]
theorem pcs_end {lo hi : Nat} (h : ¬ lo < hi) : pcs lo hi = [] := by rw [pcs, dif_neg h]
theorem pcs_len (n : Nat) : ∀ lo hi : Nat, hi - lo ≤ n → (pcs lo hi).length ≤ n := by
  induction n with
  | zero => intro lo hi h; rw [pcs_end (by omega)]; simp
  | succ n ih =>
    intro lo hi h
    by_cases hl : lo < hi
    · rw [pcs_go hl]
      have := cut_gt hl
      have := ih (cutE lo hi) hi (by omega)
      simp; omega
    · rw [pcs_end hl]; simp
def pcsS (x : Spn) : List Spn := pcs x.lo.toNat x.hi.toNat
def pcsL (l : List Spn) : List Spn := l.flatMap pcsS
theorem pcsL_snoc (l : List Spn) (k : Nat) (h : k < l.length) : pcsL (l.take (k + 1)) = pcsL (l.take k) ++ pcsS (l.getD k default) := by
  rw [take_snoc h]; simp [pcsL]
theorem pcsL_len {t : Nat} : ∀ (l : List Spn), (∀ x ∈ l, x.hi ≤ t) → (pcsL l).length ≤ l.length * t
  | [], _ => by simp [pcsL]
  | x :: l, h => by
    have h1 := pcsL_len l fun y hy => h y (List.mem_cons_of_mem _ hy)
    have h2 := h x List.mem_cons_self
    have h3 := pcs_len t x.lo.toNat x.hi.toNat (by omega)
    have h4 : (pcsS x).length ≤ t := h3
    have h5 : pcsL (x :: l) = pcsS x ++ pcsL l := by simp [pcsL]
    rw [h5, List.length_append, List.length_cons, Nat.add_mul]; omega
def Seg.cellsB (s : Seg) : List A := [.int .i64 s.kind, .int .i64 s.ses, .int .i64 s.ser, .int .i64 s.off, .int .i64 s.tot, .bool s.chk, .str s.data, .nils]
def slB (l : List Seg) : A := .sl 8 l.length (rowL Seg.cellsB l)
def segP (ses : Int) (d : ByteArray) (x : Spn) : Seg := ⟨1, ses, 0, x.lo, d.size, false, d.extract x.lo.toNat x.hi.toNat, []⟩
def lastP (ser : Int) (s : Seg) : Seg := ⟨s.kind, s.ses, ser, s.off, s.tot, true, s.data, s.claims⟩
def mapP (ses : Int) (d : ByteArray) (l : List Spn) : List Seg := l.map (segP ses d)
def batL (ses ser : Int) (d : ByteArray) (m : List Spn) : List Seg := (mapP ses d (pcsL m)).set ((pcsL m).length - 1) (lastP ser ((mapP ses d (pcsL m)).getD ((pcsL m).length - 1) default))
def batE (ses ser : Int) (d : ByteArray) (m : List Spn) : Int := if !inR ses 0 tMax || !inR ser 1 tMax then 2 else if d.size == 0 then 20 else if decide ((d.size : Int) > 65536) then 4 else if !insideM m d.size then 1 else if m.length == 0 then 20 else 0
def batM (ses ser : Int) (d : ByteArray) (m : List Spn) : List Seg × Int := if batE ses ser d m == 0 then (batL ses ser d m, 0) else ([], batE ses ser d m)
theorem mapP_len (ses : Int) (d : ByteArray) (l : List Spn) : (mapP ses d l).length = l.length := by simp [mapP]
theorem batL_len (ses ser : Int) (d : ByteArray) (m : List Spn) : (batL ses ser d m).length = (pcsL m).length := by simp [batL, mapP]
theorem flat_mem {x : Spn} : ∀ {l : List Spn}, x ∈ l → x.lo ∈ flatS l ∧ x.hi ∈ flatS l
  | y :: l, h => by
    rcases List.mem_cons.1 h with rfl | h
    · simp [flatS]
    · have := flat_mem h
      simp [flatS, this.1, this.2]
theorem flat_head {l : List Spn} (hA : Asc (flatS l)) : ∀ z ∈ flatS l, (l.getD 0 default).lo ≤ z := by
  cases l with
  | nil => intro z hz; cases hz
  | cons y l =>
    intro z hz
    rcases List.mem_cons.1 hz with rfl | hz
    · exact Int.le_refl _
    · exact Int.le_of_lt (List.rel_of_pairwise_cons hA hz)
theorem flat_last : ∀ {l : List Spn}, Asc (flatS l) → ∀ z ∈ flatS l, z ≤ (l.getD (l.length - 1) default).hi
  | [], _, z, hz => by cases hz
  | [y], hA, z, hz => by
    have h1 := List.rel_of_pairwise_cons hA (a' := y.hi) (by simp)
    simp only [flatS, List.mem_cons, List.not_mem_nil, or_false] at hz
    show z ≤ y.hi
    rcases hz with rfl | rfl <;> omega
  | y :: w :: l, hA, z, hz => by
    have hA2 : Asc (flatS (w :: l)) := (List.pairwise_cons.1 (List.pairwise_cons.1 hA).2).2
    have ih := flat_last hA2
    have e : ((y :: w :: l).getD ((y :: w :: l).length - 1) default) = ((w :: l).getD ((w :: l).length - 1) default) := by simp
    rw [e]
    have hw : w.lo ∈ flatS (w :: l) := List.mem_cons_self
    rcases List.mem_cons.1 hz with rfl | hz2
    · exact Int.le_trans (Int.le_of_lt (List.rel_of_pairwise_cons hA (List.mem_cons_of_mem _ hw))) (ih _ hw)
    · rcases List.mem_cons.1 hz2 with rfl | hz3
      · exact Int.le_trans (Int.le_of_lt (List.rel_of_pairwise_cons (List.pairwise_cons.1 hA).2 hw)) (ih _ hw)
      · exact ih _ hz3
/-- A set within 0 to a total. -/
theorem inside_all {l : List Spn} {t : Int} (h : insideM l t = true) : (∀ x ∈ l, 0 ≤ x.lo ∧ x.lo < x.hi ∧ x.hi ≤ t) ∧ l.length ≤ 1000 := by
  unfold insideM at h
  rw [Bool.and_eq_true, beq_iff_eq] at h
  obtain ⟨h1, h2⟩ := h
  obtain ⟨hv, hl⟩ := chkS_both h1
  refine ⟨fun x hx => ?_, hl⟩
  obtain ⟨_, hset⟩ := (chkS_zero l).1 h1
  have hasc : Asc (flatS l) := hset.1
  have hx1 := hv x hx
  unfold vS at hx1
  simp only [Bool.and_eq_true, decide_eq_true_eq] at hx1
  have hne : l.length ≠ 0 := by intro e; rw [List.eq_nil_of_length_eq_zero e] at hx; cases hx
  unfold headOK at h2
  have h2 : (l.getD 0 default).lo ≥ 0 ∧ (l.getD (l.length - 1) default).hi ≤ t := by
    rcases Bool.or_eq_true _ _ ▸ h2 with h3 | h3
    · simp at h3; exact absurd (by rw [h3]; rfl) hne
    · rwa [Bool.and_eq_true, decide_eq_true_eq, decide_eq_true_eq] at h3
  have := flat_head hasc _ (flat_mem hx).1
  have := flat_last hasc _ (flat_mem hx).2
  omega
end Go.Mb
