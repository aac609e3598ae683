/- The contracts of the comparisons, of the bounds of the statements, and of the reference's Expire. -/
import Derived.Test.YtkgaaaidmaddnaaC
set_option linter.unusedSimpArgs false
set_option linter.unusedSectionVars false
set_option linter.unusedVariables false
namespace Go.Proofs.Ytkgaaaidmaddnaa
open Go.Sy Go.Mb
set_option maxRecDepth 100000
set_option linter.unusedVariables false
set_option maxHeartbeats 1000000

theorem not_t {b : Bool} (h : (!b) = true) : b = false := by cases b <;> first | rfl | cases h
theorem not_f {b : Bool} (h : (!b) = false) : b = true := by cases b <;> first | rfl | cases h

theorem rExpire_ok (d : Dur) (now : Int) (h1 : d.items.length ≤ 1000000) (h2 : d.inbox.length ≤ 1000000) : FnOK Try.prog 30 [.agg d.cells, .int .i64 now] (remA (expireM d now), none) := by
  refine fn_ok CN rfl (by kernel_rfl) Try.func30 rfl ?_
  refine Sat.go (Eq.refl _) (NS.call (rValid_ok d h1 h2) rfl ?_)
  refine Sat.go (Eq.refl _) (NS.ite (fun a1 => ?_) (fun a1 => ?_))
  · refine Sat.go (Eq.refl _) (NS.ret rfl rfl (rem_le (l := []) ?_ (LeA.nil' rfl)))
    simp_all [expireM, valid_check]
  refine Sat.go (Eq.refl _) (NS.ite (fun a2 => ?_) (fun a2 => ?_))
  · refine Sat.go (Eq.refl _) (NS.ret rfl rfl (rem_le (l := []) ?_ (LeA.nil' rfl)))
    simp_all [expireM, valid_check, inR] <;> (intros; omega)
  refine Sat.go (Eq.refl _) (NS.ite (fun a3 => ?_) (fun a3 => ?_))
  · refine Sat.go (Eq.refl _) (NS.ret rfl rfl (rem_le (l := []) ?_ (LeA.nil' rfl)))
    simp_all [expireM, valid_check, inR] <;> (intros; omega)
  have hres : expireM d now = (expRecs now d.items, 0) := by simp_all [expireM, valid_check, inR] <;> (intros; omega)
  refine Sat.go (Eq.refl _) ?_
  refine NS.loop (σ := { k : Nat // k ≤ d.items.length }) (fun k => [(1, .int .i64 now), (2, .ptr 2 0), (6, .own 6), (7, .int .i64 k.1)]) (fun k => [(2, .box d.cells), (6, .row 38 19 (expRecs now (d.items.take k.1)).length (rowL Jrec.cells (expRecs now (d.items.take k.1))))]) (fun k => d.items.length - k.1) ⟨0, Nat.zero_le _⟩ ?_ ?_
  · exact (weak_promote 6 6 38 19 (rowL Jrec.cells []) rfl rfl).trans (weak_hd [] rfl ⟨rfl, rfl, rfl, rfl, trivial⟩ ⟨⟨_, rfl, _, _, rfl, rfl, _, _, rfl, rfl, rfl⟩, ren_row rfl rfl fun _ _ _ _ => rfl, trivial⟩ trivial (by kernel_rfl))
  · rintro ⟨k, hk⟩
    refine Sat.go (Eq.refl _) (NS.ite (fun h => ?_) (fun h => ?_))
    · simp at h
      have hsn : expRecs now (d.items.take (k + 1)) = expRecs now (d.items.take k) ++ expRec now (d.items.getD k default) := by rw [take_snoc (by omega), expRecs_snoc]
      have hlen := expRecs_len now (d.items.take k)
      simp only [List.length_take] at hlen
      refine Sat.go (Eq.refl _) (NS.need (by simp; omega) ?_)
      refine Sat.go (Eq.refl _) (NS.ite (fun h3 => ?_) (fun h3 => ?_))
      · have hx : expRec now (d.items.getD k default) = [⟨2, .zero, (d.items.getD k default).id, 0, now⟩] := by
          unfold expRec; rw [if_pos (by simpa using h3)]
        rw [hx] at hsn
        refine Sat.go (Eq.refl _) (NS.need (by simp; omega) ?_)
        refine Sat.go (Eq.refl _) (NS.need (decide_eq_true (by simp only [maxRow]; omega)) ?_)
        refine Sat.go (Eq.refl _) (NS.next ⟨k + 1, by omega⟩ (by simp; omega) ?_)
        refine weak_hd [(6, 42)] rfl ⟨rfl, rfl, rfl, ren_int rfl (i64_k (by omega) (by omega)), trivial⟩ ⟨⟨_, rfl, _, _, rfl, rfl, _, _, rfl, rfl, rfl⟩, ?_, trivial⟩ trivial (by kernel_rfl)
        rw [hsn]
        exact ren_row rfl (by simp) (fun i hi j hj => row_snoc (cells := Jrec.cells) (x := ⟨2, .zero, (d.items.getD k default).id, 0, now⟩) rfl i (by simpa using hi) j hj)
      · have hx : expRec now (d.items.getD k default) = [] := by
          unfold expRec; rw [if_neg (by simpa using h3)]
        rw [hx, List.append_nil] at hsn
        refine Sat.go (Eq.refl _) (NS.next ⟨k + 1, by omega⟩ (by simp; omega) ?_)
        refine weak_hd [] rfl ⟨rfl, rfl, rfl, ren_int rfl (i64_k (by omega) (by omega)), trivial⟩ ⟨⟨_, rfl, _, _, rfl, rfl, _, _, rfl, rfl, rfl⟩, ?_, trivial⟩ trivial (by kernel_rfl)
        rw [hsn]
        exact ren_row rfl rfl fun _ _ _ _ => rfl
    · simp at h
      refine Sat.go (Eq.refl _) (NS.leave rfl (Eq.refl _) ?_)
      refine Sat.go (Eq.refl _) (NS.ret rfl rfl (rem_le hres ?_))
      rw [take_all (by omega)]
      exact LeA.refl _

theorem sameRecords_ok (l m : List Jrec) (hl : l.length ≤ 1000000) : FnOK Try.prog 31 [slR l, slR m] (.bool (sameBy Jrec.eqv l m), none) := by
  refine fn_ok CN rfl (by kernel_rfl) Try.func31 rfl ?_
  refine Sat.go (Eq.refl _) (NS.ite (fun h0 => ?_) (fun h0 => ?_))
  · refine Sat.go (Eq.refl _) (NS.ret rfl rfl (LeA.of (congrArg A.bool ?_)))
    exact (sameBy_len (fun _ _ => Jrec.eqv_iff) (by intro e; rw [e] at h0; simp at h0)).symm
  have hlm : l.length = m.length := by simp only [bne_eq_false_iff_eq] at h0; omega
  refine Sat.go (Eq.refl _) ?_
  refine NS.loop (σ := { k : Nat // k ≤ l.length ∧ ∀ i, i < k → Jrec.eqv (l.getD i default) (m.getD i default) = true }) (fun k => [(0, slR l), (1, slR m), (5, .int .i64 k.1)]) (fun _ => []) (fun k => l.length - k.1) ⟨0, Nat.zero_le _, fun i hi => by omega⟩ ?_ ?_
  · exact weak_hd [] rfl ⟨rfl, rfl, rfl, trivial⟩ trivial trivial (by kernel_rfl)
  · rintro ⟨k, hk, hn⟩
    refine Sat.go (Eq.refl _) (NS.ite (fun h => ?_) (fun h => ?_))
    · simp at h
      refine Sat.go (Eq.refl _) (NS.chk (by kernel_rfl) ?_)
      refine Sat.go (Eq.refl _) (NS.need (by simp; omega) ?_)
      refine Sat.go (Eq.refl _) (NS.need (by simp; omega) ?_)
      refine Sat.go (Eq.refl _) (NS.ite (fun h2 => ?_) (fun h2 => ?_))
      · refine Sat.go (Eq.refl _) (NS.leaveOut rfl (Eq.refl _) (NS.ret rfl rfl (LeA.of (congrArg A.bool ?_))))
        refine (sameBy_f (k := k) (fun _ _ => Jrec.eqv_iff) ?_).symm
        exact not_t h2
      · refine Sat.go (Eq.refl _) (NS.next ⟨k + 1, by omega, fun i hi => ?_⟩ (by simp; omega) ?_)
        · by_cases hik : i = k
          · subst hik; exact not_f h2
          · exact hn i (by omega)
        · exact weak_hd [] rfl ⟨rfl, rfl, ren_int rfl (i64_k (by omega) (by omega)), trivial⟩ trivial trivial (by kernel_rfl)
    · simp at h
      refine Sat.go (Eq.refl _) (NS.leave rfl (Eq.refl _) ?_)
      refine Sat.go (Eq.refl _) (NS.ret rfl rfl (LeA.of (congrArg A.bool ?_)))
      exact (sameBy_t (fun _ _ => Jrec.eqv_iff) hlm fun i hi => hn i (by omega)).symm
theorem sameItems_ok (l m : List Itm) (hl : l.length ≤ 1000000) : FnOK Try.prog 54 [slI l, slI m] (.bool (sameBy Itm.eqv l m), none) := by
  refine fn_ok CN rfl (by kernel_rfl) Try.func54 rfl ?_
  refine Sat.go (Eq.refl _) (NS.ite (fun h0 => ?_) (fun h0 => ?_))
  · refine Sat.go (Eq.refl _) (NS.ret rfl rfl (LeA.of (congrArg A.bool ?_)))
    exact (sameBy_len (fun _ _ => Itm.eqv_iff) (by intro e; rw [e] at h0; simp at h0)).symm
  have hlm : l.length = m.length := by simp only [bne_eq_false_iff_eq] at h0; omega
  refine Sat.go (Eq.refl _) ?_
  refine NS.loop (σ := { k : Nat // k ≤ l.length ∧ ∀ i, i < k → Itm.eqv (l.getD i default) (m.getD i default) = true }) (fun k => [(0, slI l), (1, slI m), (5, .int .i64 k.1)]) (fun _ => []) (fun k => l.length - k.1) ⟨0, Nat.zero_le _, fun i hi => by omega⟩ ?_ ?_
  · exact weak_hd [] rfl ⟨rfl, rfl, rfl, trivial⟩ trivial trivial (by kernel_rfl)
  · rintro ⟨k, hk, hn⟩
    refine Sat.go (Eq.refl _) (NS.ite (fun h => ?_) (fun h => ?_))
    · simp at h
      refine Sat.go (Eq.refl _) (NS.chk (by kernel_rfl) ?_)
      refine Sat.go (Eq.refl _) (NS.need (by simp; omega) ?_)
      refine Sat.go (Eq.refl _) (NS.need (by simp; omega) ?_)
      refine Sat.go (Eq.refl _) (NS.ite (fun h2 => ?_) (fun h2 => ?_))
      · refine Sat.go (Eq.refl _) (NS.leaveOut rfl (Eq.refl _) (NS.ret rfl rfl (LeA.of (congrArg A.bool ?_))))
        refine (sameBy_f (k := k) (fun _ _ => Itm.eqv_iff) ?_).symm
        exact not_t h2
      · refine Sat.go (Eq.refl _) (NS.next ⟨k + 1, by omega, fun i hi => ?_⟩ (by simp; omega) ?_)
        · by_cases hik : i = k
          · subst hik; exact not_f h2
          · exact hn i (by omega)
        · exact weak_hd [] rfl ⟨rfl, rfl, ren_int rfl (i64_k (by omega) (by omega)), trivial⟩ trivial trivial (by kernel_rfl)
    · simp at h
      refine Sat.go (Eq.refl _) (NS.leave rfl (Eq.refl _) ?_)
      refine Sat.go (Eq.refl _) (NS.ret rfl rfl (LeA.of (congrArg A.bool ?_)))
      exact (sameBy_t (fun _ _ => Itm.eqv_iff) hlm fun i hi => hn i (by omega)).symm
def sameD (a b : Dur) : Bool := sameBy Itm.eqv a.items b.items && sameBy Itm.eqv a.inbox b.inbox
theorem sameD_iff {a b : Dur} : sameD a b = true ↔ a = b := by
  obtain ⟨a1, a2⟩ := a; obtain ⟨b1, b2⟩ := b
  simp [sameD, sameBy_iff fun _ _ => Itm.eqv_iff]
theorem same_ok (a b : Dur) (h1 : a.items.length ≤ 1000000) (h2 : a.inbox.length ≤ 1000000) : FnOK Try.prog 17 [.agg a.cells, .agg b.cells] (.bool (sameD a b), none) := by
  refine fn_ok CN rfl (by kernel_rfl) Try.func17 rfl ?_
  repeat' (first
    | refine Sat.go (Eq.refl _) ?_
    | refine NS.call (sameItems_ok a.items b.items h1) rfl ?_
    | refine NS.call (sameItems_ok a.inbox b.inbox h2) rfl ?_
    | refine NS.ite (fun _ => ?_) (fun _ => ?_)
    | refine NS.ret rfl rfl (LeA.of (congrArg A.bool ?_)))
  all_goals (simp only [sameD, *]; simp)

def bigI (x : Itm) : Bool := decide ((x.data.size : Int) > 100)
def greatD (d : Dur) : Bool := decide ((d.items.length : Int) > 12) || decide ((d.inbox.length : Int) > 12) || d.items.any bigI || d.inbox.any bigI
theorem any_t {α : Type} [Inhabited α] {p : α → Bool} {l : List α} {k : Nat} (h : k < l.length) (hp : p (l.getD k default) = true) : l.any p = true := by
  rw [List.any_eq_true]; exact ⟨l.getD k default, by rw [getD_lt h]; exact List.getElem_mem h, hp⟩
theorem any_f {α : Type} [Inhabited α] {p : α → Bool} {l : List α} (hn : ∀ k, k < l.length → p (l.getD k default) = false) : l.any p = false := by
  rw [List.any_eq_false]
  intro x hx
  obtain ⟨i, hi, rfl⟩ := List.getElem_of_mem hx
  have := hn i hi
  rw [getD_lt hi] at this
  simp [this]
theorem great_ok (d : Dur) : FnOK Try.prog 12 [.agg d.cells] (.bool (greatD d), none) := by
  refine fn_ok CN rfl (by kernel_rfl) Try.func12 rfl ?_
  refine Sat.go (Eq.refl _) (NS.ite (fun h0 => ?_) (fun h0 => ?_))
  · refine Sat.go (Eq.refl _) (NS.ret rfl rfl (LeA.of (congrArg A.bool ?_)))
    simp only [greatD, h0]; simp
  refine Sat.go (Eq.refl _) (NS.ite (fun h1 => ?_) (fun h1 => ?_))
  · refine Sat.go (Eq.refl _) (NS.ret rfl rfl (LeA.of (congrArg A.bool ?_)))
    simp only [greatD, h0, h1]; simp
  have b1 : d.items.length ≤ 12 := by simp at h0; omega
  have b2 : d.inbox.length ≤ 12 := by simp at h1; omega
  refine Sat.go (Eq.refl _) ?_
  refine NS.loop (σ := { k : Nat // k ≤ d.items.length ∧ ∀ i, i < k → bigI (d.items.getD i default) = false }) (fun k => [(1, .ptr 1 0), (3, .int .i64 k.1)]) (fun _ => [(1, .box d.cells)]) (fun k => d.items.length - k.1) ⟨0, Nat.zero_le _, fun i hi => by omega⟩ ?_ ?_
  · exact weak_hd [] rfl ⟨rfl, rfl, trivial⟩ ⟨⟨_, rfl, _, _, rfl, rfl, _, _, rfl, rfl, rfl⟩, trivial⟩ trivial (by kernel_rfl)
  · rintro ⟨k, hk, hn⟩
    refine Sat.go (Eq.refl _) (NS.ite (fun h => ?_) (fun h => ?_))
    · simp at h
      refine Sat.go (Eq.refl _) (NS.need (by simp; omega) ?_)
      refine Sat.go (Eq.refl _) (NS.ite (fun h2 => ?_) (fun h2 => ?_))
      · refine Sat.go (Eq.refl _) (NS.leaveOut rfl (Eq.refl _) (NS.ret rfl rfl (LeA.of (congrArg A.bool ?_))))
        simp only [greatD, h0, h1, any_t (p := bigI) (l := d.items) (k := k) (by omega) h2]; simp
      · refine Sat.go (Eq.refl _) (NS.next ⟨k + 1, by omega, fun i hi => ?_⟩ (by simp; omega) ?_)
        · by_cases hik : i = k
          · subst hik; exact h2
          · exact hn i (by omega)
        · exact weak_hd [] rfl ⟨rfl, ren_int rfl (i64_k (by omega) (by omega)), trivial⟩ ⟨⟨_, rfl, _, _, rfl, rfl, _, _, rfl, rfl, rfl⟩, trivial⟩ trivial (by kernel_rfl)
    · simp at h
      refine Sat.go (Eq.refl _) (NS.leave rfl (Eq.refl _) ?_)
      have ha : d.items.any bigI = false := any_f fun i hi => hn i (by omega)
      refine Sat.go (Eq.refl _) ?_
      refine NS.loop (σ := { k : Nat // k ≤ d.inbox.length ∧ ∀ i, i < k → bigI (d.inbox.getD i default) = false }) (fun k => [(1, .ptr 1 0), (4, .int .i64 k.1)]) (fun _ => [(1, .box d.cells)]) (fun k => d.inbox.length - k.1) ⟨0, Nat.zero_le _, fun i hi => by omega⟩ ?_ ?_
      · exact weak_hd [] rfl ⟨rfl, rfl, trivial⟩ ⟨⟨_, rfl, _, _, rfl, rfl, _, _, rfl, rfl, rfl⟩, trivial⟩ trivial (by kernel_rfl)
      · rintro ⟨k', hk', hn'⟩
        refine Sat.go (Eq.refl _) (NS.ite (fun h => ?_) (fun h => ?_))
        · simp at h
          refine Sat.go (Eq.refl _) (NS.need (by simp; omega) ?_)
          refine Sat.go (Eq.refl _) (NS.ite (fun h2 => ?_) (fun h2 => ?_))
          · refine Sat.go (Eq.refl _) (NS.leaveOut rfl (Eq.refl _) (NS.ret rfl rfl (LeA.of (congrArg A.bool ?_))))
            simp only [greatD, h0, h1, any_t (p := bigI) (l := d.inbox) (k := k') (by omega) h2]; simp
          · refine Sat.go (Eq.refl _) (NS.next ⟨k' + 1, by omega, fun i hi => ?_⟩ (by simp; omega) ?_)
            · by_cases hik : i = k'
              · subst hik; exact h2
              · exact hn' i (by omega)
            · exact weak_hd [] rfl ⟨rfl, ren_int rfl (i64_k (by omega) (by omega)), trivial⟩ ⟨⟨_, rfl, _, _, rfl, rfl, _, _, rfl, rfl, rfl⟩, trivial⟩ trivial (by kernel_rfl)
        · simp at h
          refine Sat.go (Eq.refl _) (NS.leave rfl (Eq.refl _) ?_)
          refine Sat.go (Eq.refl _) (NS.ret rfl rfl (LeA.of (congrArg A.bool ?_)))
          have hb : d.inbox.any bigI = false := any_f fun i hi => hn' i (by omega)
          simp only [greatD, h0, h1, ha, hb]; simp
end Go.Proofs.Ytkgaaaidmaddnaa
