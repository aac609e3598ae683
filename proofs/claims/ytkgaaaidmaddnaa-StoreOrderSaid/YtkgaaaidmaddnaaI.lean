/- The contracts of folding records; the statements' own example. -/
import Derived.Test.YtkgaaaidmaddnaaH
set_option linter.unusedSimpArgs false
set_option linter.unusedSectionVars false
set_option linter.unusedVariables false
namespace Go.Proofs.Ytkgaaaidmaddnaa
open Go.Sy Go.Mb
set_option maxRecDepth 100000
set_option linter.unusedVariables false
set_option maxHeartbeats 1000000

def badRec (r : Jrec) : Bool := recErr r != 0
theorem badRec_ok (r : Jrec) : FnOK Try.prog 49 [.agg r.cells] (.bool (badRec r), none) := by
  refine fn_ok CN rfl (by kernel_rfl) Try.func49 rfl ?_
  refine Sat.go (Eq.refl _) (NS.call (jCheck_ok r) rfl ?_)
  exact Sat.go (Eq.refl _) (NS.ret rfl rfl (LeA.refl _))
theorem idxBadRec_ok (l : List Jrec) (hl : l.length ≤ 1000000) : FnOK Try.prog 76 [slR l, .fn 49 []] (.int .i64 (idx badRec l), none) := by
  refine fn_ok CN rfl (by kernel_rfl) Try.func76 rfl ?_
  refine Sat.go (Eq.refl _) ?_
  refine NS.loop (σ := { k : Nat // k ≤ l.length ∧ ∀ i, i < k → badRec (l.getD i default) = false }) (fun k => [(0, slR l), (1, .fn 49 []), (7, .int .i64 l.length), (8, .int .i64 k.1)]) (fun _ => []) (fun k => l.length - k.1) ⟨0, Nat.zero_le _, fun i hi => by omega⟩ ?_ ?_
  · exact weak_hd [] rfl ⟨rfl, rfl, rfl, rfl, trivial⟩ trivial trivial (by kernel_rfl)
  · rintro ⟨k, hk, hn⟩
    refine Sat.go (Eq.refl _) (NS.ite (fun h => ?_) (fun h => ?_))
    · simp at h
      refine Sat.go (Eq.refl _) (NS.need (by simp; omega) ?_)
      refine Sat.go (Eq.refl _) (NS.call (badRec_ok (l.getD k default)) rfl ?_)
      refine Sat.go (Eq.refl _) (NS.ite (fun h2 => ?_) (fun h2 => ?_))
      · refine Sat.go (Eq.refl _) (NS.leaveOut rfl (Eq.refl _) (NS.ret rfl rfl (LeA.of (congrArg (A.int .i64) ?_))))
        exact (idx_found (by omega) h2 hn).symm
      · refine Sat.go (Eq.refl _) (NS.next ⟨k + 1, by omega, fun i hi => ?_⟩ (by simp; omega) ?_)
        · by_cases hik : i = k
          · subst hik; exact h2
          · exact hn i (by omega)
        · exact weak_hd [] rfl ⟨rfl, rfl, rfl, ren_int rfl (i64_k (by omega) (by omega)), trivial⟩ trivial trivial (by kernel_rfl)
    · simp at h
      refine Sat.go (Eq.refl _) (NS.leave rfl (Eq.refl _) ?_)
      refine Sat.go (Eq.refl _) (NS.ret rfl rfl (LeA.of (congrArg (A.int .i64) ?_)))
      exact (idx_none fun i hi => hn i (by omega)).symm
theorem anyBadRec_ok (l : List Jrec) (hl : l.length ≤ 1000000) : FnOK Try.prog 46 [slR l, .fn 49 []] (.bool (l.any badRec), none) := by
  refine fn_ok CN rfl (by kernel_rfl) Try.func46 rfl ?_
  refine Sat.go (Eq.refl _) (NS.call (idxBadRec_ok l hl) rfl ?_)
  exact Sat.go (Eq.refl _) (NS.ret rfl rfl (LeA.of (congrArg A.bool (idx_any _ _))))

def effs (l : List Jrec) (d : Dur) : Dur := l.foldl effM d
theorem effs_snoc (l : List Jrec) (r : Jrec) (d : Dur) : effs (l ++ [r]) d = effM (effs l d) r := by simp [effs]
theorem effs_len (l : List Jrec) (d : Dur) : (effs l d).items.length ≤ d.items.length + l.length ∧ (effs l d).inbox.length ≤ d.inbox.length + l.length := by
  induction l generalizing d with
  | nil => simp [effs]
  | cons r l ih =>
    have h1 := ih (effM d r)
    have h2 := effM_len d r
    simp only [effs, List.foldl_cons, List.length_cons] at h1 ⊢
    omega
def foldM (l : List Jrec) : Dur × Int := if l.any badRec then (⟨[], []⟩, 1) else (effs l ⟨[], []⟩, 0)

theorem fold_ok (l : List Jrec) (hl : l.length ≤ 999998) : FnOK Try.prog 15 [slR l] (durA (foldM l), none) := by
  refine fn_ok CN rfl (by kernel_rfl) Try.func15 rfl ?_
  refine Sat.go (Eq.refl _) (NS.call (anyBadRec_ok l (by omega)) rfl ?_)
  refine Sat.go (Eq.refl _) (NS.ite (fun a1 => ?_) (fun a1 => ?_))
  · refine Sat.go (Eq.refl _) (NS.ret rfl rfl (dur_le ?_ nilD))
    simp only [foldM, a1]; rfl
  have hres : foldM l = (effs l ⟨[], []⟩, 0) := by simp only [foldM, a1]; rfl
  have hgood : ∀ k, k < l.length → recErr (l.getD k default) = 0 := by
    intro k hk
    rw [List.any_eq_false] at a1
    have := a1 (l.getD k default) (by rw [getD_lt hk]; exact List.getElem_mem hk)
    unfold badRec at this
    simpa using this
  refine Sat.go (Eq.refl _) (NS.call effects_ok rfl ?_)
  refine Sat.go (Eq.refl _) ?_
  refine NS.loop (σ := { k : Nat // k ≤ l.length }) (fun k => [(2, .ptr 2 0), (4, .ptr 4 0), (5, .ptr 5 0), (12, slR l), (13, .int .i64 l.length), (14, .int .i64 k.1)]) (fun k => [(2, .box [.junk, .junk]), (4, .box (effs (l.take k.1) ⟨[], []⟩).cells), (5, .box [.opq, .fn 80 [], .fn 82 [], .fn 85 [], .fn 86 []])]) (fun k => l.length - k.1) ⟨0, Nat.zero_le _⟩ ?_ ?_
  · refine Weak.trans (weak_box 4 (cells' := (effs (l.take 0) ⟨[], []⟩).cells) rfl (.cons (LeA.nil' rfl) (.cons (LeA.nil' rfl) .nil))) ?_
    exact weak_hd [] rfl ⟨rfl, rfl, rfl, rfl, rfl, rfl, trivial⟩ ⟨⟨_, rfl, _, _, rfl, trivial, _, _, rfl, trivial, rfl⟩, ⟨_, rfl, _, _, rfl, rfl, _, _, rfl, rfl, rfl⟩, ⟨_, rfl, _, _, rfl, rfl, _, _, rfl, rfl, _, _, rfl, rfl, _, _, rfl, rfl, _, _, rfl, rfl, rfl⟩, trivial⟩ trivial (by kernel_rfl)
  · rintro ⟨k, hk⟩
    have hlen := effs_len (l.take k) ⟨[], []⟩
    simp only [List.length_take, List.length_nil] at hlen
    refine Sat.go (Eq.refl _) (NS.ite (fun h => ?_) (fun h => ?_))
    · simp at h
      have hsn : effs (l.take (k + 1)) ⟨[], []⟩ = effM (effs (l.take k) ⟨[], []⟩) (l.getD k default) := by rw [take_snoc (by omega), effs_snoc]
      refine Sat.go (Eq.refl _) (NS.need (by simp; omega) ?_)
      refine Sat.go (Eq.refl _) (NS.chk (by kernel_rfl) ?_)
      rcases recErr_kind (hgood k (by omega)) with hkd | hkd | hkd | hkd
      · have he : effM (effs (l.take k) ⟨[], []⟩) (l.getD k default) = ⟨withM (effs (l.take k) ⟨[], []⟩).items (l.getD k default).item, (effs (l.take k) ⟨[], []⟩).inbox⟩ := by simp only [effM, hkd]; rfl
        rw [he] at hsn
        refine Sat.go (Eq.refl _) (NS.no (show ((l.getD k default).kind == 0) = false by rw [hkd]; rfl) ?_)
        refine Sat.go (Eq.refl _) (NS.yes (show ((l.getD k default).kind == 1) = true by rw [hkd]; rfl) ?_)
        refine Sat.go (Eq.refl _) (NS.call (eff1_ok (effs (l.take k) ⟨[], []⟩) (l.getD k default) (by omega)) rfl ?_)
        refine Sat.go (Eq.refl _) (NS.next ⟨k + 1, by omega⟩ (by simp; omega) ?_)
        refine weak_hd [] rfl ⟨rfl, rfl, rfl, rfl, rfl, ren_int rfl (i64_k (by omega) (by omega)), trivial⟩ ⟨⟨_, rfl, _, _, rfl, trivial, _, _, rfl, trivial, rfl⟩, ?_, ⟨_, rfl, _, _, rfl, rfl, _, _, rfl, rfl, _, _, rfl, rfl, _, _, rfl, rfl, _, _, rfl, rfl, rfl⟩, trivial⟩ trivial (by kernel_rfl)
        rw [hsn]
        exact ⟨_, rfl, _, _, rfl, rfl, _, _, rfl, rfl, rfl⟩
      · have he : effM (effs (l.take k) ⟨[], []⟩) (l.getD k default) = ⟨(effs (l.take k) ⟨[], []⟩).items.filter (notId (l.getD k default).id), (effs (l.take k) ⟨[], []⟩).inbox⟩ := by simp only [effM, hkd]; rfl
        rw [he] at hsn
        refine Sat.go (Eq.refl _) (NS.no (show ((l.getD k default).kind == 0) = false by rw [hkd]; rfl) ?_)
        refine Sat.go (Eq.refl _) (NS.no (show ((l.getD k default).kind == 1) = false by rw [hkd]; rfl) ?_)
        refine Sat.go (Eq.refl _) (NS.yes (show ((l.getD k default).kind == 2) = true by rw [hkd]; rfl) ?_)
        refine Sat.go (Eq.refl _) (NS.call (eff2_ok (effs (l.take k) ⟨[], []⟩) (l.getD k default) (by omega)) rfl ?_)
        refine Sat.go (Eq.refl _) (NS.next ⟨k + 1, by omega⟩ (by simp; omega) ?_)
        refine weak_hd [] rfl ⟨rfl, rfl, rfl, rfl, rfl, ren_int rfl (i64_k (by omega) (by omega)), trivial⟩ ⟨⟨_, rfl, _, _, rfl, trivial, _, _, rfl, trivial, rfl⟩, ?_, ⟨_, rfl, _, _, rfl, rfl, _, _, rfl, rfl, _, _, rfl, rfl, _, _, rfl, rfl, _, _, rfl, rfl, rfl⟩, trivial⟩ trivial (by kernel_rfl)
        rw [hsn]
        exact ⟨_, rfl, _, _, rfl, rfl, _, _, rfl, rfl, rfl⟩
      · have he : effM (effs (l.take k) ⟨[], []⟩) (l.getD k default) = ⟨(effs (l.take k) ⟨[], []⟩).items, withM (effs (l.take k) ⟨[], []⟩).inbox (l.getD k default).item⟩ := by simp only [effM, hkd]; rfl
        rw [he] at hsn
        refine Sat.go (Eq.refl _) (NS.no (show ((l.getD k default).kind == 0) = false by rw [hkd]; rfl) ?_)
        refine Sat.go (Eq.refl _) (NS.no (show ((l.getD k default).kind == 1) = false by rw [hkd]; rfl) ?_)
        refine Sat.go (Eq.refl _) (NS.no (show ((l.getD k default).kind == 2) = false by rw [hkd]; rfl) ?_)
        refine Sat.go (Eq.refl _) (NS.yes (show ((l.getD k default).kind == 3) = true by rw [hkd]; rfl) ?_)
        refine Sat.go (Eq.refl _) (NS.call (eff3_ok (effs (l.take k) ⟨[], []⟩) (l.getD k default) (by omega)) rfl ?_)
        refine Sat.go (Eq.refl _) (NS.next ⟨k + 1, by omega⟩ (by simp; omega) ?_)
        refine weak_hd [] rfl ⟨rfl, rfl, rfl, rfl, rfl, ren_int rfl (i64_k (by omega) (by omega)), trivial⟩ ⟨⟨_, rfl, _, _, rfl, trivial, _, _, rfl, trivial, rfl⟩, ?_, ⟨_, rfl, _, _, rfl, rfl, _, _, rfl, rfl, _, _, rfl, rfl, _, _, rfl, rfl, _, _, rfl, rfl, rfl⟩, trivial⟩ trivial (by kernel_rfl)
        rw [hsn]
        exact ⟨_, rfl, _, _, rfl, rfl, _, _, rfl, rfl, rfl⟩
      · have he : effM (effs (l.take k) ⟨[], []⟩) (l.getD k default) = ⟨setTick (effs (l.take k) ⟨[], []⟩).items (l.getD k default).id (l.getD k default).ticket, (effs (l.take k) ⟨[], []⟩).inbox⟩ := by simp only [effM, hkd]; rfl
        rw [he] at hsn
        refine Sat.go (Eq.refl _) (NS.no (show ((l.getD k default).kind == 0) = false by rw [hkd]; rfl) ?_)
        refine Sat.go (Eq.refl _) (NS.no (show ((l.getD k default).kind == 1) = false by rw [hkd]; rfl) ?_)
        refine Sat.go (Eq.refl _) (NS.no (show ((l.getD k default).kind == 2) = false by rw [hkd]; rfl) ?_)
        refine Sat.go (Eq.refl _) (NS.no (show ((l.getD k default).kind == 3) = false by rw [hkd]; rfl) ?_)
        refine Sat.go (Eq.refl _) (NS.yes (show ((l.getD k default).kind == 4) = true by rw [hkd]; rfl) ?_)
        refine Sat.go (Eq.refl _) (NS.call (eff4_ok (effs (l.take k) ⟨[], []⟩) (l.getD k default) (by omega)) rfl ?_)
        refine Sat.go (Eq.refl _) (NS.next ⟨k + 1, by omega⟩ (by simp; omega) ?_)
        refine weak_hd [] rfl ⟨rfl, rfl, rfl, rfl, rfl, ren_int rfl (i64_k (by omega) (by omega)), trivial⟩ ⟨⟨_, rfl, _, _, rfl, trivial, _, _, rfl, trivial, rfl⟩, ?_, ⟨_, rfl, _, _, rfl, rfl, _, _, rfl, rfl, _, _, rfl, rfl, _, _, rfl, rfl, _, _, rfl, rfl, rfl⟩, trivial⟩ trivial (by kernel_rfl)
        rw [hsn]
        exact ⟨_, rfl, _, _, rfl, rfl, _, _, rfl, rfl, rfl⟩
    · simp at h
      refine Sat.go (Eq.refl _) (NS.leave rfl (Eq.refl _) ?_)
      refine Sat.go (Eq.refl _) (NS.ret rfl rfl (dur_le hres ?_))
      rw [take_all (by omega)]
      exact LeA.refl _
end Go.Proofs.Ytkgaaaidmaddnaa
