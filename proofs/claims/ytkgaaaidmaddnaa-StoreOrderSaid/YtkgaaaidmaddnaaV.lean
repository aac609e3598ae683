/- The statement StoreParts: the walk. -/
import Derived.Test.YtkgaaaidmaddnaaU
set_option linter.unusedSimpArgs false
set_option linter.unusedSectionVars false
set_option linter.unusedVariables false
namespace Go.Proofs.Ytkgaaaidmaddnaa
open Go.Sy Go.Mb
set_option maxRecDepth 100000
set_option linter.unusedVariables false
set_option maxHeartbeats 1000000

def bigR (r : Jrec) : Bool := decide ((r.item.data.size : Int) > 100)
def greatR (l : List Jrec) : Bool := decide ((l.length : Int) > 20) || l.any bigR
theorem bigR_ok (r : Jrec) : FnOK Try.prog 47 [.agg r.cells] (.bool (bigR r), none) := by
  refine fn_ok CN rfl (by kernel_rfl) Try.func47 rfl ?_
  exact Sat.go (Eq.refl _) (NS.ret rfl rfl (LeA.refl _))
theorem idxBigR_ok (l : List Jrec) (hl : l.length ≤ 1000000) : FnOK Try.prog 76 [slR l, .fn 47 []] (.int .i64 (idx bigR l), none) := by
  refine fn_ok CN rfl (by kernel_rfl) Try.func76 rfl ?_
  refine Sat.go (Eq.refl _) ?_
  refine NS.loop (σ := { k : Nat // k ≤ l.length ∧ ∀ i, i < k → bigR (l.getD i default) = false }) (fun k => [(0, slR l), (1, .fn 47 []), (7, .int .i64 l.length), (8, .int .i64 k.1)]) (fun _ => []) (fun k => l.length - k.1) ⟨0, Nat.zero_le _, fun i hi => by omega⟩ ?_ ?_
  · exact weak_hd [] rfl ⟨rfl, rfl, rfl, rfl, trivial⟩ trivial trivial (by kernel_rfl)
  · rintro ⟨k, hk, hn⟩
    refine Sat.go (Eq.refl _) (NS.ite (fun h => ?_) (fun h => ?_))
    · simp at h
      refine Sat.go (Eq.refl _) (NS.need (by simp; omega) ?_)
      refine Sat.go (Eq.refl _) (NS.call (bigR_ok (l.getD k default)) rfl ?_)
      refine Sat.go (Eq.refl _) (NS.ite (fun h2 => ?_) (fun h2 => ?_))
      · refine Sat.go (Eq.refl _) (NS.leaveOut rfl (Eq.refl _) (NS.ret rfl rfl (LeA.of (congrArg (A.int .i64) ?_))))
        exact (idx_found (by omega) h2 hn).symm
      · refine Sat.go (Eq.refl _) (NS.next ⟨k + 1, by omega, fun i hi => ?_⟩ (by simp; omega) ?_)
        · by_cases hik : i = k
          · subst hik; exact h2
          · exact hn i (by omega)
        · exact weak_hd [] rfl ⟨rfl, rfl, rfl, ren_int rfl (i64_k (by omega) (by omega)), trivial⟩ trivial trivial (by kernel_rfl)
    · simp at h
      refine Sat.go (Eq.refl _) (NS.leave rfl (Eq.refl _) ?_)
      refine Sat.go (Eq.refl _) (NS.ret rfl rfl (LeA.of (congrArg (A.int .i64) ?_)))
      exact (idx_none fun i hi => hn i (by omega)).symm
theorem anyBigR_ok (l : List Jrec) (hl : l.length ≤ 1000000) : FnOK Try.prog 46 [slR l, .fn 47 []] (.bool (l.any bigR), none) := by
  refine fn_ok CN rfl (by kernel_rfl) Try.func46 rfl ?_
  refine Sat.go (Eq.refl _) (NS.call (idxBigR_ok l hl) rfl ?_)
  exact Sat.go (Eq.refl _) (NS.ret rfl rfl (LeA.of (congrArg A.bool (idx_any _ _))))
theorem greatR_ok (l : List Jrec) : FnOK Try.prog 13 [slR l] (.bool (greatR l), none) := by
  refine fn_ok CN rfl (by kernel_rfl) Try.func13 rfl ?_
  refine Sat.go (Eq.refl _) (NS.ite (fun h => ?_) (fun h => ?_))
  · refine Sat.go (Eq.refl _) (NS.ret rfl rfl (LeA.of (congrArg A.bool ?_)))
    simp only [greatR, h]; simp
  · refine Sat.go (Eq.refl _) (NS.call (anyBigR_ok l (by simp at h; omega)) rfl ?_)
    refine Sat.go (Eq.refl _) (NS.ret rfl rfl (LeA.of (congrArg A.bool ?_)))
    simp only [greatR, h]; simp

theorem effs_append (a b : List Jrec) (d : Dur) : effs (a ++ b) d = effs b (effs a d) := by simp [effs]
theorem good_effs {l : List Jrec} {d : Dur} (hd : Good d) (hl : ∀ r ∈ l, recErr r = 0) : Good (effs l d) := by
  induction l generalizing d with
  | nil => exact hd
  | cons r l ih => exact ih (good_eff hd (hl r (by simp))) fun r' hr' => hl r' (by simp [hr'])
theorem apps_good {l : List Jrec} {d : Dur} (hd : Good d) (hl : ∀ r ∈ l, recErr r = 0) : appsM d l = (effs l d, true) := by
  induction l generalizing d with
  | nil => rfl
  | cons r l ih =>
    have ha : applyM d r = (effM d r, 0) := by unfold applyM; rw [(good_iff d).2 hd, hl r (by simp)]; rfl
    rw [appsM, ha]
    exact ih (good_eff hd (hl r (by simp))) fun r' hr' => hl r' (by simp [hr'])
theorem good_nil : Good ⟨[], []⟩ := ⟨by simp, by simp, by simp [Uniq], by simp [Uniq]⟩
theorem used_bound (l : List Itm) (hl : ∀ x ∈ l, x.data.size ≤ 65536) : ∀ acc : Int, 0 ≤ acc → acc + 65536 * l.length ≤ 1000000000000 → 0 ≤ l.foldl (fun n x => IntKind.i64.wrap (n + (x.data.size : Int))) acc ∧ l.foldl (fun n x => IntKind.i64.wrap (n + (x.data.size : Int))) acc ≤ acc + 65536 * l.length := by
  induction l with
  | nil => intro acc h0 _; simp; omega
  | cons x l ih =>
    intro acc h0 h1
    have hx := hl x (by simp)
    simp only [List.length_cons] at h1 ⊢
    simp only [List.foldl_cons]
    rw [wrap_i64 (by omega) (by omega)]
    have := ih (fun y hy => hl y (by simp [hy])) (acc + x.data.size) (by omega) (by omega)
    omega
theorem ok_size {x : Itm} (h : okItem x = true) : x.data.size ≤ 65536 := by
  unfold okItem itemErr inR at h
  simp only [beq_iff_eq] at h
  split at h
  · split at h
    · rename_i hs; simp at hs; omega
    · cases h
  · cases h
theorem check_max {d : Dur} (hd : Good d) (hl : d.items.length ≤ 100) : checkQ d 1073741824 = 0 := by
  rw [checkQ_ok]
  refine ⟨rfl, (good_iff d).2 hd, ?_⟩
  have := used_bound d.items (fun x hx => ok_size (hd.1 x hx)) 0 (by omega) (by omega)
  unfold usedM
  omega

theorem storeParts_ok (l : List Jrec) (n : Nat) (hn : n < 256) : FnOK Try.prog 6 [slR l, .int .u8 n] (.bool true, none) := by
  have c0 := greatR_ok l
  refine fn_ok CN rfl (by kernel_rfl) Try.func6 rfl ?_
  refine Sat.go (Eq.refl _) (NS.call c0 rfl ?_)
  refine Sat.go (Eq.refl _) (NS.ite (fun hg => ?_) (fun hg => ?_))
  · refine Sat.go (Eq.refl _) (NS.call awake_ok rfl ?_)
    exact Sat.go (Eq.refl _) (NS.ret rfl rfl (LeA.of rfl))
  have hlen : l.length ≤ 20 := by unfold greatR at hg; simp only [Bool.or_eq_false_iff, decide_eq_false_iff_not] at hg; omega
  have c1 := fold_ok l (by omega)
  rcases Bool.eq_false_or_eq_true (l.any badRec) with hb | hb
  · have hf : foldM l = (⟨[], []⟩, 1) := by unfold foldM; rw [hb]; rfl
    rw [hf] at c1
    have c2 := same_ok ⟨[], []⟩ ⟨[], []⟩ (by simp) (by simp)
    rw [sameD_iff.2 rfl] at c2
    refine Sat.go (Eq.refl _) (NS.call c1 rfl ?_)
    refine Sat.go (Eq.refl _) (NS.yes rfl ?_)
    refine Sat.go (Eq.refl _) (NS.call (c2.le (LeL.cons (LeA.refl _) (LeL.cons nilD LeL.nil))) rfl ?_)
    refine Sat.go (Eq.refl _) (NS.yes rfl ?_)
    refine Sat.go (Eq.refl _) (NS.call awake_ok rfl ?_)
    exact Sat.go (Eq.refl _) (NS.ret rfl rfl (LeA.of rfl))
  have hf : foldM l = (effs l ⟨[], []⟩, 0) := by unfold foldM; rw [hb]; rfl
  rw [hf] at c1
  have hgood : ∀ r ∈ l, recErr r = 0 := by
    intro r hr
    rw [List.any_eq_false] at hb
    have := hb r hr
    unfold badRec at this
    simpa using this
  have hk : (IntKind.i64.wrap (n : Int)).tmod (IntKind.i64.wrap ((l.length : Int) + 1)) = ((n % (l.length + 1) : Nat) : Int) := by
    rw [wrap_i64 (by omega) (by omega), wrap_i64 (by omega) (by omega)]
    rw [Int.tmod_eq_emod_of_nonneg (by omega)]
    simp
  have hkl : n % (l.length + 1) ≤ l.length := by have := Nat.mod_lt n (show l.length + 1 > 0 by omega); omega
  generalize n % (l.length + 1) = k at hk hkl
  have g1 : ∀ r ∈ l.take k, recErr r = 0 := fun r hr => hgood r (List.mem_of_mem_take hr)
  have g2 : ∀ r ∈ l.drop k, recErr r = 0 := fun r hr => hgood r (List.mem_of_mem_drop hr)
  have hf1 : foldM (l.take k) = (effs (l.take k) ⟨[], []⟩, 0) := by
    unfold foldM
    rw [if_neg]
    rw [Bool.not_eq_true, List.any_eq_false]
    intro r hr
    unfold badRec
    rw [g1 r hr]; simp
  have G1 := good_effs good_nil g1
  have G := good_effs good_nil hgood
  have ha : appsM (effs (l.take k) ⟨[], []⟩) (l.drop k) = (effs l ⟨[], []⟩, true) := by
    rw [apps_good G1 g2, ← effs_append, List.take_append_drop]
  have l1 := effs_len (l.take k) ⟨[], []⟩
  have l2 := effs_len l ⟨[], []⟩
  simp only [List.length_take, List.length_nil] at l1 l2
  have c2 := fold_ok (l.take k) (by simp; omega)
  rw [hf1] at c2
  have c3 := apps_ok (effs (l.take k) ⟨[], []⟩) (l.drop k) (by simp; omega) (by simp; omega)
  rw [ha] at c3
  have c4 := same_ok (effs l ⟨[], []⟩) (effs l ⟨[], []⟩) (by omega) (by omega)
  rw [sameD_iff.2 rfl] at c4
  have c5 := check_ok (effs l ⟨[], []⟩) 1073741824 (by omega) (by omega)
  rw [check_max G (by omega)] at c5
  refine Sat.go (Eq.refl _) (NS.call c1 rfl ?_)
  refine Sat.go (Eq.refl _) (NS.no rfl ?_)
  refine Sat.go (Eq.refl _) (NS.need (show (IntKind.i64.wrap ((l.length : Int) + 1) != 0) = true by rw [wrap_i64 (by omega) (by omega)]; simp; omega) ?_)
  refine Sat.go (Eq.refl _) (NS.need (decide_eq_true ⟨by omega, by rw [hk]; omega, by rw [hk]; omega⟩) ?_)
  refine Sat.go (Eq.refl _) (NS.call (c2.le (LeL.cons ?_ LeL.nil)) rfl ?_)
  · refine LeA.sl (by rw [hk]; simp; omega) (fun i hi j hj => ?_)
    rw [hk] at hi
    have hi' : i < k := by simpa using hi
    show getA (Jrec.cells (l.getD (0 + i) default)) j = getA (Jrec.cells ((l.take k).getD i default)) j
    rw [Nat.zero_add, getD_lt (by omega), getD_lt (by simp; omega)]
    simp
  refine Sat.go (Eq.refl _) (NS.chk (by kernel_rfl) ?_)
  refine Sat.go (Eq.refl _) (NS.need (decide_eq_true ⟨by rw [hk]; omega, by rw [hk]; omega, by omega⟩) ?_)
  refine Sat.go (Eq.refl _) (NS.call (c3.le (LeL.cons (LeA.refl _) (LeL.cons ?_ LeL.nil))) rfl ?_)
  · refine LeA.sl (by rw [hk]; simp) (fun i hi j hj => ?_)
    rw [hk] at hi
    simp only [rowL, hk]
    rw [getD_lt (by simp; omega), getD_lt (by simp; omega)]
    simp
  refine Sat.go (Eq.refl _) (NS.yes rfl ?_)
  refine Sat.go (Eq.refl _) (NS.yes rfl ?_)
  refine Sat.go (Eq.refl _) (NS.call c4 rfl ?_)
  refine Sat.go (Eq.refl _) (NS.yes rfl ?_)
  refine Sat.go (Eq.refl _) (NS.call c5 rfl ?_)
  refine Sat.go (Eq.refl _) (NS.yes rfl ?_)
  refine Sat.go (Eq.refl _) (NS.call awake_ok rfl ?_)
  exact Sat.go (Eq.refl _) (NS.ret rfl rfl (LeA.of rfl))
end Go.Proofs.Ytkgaaaidmaddnaa
