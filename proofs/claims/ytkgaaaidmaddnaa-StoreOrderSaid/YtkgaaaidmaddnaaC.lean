/- The contracts of Put, Remove and Expire. -/
import Derived.Test.YtkgaaaidmaddnaaB
set_option linter.unusedSimpArgs false
set_option linter.unusedSectionVars false
set_option linter.unusedVariables false
namespace Go.Proofs.Ytkgaaaidmaddnaa
open Go.Sy Go.Mb
set_option maxRecDepth 100000
set_option linter.unusedVariables false
set_option maxHeartbeats 1000000

theorem row_one {α : Type} [Inhabited α] {cells : α → List A} {x : α} {c : Nat} {cs : List A} (hcs : cs = cells x) : ∀ i, i < 1 → ∀ j, j < c → getA cs (i * c + j) = rowL cells [x] i j := by
  intro i hi j hj
  have : i = 0 := by omega
  subst this
  rw [hcs]; simp [rowL]
def putA (r : List Jrec × Int × Int) : A := .tup [slR r.1, .int .i64 r.2.1, .int .i64 r.2.2]
def remA (r : List Jrec × Int) : A := .tup [slR r.1, .int .i64 r.2]
theorem put_le {r : List Jrec × Int × Int} {l : List Jrec} {n e : Int} {x : A} (h : r = (l, n, e)) (hx : LeA x (slR l)) : LeA (.tup [x, .int .i64 n, .int .i64 e]) (putA r) := by
  subst h; exact LeA.tup3 hx (LeA.refl _) (LeA.refl _)
theorem rem_le {r : List Jrec × Int} {l : List Jrec} {e : Int} {x : A} (h : r = (l, e)) (hx : LeA x (slR l)) : LeA (.tup [x, .int .i64 e]) (remA r) := by
  subst h; exact LeA.tup2 hx (LeA.refl _)

theorem flat_getA {cs : List A} (h : allL (flat 3) cs = true) (j : Nat) : flat 3 (getA cs j) = true := by
  induction cs generalizing j with
  | nil => rfl
  | cons a l ih =>
    simp only [allL, Bool.and_eq_true] at h
    cases j with
    | zero => exact h.1
    | succ j => exact ih h.2 j
theorem flatR (l : List Jrec) (i j : Nat) : flat 3 (rowL Jrec.cells l i j) = true := flat_getA rfl j
theorem flatI (l : List Itm) (i j : Nat) : flat 3 (rowL Itm.cells l i j) = true := flat_getA rfl j

theorem record_ok (kind : Int) (x : Itm) (now : Int) : FnOK Try.prog 60 [.int .i64 kind, .ip 11 (getA x.cells), .ip 1 (getA [.int .i64 now])] (.own 0, some (.row 38 19 1 (rowL Jrec.cells [⟨kind, x, .zero, 0, now⟩]))) := by
  refine fn_ok CN rfl (by kernel_rfl) Try.func60 rfl ?_
  exact Sat.go (Eq.refl _) (NS.retRow 9 rfl rfl (LeA.refl _) ⟨rfl, rfl, rfl, row_one rfl⟩ fun _ _ _ _ => flatR _ _ _)

theorem put_ok (d : Dur) (self quota : Int) (x : Itm) (now : Int) (h1 : d.items.length ≤ 1000000) (h2 : d.inbox.length ≤ 1000000) : FnOK Try.prog 21 [.agg d.cells, .int .i64 self, .int .i64 quota, .agg x.cells, .int .i64 now] (putA (putM d self quota x now), none) := by
  refine fn_ok CN rfl (by kernel_rfl) Try.func21 rfl ?_
  repeat' (first
    | refine Sat.go (Eq.refl _) ?_
    | refine NS.call (checkItems_ok d h1 h2) rfl ?_
    | refine NS.call (validItem_ok x) rfl ?_
    | refine NS.call (isQuota_ok quota) rfl ?_
    | refine NS.call (isTime_ok now) rfl ?_
    | refine NS.call (index_ok d.items x.id h1) rfl ?_
    | refine NS.call (index_ok d.inbox x.id h2) rfl ?_
    | refine NS.call (used_ok d h1) rfl ?_
    | refine NS.call (record_ok _ x now) rfl ?_
    | refine NS.chk (by kernel_rfl) ?_
    | refine NS.ite (fun _ => ?_) (fun _ => ?_)
    | refine NS.ret rfl rfl (put_le (l := []) ?_ (LeA.nil' rfl))
    | refine NS.ret rfl rfl (put_le (l := [⟨_, x, .zero, 0, now⟩]) ?_ (LeA.refl _)))
  all_goals (simp_all [putM])
  all_goals ((repeat' split) <;> first | rfl | omega | (exfalso; omega))
theorem rPut_ok (d : Dur) (self quota : Int) (x : Itm) (now : Int) (h1 : d.items.length ≤ 1000000) (h2 : d.inbox.length ≤ 1000000) : FnOK Try.prog 26 [.agg d.cells, .int .i64 self, .int .i64 quota, .agg x.cells, .int .i64 now] (putA (putM d self quota x now), none) := by
  refine fn_ok CN rfl (by kernel_rfl) Try.func26 rfl ?_
  repeat' (first
    | refine Sat.go (Eq.refl _) ?_
    | refine NS.call (rValid_ok d h1 h2) rfl ?_
    | refine NS.call (rValidItem_ok x) rfl ?_
    | refine NS.call (rIndex_ok d.items x.id h1) rfl ?_
    | refine NS.call (rIndex_ok d.inbox x.id h2) rfl ?_
    | refine NS.call (rUsed_ok d h1) rfl ?_
    | refine NS.chk (by kernel_rfl) ?_
    | refine NS.ite (fun _ => ?_) (fun _ => ?_)
    | refine NS.ret rfl rfl (put_le (l := []) ?_ (LeA.nil' rfl))
    | refine NS.ret rfl rfl (put_le (l := [⟨_, x, .zero, 0, now⟩]) ?_ (LeA.sl rfl (row_one rfl))))
  all_goals (simp_all [putM, valid_check, inR])
  all_goals (intros; (repeat' split) <;> first | rfl | omega | (exfalso; omega))
theorem remove_ok (d : Dur) (id : Nid) (now : Int) (h1 : d.items.length ≤ 1000000) (h2 : d.inbox.length ≤ 1000000) : FnOK Try.prog 27 [.agg d.cells, .agg id.cells, .int .i64 now] (remA (removeM d id now), none) := by
  refine fn_ok CN rfl (by kernel_rfl) Try.func27 rfl ?_
  repeat' (first
    | refine Sat.go (Eq.refl _) ?_
    | refine NS.call (checkItems_ok d h1 h2) rfl ?_
    | refine NS.call (isTime_ok now) rfl ?_
    | refine NS.call (index_ok d.items id h1) rfl ?_
    | refine NS.ite (fun _ => ?_) (fun _ => ?_)
    | refine NS.ret rfl rfl (rem_le (l := []) ?_ (LeA.nil' rfl))
    | refine NS.ret rfl rfl (rem_le (l := [⟨2, .zero, id, 0, now⟩]) ?_ (LeA.sl rfl (row_one rfl))))
  all_goals (simp_all [removeM])
  all_goals (intros; (repeat' split) <;> first | rfl | omega | (exfalso; omega))
theorem rRemove_ok (d : Dur) (id : Nid) (now : Int) (h1 : d.items.length ≤ 1000000) (h2 : d.inbox.length ≤ 1000000) : FnOK Try.prog 28 [.agg d.cells, .agg id.cells, .int .i64 now] (remA (removeM d id now), none) := by
  have hneg := idx_lt (hasId id) d.items
  refine fn_ok CN rfl (by kernel_rfl) Try.func28 rfl ?_
  repeat' (first
    | refine Sat.go (Eq.refl _) ?_
    | refine NS.call (rValid_ok d h1 h2) rfl ?_
    | refine NS.call (rIndex_ok d.items id h1) rfl ?_
    | refine NS.ite (fun _ => ?_) (fun _ => ?_)
    | refine NS.ret rfl rfl (rem_le (l := []) ?_ (LeA.nil' rfl))
    | refine NS.ret rfl rfl (rem_le (l := [⟨2, .zero, id, 0, now⟩]) ?_ (LeA.sl rfl (row_one rfl))))
  all_goals (simp_all [removeM, valid_check, inR])
  all_goals (intros; (repeat' split) <;> first | rfl | omega | (exfalso; omega))

/-- The loop of Expire, in the program: from the head on. -/
theorem expire_ok (d : Dur) (now : Int) (h1 : d.items.length ≤ 1000000) (h2 : d.inbox.length ≤ 1000000) : FnOK Try.prog 29 [.agg d.cells, .int .i64 now] (remA (expireM d now), none) := by
  refine fn_ok CN rfl (by kernel_rfl) Try.func29 rfl ?_
  refine Sat.go (Eq.refl _) (NS.call (checkItems_ok d h1 h2) rfl ?_)
  refine Sat.go (Eq.refl _) (NS.ite (fun a1 => ?_) (fun a1 => ?_))
  · refine Sat.go (Eq.refl _) (NS.ret rfl rfl (rem_le (l := []) ?_ (LeA.nil' rfl)))
    simp_all [expireM]
  refine Sat.go (Eq.refl _) (NS.call (isTime_ok now) rfl ?_)
  refine Sat.go (Eq.refl _) (NS.ite (fun a2 => ?_) (fun a2 => ?_))
  · refine Sat.go (Eq.refl _) (NS.ret rfl rfl (rem_le (l := []) ?_ (LeA.nil' rfl)))
    simp_all [expireM]
  have hres : expireM d now = (expRecs now d.items, 0) := by simp_all [expireM]
  refine Sat.go (Eq.refl _) ?_
  refine NS.loop (σ := { k : Nat // k ≤ d.items.length }) (fun k => [(1, .int .i64 now), (6, .own 6), (16, slI d.items), (17, .int .i64 d.items.length), (18, .int .i64 k.1)]) (fun k => [(6, .row 38 19 (expRecs now (d.items.take k.1)).length (rowL Jrec.cells (expRecs now (d.items.take k.1))))]) (fun k => d.items.length - k.1) ⟨0, Nat.zero_le _⟩ ?_ ?_
  · exact (weak_promote 6 6 38 19 (rowL Jrec.cells []) rfl rfl).trans (weak_hd [] rfl ⟨rfl, rfl, rfl, rfl, rfl, trivial⟩ ⟨ren_row rfl rfl fun _ _ _ _ => rfl, trivial⟩ trivial (by kernel_rfl))
  · rintro ⟨k, hk⟩
    refine Sat.go (Eq.refl _) (NS.ite (fun h => ?_) (fun h => ?_))
    · simp at h
      have hsn : expRecs now (d.items.take (k + 1)) = expRecs now (d.items.take k) ++ expRec now (d.items.getD k default) := by rw [take_snoc (by omega), expRecs_snoc]
      have hlen := expRecs_len now (d.items.take k)
      simp only [List.length_take] at hlen
      refine Sat.go (Eq.refl _) (NS.need (by simp; omega) ?_)
      refine Sat.go (Eq.refl _) (NS.ite (fun h3 => ?_) (fun h3 => ?_))
      · have hx : expRec now (d.items.getD k default) = [⟨2, .zero, (d.items.getD k default).id, 0, now⟩] := by
          unfold expRec; rw [if_pos (by simpa using h3)]
        rw [hx] at hsn
        refine Sat.go (Eq.refl _) (NS.need (decide_eq_true (by simp only [maxRow]; omega)) ?_)
        refine Sat.go (Eq.refl _) (NS.next ⟨k + 1, by omega⟩ (by simp; omega) ?_)
        refine weak_hd [(6, 32)] rfl ⟨rfl, rfl, rfl, rfl, ren_int rfl (i64_k (by omega) (by omega)), trivial⟩ ⟨?_, trivial⟩ trivial (by kernel_rfl)
        rw [hsn]
        exact ren_row rfl (by simp) (fun i hi j hj => row_snoc (cells := Jrec.cells) (x := ⟨2, .zero, (d.items.getD k default).id, 0, now⟩) rfl i (by simpa using hi) j hj)
      · have hx : expRec now (d.items.getD k default) = [] := by
          unfold expRec; rw [if_neg (by simpa using h3)]
        rw [hx, List.append_nil] at hsn
        refine Sat.go (Eq.refl _) (NS.next ⟨k + 1, by omega⟩ (by simp; omega) ?_)
        refine weak_hd [] rfl ⟨rfl, rfl, rfl, rfl, ren_int rfl (i64_k (by omega) (by omega)), trivial⟩ ⟨?_, trivial⟩ trivial (by kernel_rfl)
        rw [hsn]
        exact ren_row rfl rfl fun _ _ _ _ => rfl
    · simp at h
      refine Sat.go (Eq.refl _) (NS.leave rfl (Eq.refl _) ?_)
      refine Sat.go (Eq.refl _) (NS.ret rfl rfl (rem_le hres ?_))
      rw [take_all (by omega)]
      exact LeA.refl _
end Go.Proofs.Ytkgaaaidmaddnaa
