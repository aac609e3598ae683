/- The contract of applying records one after the other; what Put answers, case by case. -/
import Derived.Test.YtkgaaaidmaddnaaL
set_option linter.unusedSimpArgs false
set_option linter.unusedSectionVars false
set_option linter.unusedVariables false
namespace Go.Proofs.Ytkgaaaidmaddnaa
open Go.Sy Go.Mb
set_option maxRecDepth 100000
set_option linter.unusedVariables false
set_option maxHeartbeats 1000000

def appsM : Dur → List Jrec → Dur × Bool
  | d, [] => (d, true)
  | d, r :: l => if (applyM d r).2 != 0 then (d, false) else appsM (applyM d r).1 l
theorem applyM_len (d : Dur) (r : Jrec) : (applyM d r).1.items.length ≤ d.items.length + 1 ∧ (applyM d r).1.inbox.length ≤ d.inbox.length + 1 := by
  unfold applyM
  split
  · simp
  · exact effM_len d r
def appA (r : Dur × Bool) : A := .tup [.agg r.1.cells, .bool r.2]
theorem app_le {r : Dur × Bool} {d : Dur} {b : Bool} {x y : A} (h : r = (d, b)) (hx : LeA x (.agg d.cells)) (hy : LeA y (.bool b)) : LeA (.tup [x, y]) (appA r) := by
  subst h; exact LeA.tup2 hx hy
theorem drop_cons {α : Type} [Inhabited α] {l : List α} {k : Nat} (h : k < l.length) : l.drop k = l.getD k default :: l.drop (k + 1) := by
  rw [List.drop_eq_getElem_cons h, getD_lt h]
theorem apps_ok (d : Dur) (l : List Jrec) (h1 : d.items.length + l.length ≤ 999990) (h2 : d.inbox.length + l.length ≤ 999990) : FnOK Try.prog 22 [.agg d.cells, slR l] (appA (appsM d l), none) := by
  refine fn_ok CN rfl (by kernel_rfl) Try.func22 rfl ?_
  refine Sat.go (Eq.refl _) ?_
  refine NS.loop (σ := { p : Nat × Dur // p.1 ≤ l.length ∧ appsM d l = appsM p.2 (l.drop p.1) ∧ p.2.items.length ≤ d.items.length + p.1 ∧ p.2.inbox.length ≤ d.inbox.length + p.1 }) (fun p => [(2, .ptr 2 0), (4, .ptr 4 0), (10, slR l), (11, .int .i64 l.length), (12, .int .i64 p.1.1)]) (fun p => [(2, .box p.1.2.cells), (4, .box [.junk, .junk])]) (fun p => l.length - p.1.1) ⟨(0, d), Nat.zero_le _, rfl, by simp, by simp⟩ ?_ ?_
  · exact weak_hd [] rfl ⟨rfl, rfl, rfl, rfl, rfl, trivial⟩ ⟨⟨_, rfl, _, _, rfl, rfl, _, _, rfl, rfl, rfl⟩, ⟨_, rfl, _, _, rfl, trivial, _, _, rfl, trivial, rfl⟩, trivial⟩ trivial (by kernel_rfl)
  · rintro ⟨⟨k, e⟩, hk, hs, hi, hb⟩
    simp only at hk hs hi hb
    refine Sat.go (Eq.refl _) (NS.ite (fun h => ?_) (fun h => ?_))
    · simp at h
      have hlen := applyM_len e (l.getD k default)
      rw [drop_cons (by omega)] at hs
      refine Sat.go (Eq.refl _) (NS.need (by simp; omega) ?_)
      refine Sat.go (Eq.refl _) (NS.call (apply_ok e (l.getD k default) (by omega) (by omega)) rfl ?_)
      refine Sat.go (Eq.refl _) (NS.ite (fun h3 => ?_) (fun h3 => ?_))
      · refine Sat.go (Eq.refl _) (NS.leaveOut rfl (Eq.refl _) (NS.ret rfl rfl (app_le (d := e) (b := false) ?_ (LeA.refl _) (LeA.of rfl))))
        rw [hs, appsM, if_pos h3]
      · refine Sat.go (Eq.refl _) (NS.next ⟨(k + 1, (applyM e (l.getD k default)).1), by simp only; omega, ?_, by simp only; omega, by simp only; omega⟩ (by simp; omega) ?_)
        · rw [hs, appsM, if_neg (by rw [Bool.not_eq_true]; exact h3)]
        · exact weak_hd [] rfl ⟨rfl, rfl, rfl, rfl, ren_int rfl (i64_k (by omega) (by omega)), trivial⟩ ⟨⟨_, rfl, _, _, rfl, rfl, _, _, rfl, rfl, rfl⟩, ⟨_, rfl, _, _, rfl, trivial, _, _, rfl, trivial, rfl⟩, trivial⟩ trivial (by kernel_rfl)
    · simp at h
      refine Sat.go (Eq.refl _) (NS.leave rfl (Eq.refl _) ?_)
      refine Sat.go (Eq.refl _) (NS.ret rfl rfl (app_le (d := e) (b := true) ?_ (LeA.refl _) (LeA.of rfl)))
      rw [hs, List.drop_eq_nil_of_le (by omega)]; rfl
end Go.Proofs.Ytkgaaaidmaddnaa
