
/- Equality and sizes of bundles; the example. -/
import Derived.Test.YtdhfgfkfejpfdaaGreatKN
set_option linter.unusedSimpArgs false
set_option linter.unusedSectionVars false
set_option linter.unusedVariables false
namespace Go.Mb
open Go.Sy
def bigK (x : Blk) : Bool := (decide ((x.data.size : Int) > 200) && decide ((x.data.size : Int) ≤ 1024)) || decide ((x.data.size : Int) > 1034)
def gr13 (b : Bun) : Bool := ((decide ((b.l.length : Int) > 12) || (decide ((b.pay.size : Int) > 200) && decide ((b.pay.size : Int) ≤ 4096))) || decide ((b.pay.size : Int) > 4106)) || b.l.any bigK
theorem gr13_len {b : Bun} (h : gr13 b = false) : b.l.length ≤ 12 := by
  unfold gr13 at h
  simp only [Bool.or_eq_false_iff, decide_eq_false_iff_not] at h
  have := h.1.1.1; omega
theorem any_cut {α : Type} [Inhabited α] {p : α → Bool} {l : List α} (h : ∀ i, i < l.length → p (l.getD i default) = false) : l.any p = false := by
  rw [List.any_eq_false]
  intro x hx
  obtain ⟨i, hi, rfl⟩ := List.getElem_of_mem hx
  have := h i hi
  rw [getD_lt hi] at this
  rw [this]; simp
theorem any_hit {α : Type} [Inhabited α] {p : α → Bool} {l : List α} {k : Nat} (h : k < l.length) (hp : p (l.getD k default) = true) : l.any p = true := by
  rw [List.any_eq_true]
  exact ⟨_, List.getElem_mem h, by rw [← getD_lt h]; exact hp⟩
end Go.Mb
namespace Go.Proofs.YtdhfgfkfejpfdaaGreat
open Go.Sy Go.Mb
set_option maxRecDepth 100000
set_option linter.unusedVariables false
set_option maxHeartbeats 4000000

theorem great13_ok (b : Bun) : FnOK Tryz.prog 11 [.agg b.cells] (.bool (gr13 b), none) := by
  unfold gr13
  refine fn_ok CN rfl (by kernel_rfl) Tryz.func11 rfl ?_
  by_cases h : ((decide ((b.l.length : Int) > 12) || (decide ((b.pay.size : Int) > 200) && decide ((b.pay.size : Int) ≤ 4096))) || decide ((b.pay.size : Int) > 4106)) = true
  · rw [h, Bool.true_or]
    repeat' (first | (refine Sat.go (Eq.refl _) (NS.ite (fun h => ?_) (fun h => ?_))) | (exact Sat.go (Eq.refl _) (NS.ret rfl rfl (LeA.of (congrArg A.bool (rfl))))) | (simp_all))
  have h : ((decide ((b.l.length : Int) > 12) || (decide ((b.pay.size : Int) > 200) && decide ((b.pay.size : Int) ≤ 4096))) || decide ((b.pay.size : Int) > 4106)) = false := by simpa using h
  rw [h, Bool.false_or]
  simp only [Bool.or_eq_false_iff] at h
  have hl : b.l.length ≤ 12 := by have := of_decide_eq_false h.1.1; omega
  refine Sat.go (Eq.refl _) (NS.no (h.1.1) ?_)
  have e1 := h.1.2
  have e2 := h.2
  cases e3 : decide ((b.pay.size : Int) > 200) with
  | true =>
    rw [e3, Bool.true_and] at e1
    refine Sat.go (Eq.refl _) (NS.yes (e3) ?_)
    refine Sat.go (Eq.refl _) (NS.no (e1) ?_)
    refine Sat.go (Eq.refl _) (NS.no (e2) ?_)
    refine Sat.go (Eq.refl _) ?_
    refine NS.loop (σ := { k : Nat // k ≤ b.l.length ∧ ∀ i, i < k → bigK (b.l.getD i default) = false }) (fun k => [(1, .ptr 1 0), (3, .int .i64 k.1)]) (fun _ => [(1, .box b.cells)]) (fun k => b.l.length - k.1) ⟨0, Nat.zero_le _, fun i hi => by omega⟩ ?_ ?_
    · exact weak_hd [] rfl ⟨rfl, rfl, trivial⟩ ⟨⟨_, rfl, renBun _ b⟩, trivial⟩ trivial (by kernel_rfl)
    rintro ⟨k, hk, hn⟩
    refine Sat.go (Eq.refl _) (NS.ite (fun a => ?_) (fun a => ?_))
    · have a : k < b.l.length := by simpa using a
      refine Sat.go (Eq.refl _) (NS.need (by simp; omega) ?_)
      cases hq : bigK (b.l.getD k default) with
      | true =>
        have hany := any_hit (p := bigK) a hq
        unfold bigK at hq
        cases q1 : decide (((b.l.getD k default).data.size : Int) > 200) with
        | true =>
          refine Sat.go (Eq.refl _) (NS.yes (q1) ?_)
          rw [q1, Bool.true_and] at hq
          refine Sat.go (Eq.refl _) (NS.need (by simp; omega) ?_)
          cases q2 : decide (((b.l.getD k default).data.size : Int) ≤ 1024) with
          | true =>
            refine Sat.go (Eq.refl _) (NS.yes (q2) ?_)
            exact Sat.go (Eq.refl _) (NS.leaveOut rfl (Eq.refl _) (NS.ret rfl rfl (LeA.of (congrArg A.bool (hany.symm)))))
          | false =>
            refine Sat.go (Eq.refl _) (NS.no (q2) ?_)
            rw [q2, Bool.false_or] at hq
            refine Sat.go (Eq.refl _) (NS.need (by simp; omega) ?_)
            refine Sat.go (Eq.refl _) (NS.yes (hq) ?_)
            exact Sat.go (Eq.refl _) (NS.leaveOut rfl (Eq.refl _) (NS.ret rfl rfl (LeA.of (congrArg A.bool (hany.symm)))))
        | false =>
          refine Sat.go (Eq.refl _) (NS.no (q1) ?_)
          rw [q1, Bool.false_and, Bool.false_or] at hq
          refine Sat.go (Eq.refl _) (NS.need (by simp; omega) ?_)
          refine Sat.go (Eq.refl _) (NS.yes (hq) ?_)
          exact Sat.go (Eq.refl _) (NS.leaveOut rfl (Eq.refl _) (NS.ret rfl rfl (LeA.of (congrArg A.bool (hany.symm)))))
      | false =>
        have hn2 : ∀ i, i < k + 1 → bigK (b.l.getD i default) = false := fun i hi => by
          by_cases e : i = k
          · rw [e]; exact hq
          · exact hn i (by omega)
        unfold bigK at hq
        simp only [Bool.or_eq_false_iff] at hq
        obtain ⟨hq, q3⟩ := hq
        cases q1 : decide (((b.l.getD k default).data.size : Int) > 200) with
        | true =>
          refine Sat.go (Eq.refl _) (NS.yes (q1) ?_)
          rw [q1, Bool.true_and] at hq
          refine Sat.go (Eq.refl _) (NS.need (by simp; omega) ?_)
          refine Sat.go (Eq.refl _) (NS.no (hq) ?_)
          refine Sat.go (Eq.refl _) (NS.need (by simp; omega) ?_)
          refine Sat.go (Eq.refl _) (NS.no (q3) ?_)
          refine Sat.go (Eq.refl _) (NS.next ⟨k + 1, by omega, hn2⟩ (by show b.l.length - (k + 1) < b.l.length - k; omega) ?_)
          exact weak_hd [] rfl ⟨rfl, ren_int rfl (i64_k (k := k) (n := b.l.length) a (by omega)), trivial⟩ ⟨⟨_, rfl, renBun _ b⟩, trivial⟩ trivial (by kernel_rfl)
        | false =>
          refine Sat.go (Eq.refl _) (NS.no (q1) ?_)
          refine Sat.go (Eq.refl _) (NS.need (by simp; omega) ?_)
          refine Sat.go (Eq.refl _) (NS.no (q3) ?_)
          refine Sat.go (Eq.refl _) (NS.next ⟨k + 1, by omega, hn2⟩ (by show b.l.length - (k + 1) < b.l.length - k; omega) ?_)
          exact weak_hd [] rfl ⟨rfl, ren_int rfl (i64_k (k := k) (n := b.l.length) a (by omega)), trivial⟩ ⟨⟨_, rfl, renBun _ b⟩, trivial⟩ trivial (by kernel_rfl)
    have a : ¬ k < b.l.length := by simpa using a
    refine Sat.go (Eq.refl _) (NS.leave rfl (Eq.refl _) ?_)
    exact Sat.go (Eq.refl _) (NS.ret rfl rfl (LeA.of (congrArg A.bool ((any_cut fun i hi => hn i (by omega)).symm))))
  | false =>
    refine Sat.go (Eq.refl _) (NS.no (e3) ?_)
    refine Sat.go (Eq.refl _) (NS.no (e2) ?_)
    refine Sat.go (Eq.refl _) ?_
    refine NS.loop (σ := { k : Nat // k ≤ b.l.length ∧ ∀ i, i < k → bigK (b.l.getD i default) = false }) (fun k => [(1, .ptr 1 0), (3, .int .i64 k.1)]) (fun _ => [(1, .box b.cells)]) (fun k => b.l.length - k.1) ⟨0, Nat.zero_le _, fun i hi => by omega⟩ ?_ ?_
    · exact weak_hd [] rfl ⟨rfl, rfl, trivial⟩ ⟨⟨_, rfl, renBun _ b⟩, trivial⟩ trivial (by kernel_rfl)
    rintro ⟨k, hk, hn⟩
    refine Sat.go (Eq.refl _) (NS.ite (fun a => ?_) (fun a => ?_))
    · have a : k < b.l.length := by simpa using a
      refine Sat.go (Eq.refl _) (NS.need (by simp; omega) ?_)
      cases hq : bigK (b.l.getD k default) with
      | true =>
        have hany := any_hit (p := bigK) a hq
        unfold bigK at hq
        cases q1 : decide (((b.l.getD k default).data.size : Int) > 200) with
        | true =>
          refine Sat.go (Eq.refl _) (NS.yes (q1) ?_)
          rw [q1, Bool.true_and] at hq
          refine Sat.go (Eq.refl _) (NS.need (by simp; omega) ?_)
          cases q2 : decide (((b.l.getD k default).data.size : Int) ≤ 1024) with
          | true =>
            refine Sat.go (Eq.refl _) (NS.yes (q2) ?_)
            exact Sat.go (Eq.refl _) (NS.leaveOut rfl (Eq.refl _) (NS.ret rfl rfl (LeA.of (congrArg A.bool (hany.symm)))))
          | false =>
            refine Sat.go (Eq.refl _) (NS.no (q2) ?_)
            rw [q2, Bool.false_or] at hq
            refine Sat.go (Eq.refl _) (NS.need (by simp; omega) ?_)
            refine Sat.go (Eq.refl _) (NS.yes (hq) ?_)
            exact Sat.go (Eq.refl _) (NS.leaveOut rfl (Eq.refl _) (NS.ret rfl rfl (LeA.of (congrArg A.bool (hany.symm)))))
        | false =>
          refine Sat.go (Eq.refl _) (NS.no (q1) ?_)
          rw [q1, Bool.false_and, Bool.false_or] at hq
          refine Sat.go (Eq.refl _) (NS.need (by simp; omega) ?_)
          refine Sat.go (Eq.refl _) (NS.yes (hq) ?_)
          exact Sat.go (Eq.refl _) (NS.leaveOut rfl (Eq.refl _) (NS.ret rfl rfl (LeA.of (congrArg A.bool (hany.symm)))))
      | false =>
        have hn2 : ∀ i, i < k + 1 → bigK (b.l.getD i default) = false := fun i hi => by
          by_cases e : i = k
          · rw [e]; exact hq
          · exact hn i (by omega)
        unfold bigK at hq
        simp only [Bool.or_eq_false_iff] at hq
        obtain ⟨hq, q3⟩ := hq
        cases q1 : decide (((b.l.getD k default).data.size : Int) > 200) with
        | true =>
          refine Sat.go (Eq.refl _) (NS.yes (q1) ?_)
          rw [q1, Bool.true_and] at hq
          refine Sat.go (Eq.refl _) (NS.need (by simp; omega) ?_)
          refine Sat.go (Eq.refl _) (NS.no (hq) ?_)
          refine Sat.go (Eq.refl _) (NS.need (by simp; omega) ?_)
          refine Sat.go (Eq.refl _) (NS.no (q3) ?_)
          refine Sat.go (Eq.refl _) (NS.next ⟨k + 1, by omega, hn2⟩ (by show b.l.length - (k + 1) < b.l.length - k; omega) ?_)
          exact weak_hd [] rfl ⟨rfl, ren_int rfl (i64_k (k := k) (n := b.l.length) a (by omega)), trivial⟩ ⟨⟨_, rfl, renBun _ b⟩, trivial⟩ trivial (by kernel_rfl)
        | false =>
          refine Sat.go (Eq.refl _) (NS.no (q1) ?_)
          refine Sat.go (Eq.refl _) (NS.need (by simp; omega) ?_)
          refine Sat.go (Eq.refl _) (NS.no (q3) ?_)
          refine Sat.go (Eq.refl _) (NS.next ⟨k + 1, by omega, hn2⟩ (by show b.l.length - (k + 1) < b.l.length - k; omega) ?_)
          exact weak_hd [] rfl ⟨rfl, ren_int rfl (i64_k (k := k) (n := b.l.length) a (by omega)), trivial⟩ ⟨⟨_, rfl, renBun _ b⟩, trivial⟩ trivial (by kernel_rfl)
    have a : ¬ k < b.l.length := by simpa using a
    refine Sat.go (Eq.refl _) (NS.leave rfl (Eq.refl _) ?_)
    exact Sat.go (Eq.refl _) (NS.ret rfl rfl (LeA.of (congrArg A.bool ((any_cut fun i hi => hn i (by omega)).symm))))
theorem sameBlocks_ok (l : List Blk) (hl : l.length ≤ 1000000) : FnOK Tryz.prog 26 [slBlk l, slBlk l] (.bool true, none) := by
  refine fn_ok CN rfl (by kernel_rfl) Tryz.func26 rfl ?_
  refine Sat.go (Eq.refl _) (NS.no (by simp) ?_)
  refine Sat.go (Eq.refl _) ?_
  refine NS.loop (σ := { k : Nat // k ≤ l.length }) (fun k => [(0, slBlk l), (1, slBlk l), (5, .int .i64 k.1)]) (fun _ => []) (fun k => l.length - k.1) ⟨0, Nat.zero_le _⟩ ?_ ?_
  · exact weak_hd [] rfl ⟨rfl, rfl, rfl, trivial⟩ trivial trivial (by kernel_rfl)
  rintro ⟨k, hk⟩
  refine Sat.go (Eq.refl _) (NS.ite (fun a => ?_) (fun a => ?_))
  · have a : k < l.length := by simpa using a
    refine Sat.go (Eq.refl _) (NS.chk (by kernel_rfl) ?_)
    refine Sat.go (Eq.refl _) (NS.need (by simp; omega) ?_)
    refine Sat.go (Eq.refl _) (NS.need (by simp; omega) ?_)
    refine Sat.go (Eq.refl _) (NS.no (by simp) ?_)
    refine Sat.go (Eq.refl _) (NS.next ⟨k + 1, by omega⟩ (by simp; omega) ?_)
    exact weak_hd [] rfl ⟨rfl, rfl, ren_int rfl (i64_k (by omega) (by omega)), trivial⟩ trivial trivial (by kernel_rfl)
  refine Sat.go (Eq.refl _) (NS.leave rfl (Eq.refl _) ?_)
  exact Sat.go (Eq.refl _) (NS.ret rfl rfl (LeA.refl _))
theorem sameB_ok (b : Bun) (hl : b.l.length ≤ 1000000) : FnOK Tryz.prog 8 [.agg b.cells, .agg b.cells] (.bool true, none) := by
  refine fn_ok CN rfl (by kernel_rfl) Tryz.func8 rfl ?_
  repeat' (first | (refine Sat.go (Eq.refl _) (NS.chk (by kernel_rfl) ?_)) | (refine Sat.go (Eq.refl _) (NS.yes (by simp) ?_)) | (refine Sat.go (Eq.refl _) (NS.call (sameBlocks_ok b.l hl) rfl ?_)))
  exact Sat.go (Eq.refl _) (NS.ret rfl rfl (LeA.of (congrArg A.bool (by simp))))
theorem greatL_ok (b : Bun) (key : ByteArray) : FnOK Tryz.prog 4 [.agg b.cells, .str key] (.bool (gr13 b || decide ((key.size : Int) > 24)), none) := by
  refine fn_ok CN rfl (by kernel_rfl) Tryz.func4 rfl ?_
  refine Sat.go (Eq.refl _) (NS.call (great13_ok b) rfl ?_)
  refine Sat.go (Eq.refl _) (NS.ite (fun h => ?_) (fun h => ?_))
  · exact Sat.go (Eq.refl _) (NS.ret rfl rfl (LeA.of (congrArg A.bool (by rw [h]; rfl))))
  exact Sat.go (Eq.refl _) (NS.ret rfl rfl (LeA.of (congrArg A.bool (by rw [h]; rfl))))
def exB : Bun := ⟨⟨1, 5, 0, 0, 0⟩, ⟨1, 2⟩, 9, 0, 0, [], ⟨#[109, 97, 105, 108]⟩⟩
def exK : ByteArray := ⟨#[48, 49, 50, 51, 52, 53, 54, 55, 56, 57, 97, 98, 99, 100, 101, 102]⟩
theorem example_ok : FnOK Tryz.prog 12 [] (.tup [.agg exB.cells, .str exK], none) := by
  refine fn_ok CN rfl (by kernel_rfl) Tryz.func12 rfl ?_
  exact Sat.go (Eq.refl _) (NS.ret rfl rfl (LeA.tup2 (LeA.agg (.cons (.refl _) (.cons (.refl _) (.cons (.refl _) (.cons (.refl _) (.cons (.refl _) (.cons (.refl _) (.cons (.refl _) (.cons (.refl _) (.cons (.refl _) (.cons (.refl _) (.cons (LeA.nil' rfl) (.cons (.refl _) .nil))))))))))))) (.refl _)))
end Go.Proofs.YtdhfgfkfejpfdaaGreat
