/- The statements' own example. -/
import Derived.Test.YtkgaaaidmaddnaaI
set_option linter.unusedSimpArgs false
set_option linter.unusedSectionVars false
set_option linter.unusedVariables false
namespace Go.Proofs.Ytkgaaaidmaddnaa
open Go.Sy Go.Mb
set_option maxRecDepth 100000
set_option linter.unusedVariables false
set_option maxHeartbeats 1000000

theorem allN_all {f : Nat → Bool} (h : ∀ i, f i = true) : ∀ n, allN f n = true
  | 0 => rfl
  | n + 1 => by simp [allN, allN_all h n, h n]
def zeros (n : Nat) : ByteArray := bytesOf (fun _ j => getA [.int .u8 0] j) n
def mkItem (seq dest size : Int) : Itm := ⟨1, ⟨1, 0, seq, 0, 0⟩, dest, 100, 0, false, zeros size.toNat⟩
theorem item_ok (seq dest size : Int) (h0 : 0 ≤ size) (h1 : size ≤ 1000) : FnOK Try.prog 48 [.int .i64 seq, .int .i64 dest, .int .i64 size] (.agg (mkItem seq dest size).cells, none) := by
  refine fn_ok CN rfl (by kernel_rfl) Try.func48 rfl ?_
  refine Sat.go (Eq.refl _) (NS.need (decide_eq_true (by simp only [maxRow]; omega)) ?_)
  refine Sat.go (Eq.refl _) (NS.need (allN_all (fun _ => rfl) _) ?_)
  exact Sat.go (Eq.refl _) (NS.ret rfl rfl (LeA.refl _))
def d1 : Dur := ⟨[mkItem 1 3 6], []⟩
theorem put1 : putM ⟨[], []⟩ 2 10 (mkItem 1 3 6) 5 = ([⟨1, mkItem 1 3 6, .zero, 0, 5⟩], 1, 0) := by kernel_rfl
theorem fold1 : foldM [⟨1, mkItem 1 3 6, .zero, 0, 5⟩] = (d1, 0) := by kernel_rfl
theorem put2 : putM d1 2 10 (mkItem 2 3 5) 5 = ([], 4, 0) := by kernel_rfl
theorem put3 : putM d1 2 10 (mkItem 3 3 4) 5 = ([⟨1, mkItem 3 3 4, .zero, 0, 5⟩], 1, 0) := by kernel_rfl
theorem put4 : putM d1 2 10 (mkItem 4 2 100) 5 = ([⟨3, mkItem 4 2 100, .zero, 0, 5⟩], 2, 0) := by kernel_rfl
theorem used1 : usedM d1.items = 6 := by kernel_rfl
theorem awake_ok : FnOK Try.prog 14 [] (.bool true, none) := by
  have c1 := (put_ok ⟨[], []⟩ 2 10 (mkItem 1 3 6) 5 (by decide) (by decide)).le (LeL.cons nilD (LeL.refl _))
  rw [put1] at c1
  have c2 := fold_ok [⟨1, mkItem 1 3 6, .zero, 0, 5⟩] (by decide)
  rw [fold1] at c2
  have c3 := put_ok d1 2 10 (mkItem 2 3 5) 5 (by decide) (by decide)
  rw [put2] at c3
  have c4 := put_ok d1 2 10 (mkItem 3 3 4) 5 (by decide) (by decide)
  rw [put3] at c4
  have c5 := put_ok d1 2 10 (mkItem 4 2 100) 5 (by decide) (by decide)
  rw [put4] at c5
  have c6 := used_ok d1 (by decide)
  rw [used1] at c6
  refine fn_ok CN rfl (by kernel_rfl) Try.func14 rfl ?_
  refine Sat.go (Eq.refl _) (NS.call (item_ok 1 3 6 (by decide) (by decide)) rfl ?_)
  refine Sat.go (Eq.refl _) (NS.call c1 rfl ?_)
  refine Sat.go (Eq.refl _) (NS.call c2 rfl ?_)
  refine Sat.go (Eq.refl _) (NS.chk (by kernel_rfl) ?_)
  refine Sat.go (Eq.refl _) (NS.call (item_ok 2 3 5 (by decide) (by decide)) rfl ?_)
  refine Sat.go (Eq.refl _) (NS.call c3 rfl ?_)
  refine Sat.go (Eq.refl _) (NS.chk (by kernel_rfl) ?_)
  refine Sat.go (Eq.refl _) (NS.call (item_ok 3 3 4 (by decide) (by decide)) rfl ?_)
  refine Sat.go (Eq.refl _) (NS.call c4 rfl ?_)
  refine Sat.go (Eq.refl _) (NS.chk (by kernel_rfl) ?_)
  refine Sat.go (Eq.refl _) (NS.call (item_ok 4 2 100 (by decide) (by decide)) rfl ?_)
  refine Sat.go (Eq.refl _) (NS.call c5 rfl ?_)
  repeat' (first
    | refine Sat.go (Eq.refl _) ?_
    | refine NS.call c6 rfl ?_
    | refine NS.yes rfl ?_
    | refine NS.ret rfl rfl (LeA.of rfl))
end Go.Proofs.Ytkgaaaidmaddnaa
