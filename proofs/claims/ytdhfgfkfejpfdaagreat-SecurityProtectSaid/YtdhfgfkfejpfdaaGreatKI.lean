/- What is signed; the tag of a bundle. -/
import Derived.Test.YtdhfgfkfejpfdaaGreatKH
import Derived.Test.YtdhfgfkfejpfdaaGreatKCH
set_option linter.unusedSimpArgs false
set_option linter.unusedSectionVars false
set_option linter.unusedVariables false
namespace Go.Mb
open Go.Sy
def remK (l : List Blk) (ks : List Int) : List Blk := ks.foldl remB l
theorem remK_len (l : List Blk) : ∀ ks, (remK l ks).length ≤ l.length := by
  intro ks
  induction ks generalizing l with
  | nil => exact Nat.le_refl _
  | cons k ks ih => exact Nat.le_trans (ih (remB l k)) (List.length_filter_le _ _)
theorem remK_snoc (l : List Blk) (ks : List Int) (k : Nat) (h : k < ks.length) : remK l (ks.take (k + 1)) = remB (remK l (ks.take k)) (ks.getD k default) := by
  unfold remK; rw [take_snoc h, List.foldl_append]; rfl
end Go.Mb
namespace Go.Proofs.YtdhfgfkfejpfdaaGreat
open Go.Sy Go.Mb
set_option maxRecDepth 100000
set_option linter.unusedVariables false
set_option maxHeartbeats 4000000

theorem without_ok (l : List Blk) (hl : l.length ≤ 1000) (ks : List Int) (hk : ks.length ≤ 1000) : FnOK Tryz.prog 56 [slBlk l, slN ks] (slBlk (remK l ks), none) := by
  refine fn_ok CN rfl (by kernel_rfl) Tryz.func56 rfl ?_
  refine Sat.go (Eq.refl _) ?_
  refine NS.loop (σ := { k : Nat // k ≤ ks.length }) (fun k => [(0, slBlk (remK l (ks.take k.1))), (7, slN ks), (8, .int .i64 ks.length), (9, .int .i64 k.1)]) (fun k => []) (fun k => ks.length - k.1) ⟨0, Nat.zero_le _⟩ ?_ ?_
  · exact weak_hd [] rfl ⟨rfl, rfl, rfl, rfl, trivial⟩ trivial trivial (by kernel_rfl)
  rintro ⟨k, hk⟩
  have hk : k ≤ ks.length := hk
  refine Sat.go (Eq.refl _) (NS.ite (fun a => ?_) (fun a => ?_))
  · have a : k < ks.length := by simpa using a
    refine Sat.go (Eq.refl _) (NS.need (by simp; omega) ?_)
    have hle := remK_len l (ks.take k)
    refine Sat.go (Eq.refl _) (NS.call (remove_ok (remK l (ks.take k)) (by omega) (ks.getD k default)) rfl ?_)
    refine Sat.go (Eq.refl _) (NS.next ⟨k + 1, by omega⟩ (by show ks.length - (k + 1) < ks.length - k; omega) ?_)
    have e := remK_snoc l ks k a
    exact weak_hd [] rfl ⟨(by show RenA _ (slBlk (remK l (ks.take (k + 1)))) _; rw [e]; rfl), rfl, rfl, ren_int rfl (i64_k (k := k) (n := ks.length) a (by omega)), trivial⟩ trivial trivial (by kernel_rfl)
  have a : k = ks.length := by have a : ¬ k < ks.length := by simpa using a
                               omega
  subst a
  refine Sat.go (Eq.refl _) (NS.leave rfl (Eq.refl _) ?_)
  exact Sat.go (Eq.refl _) (NS.ret rfl rfl (LeA.of (by show slBlk (remK l (ks.take ks.length)) = _; rw [List.take_length])))
noncomputable def ESg : Env := { P := Tryz.prog, eqT := lookE eqTab, frz := [9] }
theorem ESg_ok : EqOK ESg := eqOK_of eqTab_ok
noncomputable def CSg : Cx := { E := ESg, inl := [], ok := ESg_ok }
theorem signed_ok (b : Bun) (h : chkB b = 0) : FnOK Tryz.prog 31 [.agg b.cells] (.str (bs (sdt b)), none) := by
  have hg := goodL_of h
  refine fn_ok CSg rfl (by kernel_rfl) Tryz.func31 rfl ?_
  refine Sat.go (Eq.refl _) (NS.call ((without_ok b.l (by have := hg.1; omega) [1, 2, 3, 4] (by decide)).le (LeL.cons (LeA.refl _) (LeL.cons (LeA.sl rfl (fun i hi j hj => ?_)) LeL.nil))) rfl ?_)
  · have hi : i < 4 := hi
    have hj : j < 1 := hj
    obtain rfl : j = 0 := by omega
    rcases (by omega : i = 0 ∨ i = 1 ∨ i = 2 ∨ i = 3) with rfl | rfl | rfl | rfl <;> rfl
  refine Sat.go (Eq.refl _) (NS.call (bEnc_ok { b with l := rem4 b.l } (chkB_with h (rem4_good hg))) rfl ?_)
  exact Sat.go (Eq.refl _) (NS.ret rfl rfl (LeA.refl _))
theorem sign_ok (b : Bun) (h : chkB b = 0) (n : Int) (hn : okN n) (key : ByteArray) (hk : key.size = 16) : FnOK Tryz.prog 15 [.agg b.cells, .int .i64 n, .str key] (.tup [.str (bs (sgnM b n.toNat key)), .int .i64 0], none) := by
  refine fn_ok CN rfl (by kernel_rfl) Tryz.func15 rfl ?_
  have hn2 := hn
  unfold okN at hn2
  obtain ⟨m, rfl⟩ : ∃ m : Nat, n = m := ⟨n.toNat, by omega⟩
  have hw : IntKind.u8.wrap ((m : Nat) : Int) = ((m : Nat) : Int) := by rw [wrap_u8m]; omega
  have hb : bytesOf (fun i j => getA [A.int .u8 (IntKind.u8.wrap (m : Int))] (i * 1 + j)) 1 = bs [m] := by rw [hw]; exact bytes1 m
  have hlen := encBun_len (b := { b with l := rem4 b.l }) (chkB_zero.1 h).1 (rem4_good (goodL_of h))
  have hsd : (sdt b).length ≤ 15000 := hlen
  have hc := chnL_msg m (sdt b) (by omega) (encBun_lt _)
  have hml : (msgL m (sdt b)).length = 17 + (sdt b).length := by
    unfold msgL
    simp only [List.length_append, List.length_singleton, bytesN_len]
  have c := chain_ok key [bs [m], bs (sdt b)] hk (by rw [hc, hml]; omega) (by show 2 ≤ 1000; decide)
  rw [hc] at c
  refine Sat.go (Eq.refl _) (NS.chk (by kernel_rfl) ?_)
  refine Sat.go (Eq.refl _) (NS.need (allN_row fun i hi => by rw [Nat.lt_one_iff.1 hi]; rfl) ?_)
  refine Sat.go (Eq.refl _) (NS.call (signed_ok b h) rfl ?_)
  refine Sat.go (Eq.refl _) (NS.call (c.le (LeL.cons (LeA.refl _) (LeL.cons (LeA.sl rfl (fun i hi j hj => ?_)) LeL.nil))) rfl ?_)
  · have hi : i < 2 := hi
    have hj : j < 1 := hj
    obtain rfl : j = 0 := by omega
    rcases (by omega : i = 0 ∨ i = 1) with rfl | rfl
    · exact congrArg A.str hb
    · rfl
  exact Sat.go (Eq.refl _) (NS.ret rfl rfl (LeA.refl _))
end Go.Proofs.YtdhfgfkfejpfdaaGreat
