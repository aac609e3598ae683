/- SecurityOrder. -/
import Derived.Test.YtdhfgfkfejpfdaaKP
set_option linter.unusedSimpArgs false
set_option linter.unusedSectionVars false
set_option linter.unusedVariables false
namespace Go.Mb
open Go.Sy
set_option linter.unusedVariables false
theorem insS_comm {S : List Sg} {x y : Sg} (h : GoodS (insS x (insS y S))) (h' : GoodS (insS y (insS x S))) : insS x (insS y S) = insS y (insS x S) := by
  refine sorted_ext h.1 h'.1 fun z => ?_
  rw [insS_mem, insS_mem, insS_mem, insS_mem]
  constructor <;> (intro h; rcases h with h | h | h <;> simp [h])
theorem fnd_ins {S : List Sg} {x : Sg} {n : Int} (h : (x.1 : Int) ≠ n) : (fndS (insS x S) n).2 = false ↔ (fndS S n).2 = false := by
  rw [fndS_none, fndS_none]
  constructor
  · intro h2 p hp; exact h2 p (insS_mem.2 (.inr hp))
  · intro h2 p hp
    rcases insS_mem.1 hp with rfl | hp
    · exact h
    · exact h2 p hp
theorem toN {n : Int} (h : okN n) : ((n.toNat : Nat) : Int) = n := by unfold okN at h; omega
theorem prot_two {b x y : Bun} {i k : Int} {key other : ByteArray} (hik : i ≠ k) (h1 : protM b i key = (x, 0)) (h2 : protM x k other = (y, 0)) : ∃ x', protM b k other = (x', 0) ∧ protM x' i key = (y, 0) ∧ verM y i key = 0 ∧ verM y k other = 0 ∧ GoodL y.l := by
  obtain ⟨pa, fa, ra, ea⟩ := protM_ok.1 h1
  obtain ⟨pc, fc, rc, ec⟩ := protM_ok.1 h2
  have ti := toN pa.rng
  have tk := toN pc.rng
  have hS1 := fresh_ins pa fa
  obtain ⟨si, hsi⟩ : ∃ s, sgnM b i.toNat key = s := ⟨_, rfl⟩
  obtain ⟨sk, hsk⟩ : ∃ s, sgnM b k.toNat other = s := ⟨_, rfl⟩
  rw [hsi] at ea hS1
  have hx1 : sgB x = insS (i.toNat, si) (sgB b) := by rw [ea]; exact setS_sg pa.ok.chk hS1
  have hx2 : sgnM x k.toNat other = sk := by rw [ea, setS_sgn pa.ok.chk, hsk]
  have hS3 := fresh_ins pc fc
  rw [hx1, hx2] at hS3 ec
  rw [hx1] at fc
  have pb : PA b k other := ⟨pa.ok, pc.rng, pc.key⟩
  have fb : (fndS (sgB b) k).2 = false := (fnd_ins (x := (i.toNat, si)) (by show ((i.toNat : Nat) : Int) ≠ k; rw [ti]; exact hik)).1 fc
  have hS2 := fresh_ins pb fb
  rw [hsk] at hS2
  have ok' := setS_ok pa.ok.chk hS2 (insS_ne _ _) ra
  have hs' : sgB (setS b (insS (k.toNat, sk) (sgB b))) = insS (k.toNat, sk) (sgB b) := setS_sg pa.ok.chk hS2
  have hg' : sgnM (setS b (insS (k.toNat, sk) (sgB b))) i.toNat key = si := by rw [setS_sgn pa.ok.chk, hsi]
  have pd : PA (setS b (insS (k.toNat, sk) (sgB b))) i key := ⟨ok', pa.rng, pa.key⟩
  have fd : (fndS (sgB (setS b (insS (k.toNat, sk) (sgB b)))) i).2 = false := by
    rw [hs']
    exact (fnd_ins (x := (k.toNat, sk)) (by show ((k.toNat : Nat) : Int) ≠ i; rw [tk]; exact fun e => hik e.symm)).2 fa
  have hS4 := fresh_ins pd fd
  rw [hs', hg'] at hS4
  have hc := insS_comm hS3 hS4
  have ey : y = setS b (insS (k.toNat, sk) (insS (i.toNat, si) (sgB b))) := by rw [ec, ea, setS_setS pa.ok.chk]
  have oky := setS_ok pa.ok.chk hS3 (insS_ne _ _) ra
  have hsy : sgB y = insS (k.toNat, sk) (insS (i.toNat, si) (sgB b)) := by rw [ey]; exact setS_sg pa.ok.chk hS3
  refine ⟨setS b (insS (k.toNat, sk) (sgB b)), protM_ok.2 ⟨pb, fb, ra, by rw [hsk]⟩, protM_ok.2 ⟨pd, fd, (setS_room' pa.ok.chk _).2 ra, ?_⟩, verM_ok.2 ⟨⟨by rw [ey]; exact oky, pa.rng, pa.key⟩, ?_⟩, verM_ok.2 ⟨⟨by rw [ey]; exact oky, pc.rng, pc.key⟩, ?_⟩, ?_⟩
  · rw [hs', hg', setS_setS pa.ok.chk, ey, hc]
  · have e1 : sgnM y i.toNat key = si := by rw [ey, setS_sgn pa.ok.chk, hsi]
    have := fndS_mem hS3 (p := (i.toNat, si)) (insS_mem.2 (.inr (insS_mem.2 (.inl rfl))))
    rw [hsy, e1, ← this]
    show fndS _ i = fndS _ ((i.toNat : Nat) : Int)
    rw [ti]
  · have e1 : sgnM y k.toNat other = sk := by rw [ey, setS_sgn pa.ok.chk, hsk]
    have := fndS_mem hS3 (p := (k.toNat, sk)) (insS_mem.2 (.inl rfl))
    rw [hsy, e1, ← this]
    show fndS _ k = fndS _ ((k.toNat : Nat) : Int)
    rw [tk]
  · rw [ey]; exact goodL_of oky.chk
theorem prot_two' {b : Bun} {i k : Int} {key other : ByteArray} (hik : i ≠ k) (h1 : (protM b i key).2 = 0) (h2 : (protM (protM b i key).1 k other).2 = 0) : (protM b k other).2 = 0 ∧ (protM (protM b k other).1 i key).2 = 0 := by
  obtain ⟨x', h3, h4, _⟩ := prot_two hik (x := (protM b i key).1) (y := (protM (protM b i key).1 k other).1) (by rw [← h1]) (by rw [← h2])
  rw [h3]
  exact ⟨rfl, by rw [h4]⟩
end Go.Mb
namespace Go.Proofs.Ytdhfgfkfejpfdaa
open Go.Sy Go.Mb
set_option maxRecDepth 100000
set_option linter.unusedVariables false
set_option maxHeartbeats 4000000

theorem securityOrder_ok (b : Bun) (i k : Int) (key other : ByteArray) : FnOK Try.prog 3 [.agg b.cells, .int .i64 i, .int .i64 k, .str key, .str other] (.bool true, none) := by
  refine fn_ok CN rfl (by kernel_rfl) Try.func3 rfl ?_
  refine Sat.go (Eq.refl _) (NS.call (greatL_ok b key) rfl ?_)
  refine Sat.go (Eq.refl _) (NS.ite (fun g1 => ?_) (fun g1 => ?_))
  · refine Sat.go (Eq.refl _) (NS.call (awake_ok) rfl ?_)
    exact Sat.go (Eq.refl _) (NS.ret rfl rfl (LeA.refl _))
  refine Sat.go (Eq.refl _) (NS.ite (fun g2 => ?_) (fun g2 => ?_))
  · refine Sat.go (Eq.refl _) (NS.call (awake_ok) rfl ?_)
    exact Sat.go (Eq.refl _) (NS.ret rfl rfl (LeA.refl _))
  refine Sat.go (Eq.refl _) (NS.ite (fun g3 => ?_) (fun g3 => ?_))
  · refine Sat.go (Eq.refl _) (NS.call (awake_ok) rfl ?_)
    exact Sat.go (Eq.refl _) (NS.ret rfl rfl (LeA.refl _))
  have hik : i ≠ k := by have g3 : (i == k) = false := g3; simpa using g3
  by_cases H : (protM b i key).2 = 0 ∧ (protM (protM b i key).1 k other).2 = 0
  · obtain ⟨x', h3, h4, h5, h6, h7⟩ := prot_two hik (x := (protM b i key).1) (y := (protM (protM b i key).1 k other).1) (by rw [← H.1]) (by rw [← H.2])
    have c1 := protect_ok b i key
    have c2 := protect_ok (protM b i key).1 k other
    have c3 := protect_ok b k other
    have c4 := protect_ok x' i key
    rw [show protM b i key = ((protM b i key).1, 0) by rw [← H.1]] at c1
    rw [show protM (protM b i key).1 k other = ((protM (protM b i key).1 k other).1, 0) by rw [← H.2]] at c2
    rw [h3] at c3
    rw [h4] at c4
    obtain ⟨y, hy⟩ : ∃ y, (protM (protM b i key).1 k other).1 = y := ⟨_, rfl⟩
    rw [hy] at c2 c4 h5 h6 h7
    obtain ⟨x, hx⟩ : ∃ x, (protM b i key).1 = x := ⟨_, rfl⟩
    rw [hx] at c1 c2
    have c5 := verify_ok y i key
    rw [h5] at c5
    have c6 := verify_ok y k other
    rw [h6] at c6
    refine Sat.go (Eq.refl _) (NS.call (c1) rfl ?_)
    refine Sat.go (Eq.refl _) (NS.call (c2) rfl ?_)
    refine Sat.go (Eq.refl _) (NS.call (c3) rfl ?_)
    refine Sat.go (Eq.refl _) (NS.call (c4) rfl ?_)
    repeat' (refine Sat.go (Eq.refl _) ?_; first | (refine NS.no (rfl) ?_) | (refine NS.yes (rfl) ?_) | (refine NS.chk (by kernel_rfl) ?_))
    refine Sat.go (Eq.refl _) (NS.call (sameB_ok y (by have := h7.1; omega)) rfl ?_)
    refine Sat.go (Eq.refl _) (NS.yes (rfl) ?_)
    refine Sat.go (Eq.refl _) (NS.call (c5) rfl ?_)
    refine Sat.go (Eq.refl _) (NS.yes (rfl) ?_)
    refine Sat.go (Eq.refl _) (NS.call (c6) rfl ?_)
    refine Sat.go (Eq.refl _) (NS.yes (rfl) ?_)
    refine Sat.go (Eq.refl _) (NS.call (awake_ok) rfl ?_)
    exact Sat.go (Eq.refl _) (NS.ret rfl rfl (LeA.refl _))
  · refine Sat.go (Eq.refl _) (NS.call (protect_ok b i key) rfl ?_)
    refine Sat.go (Eq.refl _) (NS.call (protect_ok (protM b i key).1 k other) rfl ?_)
    refine Sat.go (Eq.refl _) (NS.call (protect_ok b k other) rfl ?_)
    refine Sat.go (Eq.refl _) (NS.call (protect_ok (protM b k other).1 i key) rfl ?_)
    have H2 : ¬ ((protM b k other).2 = 0 ∧ (protM (protM b k other).1 i key).2 = 0) := fun h => H (prot_two' (fun e => hik e.symm) h.1 h.2)
    by_cases e1 : (protM b i key).2 = 0
    · refine Sat.go (Eq.refl _) (NS.no (by show ((protM b i key).2 != 0) = false; rw [e1]; rfl) ?_)
      have e2 : (protM (protM b i key).1 k other).2 ≠ 0 := fun h => H ⟨e1, h⟩
      refine Sat.go (Eq.refl _) (NS.yes (by show ((protM (protM b i key).1 k other).2 != 0) = true; simpa using e2) ?_)
      by_cases e3 : (protM b k other).2 = 0
      · refine Sat.go (Eq.refl _) (NS.no (by show ((protM b k other).2 != 0) = false; rw [e3]; rfl) ?_)
        have e4 : (protM (protM b k other).1 i key).2 ≠ 0 := fun h => H2 ⟨e3, h⟩
        refine Sat.go (Eq.refl _) (NS.yes (by show ((protM (protM b k other).1 i key).2 != 0) = true; simpa using e4) ?_)
        refine Sat.go (Eq.refl _) (NS.call (awake_ok) rfl ?_)
        exact Sat.go (Eq.refl _) (NS.ret rfl rfl (LeA.refl _))
      · refine Sat.go (Eq.refl _) (NS.yes (by show ((protM b k other).2 != 0) = true; simpa using e3) ?_)
        refine Sat.go (Eq.refl _) (NS.call (awake_ok) rfl ?_)
        exact Sat.go (Eq.refl _) (NS.ret rfl rfl (LeA.refl _))
    · refine Sat.go (Eq.refl _) (NS.yes (by show ((protM b i key).2 != 0) = true; simpa using e1) ?_)
      by_cases e3 : (protM b k other).2 = 0
      · refine Sat.go (Eq.refl _) (NS.no (by show ((protM b k other).2 != 0) = false; rw [e3]; rfl) ?_)
        have e4 : (protM (protM b k other).1 i key).2 ≠ 0 := fun h => H2 ⟨e3, h⟩
        refine Sat.go (Eq.refl _) (NS.yes (by show ((protM (protM b k other).1 i key).2 != 0) = true; simpa using e4) ?_)
        refine Sat.go (Eq.refl _) (NS.call (awake_ok) rfl ?_)
        exact Sat.go (Eq.refl _) (NS.ret rfl rfl (LeA.refl _))
      · refine Sat.go (Eq.refl _) (NS.yes (by show ((protM b k other).2 != 0) = true; simpa using e3) ?_)
        refine Sat.go (Eq.refl _) (NS.call (awake_ok) rfl ?_)
        exact Sat.go (Eq.refl _) (NS.ret rfl rfl (LeA.refl _))
end Go.Proofs.Ytdhfgfkfejpfdaa
