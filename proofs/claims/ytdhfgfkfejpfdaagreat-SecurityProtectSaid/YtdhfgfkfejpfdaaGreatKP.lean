/- The example of the chapter. -/
import Derived.Test.YtdhfgfkfejpfdaaGreatKO
set_option linter.unusedSimpArgs false
set_option linter.unusedSectionVars false
set_option linter.unusedVariables false
namespace Go.Mb
open Go.Sy
set_option maxRecDepth 100000
theorem encI_small {n : Int} (h : 0 ≤ n) (h' : n < 64) : encI n = [(2 * n).toNat] := by
  unfold encI encZ zig
  rw [if_neg (by omega), show (2 * n).toNat / 128 = 0 by omega, pre_zero, show (2 * n).toNat % 128 = (2 * n).toNat by omega]; rfl
def exE0 : List Nat := [40, 6, 77, 66, 49, 2, 10, 0, 0, 0, 2, 4, 18, 0, 0, 0, 8, 109, 97, 105, 108]
def exE1 : List Nat := [40, 6, 77, 66, 49, 2, 10, 0, 0, 0, 2, 4, 18, 4, 0, 0, 8, 109, 97, 105, 108]
end Go.Mb
namespace Go.Proofs.YtdhfgfkfejpfdaaGreat
open Go.Sy Go.Mb
set_option maxRecDepth 100000
set_option linter.unusedVariables false
set_option maxHeartbeats 4000000
def exC : Bun := ⟨⟨1, 5, 0, 0, 0⟩, ⟨1, 2⟩, 9, 2, 0, [], ⟨#[109, 97, 105, 108]⟩⟩
theorem exBodyB : bodyB exB = [6, 77, 66, 49, 2, 10, 0, 0, 0, 2, 4, 18, 0, 0, 0, 8, 109, 97, 105, 108] := by
  have h4 : payL ⟨#[109, 97, 105, 108]⟩ = [8, 109, 97, 105, 108] := by
    unfold payL
    rw [show (((⟨#[109, 97, 105, 108]⟩ : ByteArray).size : Nat) : Int) = 4 from rfl, encI_small (by decide) (by decide)]; rfl
  have h0 : encBs [] = [0] := by
    unfold encBs
    rw [show ((([] : List Blk).length : Nat) : Int) = 0 from rfl, encI_small (by decide) (by decide)]; rfl
  show (((encI 3 ++ [77, 66, 49]) ++ (encI 1 ++ (encI 5 ++ (encI 0 ++ (encI 0 ++ (encI 0 ++ (encI 1 ++ (encI 2 ++ (encI 9 ++ (encI 0 ++ (encI 0 ++ []))))))))))) ++ encBs []) ++ payL ⟨#[109, 97, 105, 108]⟩ = _
  rw [h4, h0, encI_small (n := 3) (by decide) (by decide), encI_small (n := 1) (by decide) (by decide), encI_small (n := 5) (by decide) (by decide), encI_small (n := 0) (by decide) (by decide), encI_small (n := 2) (by decide) (by decide), encI_small (n := 9) (by decide) (by decide)]; rfl
theorem exSdtB : sdt exB = exE0 ++ tailL exE0 := by
  have e : frameL (bodyB exB) = exE0 := by
    unfold frameL
    rw [exBodyB, show ((([6, 77, 66, 49, 2, 10, 0, 0, 0, 2, 4, 18, 0, 0, 0, 8, 109, 97, 105, 108] : List Nat).length : Nat) : Int) = 20 from rfl, encI_small (by decide) (by decide)]; rfl
  show frameL (bodyB exB) ++ tailL (frameL (bodyB exB)) = _
  rw [e]
theorem exBodyC : bodyB exC = [6, 77, 66, 49, 2, 10, 0, 0, 0, 2, 4, 18, 4, 0, 0, 8, 109, 97, 105, 108] := by
  have h4 : payL ⟨#[109, 97, 105, 108]⟩ = [8, 109, 97, 105, 108] := by
    unfold payL
    rw [show (((⟨#[109, 97, 105, 108]⟩ : ByteArray).size : Nat) : Int) = 4 from rfl, encI_small (by decide) (by decide)]; rfl
  have h0 : encBs [] = [0] := by
    unfold encBs
    rw [show ((([] : List Blk).length : Nat) : Int) = 0 from rfl, encI_small (by decide) (by decide)]; rfl
  show (((encI 3 ++ [77, 66, 49]) ++ (encI 1 ++ (encI 5 ++ (encI 0 ++ (encI 0 ++ (encI 0 ++ (encI 1 ++ (encI 2 ++ (encI 9 ++ (encI 2 ++ (encI 0 ++ []))))))))))) ++ encBs []) ++ payL ⟨#[109, 97, 105, 108]⟩ = _
  rw [h4, h0, encI_small (n := 3) (by decide) (by decide), encI_small (n := 1) (by decide) (by decide), encI_small (n := 5) (by decide) (by decide), encI_small (n := 0) (by decide) (by decide), encI_small (n := 2) (by decide) (by decide), encI_small (n := 9) (by decide) (by decide)]; rfl
theorem exSdtC : sdt exC = exE1 ++ tailL exE1 := by
  have e : frameL (bodyB exC) = exE1 := by
    unfold frameL
    rw [exBodyC, show ((([6, 77, 66, 49, 2, 10, 0, 0, 0, 2, 4, 18, 4, 0, 0, 8, 109, 97, 105, 108] : List Nat).length : Nat) : Int) = 20 from rfl, encI_small (by decide) (by decide)]; rfl
  show frameL (bodyB exC) ++ tailL (frameL (bodyB exC)) = _
  rw [e]
theorem tag_ne (n : Nat) (h : n = 0 ∨ n = 2) : sgnM exB n exK ≠ sgnM exC n exK := by
  unfold sgnM
  rw [exSdtB, exSdtC]
  rcases h with rfl | rfl <;> decide +kernel
theorem verM_bad {b : Bun} {n : Int} {key : ByteArray} {t : List Nat} (h : PA b n key) (hf : fndS (sgB b) n = (t, true)) (hl : ∀ x ∈ t, x < 256) (hne : t ≠ sgnM b n.toNat key) : verM b n key = 22 := by
  unfold verM
  rw [if_neg (by rw [chkAll_iff.2 h]; simp), hf, if_neg (by simp), if_pos]
  simp only [bne_iff_ne, ne_eq]
  intro e
  have := congrArg ls (ba_inj.1 e)
  rw [ls_bs hl, ls_bs (sgnM_lt _ _ _)] at this
  exact hne this
theorem exOk (b : Bun) (h : b = exB ∨ b = exC) : Okb b ∧ sgB b = [] ∧ room b := by
  rcases h with rfl | rfl
  · exact ⟨⟨by decide +kernel, rfl⟩, rfl, by show (0 : Nat) ≤ 7; decide⟩
  · exact ⟨⟨by decide +kernel, rfl⟩, rfl, by show (0 : Nat) ≤ 7; decide⟩
def ext0 : List Nat := sgnM exB 0 exK
def ext2 : List Nat := sgnM exB 2 exK
def exX : Bun := setS exB [(2, ext2)]
def exY : Bun := setS exB [(0, ext0), (2, ext2)]
def exZ : Bun := setS exC [(0, ext0), (2, ext2)]
theorem exS1 : GoodS [(2, ext2)] := ⟨by simp, fun p hp => by simp only [List.mem_singleton] at hp; subst hp; exact ⟨by decide, rfl, sgnM_lt _ _ _⟩⟩
theorem exS2 : GoodS [(0, ext0), (2, ext2)] := ⟨by simp, fun p hp => by
  simp only [List.mem_cons, List.not_mem_nil, or_false] at hp
  rcases hp with rfl | rfl
  · exact ⟨by decide, rfl, sgnM_lt _ _ _⟩
  · exact ⟨by decide, rfl, sgnM_lt _ _ _⟩⟩
theorem exP1 : protM exB 2 exK = (exX, 0) := by
  obtain ⟨h1, h2, h3⟩ := exOk exB (.inl rfl)
  rw [protM_ok]
  refine ⟨⟨h1, ⟨by decide, by decide⟩, rfl⟩, by rw [h2]; rfl, h3, by rw [h2]; rfl⟩
theorem exP2 : protM exX 0 exK = (exY, 0) := by
  obtain ⟨h1, h2, h3⟩ := exOk exB (.inl rfl)
  have hs : sgB exX = [(2, ext2)] := setS_sg h1.chk exS1
  rw [protM_ok]
  refine ⟨⟨setS_ok h1.chk exS1 (by simp) h3, ⟨by decide, by decide⟩, rfl⟩, by rw [hs]; rfl, (setS_room' h1.chk _).2 h3, ?_⟩
  rw [hs, show sgnM exX (0 : Int).toNat exK = ext0 from setS_sgn h1.chk _ _ _]
  exact (setS_setS h1.chk [(2, ext2)] [(0, ext0), (2, ext2)]).symm
theorem exV (n : Int) (hn : n = 0 ∨ n = 2) : verM exY n exK = 0 ∧ verM exZ n exK = 22 := by
  obtain ⟨h1, h2, h3⟩ := exOk exB (.inl rfl)
  obtain ⟨g1, g2, g3⟩ := exOk exC (.inr rfl)
  have hsY : sgB exY = [(0, ext0), (2, ext2)] := setS_sg h1.chk exS2
  have hsZ : sgB exZ = [(0, ext0), (2, ext2)] := setS_sg g1.chk exS2
  have hpY : Okb exY := setS_ok h1.chk exS2 (by simp) h3
  have hpZ : Okb exZ := setS_ok g1.chk exS2 (by simp) g3
  have e1 : ∀ k, sgnM exY k exK = sgnM exB k exK := fun k => setS_sgn h1.chk _ _ _
  have e2 : ∀ k, sgnM exZ k exK = sgnM exC k exK := fun k => setS_sgn g1.chk _ _ _
  have f0 : fndS [(0, ext0), (2, ext2)] 0 = (ext0, true) := by rw [fndS_cons, if_pos (by decide)]
  have f2 : fndS [(0, ext0), (2, ext2)] 2 = (ext2, true) := by rw [fndS_cons, if_neg (by decide), fndS_cons, if_pos (by decide)]
  rcases hn with rfl | rfl
  · refine ⟨verM_ok.2 ⟨⟨hpY, ⟨by decide, by decide⟩, rfl⟩, by rw [hsY, e1]; exact f0⟩, verM_bad (t := ext0) ⟨hpZ, ⟨by decide, by decide⟩, rfl⟩ (by rw [hsZ]; exact f0) (sgnM_lt _ _ _) ?_⟩
    rw [e2]; exact tag_ne 0 (.inl rfl)
  · refine ⟨verM_ok.2 ⟨⟨hpY, ⟨by decide, by decide⟩, rfl⟩, by rw [hsY, e1]; exact f2⟩, verM_bad (t := ext2) ⟨hpZ, ⟨by decide, by decide⟩, rfl⟩ (by rw [hsZ]; exact f2) (sgnM_lt _ _ _) ?_⟩
    rw [e2]; exact tag_ne 2 (.inr rfl)
theorem awake_ok : FnOK Tryz.prog 5 [] (.bool true, none) := by
  have c1 := protect_ok exB 2 exK
  rw [exP1] at c1
  have c2 := protect_ok exX 0 exK
  rw [exP2] at c2
  have c3 := verify_ok exY 0 exK
  rw [(exV 0 (.inl rfl)).1] at c3
  have c4 := verify_ok exY 2 exK
  rw [(exV 2 (.inr rfl)).1] at c4
  have c5 := verify_ok exZ 0 exK
  rw [(exV 0 (.inl rfl)).2] at c5
  have c6 := verify_ok exZ 2 exK
  rw [(exV 2 (.inr rfl)).2] at c6
  refine fn_ok CN rfl (by kernel_rfl) Tryz.func5 rfl ?_
  refine Sat.go (Eq.refl _) (NS.call (example_ok) rfl ?_)
  refine Sat.go (Eq.refl _) (NS.call (c1) rfl ?_)
  refine Sat.go (Eq.refl _) (NS.call (c2) rfl ?_)
  repeat' (refine Sat.go (Eq.refl _) ?_; first | (refine NS.no (rfl) ?_) | (refine NS.yes (rfl) ?_) | (refine NS.chk (by kernel_rfl) ?_))
  refine Sat.go (Eq.refl _) (NS.call (c3) rfl ?_)
  refine Sat.go (Eq.refl _) (NS.yes (rfl) ?_)
  refine Sat.go (Eq.refl _) (NS.call (c4) rfl ?_)
  refine Sat.go (Eq.refl _) (NS.yes (rfl) ?_)
  refine Sat.go (Eq.refl _) (NS.call (c5) rfl ?_)
  refine Sat.go (Eq.refl _) (NS.yes (rfl) ?_)
  refine Sat.go (Eq.refl _) (NS.call (c6) rfl ?_)
  exact Sat.go (Eq.refl _) (NS.ret rfl rfl (LeA.refl _))
end Go.Proofs.YtdhfgfkfejpfdaaGreat
