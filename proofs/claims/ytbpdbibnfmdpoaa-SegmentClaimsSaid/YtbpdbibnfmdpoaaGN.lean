/- Equal segments; the example of the chapter. -/
import Derived.Test.YtbpdbibnfmdpoaaGK
set_option linter.unusedSimpArgs false
set_option linter.unusedSectionVars false
set_option linter.unusedVariables false
namespace Go.Proofs.Ytbpdbibnfmdpoaa
open Go.Sy Go.Mb
set_option maxRecDepth 100000
set_option linter.unusedVariables false
set_option maxHeartbeats 4000000

theorem spn_self (l : List Spn) : sameBy Spn.eqv l l = true := (sameBy_iff fun _ _ => Spn.eqv_iff).2 rfl
theorem segSame_self (s : Seg) (hl : s.claims.length ≤ 1000000) : FnOK Try.prog 20 [.agg s.cells, .agg s.cells] (.bool true, none) := by
  have c := same_ok s.claims s.claims hl
  rw [spn_self] at c
  refine fn_ok CN rfl (by kernel_rfl) Try.func20 rfl ?_
  refine Sat.go (Eq.refl _) (NS.yes (beq_self_eq_true _) ?_)
  refine Sat.go (Eq.refl _) (NS.yes (beq_self_eq_true _) ?_)
  refine Sat.go (Eq.refl _) (NS.yes (beq_self_eq_true _) ?_)
  refine Sat.go (Eq.refl _) (NS.yes (beq_self_eq_true _) ?_)
  refine Sat.go (Eq.refl _) (NS.yes (beq_self_eq_true _) ?_)
  refine Sat.go (Eq.refl _) (NS.yes (beq_self_eq_true _) ?_)
  refine Sat.go (Eq.refl _) (NS.yes (beq_self_eq_true _) ?_)
  refine Sat.go (Eq.refl _) (NS.call (c) rfl ?_)
  exact Sat.go (Eq.refl _) (NS.ret rfl rfl (LeA.refl _))
theorem cellsB_le {s : Seg} (h : s.claims = []) : LeA (.agg s.cellsB) (.agg s.cells) := by
  refine LeA.agg (.cons (.refl _) (.cons (.refl _) (.cons (.refl _) (.cons (.refl _) (.cons (.refl _) (.cons (.refl _) (.cons (.refl _) (.cons ?_ .nil))))))))
  unfold slS; rw [h]; exact LeA.nil' rfl
theorem segSameB_self (s : Seg) (h : s.claims = []) : FnOK Try.prog 20 [.agg s.cellsB, .agg s.cellsB] (.bool true, none) :=
  (segSame_self s (by rw [h]; simp)).le (LeL.cons (cellsB_le h) (LeL.cons (cellsB_le h) LeL.nil))
theorem sameAll_self (L : List Seg) (hl : L.length ≤ 1000000000) (hc : ∀ s ∈ L, s.claims = []) : FnOK Try.prog 25 [slB L, slB L] (.bool true, none) := by
  refine fn_ok CN rfl (by kernel_rfl) Try.func25 rfl ?_
  refine Sat.go (Eq.refl _) (NS.no (bne_self_eq_false _) ?_)
  refine Sat.go (Eq.refl _) ?_
  refine NS.loop (σ := { k : Nat // k ≤ L.length }) (fun k => [(0, slB L), (1, slB L), (5, .int .i64 k.1)]) (fun _ => []) (fun k => L.length - k.1) ⟨0, Nat.zero_le _⟩ ?_ ?_
  · exact weak_hd [] rfl ⟨rfl, rfl, rfl, trivial⟩ trivial trivial (by kernel_rfl)
  rintro ⟨k, hk⟩
  refine Sat.go (Eq.refl _) (NS.ite (fun h => ?_) (fun h => ?_))
  · have h : k < L.length := by simpa using h
    refine Sat.go (Eq.refl _) (NS.chk (by kernel_rfl) ?_)
    refine Sat.go (Eq.refl _) (NS.need (by simp; omega) ?_)
    refine Sat.go (Eq.refl _) (NS.need (by simp; omega) ?_)
    refine Sat.go (Eq.refl _) (NS.call (segSameB_self (L.getD k default) (memD (p := fun s => s.claims = []) hc h)) rfl ?_)
    refine Sat.go (Eq.refl _) (NS.no (rfl) ?_)
    refine Sat.go (Eq.refl _) (NS.next ⟨k + 1, by omega⟩ (by simp; omega) ?_)
    exact weak_hd [] rfl ⟨rfl, rfl, ren_int rfl (i64_k (k := k) (n := L.length) (by omega) (by omega)), trivial⟩ trivial trivial (by kernel_rfl)
  refine Sat.go (Eq.refl _) (NS.leave rfl (Eq.refl _) ?_)
  exact Sat.go (Eq.refl _) (NS.ret rfl rfl (LeA.refl _))
theorem batL_claims (a b : Int) (d : ByteArray) (m : List Spn) : ∀ s ∈ batL a b d m, s.claims = [] := by
  have hm : ∀ s ∈ mapP a d (pcsL m), s.claims = [] := by
    intro s hs
    simp only [mapP, List.mem_map] at hs
    obtain ⟨x, _, rfl⟩ := hs; rfl
  intro s hs
  unfold batL at hs
  rcases List.mem_or_eq_of_mem_set hs with hs | rfl
  · exact hm s hs
  · show ((mapP a d (pcsL m)).getD _ default).claims = []
    by_cases hn : (pcsL m).length - 1 < (mapP a d (pcsL m)).length
    · rw [getD_lt hn]; exact hm _ (List.getElem_mem _)
    · simp only [List.getD]; rw [List.getElem?_eq_none (by omega)]; rfl
theorem batM_claims (a b : Int) (d : ByteArray) (m : List Spn) : ∀ s ∈ (batM a b d m).1, s.claims = [] := by
  unfold batM
  split
  · exact batL_claims a b d m
  · intro s hs; cases hs
theorem batM_len (a b : Int) (d : ByteArray) (m : List Spn) : (batM a b d m).1.length ≤ 1000000000 := by
  unfold batM
  split
  · rename_i h
    have h : batE a b d m = 0 := by simpa using h
    rw [batL_len]
    unfold batE at h
    split at h
    · cases h
    split at h
    · cases h
    split at h
    · cases h
    rename_i h4
    split at h
    · cases h
    rename_i h5
    have h5 : insideM m d.size = true := by simpa using h5
    obtain ⟨hin, hml⟩ := inside_all h5
    have h1 := pcsL_len (t := 65536) m fun x hx => by have := (hin x hx).2.2; simp at h4; omega
    have h2 : m.length * 65536 ≤ 1000 * 65536 := Nat.mul_le_mul_right _ hml
    exact Nat.le_trans h1 (Nat.le_trans h2 (by decide))
  · simp
theorem claimM_len {a b c : Int} {l : List Spn} (h : l.length ≤ 40) : (claimM a b c l).1.claims.length ≤ 1000000 := by
  unfold claimM
  split
  · simp [zeroG]
  · simp only [claimS]; omega
/-- The example of the chapter. -/
def exD : ByteArray := ⟨#[97, 98, 99, 100, 101, 102, 103, 104, 105, 106, 107, 108, 109, 110, 111, 112, 113, 114, 115, 116]⟩
def exL : List Seg := [segP 7 exD ⟨0, 16⟩, lastP 1 (segP 7 exD ⟨16, 20⟩)]
def exM : List Seg := [segP 7 exD ⟨10, 16⟩, lastP 2 (segP 7 exD ⟨16, 18⟩)]
theorem ex_l : batM 7 1 exD [⟨0, 20⟩] = (exL, 0) := by
  have hp : pcsL [⟨0, 20⟩] = [⟨0, 16⟩, ⟨16, 20⟩] := by
    have : pcs 0 20 = [⟨0, 16⟩, ⟨16, 20⟩] := by rw [pcs_go (by decide), pcs_go (by decide), pcs_end (by decide)]; rfl
    simpa [pcsL, pcsS] using this
  have he : batE 7 1 exD [⟨0, 20⟩] = 0 := by kernel_rfl
  rw [bat_ok he]; unfold batL; rw [hp]; rfl
theorem ex_m : batM 7 2 exD [⟨10, 18⟩] = (exM, 0) := by
  have hp : pcsL [⟨10, 18⟩] = [⟨10, 16⟩, ⟨16, 18⟩] := by
    have : pcs 10 18 = [⟨10, 16⟩, ⟨16, 18⟩] := by rw [pcs_go (by decide), pcs_go (by decide), pcs_end (by decide)]; rfl
    simpa [pcsL, pcsS] using this
  have he : batE 7 2 exD [⟨10, 18⟩] = 0 := by kernel_rfl
  rw [bat_ok he]; unfold batL; rw [hp]; rfl
theorem ex_t0 : timeM 4 (segP 7 exD ⟨0, 16⟩) = (6, 0) := by kernel_rfl
theorem ex_t1 : timeM 4 (lastP 1 (segP 7 exD ⟨16, 20⟩)) = (3, 0) := by kernel_rfl
theorem ex_c : chkG (lastP 2 (segP 7 exD ⟨16, 18⟩)) = 0 := by kernel_rfl
theorem encGM_ok {s : Seg} (h : chkG s = 0) : encGM s = (bs (sealL (encG s)), 0) := by unfold encGM; rw [h]; rfl
theorem dec_of {s : Seg} (h : chkG s = 0) : FnOK Try.prog 16 [.str (bs (sealL (encG s)))] (.tup [.agg s.cells, .int .i64 0], none) := by
  have hg := goodG h
  have hsl := (sealL_len (encG_len hg)).1
  have hel := encG_len hg
  have c := decode_ok (bs (sealL (encG s))) (by rw [bs_len]; omega)
  rw [ls_bs (sealL_lt (encG_lt s)), decG_enc h] at c
  exact c
noncomputable def CF (z : List Nat) : Cx := { E := { P := Try.prog, eqT := EN.eqT, frz := z }, inl := [], ok := EN_ok }
theorem one_row {x : Spn} {cs : List A} (h : cs = x.cells) : ∀ i, i < 1 → ∀ j, j < 2 → getA cs (i * 2 + j) = rowL Spn.cells [x] i j := row_one h
theorem awake_ok : FnOK Try.prog 11 [] (.bool true, none) := by
  have c1 := batch_ok 7 1 exD [⟨0, 20⟩]
  rw [ex_l] at c1
  have c2 := batch_ok 7 2 exD [⟨10, 18⟩]
  rw [ex_m] at c2
  have t0 := time_ok 4 (segP 7 exD ⟨0, 16⟩)
  rw [ex_t0] at t0
  have t1 := time_ok 4 (lastP 1 (segP 7 exD ⟨16, 20⟩))
  rw [ex_t1] at t1
  have c3 := encode_ok (lastP 2 (segP 7 exD ⟨16, 18⟩))
  rw [encGM_ok ex_c] at c3
  have c4 := dec_of ex_c
  have c5 := segSame_self (lastP 2 (segP 7 exD ⟨16, 18⟩)) (by simp [lastP, segP])
  have l0 : LeA (.agg (segP 7 exD ⟨0, 16⟩).cellsB) (.agg (segP 7 exD ⟨0, 16⟩).cells) := cellsB_le rfl
  have l1 : LeA (.agg (lastP 1 (segP 7 exD ⟨16, 20⟩)).cellsB) (.agg (lastP 1 (segP 7 exD ⟨16, 20⟩)).cells) := cellsB_le rfl
  have l2 : LeA (.agg (lastP 2 (segP 7 exD ⟨16, 18⟩)).cellsB) (.agg (lastP 2 (segP 7 exD ⟨16, 18⟩)).cells) := cellsB_le rfl
  refine fn_ok (CF [18, 25]) rfl (by kernel_rfl) Try.func11 rfl ?_
  refine Sat.go (Eq.refl _) (NS.call (c1.le (LeL.cons (LeA.refl _) (LeL.cons (LeA.refl _) (LeL.cons (LeA.refl _) (LeL.cons (LeA.sl rfl (one_row rfl)) LeL.nil))))) rfl ?_)
  refine Sat.go (Eq.refl _) (NS.call (c2.le (LeL.cons (LeA.refl _) (LeL.cons (LeA.refl _) (LeL.cons (LeA.refl _) (LeL.cons (LeA.sl rfl (one_row rfl)) LeL.nil))))) rfl ?_)
  refine Sat.go (Eq.refl _) (NS.no (rfl) ?_)
  refine Sat.go (Eq.refl _) (NS.no (rfl) ?_)
  refine Sat.go (Eq.refl _) (NS.no (rfl) ?_)
  refine Sat.go (Eq.refl _) (NS.no (rfl) ?_)
  refine Sat.go (Eq.refl _) (NS.need (rfl) ?_)
  refine Sat.go (Eq.refl _) (NS.call (t0.le (LeL.cons (LeA.refl _) (LeL.cons l0 LeL.nil))) rfl ?_)
  refine Sat.go (Eq.refl _) (NS.need (rfl) ?_)
  refine Sat.go (Eq.refl _) (NS.call (t1.le (LeL.cons (LeA.refl _) (LeL.cons l1 LeL.nil))) rfl ?_)
  refine Sat.go (Eq.refl _) (NS.need (rfl) ?_)
  refine Sat.go (Eq.refl _) (NS.call (c3.le (LeL.cons l2 LeL.nil)) rfl ?_)
  refine Sat.go (Eq.refl _) (NS.call (c4) rfl ?_)
  refine Sat.go (Eq.refl _) (NS.chk (by kernel_rfl) ?_)
  refine Sat.go (Eq.refl _) (NS.yes (rfl) ?_)
  refine Sat.go (Eq.refl _) (NS.yes (rfl) ?_)
  refine Sat.go (Eq.refl _) (NS.yes (rfl) ?_)
  refine Sat.go (Eq.refl _) (NS.yes (rfl) ?_)
  refine Sat.go (Eq.refl _) (NS.yes (rfl) ?_)
  refine Sat.go (Eq.refl _) (NS.yes (rfl) ?_)
  refine Sat.go (Eq.refl _) (NS.need (rfl) ?_)
  refine Sat.go (Eq.refl _) (NS.call (c5.le (LeL.cons (LeA.refl _) (LeL.cons l2 LeL.nil))) rfl ?_)
  refine Sat.go (Eq.refl _) (NS.yes (rfl) ?_)
  refine Sat.go (Eq.refl _) (NS.need (rfl) ?_)
  refine Sat.go (Eq.refl _) (NS.yes (by kernel_rfl) ?_)
  refine Sat.go (Eq.refl _) (NS.need (rfl) ?_)
  refine Sat.go (Eq.refl _) (NS.yes (by kernel_rfl) ?_)
  refine Sat.go (Eq.refl _) (NS.need (rfl) ?_)
  refine Sat.go (Eq.refl _) (NS.yes (by kernel_rfl) ?_)
  refine Sat.go (Eq.refl _) (NS.need (rfl) ?_)
  refine Sat.go (Eq.refl _) (NS.yes (by kernel_rfl) ?_)
  refine Sat.go (Eq.refl _) (NS.need (rfl) ?_)
  refine Sat.go (Eq.refl _) (NS.yes (by kernel_rfl) ?_)
  refine Sat.go (Eq.refl _) (NS.need (rfl) ?_)
  refine Sat.go (Eq.refl _) (NS.yes (by kernel_rfl) ?_)
  refine Sat.go (Eq.refl _) (NS.need (rfl) ?_)
  exact Sat.go (Eq.refl _) (NS.ret rfl rfl (LeA.of (congrArg A.bool (by kernel_rfl))))
end Go.Proofs.Ytbpdbibnfmdpoaa
