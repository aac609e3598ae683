import Derived.Test.YthfbahebeembeaaSySortF
import Derived.Shelf.SlicesQ.Reverse
set_option linter.unusedSimpArgs false
set_option linter.unusedSectionVars false
set_option linter.unusedVariables false
/- Turning a row of structs round, by the library's contract. -/
namespace Go.Sy
open Go.RowKit Go.Sort Go.Shelf Go.Proofs Go.Mb Go.Lib
set_option linter.unusedVariables false
section
variable {α : Type} [Inhabited α] {enc : α → List Value} {k : Nat} {cells : α → List A}
theorem reverseF_mu {P : Program} {ρ : Ren} (L : SlLaysE0.n35 P ρ) (hent : entB P (ρ.f 35) = true) (H : Lies enc k cells) (aE : ∀ w, (isAgg (ρ.t 23)).run P w = .ok true w) (zE : ∀ w, (Go.sizeOf (ρ.t 23)).run P w = .ok k w) (zs : List α) (e : TypeId) (hsz : zs.length < 4611686018427387904) :
    FnMu P (ρ.f 35) [.own 0] (.row e k zs.length (rowL cells zs)) (fun ob r => ob = .row e k zs.length (rowL cells zs.reverse) ∧ r = .tup []) := by
  refine ⟨hent, fun w l vs hb hob hr => ?_⟩
  obtain ⟨v, rfl, hx, hh⟩ := ObR_K H hob
  simp only [RL, R, upd_same] at hr
  obtain ⟨v', _, rfl, ⟨rfl, _⟩, rfl⟩ := hr
  rcases hh with ⟨hn, a, rfl⟩ | ⟨b, cap, cur, rfl, ⟨fz, hg, hfz⟩, h1, h2, h3, h4⟩
  · have hz : zs = [] := List.eq_nil_of_length_eq_zero hn
    subst hz
    refine (AnyQ.slices_Reverse_empty L a 0 w).mono ?_
    rintro e' w' ⟨rfl, rfl⟩
    refine ⟨_, _, _, rfl, ⟨rfl, rfl⟩, Bel.refl _ _, fun _ _ _ => rfl, ?_, rfl, ?_⟩
    · exact K_ObR (zs := []) H ⟨by simp, .inl ⟨rfl, a, rfl⟩⟩
    · simp [R, RL]
  · have hg0 : b < w.heap.size := hb b rfl
    have hfs : (flatK enc k zs.toArray).size = zs.length * k := by simp
    have hH : HoldsK enc k w b 0 zs.toArray := by
      intro j hj
      rw [hfs] at hj
      have h6 : zs.length * k ≤ cur.size := by rw [h3]; exact Nat.mul_le_mul_right k h1
      refine ⟨?_, frozen_no hg hfz _ (by omega)⟩
      have hcur : w.heap[b]? = some (.cells (List.toArray cur.toList) e fz) := by simpa using hg
      rw [Nat.zero_add, cell_of_block hcur]
      have h5 : cur.toList[j]? = (cur.toList.take (zs.length * k))[j]? := by rw [List.getElem?_take_of_lt hj]
      rw [h5, h4, Array.getElem?_toList]
      rw [Array.getElem?_eq_getElem (by rw [hfs]; exact hj)]
      simp only [id, getElem!_pos (flatK enc k zs.toArray) j (show j < (flatK enc k zs.toArray).size by rw [hfs]; exact hj)]
    have hcon := AnyQ.slices_Reverse L k aE zE enc H.len H.one b 0 (cap + 1) zs.toArray w hH (by simp; omega)
    refine hcon.mono ?_
    rintro e' w' ⟨rfl, m, hw'⟩
    have hd' : zs.toArray.reverse = zs.reverse.toArray := by simp
    have hw : w' = sortWorldK enc k w b 0 m zs.reverse.toArray #[] := by
      rw [hw', hd', sortWorldK, grow_empty]
    subst hw
    refine ⟨_, _, _, rfl, ⟨rfl, rfl⟩, heap_below, fun c hb' hne => heap_same hb' (fun e => hne (by rw [e]; rfl)), ?_, rfl, ?_⟩
    · have hl : zs.reverse.length = zs.length := by simp
      have hfd : (flatK enc k zs.reverse.toArray).size = zs.length * k := by simp
      have := K_ObR (w := sortWorldK enc k w b 0 m zs.reverse.toArray #[]) (O := fun _ => True) (e := e) (zs := zs.reverse) (v := .slice (some ⟨b, 0, none⟩) zs.length (cap + 1)) H ⟨by simp, .inr ⟨b, cap, putCells id 0 (flatK enc k zs.reverse.toArray) cur, by rw [hl], ⟨fz, heap_here hg, by simpa [putCells] using hfz⟩, by omega, h2, by simp [putCells]; omega, ?_⟩⟩
      · rw [hl] at this
        exact this
      · have h6 := take_put (enc := (id : Value → Value)) (d := flatK enc k zs.reverse.toArray) (c := cur) (n := zs.length * k) hfd (by rw [h3]; exact Nat.mul_le_mul_right k h1)
        rw [hl, h6]
        simp
    · simp [R, RL]
end
end Go.Sy
namespace Go.Sy
open Go.RowKit
/-- A weaker state, at the end of a region. -/
theorem Sat.wkO {C : Cx} {Q : Ex → St → Prop} {t : OT} {s s0 : List It} {fr : Fr} {kn : List (Nat × Bool)} {st st' : St} {c : Code} {F : List Nat} {all : Array Oper} {i : Nat} (ht : t = .more kn st) (hs : s0 = .ops false F all i [] :: .code c :: s) (hw : Weak fr.base st st') (h : Sat C Q (forceSt st' fun st => .more [] st) (.code c :: s) fr) : Sat C Q t s0 fr := by
  subst ht hs
  have h1 : Sat C Q (.more [] st) (.code c :: s) fr := Sat.wk hw h
  unfold Sat at h1 ⊢
  rw [SatM.more_iff] at h1 ⊢
  intro _ _
  exact WO.nil h1
end Go.Sy
