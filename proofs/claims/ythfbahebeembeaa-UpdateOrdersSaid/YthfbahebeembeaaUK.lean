/- With one change more: the walk. -/
import Derived.Test.YthfbahebeembeaaUJ
set_option linter.unusedSimpArgs false
set_option linter.unusedSectionVars false
set_option linter.unusedVariables false
namespace Go.Proofs.Ythfbahebeembeaa
open Go.Sy Go.Mb
set_option maxRecDepth 100000
set_option linter.unusedVariables false
set_option maxHeartbeats 4000000
noncomputable def EM : Env := { P := Try.prog, eqT := EN.eqT, mu := [71, 61] }
theorem EM_ok : EqOK EM := EN_ok
noncomputable def CM : Cx := { E := EM, inl := [], ok := EM_ok }
theorem FnMu.row' {P : Program} {f : FuncId} {args : List A} {e : TypeId} {c n : Nat} {el el' : Nat → Nat → A} {post : Ob → A → Prop} (h : FnMu P f args (.row e c n el') post) (he : ∀ i, i < n → ∀ j, j < c → el i j = el' i j) : FnMu P f args (.row e c n el) post :=
  ⟨h.ent, fun w l vs hb hob hr => h.run w l vs hb (by
    obtain ⟨v, xs, h1, h2, h3, h4⟩ := hob
    exact ⟨v, xs, h1, h2, h3, fun i hi j hj => by
      obtain ⟨u, h5, h6⟩ := h4 i hi j hj
      exact ⟨u, h5, by rw [← he i hi j hj]; exact h6⟩⟩) hr⟩
theorem sortI_mu (l : List Chg) (x : Chg) (hl : l.length ≤ 1000000) (hs : l.Pairwise ltX) (hx : ∀ y ∈ l, ltX y x ∨ ltX x y) : FnMu Try.prog 71 [.own 0, .fn 72 []] (.row 52 11 (l.length + 1) (rowL Chg.cells (l ++ [x]))) (fun ob r => ob = .row 52 11 (l.length + 1) (rowL Chg.cells (insM l x)) ∧ r = .tup []) := by
  have h := sortO_mu (l ++ [x]) (by simp; omega)
  have e : (l ++ [x]).length = l.length + 1 := by simp
  rw [e] at h
  refine ⟨h.ent, fun w lo vs hb hob hr => (h.run w lo vs hb hob hr).mono ?_⟩
  rintro e' w' ⟨v, ob', r, h1, ⟨⟨zs, hp, hz, rfl⟩, rfl⟩, h3⟩
  have hq : zs = insM l x := sort_eq (hp.trans ((List.perm_append_singleton x l).trans (insM_perm l x).symm)) (hz.imp fun {a b} h2 h4 => by rw [lt_byO.2 h4] at h2; cases h2) (insM_sorted hs hx)
  subst hq
  exact ⟨v, _, _, h1, ⟨rfl, rfl⟩, h3⟩
theorem with_ok (h : His) (x : Chg) (hs : h.l.Pairwise ltX) (hx : ∀ y ∈ h.l, ltX y x ∨ ltX x y) (hl : h.l.length ≤ 999) : FnOK Try.prog 51 [.agg h.cells, .agg x.cells] (hisR (⟨h.nodes, insM h.l x⟩, 0), none) := by
  refine fn_ok CM rfl (by kernel_rfl) Try.func51 rfl ?_
  refine Sat.go (Eq.refl _) (NS.no (by simp; omega) ?_)
  refine Sat.go (Eq.refl _) (NS.chk (by kernel_rfl) ?_)
  refine Sat.go (Eq.refl _) (NS.call (clone_ok h.l (by omega)) rfl ?_)
  refine Sat.go (Eq.refl _) (NS.need (decide_eq_true (by simp only [maxRow]; omega)) ?_)
  refine Sat.go (Eq.refl _) (NS.mut 17 (Eq.refl _) rfl (FnMu.row' (sortI_mu h.l x (by omega) hs hx) fun i hi j hj => row_snoc (cells := Chg.cells) (l := h.l) (x := x) (c := 11) rfl i hi j hj) rfl ?_)
  rintro ob r ⟨rfl, rfl⟩
  exact Sat.go (Eq.refl _) (NS.ret rfl rfl (hisR_le (LeA.sl (insM_len _ _).symm fun _ _ _ _ => rfl)))
end Go.Proofs.Ythfbahebeembeaa
