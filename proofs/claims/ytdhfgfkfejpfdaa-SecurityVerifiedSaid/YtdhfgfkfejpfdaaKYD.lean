/- SecurityVerified. -/
import Derived.Test.YtdhfgfkfejpfdaaKYC
import Derived.Test.YtdhfgfkfejpfdaaLP
import Derived.Test.YtdhfgfkfejpfdaaSySort
set_option linter.unusedSimpArgs false
set_option linter.unusedSectionVars false
set_option linter.unusedVariables false
namespace Go.Mb
open Go.Sy
set_option linter.unusedVariables false
theorem insS_perm (x : Sg) : ∀ (S : List Sg), (insS x S).Perm (S ++ [x])
  | [] => by simp [insS]
  | y :: S => by
    rw [insS]
    split
    · exact (List.perm_append_singleton x (y :: S)).symm
    · exact (insS_perm x S).cons y
theorem srt_nds {S : List Sg} {x : Sg} (h : GoodS (insS x S)) : srt (ndsI S ++ [(x.1 : Int)]) = ndsI (insS x S) := by
  have hp : (ndsI (insS x S)).Perm (ndsI S ++ [(x.1 : Int)]) := by
    have := (insS_perm x S).map fun p : Sg => (p.1 : Int)
    rw [List.map_append] at this
    exact this
  have hs : (ndsI (insS x S)).Pairwise (fun a b => decide (a ≤ b) = true) := by
    unfold ndsI
    rw [List.pairwise_map]
    exact h.1.imp fun {a b} hab => by simp; omega
  have hr := List.pairwise_mergeSort (le := fun x y : Int => decide (x ≤ y)) (by intro a b c; simp; omega) (by intro a b; simp; omega) (ndsI S ++ [(x.1 : Int)])
  exact List.Perm.eq_of_pairwise (le := fun a b : Int => decide (a ≤ b) = true) (fun a b _ _ h1 h2 => by simp at h1 h2; omega) hr hs ((List.mergeSort_perm _ _).trans hp.symm)
end Go.Mb
namespace Go.Proofs.Ytdhfgfkfejpfdaa
open Go.Sy Go.Mb
set_option maxRecDepth 100000
set_option linter.unusedVariables false
set_option maxHeartbeats 4000000

theorem FnMu.row' {P : Program} {f : FuncId} {args : List A} {e : TypeId} {c n : Nat} {el el' : Nat → Nat → A} {post : Ob → A → Prop} (h : FnMu P f args (.row e c n el') post) (he : ∀ i, i < n → ∀ j, j < c → el i j = el' i j) : FnMu P f args (.row e c n el) post :=
  ⟨h.ent, fun w l vs hb hob hr => h.run w l vs hb (by
    obtain ⟨v, xs, h1, h2, h3, h4⟩ := hob
    exact ⟨v, xs, h1, h2, h3, fun i hi j hj => by
      obtain ⟨u, h5, h6⟩ := h4 i hi j hj
      exact ⟨u, h5, by rw [← he i hi j hj]; exact h6⟩⟩) hr⟩
noncomputable def EVr : Env := { P := Try.prog, eqT := EN.eqT, mu := [33] }
theorem EVr_ok : EqOK EVr := EN_ok
noncomputable def CVr : Cx := { E := EVr, inl := [], ok := EVr_ok }
theorem securityVerified_ok (b : Bun) (n : Int) (key : ByteArray) : FnOK Try.prog 8 [.agg b.cells, .int .i64 n, .str key] (.bool true, none) := by
  refine fn_ok CVr rfl (by kernel_rfl) Try.func8 rfl ?_
  refine Sat.go (Eq.refl _) (NS.call (greatL_ok b key) rfl ?_)
  refine Sat.go (Eq.refl _) (NS.ite (fun g1 => ?_) (fun g1 => ?_))
  · refine Sat.go (Eq.refl _) (NS.call (awake_ok) rfl ?_)
    exact Sat.go (Eq.refl _) (NS.ret rfl rfl (LeA.refl _))
  refine Sat.go (Eq.refl _) (NS.call (protect_ok b n key) rfl ?_)
  by_cases hp : (protM b n key).2 = 0
  · obtain ⟨x, hx⟩ : ∃ x, (protM b n key).1 = x := ⟨_, rfl⟩
    have hpp : protM b n key = (x, 0) := by rw [← hx, ← hp]
    rw [hpp]
    obtain ⟨pa, fa, ra, ex⟩ := protM_ok.1 hpp
    have tn := toN pa.rng
    have hT := fresh_ins pa fa
    obtain ⟨t, ht⟩ : ∃ t, sgnM b n.toNat key = t := ⟨_, rfl⟩
    rw [ht] at hT ex
    have okx : Okb x := by rw [ex]; exact setS_ok pa.ok.chk hT (insS_ne _ _) ra
    have sgx : sgB x = insS (n.toNat, t) (sgB b) := by rw [ex]; exact setS_sg pa.ok.chk hT
    have hvx : verM x n key = 0 := by
      refine verM_ok.2 ⟨⟨okx, pa.rng, pa.key⟩, ?_⟩
      have e1 : sgnM x n.toNat key = t := by rw [ex, setS_sgn pa.ok.chk, ht]
      have := fndS_mem hT (p := (n.toNat, t)) (insS_mem.2 (.inl rfl))
      rw [sgx, e1, ← this]
      show fndS _ n = fndS _ ((n.toNat : Nat) : Int)
      rw [tn]
    have c1 := signers_ok b
    rw [signers_of pa.ok] at c1
    have c2 := signers_ok x
    rw [signers_of okx, sgx] at c2
    have hsl : (ndsI (sgB b)).length ≤ 16 := by unfold ndsI; rw [List.length_map]; exact pa.ok.good.len
    have hsort := srt_nds hT
    rw [show (((n.toNat, t) : Sg).1 : Int) = n from tn] at hsort
    have c3 := sortI_mu Try.ly189 (by kernel_rfl) (ndsI (sgB b) ++ [n]) 3 (by simp; omega)
    have hl1 : (ndsI (sgB b) ++ [n]).length = (ndsI (sgB b)).length + 1 := by simp
    rw [hsort, hl1] at c3
    have hl2 : (ndsI (insS (n.toNat, t) (sgB b))).length = (ndsI (sgB b)).length + 1 := by rw [← hsort, srt_len, hl1]
    have c4 := checkB_ok x
    rw [okx.chk] at c4
    have c5 := verify_ok x n key
    rw [hvx] at c5
    have hrm : remB x.l 4 = remB b.l 4 := by rw [ex]; exact setS_rem pa.ok.chk _
    have hgb := goodL_of pa.ok.chk
    have hgx := goodL_of okx.chk
    have hxb : { x with l := remB x.l 4 } = ({ b with l := remB b.l 4 } : Bun) := by rw [hrm, ex]; rfl
    refine Sat.go (Eq.refl _) (NS.no (rfl) ?_)
    refine Sat.go (Eq.refl _) (NS.call (c1) rfl ?_)
    refine Sat.go (Eq.refl _) (NS.call (c2) rfl ?_)
    refine Sat.go (Eq.refl _) (NS.call (cloneN_ok (ndsI (sgB b)) (by omega)) rfl ?_)
    refine Sat.go (Eq.refl _) (NS.need (decide_eq_true (by simp only [maxRow]; omega)) ?_)
    refine Sat.go (Eq.refl _) (NS.mut 49 (Eq.refl _) rfl (FnMu.row' c3 fun i hi j hj => row_snoc (cells := nC) (l := ndsI (sgB b)) (x := n) (c := 1) rfl i hi j hj) rfl ?_)
    rintro ob r ⟨rfl, rfl⟩
    refine Sat.go (Eq.refl _) (NS.no (rfl) ?_)
    refine Sat.go (Eq.refl _) (NS.no (rfl) ?_)
    refine Sat.go (Eq.refl _) (NS.call ((equalN_ok (ndsI (insS (n.toNat, t) (sgB b))) (by omega)).le (LeL.cons (LeA.refl _) (LeL.cons (LeA.sl hl2.symm fun i hi j hj => rfl) LeL.nil))) rfl ?_)
    refine Sat.go (Eq.refl _) (NS.no (rfl) ?_)
    refine Sat.go (Eq.refl _) (NS.call (containsN_ok (ndsI (sgB b)) (by omega) n) rfl ?_)
    refine Sat.go (Eq.refl _) (NS.no (by rw [nds_any]; exact fa) ?_)
    refine Sat.go (Eq.refl _) (NS.call (c4) rfl ?_)
    refine Sat.go (Eq.refl _) (NS.no (rfl) ?_)
    refine Sat.go (Eq.refl _) (NS.call (c5) rfl ?_)
    refine Sat.go (Eq.refl _) (NS.no (rfl) ?_)
    refine Sat.go (Eq.refl _) (NS.chk (by kernel_rfl) ?_)
    refine Sat.go (Eq.refl _) (NS.chk (by kernel_rfl) ?_)
    refine Sat.go (Eq.refl _) (NS.call (remove_ok b.l (by have := hgb.1; omega) 4) rfl ?_)
    refine Sat.go (Eq.refl _) (NS.call (remove_ok x.l (by have := hgx.1; omega) 4) rfl ?_)
    refine Sat.go (Eq.refl _) (NS.call ((sameB_ok { b with l := remB b.l 4 } (by have := (remB_good hgb 4).1; show (remB b.l 4).length ≤ _; omega)).le (LeL.cons (LeA.refl _) (LeL.cons (LeA.of (by show A.agg ({ x with l := remB x.l 4 } : Bun).cells = _; rw [hxb])) LeL.nil))) rfl ?_)
    refine Sat.go (Eq.refl _) (NS.yes (rfl) ?_)
    refine Sat.go (Eq.refl _) (NS.call (awake_ok) rfl ?_)
    exact Sat.go (Eq.refl _) (NS.ret rfl rfl (LeA.refl _))
  · refine Sat.go (Eq.refl _) (NS.yes (by show ((protM b n key).2 != 0) = true; simpa using hp) ?_)
    have hd := protM_fst hp
    refine Sat.go (Eq.refl _) (NS.call ((sameB_ok default (by decide)).le (LeL.cons (LeA.of (by show A.agg (protM b n key).1.cells = _; rw [hd])) (LeL.cons zeroA_le LeL.nil))) rfl ?_)
    refine Sat.go (Eq.refl _) (NS.yes (rfl) ?_)
    refine Sat.go (Eq.refl _) (NS.call (awake_ok) rfl ?_)
    exact Sat.go (Eq.refl _) (NS.ret rfl rfl (LeA.refl _))
end Go.Proofs.Ytdhfgfkfejpfdaa
