/- The contacts of a history: the program. -/
import Derived.Test.YthfbahebeembeaaUS
set_option linter.unusedSimpArgs false
set_option linter.unusedSectionVars false
set_option linter.unusedVariables false
namespace Go.Mb
open Go.Sy
set_option linter.unusedVariables false
def hN (l : List Chg) (k : Nat) (q : List Int) : Bool := (nwK l k q).isSome
def vN (l : List Chg) (k : Nat) (q : List Int) : A := .agg ((nwK l k q).getD default).cells
theorem look_same (l : List Chg) (k : Nat) (q : List Int) : lookM (hN l k) (vN l k) [] q = (nwK l k q).map fun y => A.agg y.cells := by
  unfold lookM hN vN
  cases nwK l k q <;> rfl
theorem look_keep {l : List Chg} {k : Nat} {y : Chg} (h : nwK l k (nm (l.getD k default).c) = some y) (h2 : newr (l.getD k default) y = false) (q : List Int) : lookM (hN l k) (vN l k) [] q = lookM (hN l (k + 1)) (vN l (k + 1)) [] q := by
  rw [look_same, look_same]
  congr 1
  show nwK l k q = if eqKs q (nm (l.getD k default).c) then _ else nwK l k q
  split
  · rename_i e
    rw [eqKs_nm.1 e, h]
    simp only [h2]; rfl
  · rfl
theorem look_put {l : List Chg} {k : Nat} (h : ∀ y, nwK l k (nm (l.getD k default).c) = some y → newr (l.getD k default) y = true) (q : List Int) : lookM (hN l k) (vN l k) [(nm (l.getD k default).c, some (A.agg (l.getD k default).cells))] q = lookM (hN l (k + 1)) (vN l (k + 1)) [] q := by
  rw [look_same]
  show (match eqKs q (nm (l.getD k default).c) with | true => some (A.agg (l.getD k default).cells) | false => lookM (hN l k) (vN l k) [] q) = Option.map _ (if eqKs q (nm (l.getD k default).c) then _ else nwK l k q)
  cases e : eqKs q (nm (l.getD k default).c) with
  | false => rw [if_neg (by simp)]; exact look_same l k q
  | true =>
    rw [if_pos rfl, eqKs_nm.1 e]
    cases h2 : nwK l k (nm (l.getD k default).c) with
    | none => rfl
    | some y => simp only [h y h2]; rfl
theorem newF_iff {a b : Chg} : decide (newF a b < 0) = newr a b := by rw [Bool.eq_iff_iff, decide_eq_true_eq, newF_neg, newr_iff]
end Go.Mb
namespace Go.Proofs.Ythfbahebeembeaa
open Go.Sy Go.Mb
set_option maxRecDepth 100000
set_option linter.unusedVariables false
set_option maxHeartbeats 4000000
theorem overlap_ok (a b : Ctc) : FnOK Try.prog 29 [.agg a.cells, .agg b.cells] (.bool (ovl a b), none) := by
  have key : chkC a = 0 → a.start < a.stop := fun h => (chkC_in h).2.2.2.2.2.2.2.2.2.2.2.2.1
  have key2 : chkC b = 0 → b.start < b.stop := fun h => (chkC_in h).2.2.2.2.2.2.2.2.2.2.2.2.1
  refine fn_ok CN rfl (by kernel_rfl) Try.func29 rfl ?_
  repeat' (first | (refine Sat.go (Eq.refl _) (NS.ite (fun h => ?_) (fun h => ?_))) | (refine Sat.go (Eq.refl _) (NS.chk (by kernel_rfl) ?_)) | (refine Sat.go (Eq.refl _) (NS.call (cCheck_ok a) rfl ?_)) | (refine Sat.go (Eq.refl _) (NS.call (cCheck_ok b) rfl ?_)) | (exact Sat.go (Eq.refl _) (NS.ret rfl rfl (LeA.of (congrArg A.bool (by unfold ovl; rw [Bool.eq_iff_iff]; simp only [Bool.and_eq_true, decide_eq_true_eq, decide_eq_false_iff_not, beq_iff_eq, beq_eq_false_iff_ne, bne_iff_ne, bne_eq_false_iff_eq, Bool.false_eq_true] at *; (repeat' split) <;> (constructor <;> (intro hh; first | exact hh.elim | omega))))))))
theorem rOverlap_ok (a b : Ctc) : FnOK Try.prog 86 [.agg a.cells, .agg b.cells] (.bool (ovl a b), none) := by
  refine fn_ok CN rfl (by kernel_rfl) Try.func86 rfl ?_
  repeat' (first | (refine Sat.go (Eq.refl _) (NS.ite (fun h => ?_) (fun h => ?_))) | (refine Sat.go (Eq.refl _) (NS.chk (by kernel_rfl) ?_)) | (refine Sat.go (Eq.refl _) (NS.call (rCtc_ok a) rfl ?_)) | (refine Sat.go (Eq.refl _) (NS.call (rCtc_ok b) rfl ?_)) | (exact Sat.go (Eq.refl _) (NS.ret rfl rfl (LeA.of (congrArg A.bool (by unfold ovl; simp only [*, Bool.true_and, Bool.false_and]))))))
theorem named_ok (a b : Ctc) : FnOK Try.prog 59 [.agg a.cells, .agg b.cells] (.bool (nmE a b), none) := by
  refine fn_ok CN rfl (by kernel_rfl) Try.func59 rfl ?_
  repeat' (first | (refine Sat.go (Eq.refl _) (NS.ite (fun h => ?_) (fun h => ?_))) | (refine Sat.go (Eq.refl _) (NS.chk (by kernel_rfl) ?_)) | (exact Sat.go (Eq.refl _) (NS.ret rfl rfl (LeA.of (congrArg A.bool (by unfold nmE; simp only [*, Bool.true_and, Bool.false_and]))))))
theorem newer_ok (a b : Chg) : FnOK Try.prog 96 [.agg a.cells, .agg b.cells] (.bool (newr a b), none) := by
  refine fn_ok CN rfl (by kernel_rfl) Try.func96 rfl ?_
  repeat' (first | (refine Sat.go (Eq.refl _) (NS.ite (fun h => ?_) (fun h => ?_))) | (refine Sat.go (Eq.refl _) (NS.chk (by kernel_rfl) ?_)) | (exact Sat.go (Eq.refl _) (NS.ret rfl rfl (LeA.of (congrArg A.bool (by unfold newr; simp only [*, Bool.true_and, Bool.false_and, Bool.true_or, Bool.false_or]))))))
theorem less_ok (a b : Ctc) : FnOK Try.prog 87 [.agg a.cells, .agg b.cells] (.bool (decide (byN a b < 0)), none) := by
  refine fn_ok CN rfl (by kernel_rfl) Try.func87 rfl ?_
  repeat' (first | (refine Sat.go (Eq.refl _) (NS.ite (fun h => ?_) (fun h => ?_))) | (refine Sat.go (Eq.refl _) (NS.chk (by kernel_rfl) ?_)) | (exact Sat.go (Eq.refl _) (NS.ret rfl rfl (LeA.of (congrArg A.bool (by rw [Bool.eq_iff_iff]; simp only [decide_eq_true_eq, byN_neg, ltN, bne_iff_ne, bne_eq_false_iff_eq] at *; omega))))))
theorem nameOf_ok (c : Ctc) : FnOK Try.prog 57 [.agg c.cells] (.agg [.int .i64 c.fr, .int .i64 c.to, .int .i64 c.start], none) := by
  refine fn_ok CN rfl (by kernel_rfl) Try.func57 rfl ?_
  exact Sat.go (Eq.refl _) (NS.ret rfl rfl (LeA.refl _))
theorem sameName_ok (c d : Ctc) : FnOK Try.prog 56 [.agg d.cells, .ip 7 (getA c.cells)] (.bool (nmE d c), none) := by
  refine fn_ok CN rfl (by kernel_rfl) Try.func56 rfl ?_
  refine Sat.go (Eq.refl _) (NS.chk (by kernel_rfl) ?_)
  refine Sat.go (Eq.refl _) (NS.call (nameOf_ok d) rfl ?_)
  refine Sat.go (Eq.refl _) (NS.call (nameOf_ok c) rfl ?_)
  exact Sat.go (Eq.refl _) (NS.ret rfl rfl (LeA.of (congrArg A.bool (by unfold nmE; simp))))
theorem over1_ok (x : Chg) (d : Ctc) : FnOK Try.prog 84 [.agg d.cells, .ip 11 (getA x.cells)] (.bool (ovl d x.c), none) := by
  refine fn_ok CN rfl (by kernel_rfl) Try.func84 rfl ?_
  refine Sat.go (Eq.refl _) (NS.call (overlap_ok d x.c) rfl ?_)
  exact Sat.go (Eq.refl _) (NS.ret rfl rfl (LeA.refl _))
theorem part_int {P : Program} {t : TypeId} (ht : P.underlying t = some (.int .i64)) (w : World) (cs : Array Value) (off : Nat) (v : Value) (h : cs[off]? = some v) : (part t cs off).run P w = .ok v w := by
  simp [part, isAgg, run_underlying ht, h]
theorem check_int {P : Program} {t : TypeId} (ht : P.underlying t = some (.int .i64)) (w : World) (em : Bool) (n : Nat) (a : Int) : (Instr.checkKey em (n + 1) t (.int .i64 a)).run P w = .ok () w := by
  unfold Instr.checkKey
  simp only [Sem.run_bind, run_underlying ht, Result.andThen_ok]
  rfl
theorem key_check (w : World) (em : Bool) (q : List Int) (hq : q.length = 3) : (Instr.checkKey em 10000 80 (kvOf true q)).run Try.prog w = .ok () w := by
  match q, hq with
  | [a, b, c], _ =>
    rw [show (10000:Nat) = 9998 + 1 + 1 from rfl]
    unfold Instr.checkKey
    simp only [kvOf, Sem.run_bind, run_underlying Try.underlying80, Result.andThen_ok]
    have p0 := part_int Try.underlying3 w #[Value.int .i64 a, Value.int .i64 b, Value.int .i64 c] 0 _ rfl
    have p1 := part_int Try.underlying3 w #[Value.int .i64 a, Value.int .i64 b, Value.int .i64 c] 1 _ rfl
    have p2 := part_int Try.underlying3 w #[Value.int .i64 a, Value.int .i64 b, Value.int .i64 c] 2 _ rfl
    simp [p0, p1, p2, check_int Try.underlying3 w em 9998]
theorem mapOK : MapTab Try.prog [(107, true, 3)] := by
  intro p hp
  obtain rfl := List.mem_singleton.1 hp
  exact ⟨80, 52, by kernel_rfl, mapLaw_struct eqTab_ok rfl ⟨_, Try.underlying80⟩ key_check⟩
noncomputable def EO : Env := { P := Try.prog, eqT := lookE eqTab, mps := lookMp [(107, true, 3)], mu := EM.mu }
theorem EO_ok : EqOK EO := eqOK_mp eqTab_ok mapOK
noncomputable def CP : Cx := { E := EO, inl := [], ok := EO_ok }
theorem contacts_row (h : His) (g : GoodH h.nodes h.l) (hl : h.l.length ≤ 1000000) : FnOK Try.prog 55 [.agg h.cells] (.own 0, some (.row 26 7 (conL h.l).length (rowL Ctc.cells (conL h.l)))) := by
  refine fn_ok CP rfl (by kernel_rfl) Try.func55 rfl ?_
  refine Sat.go (Eq.refl _) ?_
  refine NS.loop (σ := { k : Nat // k ≤ h.l.length }) (fun k => [(1, .ptr 1 0), (3, .yld 14), (16, slChg h.l), (17, .int .i64 h.l.length), (18, .int .i64 k.1)]) (fun k => [(1, .box h.cells), (14, .mp 107 true 3 true [] (hN h.l k.1) (vN h.l k.1))]) (fun k => h.l.length - k.1) ⟨0, Nat.zero_le _⟩ ?_ ?_
  · exact weak_hd [] rfl ⟨rfl, rfl, rfl, rfl, rfl, trivial⟩ ⟨⟨_, rfl, renHis _ _⟩, ⟨_, _, _, rfl, rfl, fun q hq => rfl⟩, trivial⟩ trivial (by kernel_rfl)
  · rintro ⟨k, hk⟩
    refine Sat.go (Eq.refl _) (NS.ite (fun a => ?_) (fun a => ?_))
    · have a : k < h.l.length := by simpa using a
      refine Sat.go (Eq.refl _) (NS.need (by simp; omega) ?_)
      refine Sat.go (Eq.refl _) (NS.call (nameOf_ok (h.l.getD k default).c) rfl ?_)
      refine Sat.go (Eq.refl _) (NS.ite (fun b => ?_) (fun b => ?_))
      · have b : (nwK h.l k (nm (h.l.getD k default).c)).isSome = true := b
        obtain ⟨y, hy⟩ := Option.isSome_iff_exists.1 b
        refine Sat.go (Eq.refl _) (NS.call (newF_ok (h.l.getD k default) ((nwK h.l k (nm (h.l.getD k default).c)).getD default)) rfl ?_)
        refine Sat.go (Eq.refl _) (NS.ite (fun c => ?_) (fun c => ?_))
        · have c : decide (newF (h.l.getD k default) ((nwK h.l k (nm (h.l.getD k default).c)).getD default) < 0) = true := c
          rw [newF_iff, hy] at c
          refine Sat.go (Eq.refl _) (NS.chk (by kernel_rfl) ?_)
          refine Sat.go (Eq.refl _) (NS.call (nameOf_ok (h.l.getD k default).c) rfl ?_)
          refine Sat.go (Eq.refl _) (NS.next ⟨k + 1, a⟩ (by simp; omega) ?_)
          exact weak_hd [] rfl ⟨rfl, rfl, rfl, rfl, ren_int rfl (i64_k (k := k) (n := h.l.length) a (by omega)), trivial⟩ ⟨⟨_, rfl, renHis _ _⟩, ⟨_, _, _, rfl, rfl, fun q hq => look_put (fun z hz => by rw [hy] at hz; injection hz with hz; subst hz; exact c) q⟩, trivial⟩ trivial (by kernel_rfl)
        · have c : decide (newF (h.l.getD k default) ((nwK h.l k (nm (h.l.getD k default).c)).getD default) < 0) = false := c
          rw [newF_iff, hy] at c
          refine Sat.go (Eq.refl _) (NS.next ⟨k + 1, a⟩ (by simp; omega) ?_)
          exact weak_hd [] rfl ⟨rfl, rfl, rfl, rfl, ren_int rfl (i64_k (k := k) (n := h.l.length) a (by omega)), trivial⟩ ⟨⟨_, rfl, renHis _ _⟩, ⟨_, _, _, rfl, rfl, fun q hq => look_keep hy c q⟩, trivial⟩ trivial (by kernel_rfl)
      · have b : (nwK h.l k (nm (h.l.getD k default).c)).isSome = false := b
        have hy : nwK h.l k (nm (h.l.getD k default).c) = none := by simpa using b
        refine Sat.go (Eq.refl _) (NS.chk (by kernel_rfl) ?_)
        refine Sat.go (Eq.refl _) (NS.call (nameOf_ok (h.l.getD k default).c) rfl ?_)
        refine Sat.go (Eq.refl _) (NS.next ⟨k + 1, a⟩ (by simp; omega) ?_)
        exact weak_hd [] rfl ⟨rfl, rfl, rfl, rfl, ren_int rfl (i64_k (k := k) (n := h.l.length) a (by omega)), trivial⟩ ⟨⟨_, rfl, renHis _ _⟩, ⟨_, _, _, rfl, rfl, fun q hq => look_put (fun z hz => by rw [hy] at hz; cases hz) q⟩, trivial⟩ trivial (by kernel_rfl)
    have a : h.l.length ≤ k := by simpa using a
    obtain rfl : k = h.l.length := by omega
    refine Sat.go (Eq.refl _) (NS.leave rfl (Eq.refl _) ?_)
    refine Sat.go (Eq.refl _) ?_
    refine NS.loop (σ := { k : Nat // k ≤ h.l.length }) (fun k => [(3, .yld 14), (8, .own 8), (45, slChg h.l), (46, .int .i64 h.l.length), (47, .int .i64 k.1)]) (fun k => [(8, .row 52 11 (filK h.l k.1).length (rowL Chg.cells (filK h.l k.1))), (14, .mp 107 true 3 true [] (hN h.l h.l.length) (vN h.l h.l.length))]) (fun k => h.l.length - k.1) ⟨0, Nat.zero_le _⟩ ?_ ?_
    · refine (weak_promote 8 8 52 11 (rowL Chg.cells []) rfl rfl).trans ?_
      exact weak_hd [] rfl ⟨rfl, rfl, rfl, rfl, rfl, trivial⟩ ⟨ren_row rfl rfl fun _ _ _ _ => rfl, ⟨_, _, _, rfl, rfl, fun q hq => rfl⟩, trivial⟩ trivial (by kernel_rfl)
    rintro ⟨k, hk⟩
    have hlen := filK_len h.l k
    refine Sat.go (Eq.refl _) (NS.ite (fun a => ?_) (fun a => ?_))
    · have a : k < h.l.length := by simpa using a
      obtain ⟨y, hy, hc⟩ := nw_cand g (x := h.l.getD k default) (by rw [getD_lt a]; exact List.getElem_mem _)
      have hsn : filK h.l (k + 1) = if isCand h.l (h.l.getD k default) then filK h.l k ++ [h.l.getD k default] else filK h.l k := rfl
      rw [← hc] at hsn
      refine Sat.go (Eq.refl _) (NS.need (by simp; omega) ?_)
      refine Sat.go (Eq.refl _) (NS.chk (by kernel_rfl) ?_)
      refine Sat.go (Eq.refl _) (NS.ite (fun b => ?_) (fun b => ?_))
      · have b : ((h.l.getD k default).kind == 1) = true := b
        rw [b, Bool.true_and] at hsn
        refine Sat.go (Eq.refl _) (NS.call (nameOf_ok (h.l.getD k default).c) rfl ?_)
        refine Sat.go (Eq.refl _) (NS.yes (by show (nwK h.l h.l.length (nm (h.l.getD k default).c)).isSome = true; rw [hy]; rfl) ?_)
        refine Sat.go (Eq.refl _) (NS.ite (fun c => ?_) (fun c => ?_))
        · have c : Chg.eqv ((nwK h.l h.l.length (nm (h.l.getD k default).c)).getD default) (h.l.getD k default) = true := c
          rw [hy] at c
          rw [if_pos (show Chg.eqv y (h.l.getD k default) = true from c)] at hsn
          refine Sat.go (Eq.refl _) (NS.need (decide_eq_true (by simp only [maxRow]; omega)) ?_)
          refine Sat.go (Eq.refl _) (NS.next ⟨k + 1, a⟩ (by simp; omega) ?_)
          refine weak_hd [(8, 66)] rfl ⟨rfl, rfl, rfl, rfl, ren_int rfl (i64_k (k := k) (n := h.l.length) a (by omega)), trivial⟩ ⟨?_, ⟨_, _, _, rfl, rfl, fun q hq => rfl⟩, trivial⟩ trivial (by kernel_rfl)
          rw [hsn]
          exact ren_row rfl (by simp) fun i hi j hj => row_snoc (cells := Chg.cells) rfl i (by simpa using hi) j hj
        · have c : Chg.eqv ((nwK h.l h.l.length (nm (h.l.getD k default).c)).getD default) (h.l.getD k default) = false := c
          rw [hy] at c
          rw [if_neg (by rw [show Chg.eqv y (h.l.getD k default) = false from c]; simp)] at hsn
          refine Sat.go (Eq.refl _) (NS.next ⟨k + 1, a⟩ (by simp; omega) ?_)
          refine weak_hd [] rfl ⟨rfl, rfl, rfl, rfl, ren_int rfl (i64_k (k := k) (n := h.l.length) a (by omega)), trivial⟩ ⟨?_, ⟨_, _, _, rfl, rfl, fun q hq => rfl⟩, trivial⟩ trivial (by kernel_rfl)
          rw [hsn]
          exact ren_row rfl rfl fun _ _ _ _ => rfl
      · have b : ((h.l.getD k default).kind == 1) = false := b
        rw [b, Bool.false_and, if_neg (by simp)] at hsn
        refine Sat.go (Eq.refl _) (NS.next ⟨k + 1, a⟩ (by simp; omega) ?_)
        refine weak_hd [] rfl ⟨rfl, rfl, rfl, rfl, ren_int rfl (i64_k (k := k) (n := h.l.length) a (by omega)), trivial⟩ ⟨?_, ⟨_, _, _, rfl, rfl, fun q hq => rfl⟩, trivial⟩ trivial (by kernel_rfl)
        rw [hsn]
        exact ren_row rfl rfl fun _ _ _ _ => rfl
    have a : h.l.length ≤ k := by simpa using a
    obtain rfl : k = h.l.length := by omega
    refine Sat.go (Eq.refl _) (NS.leave rfl (Eq.refl _) ?_)
    refine Sat.go (Eq.refl _) (NS.mut 8 (Eq.refl _) rfl (sortS_mu (filK h.l h.l.length) (by omega)) rfl ?_)
    rintro ob rr ⟨⟨zs, hp, hz, rfl⟩, rfl⟩
    obtain rfl : zs = candL h.l := sortS_eq (hp.trans (candK_perm _ _).symm) (hz.imp fun {a b} h2 h4 => by rw [lt_newF.2 h4] at h2; cases h2) (candK_sorted g (Nat.le_refl _))
    rw [← hp.length_eq]
    have hcl : (candL h.l).length ≤ 1000000 := by rw [hp.length_eq]; omega
    clear hp hz
    refine Sat.go (Eq.refl _) ?_
    refine NS.loop (σ := { k : Nat // k ≤ (candL h.l).length }) (fun k => [(11, .own 11), (70, .own 8), (71, .int .i64 (candL h.l).length), (72, .int .i64 k.1)]) (fun k => [(8, .row 52 11 (candL h.l).length (rowL Chg.cells (candL h.l))), (11, .row 26 7 (tkK (candL h.l) k.1).length (rowL Ctc.cells (tkK (candL h.l) k.1)))]) (fun k => (candL h.l).length - k.1) ⟨0, Nat.zero_le _⟩ ?_ ?_
    · refine (weak_promote 11 11 26 7 (rowL Ctc.cells []) rfl rfl).trans ?_
      exact weak_hd [] rfl ⟨rfl, rfl, rfl, rfl, trivial⟩ ⟨ren_row rfl rfl fun _ _ _ _ => rfl, ren_row rfl rfl fun _ _ _ _ => rfl, trivial⟩ trivial (by kernel_rfl)
    rintro ⟨k, hk⟩
    have htl := tkK_len (candL h.l) k
    refine Sat.go (Eq.refl _) (NS.ite (fun a => ?_) (fun a => ?_))
    · have a : k < (candL h.l).length := by simpa using a
      have hsn : tkK (candL h.l) (k + 1) = if (tkK (candL h.l) k).any (fun d => ovl d ((candL h.l).getD k default).c) then tkK (candL h.l) k else tkK (candL h.l) k ++ [((candL h.l).getD k default).c] := rfl
      repeat' (first | (refine Sat.go (Eq.refl _) (NS.chk (by kernel_rfl) ?_)) | (refine Sat.go (Eq.refl _) (NS.need (by simp; omega) ?_)))
      refine Sat.go (Eq.refl _) (NS.call (anyK_ok (tkK (candL h.l) k) (by omega) 84 11 (getA ((candL h.l).getD k default).cells) (fun d => ovl d ((candL h.l).getD k default).c) (over1_ok _)) rfl ?_)
      refine Sat.go (Eq.refl _) (NS.ite (fun b => ?_) (fun b => ?_))
      · have b : (tkK (candL h.l) k).any (fun d => ovl d ((candL h.l).getD k default).c) = false := by simpa using b
        rw [if_neg (by rw [b]; simp)] at hsn
        refine Sat.go (Eq.refl _) (NS.need (decide_eq_true (by simp only [maxRow]; omega)) ?_)
        refine Sat.go (Eq.refl _) (NS.next ⟨k + 1, a⟩ (by simp; omega) ?_)
        refine weak_hd [(11, 84)] rfl ⟨rfl, rfl, rfl, ren_int rfl (i64_k (k := k) (n := (candL h.l).length) a (by omega)), trivial⟩ ⟨ren_row rfl rfl fun _ _ _ _ => rfl, ?_, trivial⟩ trivial (by kernel_rfl)
        rw [hsn]
        exact ren_row rfl (by simp) fun i hi j hj => row_snoc (cells := Ctc.cells) rfl i (by simpa using hi) j hj
      · have b : (tkK (candL h.l) k).any (fun d => ovl d ((candL h.l).getD k default).c) = true := by simpa using b
        rw [if_pos b] at hsn
        refine Sat.go (Eq.refl _) (NS.next ⟨k + 1, a⟩ (by simp; omega) ?_)
        refine weak_hd [] rfl ⟨rfl, rfl, rfl, ren_int rfl (i64_k (k := k) (n := (candL h.l).length) a (by omega)), trivial⟩ ⟨ren_row rfl rfl fun _ _ _ _ => rfl, ?_, trivial⟩ trivial (by kernel_rfl)
        rw [hsn]
        exact ren_row rfl rfl fun _ _ _ _ => rfl
    · have a : (candL h.l).length ≤ k := by simpa using a
      obtain rfl : k = (candL h.l).length := by omega
      refine Sat.go (Eq.refl _) (NS.leave rfl (Eq.refl _) ?_)
      refine Sat.go (Eq.refl _) (NS.retRow 11 rfl rfl (LeA.refl _) ⟨rfl, rfl, rfl, fun _ _ _ _ => rfl⟩ fun _ _ _ _ => flatCtc _ _ _)
/-- A result that is a list of contacts with an error. -/
def conR (r : List Ctc × Int) : A := .tup [slCtc r.1, .int .i64 r.2]
theorem conR_le {x : A} {l : List Ctc} {e : Int} (h : LeA x (slCtc l)) : LeA (.tup [x, .int .i64 e]) (conR (l, e)) := LeA.tup2 h (LeA.refl _)
theorem nil_ctc : LeA .nils (slCtc []) := LeA.nil' rfl
theorem contacts_ok (h : His) (hl : h.l.length ≤ 1000000) : FnOK Try.prog 22 [.agg h.cells] (conR (consM h), none) := by
  have h0 : ∀ r, r = consM h → FnOK Try.prog 22 [.agg h.cells] (conR r, none) := by
    intro r hr
    refine fn_ok CM rfl (by kernel_rfl) Try.func22 rfl ?_
    refine Sat.go (Eq.refl _) (NS.call (check_ok h) rfl ?_)
    refine Sat.go (Eq.refl _) (NS.ite (fun h1 => ?_) (fun h1 => ?_))
    · rw [hr]; unfold consM; rw [if_pos h1]
      exact Sat.go (Eq.refl _) (NS.ret rfl rfl (conR_le nil_ctc))
    have g := chkHi_good (h := h) (by simpa using h1)
    have h1 : ¬ (chkHi h != 0) = true := by rw [show (chkHi h != 0) = false from h1]; simp
    have hcl := conL_len h.l
    refine Sat.go (Eq.refl _) (NS.call (contacts_row h g hl) rfl ?_)
    refine Sat.go (Eq.refl _) (NS.ite (fun h2 => ?_) (fun h2 => ?_))
    · rw [hr]; unfold consM; rw [if_neg h1, if_pos h2]
      exact Sat.go (Eq.refl _) (NS.ret rfl rfl (conR_le nil_ctc))
    have h2 : ¬ decide (((conL h.l).length : Int) > 64) = true := by rw [show decide (((conL h.l).length : Int) > 64) = false from h2]; simp
    refine Sat.go (Eq.refl _) (NS.mut 9 (Eq.refl _) rfl (sortN_mu (conL h.l) (by omega)) rfl ?_)
    rintro ob rr ⟨⟨zs, hp, hz, rfl⟩, rfl⟩
    obtain rfl : zs = conN h.l := conN_eq g hp (hz.imp fun {a b} h2 h4 => by rw [lt_byN.2 h4] at h2; cases h2)
    rw [hr]; unfold consM; rw [if_neg h1, if_neg h2]
    exact Sat.go (Eq.refl _) (NS.ret rfl rfl (conR_le (LeA.sl hp.length_eq.symm fun _ _ _ _ => rfl)))
  exact h0 _ rfl
theorem remove_ok (h : His) (o : Int) (c : Ctc) (hl : h.l.length ≤ 999) : FnOK Try.prog 15 [.agg h.cells, .int .i64 o, .agg c.cells] (hisR (remM h o c), none) := by
  have h0 : ∀ r, r = remM h o c → FnOK Try.prog 15 [.agg h.cells, .int .i64 o, .agg c.cells] (hisR r, none) := by
    intro r hr
    refine fn_ok CN rfl (by kernel_rfl) Try.func15 rfl ?_
    refine Sat.go (Eq.refl _) (NS.call (check_ok h) rfl ?_)
    refine Sat.go (Eq.refl _) (NS.ite (fun h1 => ?_) (fun h1 => ?_))
    · rw [hr]; unfold remM; rw [if_pos h1]
      exact Sat.go (Eq.refl _) (NS.ret rfl rfl (hisR_le nil_chg))
    have g := chkHi_good (h := h) (by simpa using h1)
    have h1 : ¬ (chkHi h != 0) = true := by rw [show (chkHi h != 0) = false from h1]; simp
    have hcl := conL_len h.l
    refine Sat.go (Eq.refl _) (NS.call (next_ok h g o 2 (nameC c) (by omega)) rfl ?_)
    refine Sat.go (Eq.refl _) (NS.call (valid_ok h.nodes (nextM h.l o 2 (nameC c))) rfl ?_)
    refine Sat.go (Eq.refl _) (NS.ite (fun h2 => ?_) (fun h2 => ?_))
    · rw [hr]; unfold remM; rw [if_neg h1, if_pos h2]
      exact Sat.go (Eq.refl _) (NS.ret rfl rfl (hisR_le nil_chg))
    have h2 : ¬ (!validX h.nodes (nextM h.l o 2 (nameC c))) = true := by rw [show (!validX h.nodes (nextM h.l o 2 (nameC c))) = false from h2]; simp
    refine Sat.go (Eq.refl _) (NS.call ((contacts_row h g (by omega)).frz) rfl ?_)
    refine Sat.go (Eq.refl _) (NS.call (anyK_ok (conL h.l) (by omega) 56 7 (getA c.cells) (fun d => nmE d c) (sameName_ok c)) rfl ?_)
    refine Sat.go (Eq.refl _) (NS.ite (fun h3 => ?_) (fun h3 => ?_))
    · rw [hr]; unfold remM; rw [if_neg h1, if_neg h2, if_pos h3]
      exact Sat.go (Eq.refl _) (NS.ret rfl rfl (hisR_le nil_chg))
    have h3 : ¬ (!(conL h.l).any (fun d => nmE d c)) = true := by rw [show (!(conL h.l).any (fun d => nmE d c)) = false from h3]; simp
    refine Sat.go (Eq.refl _) (NS.call (with_ok h (nextM h.l o 2 (nameC c)) g.sorted (next_ltX g (by omega) o 2 (nameC c)) hl) rfl ?_)
    rw [hr]; unfold remM; rw [if_neg h1, if_neg h2, if_neg h3]
    exact Sat.go (Eq.refl _) (NS.ret rfl rfl (LeA.refl _))
  exact h0 _ rfl
end Go.Proofs.Ythfbahebeembeaa
