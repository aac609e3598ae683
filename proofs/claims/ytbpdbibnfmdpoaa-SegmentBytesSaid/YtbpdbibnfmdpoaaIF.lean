/- The walk of Normal. -/
import Derived.Test.YtbpdbibnfmdpoaaIE
set_option linter.unusedSimpArgs false
set_option linter.unusedSectionVars false
set_option linter.unusedVariables false
namespace Go.Proofs.Ytbpdbibnfmdpoaa
open Go.Sy Go.Mb
set_option maxRecDepth 100000
set_option linter.unusedVariables false
set_option maxHeartbeats 1000000

theorem flatSp (l : List Spn) (i j : Nat) : flat 3 (rowL Spn.cells l i j) = true := flat_getA rfl j
def valuesF (l : List Spn) : A := .fn 87 [.ip 1 (getA [slS l])]
theorem values_ok (l : List Spn) : FnOK Try.prog 61 [slS l] (valuesF l, none) := by
  refine fn_ok CN rfl (by kernel_rfl) Try.func61 rfl ?_
  exact Sat.go (Eq.refl _) (NS.ret rfl rfl (LeA.refl _))
noncomputable def CV : Cx := { E := EN, inl := [87], ok := EN_ok }
theorem appendSeq_ok (l : List Spn) (hl : l.length ≤ 1000000) : FnOK Try.prog 98 [.nils, valuesF l] (.own 0, some (.row 49 2 l.length (rowL Spn.cells l))) := by
  refine fn_ok CV rfl (by kernel_rfl) Try.func98 rfl ?_
  refine Sat.go (Eq.refl _) ?_
  refine NS.loop (σ := { k : Nat // k ≤ l.length }) (fun k => [(0, .yld 13), (1, .ip 1 (getA [slS l])), (5, slS l), (6, .int .i64 l.length), (7, .int .i64 k.1)]) (fun k => [(2, .box [.own 14]), (14, .row 49 2 k.1 (rowL Spn.cells (l.take k.1)))]) (fun k => l.length - k.1) ⟨0, Nat.zero_le _⟩ ?_ ?_
  · exact (weak_promoteB 2 0 14 49 2 (rowL Spn.cells []) rfl rfl rfl).trans (weak_hd [] rfl ⟨rfl, rfl, rfl, rfl, rfl, trivial⟩ ⟨⟨_, rfl, _, _, rfl, rfl, rfl⟩, ren_row rfl rfl fun _ _ _ _ => rfl, trivial⟩ (by repeat' (first | exact trivial | refine ⟨.inr rfl, ?_⟩ | refine ⟨.inl rfl, ?_⟩)) (by kernel_rfl))
  · rintro ⟨k, hk⟩
    refine Sat.go (Eq.refl _) (NS.ite (fun h => ?_) (fun h => ?_))
    · simp at h
      have hsn := take_snoc (l := l) (k := k) h
      have hlen : (l.take k).length = k := by simp; omega
      refine Sat.go (Eq.refl _) (NS.need (by simp; omega) ?_)
      refine Sat.go (Eq.refl _) (NS.need (decide_eq_true (by simp only [maxRow]; omega)) ?_)
      refine Sat.go (Eq.refl _) (NS.next ⟨k + 1, by omega⟩ (by simp; omega) ?_)
      refine weak_hd [(14, 41)] rfl ⟨rfl, rfl, rfl, rfl, ren_int rfl (i64_k (k := k) (n := l.length) (by omega) (by omega)), trivial⟩ ⟨⟨_, rfl, _, _, rfl, rfl, rfl⟩, ?_, trivial⟩ (by repeat' (first | exact trivial | refine ⟨.inr rfl, ?_⟩ | refine ⟨.inl rfl, ?_⟩)) (by kernel_rfl)
      refine ren_row rfl rfl (fun i hi j hj => ?_)
      have := row_snoc (cells := Spn.cells) (l := l.take k) (x := l.getD k default) (c := 2) rfl i (by rw [hlen]; exact hi) j hj
      rw [← hsn, hlen] at this
      exact this
    · simp at h
      obtain rfl : k = l.length := by omega
      refine Sat.go (Eq.refl _) (NS.leave rfl (Eq.refl _) ?_)
      refine Sat.go (Eq.refl _) (NS.retRow 14 rfl rfl (LeA.refl _) ⟨rfl, rfl, rfl, fun i hi j hj => ?_⟩ fun _ _ _ _ => flatSp _ _ _)
      rw [take_all (by omega)]
theorem collect_ok (l : List Spn) (hl : l.length ≤ 1000000) : FnOK Try.prog 85 [valuesF l] (.own 0, some (.row 49 2 l.length (rowL Spn.cells l))) := by
  refine fn_ok CN rfl (by kernel_rfl) Try.func85 rfl ?_
  refine Sat.go (Eq.refl _) (NS.call (appendSeq_ok l hl) rfl ?_)
  exact Sat.go (Eq.refl _) (NS.retRow 4 rfl rfl (LeA.refl _) ⟨rfl, rfl, rfl, fun _ _ _ _ => rfl⟩ fun _ _ _ _ => flatSp _ _ _)

noncomputable def EM : Env := { P := Try.prog, eqT := EN.eqT, mu := [86] }
theorem EM_ok : EqOK EM := EN_ok
noncomputable def CM : Cx := { E := EM, inl := [60], ok := EM_ok }
theorem nrm_le {r : List Spn × Int} {l : List Spn} {e : Int} {x : A} (h : r = (l, e)) (hx : LeA x (slS l)) : LeA (.tup [x, .int .i64 e]) (.tup [slS r.1, .int .i64 r.2]) := by
  subst h; exact LeA.tup2 hx (LeA.refl _)
theorem row_hi (o : List Spn) {n : Nat} {x y : Int} (hn : n < o.length) (hx : x = y) (q j : Nat) (hj : j < 2) : (if q = n ∧ 1 ≤ j ∧ j < 1 + 1 then getA [A.int .i64 x] (j - 1) else rowL Spn.cells o q j) = rowL Spn.cells (o.set n ⟨(o.getD n default).lo, y⟩) q j := by
  subst hx
  unfold rowL
  rw [getD_setG _ _ _ _ hn]
  by_cases h : q = n
  · subst h
    rw [if_pos rfl]
    match j, hj with
    | 0, _ => rw [if_neg (by omega)]; rfl
    | 1, _ => rw [if_pos (by omega)]; rfl
  · rw [if_neg (by omega), if_neg h]
theorem normal_ok (l : List Spn) : FnOK Try.prog 30 [slS l] (.tup [slS (normM l).1, .int .i64 (normM l).2], none) := by
  refine fn_ok CM rfl (by kernel_rfl) Try.func30 rfl ?_
  refine Sat.go (Eq.refl _) (NS.ite (fun h0 => ?_) (fun h0 => ?_))
  · refine Sat.go (Eq.refl _) (NS.ret rfl rfl (nrm_le (l := []) ?_ (LeA.nil' rfl)))
    unfold normM; rw [if_pos (by simp at h0; omega)]
  have hl : l.length ≤ 1000 := by simp at h0; omega
  refine Sat.go (Eq.refl _) (NS.call (anyBad_ok l (by omega)) rfl ?_)
  refine Sat.go (Eq.refl _) (NS.ite (fun h1 => ?_) (fun h1 => ?_))
  · refine Sat.go (Eq.refl _) (NS.ret rfl rfl (nrm_le (l := []) ?_ (LeA.nil' rfl)))
    unfold normM; rw [if_neg (by omega), if_pos h1]
  have hm : normM l = (normL l, 0) := by unfold normM; rw [if_neg (by omega), if_neg (by rw [h1]; simp)]
  have hv := all_of_any h1
  refine Sat.go (Eq.refl _) (NS.call (values_ok l) rfl ?_)
  refine Sat.go (Eq.refl _) (NS.call (collect_ok l (by omega)) rfl ?_)
  refine Sat.go (Eq.refl _) (NS.mut 65 (Eq.refl _) rfl (sortS_mu l (by omega)) rfl ?_)
  rintro ob r ⟨⟨d, hp, hs, rfl⟩, rfl⟩
  have hj : joinL d = normL l := join_perm hv hp (hs.imp fun {a b} h => by rw [cmpS_lt] at h; simp at h; omega)
  have hdl := hp.length_eq
  rw [← hj] at hm
  generalize normM l = r at hm
  clear hj
  rw [← hdl] at hl
  refine Sat.go (Eq.refl _) ?_
  rw [← hdl]
  refine NS.loop (σ := { p : Nat × List Spn // p.1 ≤ d.length ∧ p.2.length ≤ p.1 ∧ r = (goJ p.2 (d.drop p.1), 0) }) (fun p => [(5, .own 5), (17, .own 65), (18, .int .i64 d.length), (19, .int .i64 p.1.1)]) (fun p => [(65, .row 49 2 d.length (rowL Spn.cells d)), (5, .row 49 2 p.1.2.length (rowL Spn.cells p.1.2))]) (fun p => d.length - p.1.1) ⟨(0, []), Nat.zero_le _, Nat.le_refl _, hm⟩ ?_ ?_
  · exact (weak_promote 5 5 49 2 (rowL Spn.cells []) rfl rfl).trans (weak_hd [] rfl ⟨rfl, rfl, rfl, rfl, trivial⟩ ⟨ren_row rfl rfl fun _ _ _ _ => rfl, ren_row rfl rfl fun _ _ _ _ => rfl, trivial⟩ trivial (by kernel_rfl))
  rintro ⟨⟨k, o⟩, hk, ho, hr⟩
  simp only at hk ho hr
  refine Sat.go (Eq.refl _) (NS.ite (fun h => ?_) (fun h => ?_))
  · have h : k < d.length := by simpa using h
    have ek : IntKind.i64.wrap ((k : Int) + 1) = ((k + 1 : Nat) : Int) := i64_k (k := k) (n := d.length) (by omega) (by omega)
    rw [drop_cons h] at hr
    refine Sat.go (Eq.refl _) (NS.need (by simp; omega) ?_)
    refine Sat.go (Eq.refl _) (NS.need (by simp; omega) ?_)
    refine Sat.go (Eq.refl _) (NS.chk (by kernel_rfl) ?_)
    refine Sat.go (Eq.refl _) (NS.ite (fun h2 => ?_) (fun h2 => ?_))
    · have h2 : 0 < o.length := by simpa using h2
      have hne : o ≠ [] := by intro e; rw [e] at h2; simp at h2
      have e1 : IntKind.i64.wrap ((o.length : Int) - 1) = ((o.length - 1 : Nat) : Int) := by rw [wrap_i64 (by omega) (by omega)]; omega
      refine Sat.go (Eq.refl _) (NS.need (by rw [e1]; simp; omega) ?_)
      rw [e1]
      refine Sat.go (Eq.refl _) (NS.need (by simp; omega) ?_)
      refine Sat.go (Eq.refl _) (NS.ite (fun h3 => ?_) (fun h3 => ?_))
      · have h3 : (d.getD k default).lo ≤ (o.getD (o.length - 1) default).hi := of_decide_eq_true h3
        rw [goJ_in _ _ hne h3] at hr
        refine Sat.go (Eq.refl _) (NS.chk (by kernel_rfl) ?_)
        refine Sat.go (Eq.refl _) (NS.need (by rw [e1]; simp; omega) ?_)
        rw [e1]
        refine Sat.go (Eq.refl _) (NS.need (by simp; omega) ?_)
        refine Sat.go (Eq.refl _) (NS.need (by simp; omega) ?_)
        refine Sat.go (Eq.refl _) (NS.need (by simp; omega) ?_)
        refine Sat.go (Eq.refl _) (NS.next ⟨(k + 1, o.set (o.length - 1) ⟨(o.getD (o.length - 1) default).lo, max (o.getD (o.length - 1) default).hi (d.getD k default).hi⟩), by simp only; omega, by simp; omega, hr⟩ (by simp only; omega) ?_)
        refine weak_hd [] rfl ⟨rfl, rfl, rfl, ren_int rfl ek, trivial⟩ ⟨ren_row rfl rfl fun _ _ _ _ => rfl, ren_row rfl (by simp) fun i hi j hj => ?_, trivial⟩ trivial (by kernel_rfl)
        exact row_hi o (by omega) (max_a _ _) i j hj
      · have h3 : ¬ (d.getD k default).lo ≤ (o.getD (o.length - 1) default).hi := of_decide_eq_false h3
        rw [goJ_out _ _ hne h3] at hr
        refine Sat.go (Eq.refl _) (NS.need (decide_eq_true (by simp only [maxRow]; omega)) ?_)
        refine Sat.go (Eq.refl _) (NS.next ⟨(k + 1, o ++ [d.getD k default]), by simp only; omega, by simp; omega, hr⟩ (by simp only; omega) ?_)
        exact weak_hd [(5, 55)] rfl ⟨rfl, rfl, rfl, ren_int rfl ek, trivial⟩ ⟨ren_row rfl rfl fun _ _ _ _ => rfl, ren_row rfl (by simp) fun i hi j hj => row_snoc (cells := Spn.cells) (l := o) (x := d.getD k default) rfl i (by simpa using hi) j hj, trivial⟩ trivial (by kernel_rfl)
    · have h2 : o = [] := by
        have : ¬ 0 < o.length := by simpa using h2
        exact List.eq_nil_of_length_eq_zero (by omega)
      subst h2
      rw [goJ_nil] at hr
      refine Sat.go (Eq.refl _) (NS.need (decide_eq_true (by simp only [maxRow]; simp)) ?_)
      refine Sat.go (Eq.refl _) (NS.next ⟨(k + 1, [d.getD k default]), by simp only; omega, by simp, hr⟩ (by simp only; omega) ?_)
      exact weak_hd [(5, 55)] rfl ⟨rfl, rfl, rfl, ren_int rfl ek, trivial⟩ ⟨ren_row rfl rfl fun _ _ _ _ => rfl, ren_row rfl (by simp) fun i hi j hj => row_snoc (cells := Spn.cells) (l := []) (x := d.getD k default) rfl i (by simpa using hi) j hj, trivial⟩ trivial (by kernel_rfl)
  · have h : d.length ≤ k := by simpa using h
    rw [drop_end h, goJ_end] at hr
    refine Sat.go (Eq.refl _) (NS.leave rfl (Eq.refl _) ?_)
    refine Sat.go (Eq.refl _) (NS.ret rfl rfl (nrm_le hr (LeA.refl _)))
end Go.Proofs.Ytbpdbibnfmdpoaa
