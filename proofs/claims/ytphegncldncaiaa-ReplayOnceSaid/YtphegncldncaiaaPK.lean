/- The law ReplayOnce. -/
import Derived.Test.YtphegncldncaiaaPF
set_option linter.unusedSimpArgs false
set_option linter.unusedSectionVars false
set_option linter.unusedVariables false
namespace Go.Mb
open Go.Sy
set_option linter.unusedVariables false
/-- What is known while numbers are offered. -/
structure Onc (s : Int) (R : List Int) (top : Int) (w : Win) (f : Int → Bool) : Prop where
  g : GoodW w
  sz : w.size = s
  tp : w.top = top
  rf : ∀ m ∈ R, 0 ≤ m ∧ m ≤ 1152921504606846976 ∧ refW w m = true
  ac : ∀ m, f m = true → m ∈ R
theorem ref_top {w : Win} (g : GoodW w) {n : Int} (h : refW w n = true) : n ≤ w.top := by
  have := g.s1
  unfold refW at h
  rw [Bool.or_eq_true] at h
  rcases h with h | h
  · exact (g.mem n (by simpa using h)).2.1
  · have := of_decide_eq_true h; omega
theorem Onc.same {s : Int} {R : List Int} {top : Int} {w : Win} {f : Int → Bool} (o : Onc s R top w f) {n : Int} (h0 : 0 ≤ n) (h1 : n ≤ 1152921504606846976) (hr : refW w n = true) : Onc s (R ++ [n]) top w f ∧ n ≤ top := by
  refine ⟨⟨o.g, o.sz, o.tp, fun m hm => ?_, fun m hm => List.mem_append.2 (.inl (o.ac m hm))⟩, by rw [← o.tp]; exact ref_top o.g hr⟩
  rcases List.mem_append.1 hm with hm | hm
  · exact o.rf m hm
  · rw [List.mem_singleton.1 hm]; exact ⟨h0, h1, hr⟩
theorem Onc.new {s : Int} {R : List Int} {top : Int} {w : Win} {f : Int → Bool} (o : Onc s R top w f) {n : Int} (h0 : 0 ≤ n) (h1 : n ≤ 1152921504606846976) (hr : refW w n = false) : Onc s (R ++ [n]) (max top n) (accW w n) (fun m => m == n || f m) ∧ f n = false := by
  refine ⟨⟨accW_good o.g hr h0 h1, o.sz, by show max w.top n = _; rw [o.tp], fun m hm => ?_, fun m hm => ?_⟩, ?_⟩
  · rw [acc_ref o.g hr]
    rcases List.mem_append.1 hm with hm | hm
    · obtain ⟨a, b, c⟩ := o.rf m hm
      rw [c]; exact ⟨a, b, rfl⟩
    · rw [List.mem_singleton.1 hm]; refine ⟨h0, h1, ?_⟩; simp
  · rw [Bool.or_eq_true] at hm
    rcases hm with hm | hm
    · exact List.mem_append.2 (.inr (List.mem_singleton.2 (by simpa using hm)))
    · exact List.mem_append.2 (.inl (o.ac m hm))
  · rw [← Bool.not_eq_true]
    intro hf
    have := (o.rf n (o.ac n hf)).2.2
    rw [hr] at this; cases this
theorem idx_any {α : Type} [Inhabited α] (p : α → Bool) (l : List α) : decide (idx p l ≥ 0) = l.any p := by
  have h := idx_neg p l
  rw [Bool.eq_iff_iff, decide_eq_true_eq]
  constructor
  · intro h2
    rw [← Bool.not_eq_false]
    intro h3
    have := h.2 h3
    omega
  · intro h2
    by_cases h3 : idx p l < 0
    · have := h.1 h3
      rw [h2] at this; cases this
    · omega
end Go.Mb
namespace Go.Proofs.Ytphegncldncaiaa
open Go.Sy Go.Mb
set_option maxRecDepth 100000
set_option linter.unusedVariables false
set_option maxHeartbeats 4000000

theorem seen_t {w : Win} (g : GoodW w) {m : Int} (h0 : 0 ≤ m) (h1 : m ≤ 1152921504606846976) : seenM w m = refW w m := by
  unfold seenM
  rw [(good_iff w).2 g, decide_eq_true (show m ≥ 0 from h0), decide_eq_true h1]
  rfl
theorem onc_all {s : Int} {R : List Int} {top : Int} {w : Win} {f : Int → Bool} (o : Onc s R top w f) : R.any (fun m => !seenM w m) = false := by
  rw [List.any_eq_false]
  intro m hm
  obtain ⟨a, b, c⟩ := o.rf m hm
  rw [seen_t o.g a b, c]; simp
theorem mapOK : MapTab Try.prog [(36, false, 1)] := by
  intro p hp
  obtain rfl := List.mem_singleton.1 hp
  exact ⟨3, 4, by kernel_rfl, mapLaw_int (by kernel_rfl)⟩
noncomputable def EO : Env := { P := Try.prog, eqT := lookE [], mps := lookMp [(36, false, 1)] }
theorem EO_ok : EqOK EO := eqOK_mp (by intro p hp; cases hp) mapOK
noncomputable def CK : Cx := { E := EO, inl := [], ok := EO_ok }
def unseenF (w : Win) : A := .fn 24 [.ip 3 (getA w.cells)]
theorem unseen_ok (w : Win) (m : Int) : FnOK Try.prog 24 [.int .i64 m, .ip 3 (getA w.cells)] (.bool (!seenM w m), none) := by
  refine fn_ok CN rfl (by kernel_rfl) Try.func24 rfl ?_
  refine Sat.go (Eq.refl _) (NS.call (seen_ok w m) rfl ?_)
  exact Sat.go (Eq.refl _) (NS.ret rfl rfl (LeA.refl _))
theorem idxU_ok (l : List Int) (w : Win) (hl : l.length ≤ 1000000) : FnOK Try.prog 34 [slN l, unseenF w] (.int .i64 (idx (fun m => !seenM w m) l), none) := by
  refine fn_ok CN rfl (by kernel_rfl) Try.func34 rfl ?_
  refine Sat.go (Eq.refl _) ?_
  refine NS.loop (σ := { k : Nat // k ≤ l.length ∧ ∀ i, i < k → (!seenM w (l.getD i default)) = false }) (fun k => [(0, slN l), (1, unseenF w), (7, .int .i64 l.length), (8, .int .i64 k.1)]) (fun _ => []) (fun k => l.length - k.1) ⟨0, Nat.zero_le _, fun i hi => by omega⟩ ?_ ?_
  · exact weak_hd [] rfl ⟨rfl, rfl, rfl, rfl, trivial⟩ trivial trivial (by kernel_rfl)
  rintro ⟨k, hk, hn⟩
  refine Sat.go (Eq.refl _) (NS.ite (fun h => ?_) (fun h => ?_))
  · have h : k < l.length := by simpa using h
    refine Sat.go (Eq.refl _) (NS.need (by simp; omega) ?_)
    refine Sat.go (Eq.refl _) (NS.call (unseen_ok w (l.getD k default)) rfl ?_)
    refine Sat.go (Eq.refl _) (NS.ite (fun h2 => ?_) (fun h2 => ?_))
    · exact Sat.go (Eq.refl _) (NS.leaveOut rfl (Eq.refl _) (NS.ret rfl rfl (LeA.of (congrArg (A.int .i64) ((idx_found (by omega) h2 hn).symm)))))
    · refine Sat.go (Eq.refl _) (NS.next ⟨k + 1, by omega, fun i hi => ?_⟩ (by simp; omega) ?_)
      · by_cases hik : i = k
        · subst hik; exact h2
        · exact hn i (by omega)
      · exact weak_hd [] rfl ⟨rfl, rfl, rfl, ren_int rfl (i64_k (by omega) (by omega)), trivial⟩ trivial trivial (by kernel_rfl)
  · have h : ¬ k < l.length := by simpa using h
    refine Sat.go (Eq.refl _) (NS.leave rfl (Eq.refl _) ?_)
    exact Sat.go (Eq.refl _) (NS.ret rfl rfl (LeA.of (congrArg (A.int .i64) ((idx_none fun i hi => hn i (by omega)).symm))))
theorem anyU_ok (l : List Int) (w : Win) (hl : l.length ≤ 1000000) : FnOK Try.prog 23 [slN l, unseenF w] (.bool (l.any fun m => !seenM w m), none) := by
  refine fn_ok CN rfl (by kernel_rfl) Try.func23 rfl ?_
  refine Sat.go (Eq.refl _) (NS.call (idxU_ok l w hl) rfl ?_)
  exact Sat.go (Eq.refl _) (NS.ret rfl rfl (LeA.of (congrArg A.bool (idx_any _ _))))
theorem map_put (f : Int → Bool) (n : Int) : ∀ q : List Int, q.length = 1 → lookM (fun q => f (q.headD 0)) (fun _ => A.kb true) [([n], some (A.kb true))] q = lookM (fun q => (fun m => m == n || f m) (q.headD 0)) (fun _ => A.kb true) [] q := by
  intro q hq
  match q, hq with
  | [m], _ =>
    simp only [lookM, eqKs, List.headD]
    cases h : (m == n) <;> simp
theorem replayOnce_ok (s : Int) (l : List Int) : FnOK Try.prog 6 [.int .i64 s, slN l] (.bool true, none) := by
  refine fn_ok CK rfl (by kernel_rfl) Try.func6 rfl ?_
  refine Sat.go (Eq.refl _) (NS.call (new_ok s) rfl ?_)
  refine Sat.go (Eq.refl _) (NS.ite (fun h0 => ?_) (fun h0 => ?_))
  · refine Sat.go (Eq.refl _) (NS.call (awake_ok) rfl ?_)
    exact Sat.go (Eq.refl _) (NS.ret rfl rfl (LeA.of (congrArg A.bool (rfl))))
  obtain ⟨hn, s1, s2⟩ := new_f h0
  rw [hn]
  refine Sat.go (Eq.refl _) (NS.ite (fun h1 => ?_) (fun h1 => ?_))
  · refine Sat.go (Eq.refl _) (NS.call (awake_ok) rfl ?_)
    exact Sat.go (Eq.refl _) (NS.ret rfl rfl (LeA.of (congrArg A.bool (rfl))))
  have hl : l.length ≤ 60 := by have h1 : ¬ (l.length : Int) > 60 := of_decide_eq_false h1
                                omega
  refine Sat.go (Eq.refl _) ?_
  refine NS.loop (σ := { p : Nat × Int × Win × List Int × (Int → Bool) // p.1 ≤ l.length ∧ p.2.2.2.1.length ≤ p.1 ∧ Onc s p.2.2.2.1 p.2.1 p.2.2.1 p.2.2.2.2 }) (fun p => [(5, .ptr 5 0), (7, .yld 27), (8, .own 8), (9, .int .i64 p.1.2.1), (28, slN l), (29, .int .i64 l.length), (30, .int .i64 p.1.1)]) (fun p => [(5, .box p.1.2.2.1.cells), (27, .mp 36 false 1 true [] (fun q => p.1.2.2.2.2 (q.headD 0)) (fun _ => .kb true)), (8, .row 3 1 p.1.2.2.2.1.length (rowL nC p.1.2.2.2.1))]) (fun p => l.length - p.1.1) ⟨(0, -1, ⟨s, -1, []⟩, [], fun _ => false), Nat.zero_le _, Nat.zero_le _, ⟨new_good s1 s2, rfl, rfl, fun m hm => (by cases hm), fun m hm => (by cases hm)⟩⟩ ?_ ?_
  · refine (weak_promote 8 8 3 1 (rowL nC []) rfl rfl).trans ?_
    exact weak_hd [] rfl ⟨rfl, rfl, rfl, rfl, rfl, rfl, rfl, trivial⟩ ⟨⟨_, rfl, ren_win _ _⟩, ⟨_, _, _, rfl, rfl, fun q hq => rfl⟩, ren_row rfl rfl fun i hi j hj => rfl, trivial⟩ trivial (by kernel_rfl)
  rintro ⟨⟨k, top, w, R, f⟩, hk, hR, o⟩
  simp only at hk hR o
  refine Sat.go (Eq.refl _) (NS.ite (fun h => ?_) (fun h => ?_))
  · have h : k < l.length := by simpa using h
    have c := accept_ok w (l.getD k default)
    have g := o.g
    have t1 := g.t1
    have t2 := g.t2
    have htp := o.tp
    have hcw : chkW w = 0 := (good_iff w).2 g
    refine Sat.go (Eq.refl _) (NS.need (by simp; omega) ?_)
    by_cases hv : 0 ≤ l.getD k default ∧ l.getD k default ≤ 1152921504606846976
    · have hb : (decide (l.getD k default < 0) || decide (l.getD k default > 1152921504606846976)) = false  := by rw [Bool.or_eq_false_iff]; exact ⟨decide_eq_false (by omega), decide_eq_false (by omega)⟩
      cases hr : refW w (l.getD k default) with
      | true =>
        rw [accM_3 (by rw [hcw]; rfl) hb hr] at c
        obtain ⟨o', hle⟩ := o.same hv.1 hv.2 hr
        have hsn := seen_ok w (l.getD k default)
        rw [seen_t g hv.1 hv.2, hr] at hsn
        have hck := check_ok w
        rw [hcw] at hck
        have ha := anyU_ok (R ++ [l.getD k default]) w (by simp; omega)
        rw [onc_all o'] at ha
        refine Sat.go (Eq.refl _) (NS.call (c) rfl ?_)
        refine Sat.go (Eq.refl _) (NS.no (decide_eq_false (by show ¬ l.getD k default < 0; omega)) ?_)
        refine Sat.go (Eq.refl _) (NS.no (decide_eq_false (by show ¬ l.getD k default > 1152921504606846976; omega)) ?_)
        refine Sat.go (Eq.refl _) (NS.yes (rfl) ?_)
        refine Sat.go (Eq.refl _) (NS.no (rfl) ?_)
        refine Sat.go (Eq.refl _) (NS.call (hsn) rfl ?_)
        refine Sat.go (Eq.refl _) (NS.no (rfl) ?_)
        refine Sat.go (Eq.refl _) (NS.no (rfl) ?_)
        refine Sat.go (Eq.refl _) (NS.yes (rfl) ?_)
        refine Sat.go (Eq.refl _) (NS.no (decide_eq_false (by show ¬ l.getD k default > top; omega)) ?_)
        refine Sat.go (Eq.refl _) (NS.need (decide_eq_true (by simp only [maxRow]; omega)) ?_)
        refine Sat.go (Eq.refl _) (NS.no (rfl) ?_)
        refine Sat.go (Eq.refl _) (NS.call (hck) rfl ?_)
        refine Sat.go (Eq.refl _) (NS.no (rfl) ?_)
        refine Sat.go (Eq.refl _) (NS.no (by show (w.top != top) = false; rw [htp]; simp) ?_)
        refine Sat.go (Eq.refl _) (NS.call (ha.le (LeL.cons (LeA.sl (by simp) (row_snoc (cells := nC) (l := R) (x := l.getD k default) (c := 1) rfl)) (LeL.cons (LeA.refl _) LeL.nil))) rfl ?_)
        refine Sat.go (Eq.refl _) (NS.no (rfl) ?_)
        refine Sat.go (Eq.refl _) (NS.next ⟨(k + 1, top, w, R ++ [l.getD k default], f), by show k + 1 ≤ l.length; omega, by show (R ++ [l.getD k default]).length ≤ k + 1; simp; omega, o'⟩ (by show l.length - (k + 1) < l.length - k; omega) ?_)
        refine weak_hd [(8, 83)] rfl ⟨rfl, rfl, rfl, rfl, rfl, rfl, ren_int rfl (i64_k (k := k) (n := l.length) h (by omega)), trivial⟩ ⟨⟨_, rfl, ren_win _ _⟩, ⟨_, _, _, rfl, rfl, fun q hq => rfl⟩, ren_row rfl (by simp) ?_, trivial⟩ trivial (by kernel_rfl)
        intro i hi j hj
        exact row_snoc (cells := nC) (l := R) (x := l.getD k default) (c := 1) rfl i (by simpa using hi) j hj
      | false =>
        rw [accM_4 (by rw [hcw]; rfl) hb hr] at c
        obtain ⟨o', hf⟩ := o.new hv.1 hv.2 hr
        have hsn := seen_ok w (l.getD k default)
        rw [seen_t g hv.1 hv.2, hr] at hsn
        have hck := check_ok (accW w (l.getD k default))
        rw [(good_iff _).2 o'.g] at hck
        have ha := anyU_ok (R ++ [l.getD k default]) (accW w (l.getD k default)) (by simp; omega)
        rw [onc_all o'] at ha
        have em : (if l.getD k default > top then l.getD k default else top) = max top (l.getD k default) := by split <;> omega
        refine Sat.go (Eq.refl _) (NS.call (c) rfl ?_)
        refine Sat.go (Eq.refl _) (NS.no (decide_eq_false (by show ¬ l.getD k default < 0; omega)) ?_)
        refine Sat.go (Eq.refl _) (NS.no (decide_eq_false (by show ¬ l.getD k default > 1152921504606846976; omega)) ?_)
        refine Sat.go (Eq.refl _) (NS.no (rfl) ?_)
        refine Sat.go (Eq.refl _) (NS.call (hsn) rfl ?_)
        refine Sat.go (Eq.refl _) (NS.no (rfl) ?_)
        refine Sat.go (Eq.refl _) (NS.yes (rfl) ?_)
        refine Sat.go (Eq.refl _) (NS.no (hf) ?_)
        refine Sat.go (Eq.refl _) (NS.no (rfl) ?_)
        refine Sat.go (Eq.refl _) (NS.need (decide_eq_true (by simp only [maxRow]; omega)) ?_)
        refine Sat.go (Eq.refl _) (NS.yes (rfl) ?_)
        refine Sat.go (Eq.refl _) (NS.call (hck) rfl ?_)
        refine Sat.go (Eq.refl _) (NS.no (rfl) ?_)
        refine Sat.go (Eq.refl _) (NS.no (by show ((accW w (l.getD k default)).top != (if l.getD k default > top then l.getD k default else top)) = false; rw [em, o'.tp]; simp) ?_)
        refine Sat.go (Eq.refl _) (NS.call (ha.le (LeL.cons (LeA.sl (by simp) (row_snoc (cells := nC) (l := R) (x := l.getD k default) (c := 1) rfl)) (LeL.cons (LeA.refl _) LeL.nil))) rfl ?_)
        refine Sat.go (Eq.refl _) (NS.no (rfl) ?_)
        refine Sat.go (Eq.refl _) (NS.next ⟨(k + 1, max top (l.getD k default), accW w (l.getD k default), R ++ [l.getD k default], fun m => m == l.getD k default || f m), by show k + 1 ≤ l.length; omega, by show (R ++ [l.getD k default]).length ≤ k + 1; simp; omega, o'⟩ (by show l.length - (k + 1) < l.length - k; omega) ?_)
        refine weak_hd [(8, 83)] rfl ⟨rfl, rfl, rfl, ren_int rfl em, rfl, rfl, ren_int rfl (i64_k (k := k) (n := l.length) h (by omega)), trivial⟩ ⟨⟨_, rfl, ren_win _ _⟩, ⟨_, _, _, rfl, rfl, map_put f (l.getD k default)⟩, ren_row rfl (by simp) ?_, trivial⟩ trivial (by kernel_rfl)
        intro i hi j hj
        exact row_snoc (cells := nC) (l := R) (x := l.getD k default) (c := 1) rfl i (by simpa using hi) j hj
    · rw [accM_2 (by rw [hcw]; rfl) (by rw [Bool.or_eq_true, decide_eq_true_eq, decide_eq_true_eq]; omega)] at c
      refine Sat.go (Eq.refl _) (NS.call (c) rfl ?_)
      by_cases h0 : l.getD k default < 0
      · refine Sat.go (Eq.refl _) (NS.yes (decide_eq_true h0) ?_)
        refine Sat.go (Eq.refl _) (NS.no (rfl) ?_)
        refine Sat.go (Eq.refl _) (NS.next ⟨(k + 1, top, w, R, f), by show k + 1 ≤ l.length; omega, by show R.length ≤ k + 1; omega, o⟩ (by show l.length - (k + 1) < l.length - k; omega) ?_)
        exact weak_hd [] rfl ⟨rfl, rfl, rfl, rfl, rfl, rfl, ren_int rfl (i64_k (k := k) (n := l.length) h (by omega)), trivial⟩ ⟨⟨_, rfl, ren_win _ _⟩, ⟨_, _, _, rfl, rfl, fun q hq => rfl⟩, ren_row rfl rfl fun i hi j hj => rfl, trivial⟩ trivial (by kernel_rfl)
      · refine Sat.go (Eq.refl _) (NS.no (decide_eq_false h0) ?_)
        refine Sat.go (Eq.refl _) (NS.yes (decide_eq_true (by show l.getD k default > 1152921504606846976; omega)) ?_)
        refine Sat.go (Eq.refl _) (NS.no (rfl) ?_)
        refine Sat.go (Eq.refl _) (NS.next ⟨(k + 1, top, w, R, f), by show k + 1 ≤ l.length; omega, by show R.length ≤ k + 1; omega, o⟩ (by show l.length - (k + 1) < l.length - k; omega) ?_)
        exact weak_hd [] rfl ⟨rfl, rfl, rfl, rfl, rfl, rfl, ren_int rfl (i64_k (k := k) (n := l.length) h (by omega)), trivial⟩ ⟨⟨_, rfl, ren_win _ _⟩, ⟨_, _, _, rfl, rfl, fun q hq => rfl⟩, ren_row rfl rfl fun i hi j hj => rfl, trivial⟩ trivial (by kernel_rfl)
  · refine Sat.go (Eq.refl _) (NS.leave rfl (Eq.refl _) ?_)
    refine Sat.go (Eq.refl _) (NS.call (awake_ok) rfl ?_)
    exact Sat.go (Eq.refl _) (NS.ret rfl rfl (LeA.of (congrArg A.bool (rfl))))
end Go.Proofs.Ytphegncldncaiaa
