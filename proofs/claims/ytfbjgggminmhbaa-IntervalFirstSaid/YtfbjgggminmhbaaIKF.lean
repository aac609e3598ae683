/- The walk of IntervalFirst. -/
import Derived.Test.YtfbjgggminmhbaaIJ
set_option linter.unusedSimpArgs false
set_option linter.unusedSectionVars false
set_option linter.unusedVariables false
namespace Go.Mb
open Go.Sy
theorem first_least : ∀ (l : List Spn) {f n c : Int}, SetL l → 1 ≤ n → f ≤ c → l.any (cov1 ⟨c, c + n⟩) = true → (firstL f n l).2 = 0 ∧ (firstL f n l).1 ≤ c
  | [], f, n, c, _, _, _, h => by simp at h
  | x :: l, f, n, c, hs, hn, hf, h => by
    obtain ⟨s1, s2, s3⟩ := set_cons.1 hs
    simp only [vS, Bool.and_eq_true, decide_eq_true_eq] at s1
    rw [List.any_cons, Bool.or_eq_true] at h
    unfold firstL
    rcases h with h | h
    · simp only [cov1, Bool.and_eq_true, decide_eq_true_eq] at h
      rw [if_pos (by omega)]
      exact ⟨rfl, by simp only; omega⟩
    · split
      · refine ⟨rfl, ?_⟩
        rw [List.any_eq_true] at h
        obtain ⟨y, hy, h⟩ := h
        simp only [cov1, Bool.and_eq_true, decide_eq_true_eq] at h
        have := s2 _ (flat_mem hy).1
        simp only; omega
      · exact first_least l s3 hn hf h
theorem first_cases : ∀ (l : List Spn) (f n : Int), SetL l → 1 ≤ n → (∃ b, firstL f n l = (b, 0) ∧ f ≤ b ∧ l.any (cov1 ⟨b, b + n⟩) = true ∧ -1152921504606846976 ≤ b ∧ b + n ≤ 1152921504606846976) ∨ firstL f n l = (0, 7)
  | [], f, n, _, _ => .inr rfl
  | x :: l, f, n, hs, hn => by
    obtain ⟨s1, s2, s3⟩ := set_cons.1 hs
    simp only [vS, Bool.and_eq_true, decide_eq_true_eq] at s1
    unfold firstL
    split
    · rename_i h
      refine .inl ⟨_, rfl, by omega, ?_, by omega, by omega⟩
      rw [List.any_cons]
      have : cov1 ⟨max x.lo f, max x.lo f + n⟩ x = true := by simp only [cov1, Bool.and_eq_true, decide_eq_true_eq]; omega
      rw [this]; rfl
    · rcases first_cases l f n s3 hn with ⟨b, h1, h2, h3, h4⟩ | h
      · exact .inl ⟨b, h1, h2, by rw [List.any_cons, h3]; simp, h4⟩
      · exact .inr h
theorem coversM_any {l : List Spn} {x : Spn} (h : coversM l x = true) : l.any (cov1 x) = true := by
  unfold coversM at h
  simp only [Bool.and_eq_true] at h
  exact h.2.2
theorem cov_less {l : List Spn} {c n m : Int} (h : l.any (cov1 ⟨c, c + n⟩) = true) (hm : m ≤ n) : l.any (cov1 ⟨c, c + m⟩) = true := by
  rw [List.any_eq_true] at h ⊢
  obtain ⟨y, hy, h⟩ := h
  refine ⟨y, hy, ?_⟩
  simp only [cov1, Bool.and_eq_true, decide_eq_true_eq] at h ⊢
  omega
end Go.Mb
namespace Go.Proofs.Ytfbjgggminmhbaa
open Go.Sy Go.Mb
set_option maxRecDepth 100000
set_option linter.unusedVariables false
set_option maxHeartbeats 1000000

theorem conv16 {x : Nat} (h : x < 65536) : IntKind.i64.wrap (x : Int) = x := wrap_i64 (by omega) (by omega)
theorem intervalFirst_ok (l : List Spn) (f n : Int) (m : Nat) (hm : m < 65536) (p : Nat) (hp : p < 65536) : FnOK Try.prog 4 [slS l, .int .i64 f, .int .i64 n, .int .u16 m, .int .u16 p] (.bool true, none) := by
  refine fn_ok CN rfl (by kernel_rfl) Try.func4 rfl ?_
  refine Sat.go (Eq.refl _) (NS.call (fine1_ok l rfl) rfl ?_)
  refine Sat.go (Eq.refl _) (NS.ite (fun h0 => ?_) (fun h0 => ?_))
  · refine Sat.go (Eq.refl _) (NS.call awake_ok rfl ?_)
    exact Sat.go (Eq.refl _) (NS.ret rfl rfl (LeA.of rfl))
  refine Sat.go (Eq.refl _) (NS.ite (fun b1 => ?_) (fun b1 => ?_))
  · refine Sat.go (Eq.refl _) (NS.call awake_ok rfl ?_)
    exact Sat.go (Eq.refl _) (NS.ret rfl rfl (LeA.of rfl))
  refine Sat.go (Eq.refl _) (NS.ite (fun b2 => ?_) (fun b2 => ?_))
  · refine Sat.go (Eq.refl _) (NS.call awake_ok rfl ?_)
    exact Sat.go (Eq.refl _) (NS.ret rfl rfl (LeA.of rfl))
  refine Sat.go (Eq.refl _) (NS.ite (fun b3 => ?_) (fun b3 => ?_))
  · refine Sat.go (Eq.refl _) (NS.call awake_ok rfl ?_)
    exact Sat.go (Eq.refl _) (NS.ret rfl rfl (LeA.of rfl))
  refine Sat.go (Eq.refl _) (NS.ite (fun b4 => ?_) (fun b4 => ?_))
  · refine Sat.go (Eq.refl _) (NS.call awake_ok rfl ?_)
    exact Sat.go (Eq.refl _) (NS.ret rfl rfl (LeA.of rfl))
  have c16 := conv16 hp
  have c16m := conv16 hm
  obtain ⟨cl, ll⟩ := bad1_f (not_t (not_f h0))
  obtain ⟨_, sl⟩ := (chkS_zero l).1 cl
  have n1 : 1 ≤ n := by simp at b1; omega
  have n2 : n ≤ 1152921504606846976 := by simp at b2; omega
  have f1 : -1152921504606846976 ≤ f := by simp at b3; omega
  have f2 : f + p ≤ 1152921504606846976 := by
    have b4 : ¬ f > IntKind.i64.wrap (1152921504606846976 - IntKind.i64.wrap (p : Int)) := of_decide_eq_false b4
    rw [c16, wrap_i64 (by omega) (by omega)] at b4
    omega
  have hb : badF f n = false := by simp [badF]; omega
  have hz : (chkS l != 0) = false := by rw [cl]; rfl
  have g1 := firstM_go hz hb
  rw [List.drop_zero] at g1
  have c1 := first_ok l f n
  rw [g1] at c1
  have e4 : IntKind.i64.wrap (f + IntKind.i64.wrap (p : Int)) = f + p := by rw [c16]; exact wrap_i64 (by omega) (by omega)
  have e5 : IntKind.i64.wrap (n + IntKind.i64.wrap (m : Int)) = n + m := by rw [c16m]; exact wrap_i64 (by omega) (by omega)
  have e6 : (if 1152921504606846976 < IntKind.i64.wrap (n + IntKind.i64.wrap (m : Int)) then 1152921504606846976 else IntKind.i64.wrap (n + IntKind.i64.wrap (m : Int))) = min (n + m) 1152921504606846976 := by rw [e5]; split <;> omega
  obtain ⟨n3, hn3⟩ : ∃ n3, n3 = min (n + (m : Int)) 1152921504606846976 := ⟨_, rfl⟩
  rw [← hn3] at e6
  obtain ⟨f3, hf3⟩ : ∃ f3, f3 = f + (p : Int) := ⟨_, rfl⟩
  rw [← hf3] at e4
  have hb2 : badF f3 n3 = false := by simp [badF]; omega
  have g2 := firstM_go hz hb2
  rw [List.drop_zero] at g2
  have c2 := first_ok l f3 n3
  rw [g2] at c2
  rcases first_cases l f n sl n1 with ⟨b, hr, hr1, hr2, hr3, hr4⟩ | hr
  · rw [hr] at c1
    have hnext : ∀ c, f ≤ c → l.any (cov1 ⟨c, c + n⟩) = true → (0 : Int) = 0 ∧ b ≤ c := fun c h1 h2 => by
      have := first_least l sl n1 h1 h2
      rw [hr] at this
      exact this
    refine Sat.go (Eq.refl _) (NS.call c1 rfl ?_)
    have e9 : IntKind.i64.wrap (b + n) = b + n := wrap_i64 (by omega) (by omega)
    have c4 := covers_ok l ⟨b, IntKind.i64.wrap (b + n)⟩
    have hv : vS ⟨b, b + n⟩ = true := by simp only [vS, Bool.and_eq_true, decide_eq_true_eq]; omega
    rw [show coversM l ⟨b, IntKind.i64.wrap (b + n)⟩ = true by rw [e9]; unfold coversM; rw [cl, hv, hr2]; rfl] at c4
    refine Sat.go (Eq.refl _) (NS.yes rfl ?_)
    refine Sat.go (Eq.refl _) (NS.no (decide_eq_false (by omega)) ?_)
    refine Sat.go (Eq.refl _) (NS.call c4 rfl ?_)
    refine Sat.go (Eq.refl _) (NS.no rfl ?_)
    refine Sat.go (Eq.refl _) ?_
    refine NS.loop (σ := { k : Nat // k ≤ l.length }) (fun k => [(0, slS l), (1, .int .i64 f), (2, .int .i64 n), (3, .int .u16 m), (4, .int .u16 p), (11, .int .i64 b), (12, .int .i64 0), (68, slS l), (69, .int .i64 l.length), (70, .int .i64 k.1)]) (fun k => []) (fun k => l.length - k.1) ⟨0, Nat.zero_le _⟩ ?_ ?_
    · exact weak_hd [] rfl ⟨rfl, rfl, rfl, rfl, rfl, rfl, rfl, rfl, rfl, rfl, trivial⟩ trivial trivial (by kernel_rfl)
    rintro ⟨k, hk⟩
    refine Sat.go (Eq.refl _) (NS.ite (fun h => ?_) (fun h => ?_))
    · have h : k < l.length := by simpa using h
      have hat := chkS_at cl h
      refine Sat.go (Eq.refl _) (NS.need (by simp; omega) ?_)
      refine Sat.go (Eq.refl _) ?_
      have hmx : (if (l.getD k default).lo > f then (l.getD k default).lo else f) = max f (l.getD k default).lo := max_a _ _
      obtain ⟨w, hw⟩ : ∃ w, w = max f (l.getD k default).lo := ⟨_, rfl⟩
      have e7 : IntKind.i64.wrap (w + IntKind.i64.wrap (m : Int)) = w + m := by rw [c16m]; exact wrap_i64 (by omega) (by omega)
      refine NS.loop (σ := { i : Nat // i ≤ 2 }) (fun i => [(0, slS l), (1, .int .i64 f), (2, .int .i64 n), (3, .int .u16 m), (4, .int .u16 p), (11, .int .i64 b), (12, .int .i64 0), (68, slS l), (69, .int .i64 l.length), (70, .int .i64 k), (83, .own 83), (84, .int .i64 2), (85, .int .i64 i.1)]) (fun i => [(83, .row 3 1 2 (rowL nC [w, w + m]))]) (fun i => 2 - i.1) ⟨0, Nat.zero_le _⟩ ?_ ?_
      · refine weak_hd [] rfl ⟨rfl, rfl, rfl, rfl, rfl, rfl, rfl, rfl, rfl, rfl, rfl, rfl, rfl, trivial⟩ ⟨ren_row rfl rfl fun q hq j hj => ?_, trivial⟩ trivial (by kernel_rfl)
        match q, j, hq, hj with
        | 0, 0, _, _ => exact congrArg (A.int .i64) (hmx.trans hw.symm)
        | 1, 0, _, _ =>
          refine congrArg (A.int .i64) (Eq.trans ?_ e7)
          exact congrArg (fun z => IntKind.i64.wrap (z + IntKind.i64.wrap (m : Int))) (hmx.trans hw.symm)
      rintro ⟨i, hi⟩
      refine Sat.go (Eq.refl _) (NS.ite (fun h2 => ?_) (fun h2 => ?_))
      · have h2 : i < 2 := by simp at h2; omega
        have hc : ∃ c, ([w, w + (m : Int)] : List Int).getD i default = c ∧ f ≤ c ∧ -1152921504606846976 ≤ c ∧ c ≤ 1152921504606846976 + 65536 := by
          match i, h2 with
          | 0, _ => exact ⟨w, rfl, by omega, by omega, by omega⟩
          | 1, _ => exact ⟨w + m, rfl, by omega, by omega, by omega⟩
        obtain ⟨c, hc1, hc2, hc3, hc4⟩ := hc
        have e8 : IntKind.i64.wrap (([w, w + (m : Int)] : List Int).getD i default + n) = c + n := by rw [hc1]; exact wrap_i64 (by omega) (by omega)
        have c3 := covers_ok l ⟨([w, w + (m : Int)] : List Int).getD i default, IntKind.i64.wrap (([w, w + (m : Int)] : List Int).getD i default + n)⟩
        have hq : coversM l ⟨([w, w + (m : Int)] : List Int).getD i default, IntKind.i64.wrap (([w, w + (m : Int)] : List Int).getD i default + n)⟩ = true → (0 : Int) = 0 ∧ b ≤ c := fun hq => by
          rw [e8, hc1] at hq
          exact hnext c hc2 (coversM_any hq)
        refine Sat.go (Eq.refl _) (NS.need (by simp; omega) ?_)
        refine Sat.go (Eq.refl _) (NS.need (by simp; omega) ?_)
        refine Sat.go (Eq.refl _) (NS.call c3 rfl ?_)
        refine Sat.go (Eq.refl _) (NS.ite (fun h3 => ?_) (fun h3 => ?_))
        · have h4 := hq h3
          refine Sat.go (Eq.refl _) (NS.no rfl ?_)
          refine Sat.go (Eq.refl _) (NS.no (decide_eq_false (show ¬ ([w, w + (m : Int)] : List Int).getD i default < b by rw [hc1]; omega)) ?_)
          refine Sat.go (Eq.refl _) (NS.next ⟨i + 1, by omega⟩ (by simp; omega) (weak_hd [] rfl ⟨rfl, rfl, rfl, rfl, rfl, rfl, rfl, rfl, rfl, rfl, rfl, rfl, ren_int rfl (i64_k (k := i) (n := 2) (by omega) (by omega)), trivial⟩ ⟨ren_row rfl rfl fun _ _ _ _ => rfl, trivial⟩ trivial (by kernel_rfl)))
        · refine Sat.go (Eq.refl _) (NS.next ⟨i + 1, by omega⟩ (by simp; omega) ?_)
          exact weak_hd [] rfl ⟨rfl, rfl, rfl, rfl, rfl, rfl, rfl, rfl, rfl, rfl, rfl, rfl, ren_int rfl (i64_k (k := i) (n := 2) (by omega) (by omega)), trivial⟩ ⟨ren_row rfl rfl fun _ _ _ _ => rfl, trivial⟩ trivial (by kernel_rfl)
      · refine Sat.go (Eq.refl _) (NS.leave rfl (Eq.refl _) ?_)
        refine Sat.go (Eq.refl _) (NS.next ⟨k + 1, by omega⟩ (by simp; omega) ?_)
        exact weak_hd [] rfl ⟨rfl, rfl, rfl, rfl, rfl, rfl, rfl, rfl, rfl, ren_int rfl (i64_k (k := k) (n := l.length) (by omega) (by omega)), trivial⟩ trivial trivial (by kernel_rfl)
    refine Sat.go (Eq.refl _) (NS.leave rfl (Eq.refl _) ?_)
    refine Sat.go (Eq.refl _) (NS.yes rfl ?_)
    have hlast : ∀ q, q = coversM l ⟨IntKind.i64.wrap (b - 1), IntKind.i64.wrap (IntKind.i64.wrap (b - 1) + n)⟩ → b > f → q = false := fun q hq hgt => by
      rw [wrap_i64 (n := b - 1) (by omega) (by omega), wrap_i64 (by omega) (by omega)] at hq
      cases q
      · rfl
      · have := hnext (b - 1) (by omega) (coversM_any hq.symm); omega
    rcases first_cases l f3 n3 sl (by omega) with ⟨c, hs, hs1, hs2, hs3, hs4⟩ | hs
    · have hbc : b ≤ c := (hnext c (by omega) (cov_less hs2 (by omega))).2
      rw [hs] at c2
      refine Sat.go (Eq.refl _) (NS.ite (fun h5 => ?_) (fun h5 => ?_))
      · have h5 : b > f := of_decide_eq_true h5
        refine Sat.go (Eq.refl _) (NS.call (covers_ok l ⟨IntKind.i64.wrap (b - 1), IntKind.i64.wrap (IntKind.i64.wrap (b - 1) + n)⟩) rfl ?_)
        refine Sat.go (Eq.refl _) (NS.no (hlast _ rfl h5) ?_)
        refine Sat.go (Eq.refl _) (NS.call (c2.le (LeL.cons (LeA.refl _) (LeL.cons (LeA.of (congrArg (A.int .i64) e4)) (LeL.cons (LeA.of (congrArg (A.int .i64) e6)) LeL.nil)))) rfl ?_)
        refine Sat.go (Eq.refl _) (NS.yes rfl ?_)
        refine Sat.go (Eq.refl _) (NS.no rfl ?_)
        refine Sat.go (Eq.refl _) (NS.no (decide_eq_false (by omega)) ?_)
        refine Sat.go (Eq.refl _) (NS.yes rfl ?_)
        refine Sat.go (Eq.refl _) (NS.call awake_ok rfl ?_)
        exact Sat.go (Eq.refl _) (NS.ret rfl rfl (LeA.of rfl))
      · refine Sat.go (Eq.refl _) (NS.call (c2.le (LeL.cons (LeA.refl _) (LeL.cons (LeA.of (congrArg (A.int .i64) e4)) (LeL.cons (LeA.of (congrArg (A.int .i64) e6)) LeL.nil)))) rfl ?_)
        refine Sat.go (Eq.refl _) (NS.yes rfl ?_)
        refine Sat.go (Eq.refl _) (NS.no rfl ?_)
        refine Sat.go (Eq.refl _) (NS.no (decide_eq_false (by omega)) ?_)
        refine Sat.go (Eq.refl _) (NS.yes rfl ?_)
        refine Sat.go (Eq.refl _) (NS.call awake_ok rfl ?_)
        exact Sat.go (Eq.refl _) (NS.ret rfl rfl (LeA.of rfl))
    · rw [hs] at c2
      refine Sat.go (Eq.refl _) (NS.ite (fun h5 => ?_) (fun h5 => ?_))
      · have h5 : b > f := of_decide_eq_true h5
        refine Sat.go (Eq.refl _) (NS.call (covers_ok l ⟨IntKind.i64.wrap (b - 1), IntKind.i64.wrap (IntKind.i64.wrap (b - 1) + n)⟩) rfl ?_)
        refine Sat.go (Eq.refl _) (NS.no (hlast _ rfl h5) ?_)
        refine Sat.go (Eq.refl _) (NS.call (c2.le (LeL.cons (LeA.refl _) (LeL.cons (LeA.of (congrArg (A.int .i64) e4)) (LeL.cons (LeA.of (congrArg (A.int .i64) e6)) LeL.nil)))) rfl ?_)
        refine Sat.go (Eq.refl _) (NS.no rfl ?_)
        refine Sat.go (Eq.refl _) (NS.yes rfl ?_)
        refine Sat.go (Eq.refl _) (NS.call awake_ok rfl ?_)
        exact Sat.go (Eq.refl _) (NS.ret rfl rfl (LeA.of rfl))
      · refine Sat.go (Eq.refl _) (NS.call (c2.le (LeL.cons (LeA.refl _) (LeL.cons (LeA.of (congrArg (A.int .i64) e4)) (LeL.cons (LeA.of (congrArg (A.int .i64) e6)) LeL.nil)))) rfl ?_)
        refine Sat.go (Eq.refl _) (NS.no rfl ?_)
        refine Sat.go (Eq.refl _) (NS.yes rfl ?_)
        refine Sat.go (Eq.refl _) (NS.call awake_ok rfl ?_)
        exact Sat.go (Eq.refl _) (NS.ret rfl rfl (LeA.of rfl))
  · rw [hr] at c1
    have hnext : ∀ c, f ≤ c → l.any (cov1 ⟨c, c + n⟩) = true → (7 : Int) = 0 ∧ 0 ≤ c := fun c h1 h2 => by
      have := first_least l sl n1 h1 h2
      rw [hr] at this
      exact this
    refine Sat.go (Eq.refl _) (NS.call c1 rfl ?_)
    refine Sat.go (Eq.refl _) (NS.no rfl ?_)
    refine Sat.go (Eq.refl _) ?_
    refine NS.loop (σ := { k : Nat // k ≤ l.length }) (fun k => [(0, slS l), (1, .int .i64 f), (2, .int .i64 n), (3, .int .u16 m), (4, .int .u16 p), (11, .int .i64 0), (12, .int .i64 7), (68, slS l), (69, .int .i64 l.length), (70, .int .i64 k.1)]) (fun k => []) (fun k => l.length - k.1) ⟨0, Nat.zero_le _⟩ ?_ ?_
    · exact weak_hd [] rfl ⟨rfl, rfl, rfl, rfl, rfl, rfl, rfl, rfl, rfl, rfl, trivial⟩ trivial trivial (by kernel_rfl)
    rintro ⟨k, hk⟩
    refine Sat.go (Eq.refl _) (NS.ite (fun h => ?_) (fun h => ?_))
    · have h : k < l.length := by simpa using h
      have hat := chkS_at cl h
      refine Sat.go (Eq.refl _) (NS.need (by simp; omega) ?_)
      refine Sat.go (Eq.refl _) ?_
      have hmx : (if (l.getD k default).lo > f then (l.getD k default).lo else f) = max f (l.getD k default).lo := max_a _ _
      obtain ⟨w, hw⟩ : ∃ w, w = max f (l.getD k default).lo := ⟨_, rfl⟩
      have e7 : IntKind.i64.wrap (w + IntKind.i64.wrap (m : Int)) = w + m := by rw [c16m]; exact wrap_i64 (by omega) (by omega)
      refine NS.loop (σ := { i : Nat // i ≤ 2 }) (fun i => [(0, slS l), (1, .int .i64 f), (2, .int .i64 n), (3, .int .u16 m), (4, .int .u16 p), (11, .int .i64 0), (12, .int .i64 7), (68, slS l), (69, .int .i64 l.length), (70, .int .i64 k), (83, .own 83), (84, .int .i64 2), (85, .int .i64 i.1)]) (fun i => [(83, .row 3 1 2 (rowL nC [w, w + m]))]) (fun i => 2 - i.1) ⟨0, Nat.zero_le _⟩ ?_ ?_
      · refine weak_hd [] rfl ⟨rfl, rfl, rfl, rfl, rfl, rfl, rfl, rfl, rfl, rfl, rfl, rfl, rfl, trivial⟩ ⟨ren_row rfl rfl fun q hq j hj => ?_, trivial⟩ trivial (by kernel_rfl)
        match q, j, hq, hj with
        | 0, 0, _, _ => exact congrArg (A.int .i64) (hmx.trans hw.symm)
        | 1, 0, _, _ =>
          refine congrArg (A.int .i64) (Eq.trans ?_ e7)
          exact congrArg (fun z => IntKind.i64.wrap (z + IntKind.i64.wrap (m : Int))) (hmx.trans hw.symm)
      rintro ⟨i, hi⟩
      refine Sat.go (Eq.refl _) (NS.ite (fun h2 => ?_) (fun h2 => ?_))
      · have h2 : i < 2 := by simp at h2; omega
        have hc : ∃ c, ([w, w + (m : Int)] : List Int).getD i default = c ∧ f ≤ c ∧ -1152921504606846976 ≤ c ∧ c ≤ 1152921504606846976 + 65536 := by
          match i, h2 with
          | 0, _ => exact ⟨w, rfl, by omega, by omega, by omega⟩
          | 1, _ => exact ⟨w + m, rfl, by omega, by omega, by omega⟩
        obtain ⟨c, hc1, hc2, hc3, hc4⟩ := hc
        have e8 : IntKind.i64.wrap (([w, w + (m : Int)] : List Int).getD i default + n) = c + n := by rw [hc1]; exact wrap_i64 (by omega) (by omega)
        have c3 := covers_ok l ⟨([w, w + (m : Int)] : List Int).getD i default, IntKind.i64.wrap (([w, w + (m : Int)] : List Int).getD i default + n)⟩
        have hq : coversM l ⟨([w, w + (m : Int)] : List Int).getD i default, IntKind.i64.wrap (([w, w + (m : Int)] : List Int).getD i default + n)⟩ = true → (7 : Int) = 0 ∧ 0 ≤ c := fun hq => by
          rw [e8, hc1] at hq
          exact hnext c hc2 (coversM_any hq)
        refine Sat.go (Eq.refl _) (NS.need (by simp; omega) ?_)
        refine Sat.go (Eq.refl _) (NS.need (by simp; omega) ?_)
        refine Sat.go (Eq.refl _) (NS.call c3 rfl ?_)
        refine Sat.go (Eq.refl _) (NS.ite (fun h3 => ?_) (fun h3 => ?_))
        · exact absurd (hq h3).1 (by omega)
        · refine Sat.go (Eq.refl _) (NS.next ⟨i + 1, by omega⟩ (by simp; omega) ?_)
          exact weak_hd [] rfl ⟨rfl, rfl, rfl, rfl, rfl, rfl, rfl, rfl, rfl, rfl, rfl, rfl, ren_int rfl (i64_k (k := i) (n := 2) (by omega) (by omega)), trivial⟩ ⟨ren_row rfl rfl fun _ _ _ _ => rfl, trivial⟩ trivial (by kernel_rfl)
      · refine Sat.go (Eq.refl _) (NS.leave rfl (Eq.refl _) ?_)
        refine Sat.go (Eq.refl _) (NS.next ⟨k + 1, by omega⟩ (by simp; omega) ?_)
        exact weak_hd [] rfl ⟨rfl, rfl, rfl, rfl, rfl, rfl, rfl, rfl, rfl, ren_int rfl (i64_k (k := k) (n := l.length) (by omega) (by omega)), trivial⟩ trivial trivial (by kernel_rfl)
    refine Sat.go (Eq.refl _) (NS.leave rfl (Eq.refl _) ?_)
    refine Sat.go (Eq.refl _) (NS.no rfl ?_)
    rcases first_cases l f3 n3 sl (by omega) with ⟨c, hs, hs1, hs2, hs3, hs4⟩ | hs
    · exact absurd (hnext c (by omega) (cov_less hs2 (by omega))).1 (by omega)
    · rw [hs] at c2
      refine Sat.go (Eq.refl _) (NS.call (c2.le (LeL.cons (LeA.refl _) (LeL.cons (LeA.of (congrArg (A.int .i64) e4)) (LeL.cons (LeA.of (congrArg (A.int .i64) e6)) LeL.nil)))) rfl ?_)
      refine Sat.go (Eq.refl _) (NS.no rfl ?_)
      refine Sat.go (Eq.refl _) (NS.no rfl ?_)
      refine Sat.go (Eq.refl _) (NS.yes rfl ?_)
      refine Sat.go (Eq.refl _) (NS.yes rfl ?_)
      refine Sat.go (Eq.refl _) (NS.call awake_ok rfl ?_)
      exact Sat.go (Eq.refl _) (NS.ret rfl rfl (LeA.of rfl))
end Go.Proofs.Ytfbjgggminmhbaa
