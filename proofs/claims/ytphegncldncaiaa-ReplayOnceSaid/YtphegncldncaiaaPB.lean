/- The contracts of the checks of replay windows. -/
import Derived.Test.YtphegncldncaiaaPA
import Derived.Test.YtphegncldncaiaaProg
set_option linter.unusedSimpArgs false
set_option linter.unusedSectionVars false
set_option linter.unusedVariables false
namespace Go.Proofs.Ytphegncldncaiaa
open Go.Sy Go.Mb
set_option maxRecDepth 100000
set_option linter.unusedVariables false
set_option maxHeartbeats 1000000

noncomputable def EN : Env := { P := Try.prog, eqT := lookE [] }
theorem EN_ok : EqOK EN := eqOK_of (by intro p hp; cases hp)
noncomputable def CN : Cx := { E := EN, inl := [], ok := EN_ok }

theorem ren_win (σ : Nat → Nat) (w : Win) : RenL σ w.cells w.cells := ⟨_, _, rfl, rfl, _, _, rfl, rfl, _, _, rfl, rfl, rfl⟩
theorem win_le {r : Win × Int} {w : Win} {e : Int} {x : A} (h : r = (w, e)) (hx : LeA x (.agg w.cells)) : LeA (.tup [x, .int .i64 e]) (.tup [.agg r.1.cells, .int .i64 r.2]) := by
  subst h; exact LeA.tup2 hx (LeA.refl _)
theorem zero_le_win : LeA (.agg [.int .i64 0, .int .i64 0, .nils]) (.agg (Win.mk 0 0 []).cells) := LeA.agg (LeL.cons (LeA.refl _) (LeL.cons (LeA.refl _) (LeL.cons (LeA.nil' rfl) LeL.nil)))
theorem nil_le_win (s t : Int) : LeA (.agg [.int .i64 s, .int .i64 t, .nils]) (.agg (Win.mk s t []).cells) := LeA.agg (LeL.cons (LeA.refl _) (LeL.cons (LeA.refl _) (LeL.cons (LeA.nil' rfl) LeL.nil)))
def newM (s : Int) : Win × Int := if decide (s < 1) || decide (s > 64) then (⟨0, 0, []⟩, 2) else (⟨s, -1, []⟩, 0)
theorem new_ok (s : Int) : FnOK Try.prog 12 [.int .i64 s] (.tup [.agg (newM s).1.cells, .int .i64 (newM s).2], none) := by
  refine fn_ok CN rfl (by kernel_rfl) Try.func12 rfl ?_
  refine Sat.go (Eq.refl _) (NS.ite (fun h1 => ?_) (fun h1 => ?_))
  · exact Sat.go (Eq.refl _) (NS.ret rfl rfl (win_le (by unfold newM; rw [h1]; rfl) zero_le_win))
  refine Sat.go (Eq.refl _) (NS.ite (fun h2 => ?_) (fun h2 => ?_))
  · exact Sat.go (Eq.refl _) (NS.ret rfl rfl (win_le (by unfold newM; rw [h1, h2]; rfl) zero_le_win))
  · exact Sat.go (Eq.refl _) (NS.ret rfl rfl (win_le (by unfold newM; rw [h1, h2]; rfl) (nil_le_win _ _)))
theorem rNew_ok (s : Int) : FnOK Try.prog 13 [.int .i64 s] (.tup [.agg (newM s).1.cells, .int .i64 (newM s).2], none) := by
  refine fn_ok CN rfl (by kernel_rfl) Try.func13 rfl ?_
  refine Sat.go (Eq.refl _) (NS.ite (fun h1 => ?_) (fun h1 => ?_))
  · exact Sat.go (Eq.refl _) (NS.ret rfl rfl (win_le (by unfold newM; rw [h1]; rfl) zero_le_win))
  refine Sat.go (Eq.refl _) (NS.ite (fun h2 => ?_) (fun h2 => ?_))
  · exact Sat.go (Eq.refl _) (NS.ret rfl rfl (win_le (by unfold newM; rw [h1, h2]; rfl) zero_le_win))
  · exact Sat.go (Eq.refl _) (NS.ret rfl rfl (win_le (by unfold newM; rw [h1, h2]; rfl) (nil_le_win _ _)))

/-- The check, from the k-th number on. -/
def prevN (l : List Int) : Nat → Option Int
  | 0 => none
  | k + 1 => some (l.getD k default)
theorem chkW_b {w : Win} (h : badW w = true) : chkW w = 2 := by unfold chkW; rw [if_pos h]
theorem chkW_n {w : Win} (h : badW w = false) : chkW w = if chkN w none w.seen != 0 then chkN w none w.seen else if lastOK w then 0 else 10 := by
  unfold chkW; rw [if_neg (by rw [h]; simp)]
theorem chkW_s {w : Win} {e : Int} (h : badW w = false) (hc : chkN w none w.seen = e) (he : (e != 0) = true) : chkW w = e := by
  rw [chkW_n h, hc, if_pos he]
theorem chkW_l {w : Win} (h : badW w = false) (hc : chkN w none w.seen = 0) : chkW w = if lastOK w then 0 else 10 := by
  rw [chkW_n h, hc]; rfl
/-- What is known in front of the k-th number. -/
structure Up (w : Win) (k : Nat) : Prop where
  le : k ≤ w.seen.length
  eq : chkN w none w.seen = chkN w (prevN w.seen k) (w.seen.drop k)
  ok : chkN w none (w.seen.take k) = 0
theorem chkN_snoc {w : Win} {x : Int} : ∀ {p : Option Int} {l : List Int}, chkN w p l = 0 → badN w x = false → (∀ q ∈ l, q < x) → (∀ q, p = some q → q < x) → chkN w p (l ++ [x]) = 0 := by
  intro p l h hb hl hp
  obtain ⟨h1, h2, h3⟩ := chkN_zero.1 h
  refine chkN_zero.2 ⟨?_, ?_, ?_⟩
  · intro n hn
    rcases List.mem_append.1 hn with hn | hn
    · exact h1 n hn
    · rw [List.mem_singleton.1 hn]; exact hb
  · unfold AscN
    rw [List.pairwise_append]
    exact ⟨h2, by simp, fun a ha b hb => by rw [List.mem_singleton.1 hb]; exact hl a ha⟩
  · intro q hq n hn
    rcases List.mem_append.1 hn with hn | hn
    · exact h3 q hq n hn
    · rw [List.mem_singleton.1 hn]; exact hp q hq
theorem up_step {w : Win} {k : Nat} (u : Up w k) (h : k < w.seen.length) (hb : badN w (w.seen.getD k default) = false) (hp : gapN (w.seen.getD k default) (prevN w.seen k) = false) : Up w (k + 1) := by
  refine ⟨h, ?_, ?_⟩
  · rw [u.eq, drop_cons h, chkN, if_neg (by rw [hb]; simp), if_neg (by rw [hp]; simp)]; rfl
  · rw [take_snoc h]
    refine chkN_snoc u.ok hb ?_ (by simp)
    obtain ⟨_, h2, _⟩ := chkN_zero.1 u.ok
    intro q hq
    cases k with
    | zero => simp at hq
    | succ k =>
      simp only [prevN, gapN, decide_eq_false_iff_not] at hp
      have e1 : lastN (w.seen.take (k + 1)) = w.seen.getD k default := by
        unfold lastN
        rw [getD_lt (by simp; omega), getD_lt (by omega)]
        simp only [List.length_take, List.getElem_take]
        congr 1
        omega
      have := asc_le_last h2 q hq
      omega
theorem up_len {w : Win} {k : Nat} (u : Up w k) (hb : badW w = false) : k ≤ 64 := by
  obtain ⟨b1, b2, b3, b4⟩ := badW_f.1 hb
  obtain ⟨h1, h2, _⟩ := chkN_zero.1 u.ok
  have hl : (w.seen.take k).length = k := by have := u.le; simp; omega
  by_cases h0 : w.seen.take k = []
  · rw [h0] at hl; simp at hl; omega
  · have hne : (w.seen.take k).length ≠ 0 := fun e => h0 (List.eq_nil_of_length_eq_zero e)
    have hm := lastN_mem hne
    have hL := badN_f.1 (h1 _ hm)
    have hg : GoodW ⟨w.size, lastN (w.seen.take k), w.seen.take k⟩ := by
      refine ⟨b1, b2, by simp only; omega, by simp only; omega, h2, ?_, .inr hm⟩
      intro n hn
      have h3 := badN_f.1 (h1 n hn)
      have h4 := asc_le_last h2 n hn
      simp only
      omega
    have := good_len hg
    simp only at this
    omega
theorem top_sz {w : Win} (hb : badW w = false) : IntKind.i64.wrap (w.top - w.size) = w.top - w.size := by
  obtain ⟨b1, b2, b3, b4⟩ := badW_f.1 hb
  exact wrap_i64 (by omega) (by omega)
theorem up_bad {w : Win} {k : Nat} (u : Up w k) (h : k < w.seen.length) (hb : badW w = false) (hx : badN w (w.seen.getD k default) = true) : 2 = chkW w := by
  refine (chkW_s hb ?_ rfl).symm
  rw [u.eq, drop_cons h, chkN, if_pos hx]
theorem up_ord {w : Win} {k : Nat} (u : Up w (k + 1)) (h : k + 1 < w.seen.length) (hb : badW w = false) (hx : badN w (w.seen.getD (k + 1) default) = false) (hp : decide (w.seen.getD (k + 1) default ≤ w.seen.getD k default) = true) : 9 = chkW w := by
  refine (chkW_s hb ?_ rfl).symm
  rw [u.eq, drop_cons h, chkN, if_neg (by rw [hx]; simp)]
  have hp' : gapN (w.seen.getD (k + 1) default) (prevN w.seen (k + 1)) = true := hp
  rw [if_pos hp']
theorem up_end {w : Win} {k : Nat} (u : Up w k) (h : w.seen.length ≤ k) (hb : badW w = false) : chkW w = if lastOK w then 0 else 10 := by
  refine chkW_l hb ?_
  have := u.ok
  rwa [take_all h] at this
theorem last_1 {w : Win} (h : (w.top != -1) = false) : lastOK w = true := by
  simp only [lastOK, show (w.top == -1) = true by simpa using h, Bool.true_or]
theorem last_2 {w : Win} (h : (w.top != -1) = true) (h2 : ((w.seen.length : Int) == 0) = true) : lastOK w = false := by
  have e : w.seen.length = 0 := by simp at h2; simp [h2]
  simp only [lastOK, show (w.top == -1) = false by simpa using h, e]; rfl
theorem last_3 {w : Win} (h : (w.top != -1) = true) (h2 : ((w.seen.length : Int) == 0) = false) : lastOK w = (lastN w.seen == w.top) := by
  have e : (w.seen.length != 0) = true := by simp at h2; simp [h2]
  simp only [lastOK, show (w.top == -1) = false by simpa using h, e, Bool.true_and, Bool.false_or]
theorem len_pos {l : List Int} (h2 : ((l.length : Int) == 0) = false) : 0 < l.length := by
  have : (l.length : Int) ≠ 0 := by simpa using h2
  omega
theorem ge_ne {t : Int} (h : -1 ≤ t) : (decide (t ≥ 0)) = (t != -1) := by
  rw [Bool.eq_iff_iff]; simp; omega
theorem bW_t1 {w : Win} (h : decide (w.size < 1) = true) : badW w = true := by simp only [badW, h, Bool.true_or]
theorem bW_t2 {w : Win} (h : decide (w.size > 64) = true) : badW w = true := by simp only [badW, h, Bool.true_or, Bool.or_true]
theorem bW_t3 {w : Win} (h : decide (w.top < -1) = true) : badW w = true := by simp only [badW, h, Bool.true_or, Bool.or_true]
theorem bW_t4 {w : Win} (h : decide (w.top > 1152921504606846976) = true) : badW w = true := by simp only [badW, h, Bool.or_true]
theorem bN_t1 {w : Win} {n : Int} (h : decide (n < 0) = true) : badN w n = true := by simp only [badN, h, Bool.true_or]
theorem bN_t2 {w : Win} {n : Int} (h : decide (n > w.top) = true) : badN w n = true := by simp only [badN, h, Bool.true_or, Bool.or_true]
theorem bN_t3 {w : Win} {n : Int} (h : decide (n ≤ w.top - w.size) = true) : badN w n = true := by simp only [badN, h, Bool.or_true]
theorem check_ok (w : Win) : FnOK Try.prog 17 [.agg w.cells] (.int .i64 (chkW w), none) := by
  refine fn_ok CN rfl (by kernel_rfl) Try.func17 rfl ?_
  refine Sat.go (Eq.refl _) (NS.ite (fun h1 => ?_) (fun h1 => ?_))
  · exact Sat.go (Eq.refl _) (NS.ret rfl rfl (LeA.of (congrArg (A.int .i64) ((chkW_b (bW_t1 h1)).symm))))
  refine Sat.go (Eq.refl _) (NS.ite (fun h2 => ?_) (fun h2 => ?_))
  · exact Sat.go (Eq.refl _) (NS.ret rfl rfl (LeA.of (congrArg (A.int .i64) ((chkW_b (bW_t2 h2)).symm))))
  refine Sat.go (Eq.refl _) (NS.ite (fun h3 => ?_) (fun h3 => ?_))
  · exact Sat.go (Eq.refl _) (NS.ret rfl rfl (LeA.of (congrArg (A.int .i64) ((chkW_b (bW_t3 h3)).symm))))
  refine Sat.go (Eq.refl _) (NS.ite (fun h4 => ?_) (fun h4 => ?_))
  · exact Sat.go (Eq.refl _) (NS.ret rfl rfl (LeA.of (congrArg (A.int .i64) ((chkW_b (bW_t4 h4)).symm))))
  have hb : badW w = false := by
    have h1' : decide (w.size < 1) = false := h1
    have h2' : decide (w.size > 64) = false := h2
    have h3' : decide (w.top < -1) = false := h3
    have h4' : decide (w.top > 1152921504606846976) = false := h4
    simp only [badW, h1', h2', h3', h4']; rfl
  have ets := top_sz hb
  refine Sat.go (Eq.refl _) ?_
  refine NS.loop (σ := { k : Nat // Up w k }) (fun k => [(1, .ptr 1 0), (24, slN w.seen), (25, .int .i64 w.seen.length), (26, .int .i64 k.1)]) (fun _ => [(1, .box w.cells)]) (fun k => w.seen.length - k.1) ⟨0, Nat.zero_le _, rfl, rfl⟩ ?_ ?_
  · exact weak_hd [] rfl ⟨rfl, rfl, rfl, rfl, trivial⟩ ⟨⟨_, rfl, ren_win _ _⟩, trivial⟩ trivial (by kernel_rfl)
  · rintro ⟨k, u⟩
    have hk := up_len u hb
    refine Sat.go (Eq.refl _) (NS.ite (fun h => ?_) (fun h => ?_))
    · have h : k < w.seen.length := by simpa using h
      
      refine Sat.go (Eq.refl _) (NS.need (by simp; omega) ?_)
      refine Sat.go (Eq.refl _) (NS.ite (fun n1 => ?_) (fun n1 => ?_))
      · exact Sat.go (Eq.refl _) (NS.leaveOut rfl (Eq.refl _) (NS.ret rfl rfl (LeA.of (congrArg (A.int .i64) (up_bad u h hb (bN_t1 n1))))))
      
      refine Sat.go (Eq.refl _) (NS.ite (fun n2 => ?_) (fun n2 => ?_))
      · exact Sat.go (Eq.refl _) (NS.leaveOut rfl (Eq.refl _) (NS.ret rfl rfl (LeA.of (congrArg (A.int .i64) (up_bad u h hb (bN_t2 n2))))))
      
      refine Sat.go (Eq.refl _) (NS.ite (fun n3 => ?_) (fun n3 => ?_))
      · exact Sat.go (Eq.refl _) (NS.leaveOut rfl (Eq.refl _) (NS.ret rfl rfl (LeA.of (congrArg (A.int .i64) (up_bad u h hb (bN_t3 (by rw [← ets]; exact n3)))))))
      have hx : badN w (w.seen.getD k default) = false := by
        have n1' : decide (w.seen.getD k default < 0) = false := n1
        have n2' : decide (w.seen.getD k default > w.top) = false := n2
        have n3' : decide (w.seen.getD k default ≤ w.top - w.size) = false := by rw [← ets]; exact n3
        simp only [badN, n1', n2', n3']; rfl
      
      refine Sat.go (Eq.refl _) (NS.ite (fun h5 => ?_) (fun h5 => ?_))
      · obtain ⟨m, rfl⟩ : ∃ m, k = m + 1 := ⟨k - 1, by simp at h5; omega⟩
        have e1 : IntKind.i64.wrap (((m + 1 : Nat) : Int) - 1) = (m : Int) := i64_s (n := 100) (by omega) (by omega)
        
        refine Sat.go (Eq.refl _) (NS.need (by rw [e1]; simp; omega) ?_)
        rw [e1]
        refine Sat.go (Eq.refl _) (NS.ite (fun h6 => ?_) (fun h6 => ?_))
        · exact Sat.go (Eq.refl _) (NS.leaveOut rfl (Eq.refl _) (NS.ret rfl rfl (LeA.of (congrArg (A.int .i64) (up_ord u h hb hx h6)))))
        · refine Sat.go (Eq.refl _) (NS.next ⟨m + 2, up_step u h hx h6⟩ (by simp; omega) ?_)
          exact weak_hd [] rfl ⟨rfl, rfl, rfl, ren_int rfl (i64_k (k := m + 1) (n := 100) (by omega) (by omega)), trivial⟩ ⟨⟨_, rfl, ren_win _ _⟩, trivial⟩ trivial (by kernel_rfl)
      · obtain rfl : k = 0 := by simp at h5; omega
        refine Sat.go (Eq.refl _) (NS.next ⟨1, up_step u h hx rfl⟩ (by simp; omega) ?_)
        exact weak_hd [] rfl ⟨rfl, rfl, rfl, ren_int rfl (i64_k (k := 0) (n := 100) (by omega) (by omega)), trivial⟩ ⟨⟨_, rfl, ren_win _ _⟩, trivial⟩ trivial (by kernel_rfl)
    · have h : w.seen.length ≤ k := by simpa using h
      rw [up_end u h hb]
      refine Sat.go (Eq.refl _) (NS.leave rfl (Eq.refl _) ?_)
      refine Sat.go (Eq.refl _) (NS.chk (by kernel_rfl) ?_)
      refine Sat.go (Eq.refl _) (NS.ite (fun t1 => ?_) (fun t1 => ?_))
      · 
        refine Sat.go (Eq.refl _) (NS.ite (fun t2 => ?_) (fun t2 => ?_))
        · exact Sat.go (Eq.refl _) (NS.ret rfl rfl (LeA.of (congrArg (A.int .i64) ((by rw [last_2 t1 t2]; rfl)))))
        have hp := len_pos t2
        have e1 : IntKind.i64.wrap ((w.seen.length : Int) - 1) = ((w.seen.length - 1 : Nat) : Int) := by have := u.le; rw [wrap_i64 (by omega) (by omega)]; omega
        refine Sat.go (Eq.refl _) (NS.need (by rw [e1]; simp; omega) ?_)
        rw [e1, last_3 t1 t2]
        refine Sat.go (Eq.refl _) (NS.ite (fun t3 => ?_) (fun t3 => ?_))
        · have t3 : (lastN w.seen != w.top) = true := t3
          exact Sat.go (Eq.refl _) (NS.ret rfl rfl (LeA.of (congrArg (A.int .i64) ((by rw [show (lastN w.seen == w.top) = false by simpa using t3]; rfl)))))
        · have t3 : (lastN w.seen != w.top) = false := t3
          exact Sat.go (Eq.refl _) (NS.ret rfl rfl (LeA.of (congrArg (A.int .i64) ((by rw [show (lastN w.seen == w.top) = true by simpa using t3]; rfl)))))
      · 
        exact Sat.go (Eq.refl _) (NS.ret rfl rfl (LeA.of (congrArg (A.int .i64) ((by rw [last_1 t1]; rfl)))))
theorem rCheck_ok (w : Win) : FnOK Try.prog 18 [.agg w.cells] (.int .i64 (chkW w), none) := by
  refine fn_ok CN rfl (by kernel_rfl) Try.func18 rfl ?_
  refine Sat.go (Eq.refl _) (NS.ite (fun h1 => ?_) (fun h1 => ?_))
  · exact Sat.go (Eq.refl _) (NS.ret rfl rfl (LeA.of (congrArg (A.int .i64) ((chkW_b (bW_t1 h1)).symm))))
  refine Sat.go (Eq.refl _) (NS.ite (fun h2 => ?_) (fun h2 => ?_))
  · exact Sat.go (Eq.refl _) (NS.ret rfl rfl (LeA.of (congrArg (A.int .i64) ((chkW_b (bW_t2 h2)).symm))))
  refine Sat.go (Eq.refl _) (NS.ite (fun h3 => ?_) (fun h3 => ?_))
  · exact Sat.go (Eq.refl _) (NS.ret rfl rfl (LeA.of (congrArg (A.int .i64) ((chkW_b (bW_t3 h3)).symm))))
  refine Sat.go (Eq.refl _) (NS.ite (fun h4 => ?_) (fun h4 => ?_))
  · exact Sat.go (Eq.refl _) (NS.ret rfl rfl (LeA.of (congrArg (A.int .i64) ((chkW_b (bW_t4 h4)).symm))))
  have hb : badW w = false := by
    have h1' : decide (w.size < 1) = false := h1
    have h2' : decide (w.size > 64) = false := h2
    have h3' : decide (w.top < -1) = false := h3
    have h4' : decide (w.top > 1152921504606846976) = false := h4
    simp only [badW, h1', h2', h3', h4']; rfl
  have ets := top_sz hb
  refine Sat.go (Eq.refl _) ?_
  refine NS.loop (σ := { k : Nat // Up w k }) (fun k => [(1, .ptr 1 0), (3, .int .i64 k.1)]) (fun _ => [(1, .box w.cells)]) (fun k => w.seen.length - k.1) ⟨0, Nat.zero_le _, rfl, rfl⟩ ?_ ?_
  · exact weak_hd [] rfl ⟨rfl, rfl, trivial⟩ ⟨⟨_, rfl, ren_win _ _⟩, trivial⟩ trivial (by kernel_rfl)
  · rintro ⟨k, u⟩
    have hk := up_len u hb
    refine Sat.go (Eq.refl _) (NS.ite (fun h => ?_) (fun h => ?_))
    · have h : k < w.seen.length := by simpa using h
      refine Sat.go (Eq.refl _) (NS.chk (by kernel_rfl) ?_)
      refine Sat.go (Eq.refl _) (NS.need (by simp; omega) ?_)
      refine Sat.go (Eq.refl _) (NS.ite (fun n1 => ?_) (fun n1 => ?_))
      · exact Sat.go (Eq.refl _) (NS.leaveOut rfl (Eq.refl _) (NS.ret rfl rfl (LeA.of (congrArg (A.int .i64) (up_bad u h hb (bN_t1 n1))))))
      refine Sat.go (Eq.refl _) (NS.need (by simp; omega) ?_)
      refine Sat.go (Eq.refl _) (NS.ite (fun n2 => ?_) (fun n2 => ?_))
      · exact Sat.go (Eq.refl _) (NS.leaveOut rfl (Eq.refl _) (NS.ret rfl rfl (LeA.of (congrArg (A.int .i64) (up_bad u h hb (bN_t2 n2))))))
      refine Sat.go (Eq.refl _) (NS.need (by simp; omega) ?_)
      refine Sat.go (Eq.refl _) (NS.ite (fun n3 => ?_) (fun n3 => ?_))
      · exact Sat.go (Eq.refl _) (NS.leaveOut rfl (Eq.refl _) (NS.ret rfl rfl (LeA.of (congrArg (A.int .i64) (up_bad u h hb (bN_t3 (by rw [← ets]; exact n3)))))))
      have hx : badN w (w.seen.getD k default) = false := by
        have n1' : decide (w.seen.getD k default < 0) = false := n1
        have n2' : decide (w.seen.getD k default > w.top) = false := n2
        have n3' : decide (w.seen.getD k default ≤ w.top - w.size) = false := by rw [← ets]; exact n3
        simp only [badN, n1', n2', n3']; rfl
      refine Sat.go (Eq.refl _) (NS.chk (by kernel_rfl) ?_)
      refine Sat.go (Eq.refl _) (NS.ite (fun h5 => ?_) (fun h5 => ?_))
      · obtain ⟨m, rfl⟩ : ∃ m, k = m + 1 := ⟨k - 1, by simp at h5; omega⟩
        have e1 : IntKind.i64.wrap (((m + 1 : Nat) : Int) - 1) = (m : Int) := i64_s (n := 100) (by omega) (by omega)
        refine Sat.go (Eq.refl _) (NS.need (by simp; omega) ?_)
        refine Sat.go (Eq.refl _) (NS.need (by rw [e1]; simp; omega) ?_)
        rw [e1]
        refine Sat.go (Eq.refl _) (NS.ite (fun h6 => ?_) (fun h6 => ?_))
        · exact Sat.go (Eq.refl _) (NS.leaveOut rfl (Eq.refl _) (NS.ret rfl rfl (LeA.of (congrArg (A.int .i64) (up_ord u h hb hx h6)))))
        · refine Sat.go (Eq.refl _) (NS.next ⟨m + 2, up_step u h hx h6⟩ (by simp; omega) ?_)
          exact weak_hd [] rfl ⟨rfl,  ren_int rfl (i64_k (k := m + 1) (n := 100) (by omega) (by omega)), trivial⟩ ⟨⟨_, rfl, ren_win _ _⟩, trivial⟩ trivial (by kernel_rfl)
      · obtain rfl : k = 0 := by simp at h5; omega
        refine Sat.go (Eq.refl _) (NS.next ⟨1, up_step u h hx rfl⟩ (by simp; omega) ?_)
        exact weak_hd [] rfl ⟨rfl,  ren_int rfl (i64_k (k := 0) (n := 100) (by omega) (by omega)), trivial⟩ ⟨⟨_, rfl, ren_win _ _⟩, trivial⟩ trivial (by kernel_rfl)
    · have h : w.seen.length ≤ k := by simpa using h
      rw [up_end u h hb]
      refine Sat.go (Eq.refl _) (NS.leave rfl (Eq.refl _) ?_)
      refine Sat.go (Eq.refl _) (NS.chk (by kernel_rfl) ?_)
      refine Sat.go (Eq.refl _) (NS.ite (fun t1 => ?_) (fun t1 => ?_))
      · rw [ge_ne (badW_f.1 hb).2.2.1] at t1
        refine Sat.go (Eq.refl _) (NS.ite (fun t2 => ?_) (fun t2 => ?_))
        · exact Sat.go (Eq.refl _) (NS.ret rfl rfl (LeA.of (congrArg (A.int .i64) ((by rw [last_2 t1 t2]; rfl)))))
        have hp := len_pos t2
        have e1 : IntKind.i64.wrap ((w.seen.length : Int) - 1) = ((w.seen.length - 1 : Nat) : Int) := by have := u.le; rw [wrap_i64 (by omega) (by omega)]; omega
        refine Sat.go (Eq.refl _) (NS.need (by rw [e1]; simp; omega) ?_)
        rw [e1, last_3 t1 t2]
        refine Sat.go (Eq.refl _) (NS.ite (fun t3 => ?_) (fun t3 => ?_))
        · have t3 : (lastN w.seen != w.top) = true := t3
          exact Sat.go (Eq.refl _) (NS.ret rfl rfl (LeA.of (congrArg (A.int .i64) ((by rw [show (lastN w.seen == w.top) = false by simpa using t3]; rfl)))))
        · have t3 : (lastN w.seen != w.top) = false := t3
          exact Sat.go (Eq.refl _) (NS.ret rfl rfl (LeA.of (congrArg (A.int .i64) ((by rw [show (lastN w.seen == w.top) = true by simpa using t3]; rfl)))))
      · rw [ge_ne (badW_f.1 hb).2.2.1] at t1
        exact Sat.go (Eq.refl _) (NS.ret rfl rfl (LeA.of (congrArg (A.int .i64) ((by rw [last_1 t1]; rfl)))))
end Go.Proofs.Ytphegncldncaiaa
