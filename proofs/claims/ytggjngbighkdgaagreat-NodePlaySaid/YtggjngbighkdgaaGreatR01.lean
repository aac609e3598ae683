import Derived.Test.YtggjngbighkdgaaGreatB10
set_option linter.unusedSimpArgs false
set_option linter.unusedSectionVars false
set_option linter.unusedVariables false
namespace Go.Proofs.YtggjngbighkdgaaGreat
open Go.Sy Go.Mb
set_option maxRecDepth 100000
set_option maxHeartbeats 4000000
theorem rDecide_ok (c s a : Bool) : FnOK Tryz.prog 227 [.bool c, .bool s, .bool a] (.int .i64 (decM c s a), none) := by
 unfold decM
 refine fn_ok CF rfl (by kernel_rfl) Tryz.func227 rfl ?_
 cases c <;> cases s <;> cases a
 all_goals repeat' (first | (refine Sat.go (Eq.refl _) (NS.chk (by kernel_rfl) ?_)) | (refine Sat.go (Eq.refl _) (NS.no (rfl) ?_)) | (refine Sat.go (Eq.refl _) (NS.yes (rfl) ?_)))
 all_goals exact Sat.go (Eq.refl _) (NS.ret rfl rfl (LeA.refl _))
theorem without_ok (l : List Ofr) (x : Nid) (hl : l.length ≤ 1000) : FnOK Tryz.prog 185 [slOfr l, .agg x.cells] (slOfr (l.filter (nt (ofId x))), none) := by
 refine FnOK.frz (e := 67) ?_
 refine fn_ok CF rfl (by kernel_rfl) Tryz.func185 rfl ?_
 refine Sat.go (Eq.refl _) ?_
 refine NS.loop (σ := { k : Nat // k ≤ l.length }) (fun k => [(0, slOfr l), (3, .ptr 3 0), (5, .own 5), (6, .int .i64 k.1)]) (fun k => [(3, .box x.cells), (5, .row 67 8 ((l.take k.1).filter (nt (ofId x))).length (rowL Ofr.cells ((l.take k.1).filter (nt (ofId x)))))]) (fun k => l.length - k.1) ⟨0, Nat.zero_le _⟩ ?_ ?_
 ·refine (weak_promote 5 5 67 8 (rowL Ofr.cells []) rfl rfl).trans ?_
  exact weak_hd [] rfl ⟨rfl, rfl, rfl, rfl, trivial⟩ ⟨⟨_, rfl, ⟨_, _, rfl, rfl, _, _, rfl, rfl, _, _, rfl, rfl, _, _, rfl, rfl, _, _, rfl, rfl, rfl⟩⟩, ren_row rfl rfl fun _ _ _ _ => rfl, trivial⟩ trivial (by kernel_rfl)
 rintro ⟨k, hk⟩
 have q2 : ((l.take k).filter (nt (ofId x))).length ≤ k := Nat.le_trans (List.length_filter_le _ _) (by simp; omega)
 have s2 := fun h : k < l.length => filter_snoc (p := nt (ofId x)) (l := l) (k := k) h
 refine Sat.go (Eq.refl _) (NS.ite (fun h => ?_) (fun h => ?_))
 ·have h : k < l.length := by simpa using h
  have s2 := s2 h
  refine Sat.go (Eq.refl _) (NS.chk (by kernel_rfl) ?_)
  refine Sat.go (Eq.refl _) (NS.need (by simp; omega) ?_)
  refine Sat.go (Eq.refl _) (NS.ite (fun h2 => ?_) (fun h2 => ?_))
  ·rw [if_pos (show nt (ofId x) (l.getD k default) = true from h2)] at s2
   refine Sat.go (Eq.refl _) (NS.need (by simp; omega) ?_)
   refine Sat.go (Eq.refl _) (NS.need (decide_eq_true (by simp only [maxRow]; show (((l.take k).filter (nt (ofId x))).length + 1) * _ ≤ _; omega)) ?_)
   refine Sat.go (Eq.refl _) (NS.next ⟨k + 1, by omega⟩ (by simp; omega) ?_)
   refine weak_hd [(5, 26)] rfl ⟨rfl, rfl, rfl, ren_int rfl (i64_k (by omega) (by omega)), trivial⟩ ⟨⟨_, rfl, ⟨_, _, rfl, rfl, _, _, rfl, rfl, _, _, rfl, rfl, _, _, rfl, rfl, _, _, rfl, rfl, rfl⟩⟩, ?_, trivial⟩ trivial (by kernel_rfl)
   rw [s2]
   exact ren_row rfl (by simp) (fun i hi j hj => row_snoc (cells := Ofr.cells) (x := l.getD k default) rfl i (by simpa using hi) j hj)
  ·rw [if_neg (by rw [show nt (ofId x) (l.getD k default) = false from h2]; decide), List.append_nil] at s2
   refine Sat.go (Eq.refl _) (NS.next ⟨k + 1, by omega⟩ (by simp; omega) ?_)
   refine weak_hd [] rfl ⟨rfl, rfl, rfl, ren_int rfl (i64_k (by omega) (by omega)), trivial⟩ ⟨⟨_, rfl, ⟨_, _, rfl, rfl, _, _, rfl, rfl, _, _, rfl, rfl, _, _, rfl, rfl, _, _, rfl, rfl, rfl⟩⟩, ?_, trivial⟩ trivial (by kernel_rfl)
   rw [s2]
   exact ren_row rfl rfl fun _ _ _ _ => rfl
 ·have h : ¬ k < l.length := by simpa using h
  obtain rfl : k = l.length := by omega
  refine Sat.go (Eq.refl _) (NS.leave rfl (Eq.refl _) ?_)
  rw [show l.take l.length = l from List.take_length]
  exact Sat.go (Eq.refl _) (NS.retRow 5 rfl rfl (LeA.refl _) ⟨rfl, rfl, rfl, fun i hi j hj => rfl⟩ fun _ _ _ _ => flatOfr _ _ _)
theorem offered_ok (l : List Ofr) (x : Nid) (c : Int) (hl : l.length ≤ 1000) : FnOK Tryz.prog 181 [slOfr l, .agg x.cells, .int .i64 c] (.int .i64 (idx (ofAt x c) l), none) := by
 refine fn_ok CF rfl (by kernel_rfl) Tryz.func181 rfl ?_
 refine Sat.go (Eq.refl _) ?_
 refine NS.loop (σ := { k : Nat // k ≤ l.length ∧ ∀ i, i < k → ofAt x c (l.getD i default) = false }) (fun k => [(0, slOfr l), (2, .int .i64 c), (4, .ptr 4 0), (7, .int .i64 k.1)]) (fun k => [(4, .box x.cells)]) (fun k => l.length - k.1) ⟨0, Nat.zero_le _, fun i hi => by omega⟩ ?_ ?_
 ·exact weak_hd [] rfl ⟨rfl, rfl, rfl, rfl, trivial⟩ ⟨⟨_, rfl, ⟨_, _, rfl, rfl, _, _, rfl, rfl, _, _, rfl, rfl, _, _, rfl, rfl, _, _, rfl, rfl, rfl⟩⟩, trivial⟩ trivial (by kernel_rfl)
 rintro ⟨k, hk, hn⟩
 have nx : ∀ (h : k < l.length), ofAt x c (l.getD k default) = false → ∀ i, i < k + 1 → ofAt x c (l.getD i default) = false := by
  intro h hq i hi
  by_cases hik : i = k
  ·subst hik; exact hq
  ·exact hn i (by omega)
 refine Sat.go (Eq.refl _) (NS.ite (fun h => ?_) (fun h => ?_))
 ·have h : k < l.length := by simpa using h
  refine Sat.go (Eq.refl _) (NS.chk (by kernel_rfl) ?_)
  refine Sat.go (Eq.refl _) (NS.need (by simp; omega) ?_)
  refine Sat.go (Eq.refl _) (NS.ite (fun h2 => ?_) (fun h2 => ?_))
  ·have h2 : (l.getD k default).id.eqv x = true := h2
   refine Sat.go (Eq.refl _) (NS.ite (fun h3 => ?_) (fun h3 => ?_))
   ·exact Sat.go (Eq.refl _) (NS.leaveOut rfl (Eq.refl _) (NS.ret rfl rfl (LeA.of (congrArg (A.int .i64) ((idx_found (by omega) (by unfold ofAt; rw [h2, show (c == -1) = true from h3]; rfl) hn).symm)))))
   ·refine Sat.go (Eq.refl _) (NS.need (by simp; omega) ?_)
    refine Sat.go (Eq.refl _) (NS.ite (fun h4 => ?_) (fun h4 => ?_))
    ·exact Sat.go (Eq.refl _) (NS.leaveOut rfl (Eq.refl _) (NS.ret rfl rfl (LeA.of (congrArg (A.int .i64) ((idx_found (by omega) (by unfold ofAt; rw [h2, show ((l.getD k default).contact == c) = true from h4]; simp) hn).symm)))))
    ·refine Sat.go (Eq.refl _) (NS.next ⟨k + 1, by omega, nx h (by unfold ofAt; rw [h2, show (c == -1) = false from h3, show ((l.getD k default).contact == c) = false from h4]; rfl)⟩ (by simp; omega) ?_)
     exact weak_hd [] rfl ⟨rfl, rfl, rfl, ren_int rfl (i64_k (by omega) (by omega)), trivial⟩ ⟨⟨_, rfl, ⟨_, _, rfl, rfl, _, _, rfl, rfl, _, _, rfl, rfl, _, _, rfl, rfl, _, _, rfl, rfl, rfl⟩⟩, trivial⟩ trivial (by kernel_rfl)
  ·have h2 : (l.getD k default).id.eqv x = false := h2
   refine Sat.go (Eq.refl _) (NS.next ⟨k + 1, by omega, nx h (by unfold ofAt; rw [h2]; rfl)⟩ (by simp; omega) ?_)
   exact weak_hd [] rfl ⟨rfl, rfl, rfl, ren_int rfl (i64_k (by omega) (by omega)), trivial⟩ ⟨⟨_, rfl, ⟨_, _, rfl, rfl, _, _, rfl, rfl, _, _, rfl, rfl, _, _, rfl, rfl, _, _, rfl, rfl, rfl⟩⟩, trivial⟩ trivial (by kernel_rfl)
 ·have h : ¬ k < l.length := by simpa using h
  refine Sat.go (Eq.refl _) (NS.leave rfl (Eq.refl _) ?_)
  exact Sat.go (Eq.refl _) (NS.ret rfl rfl (LeA.of (congrArg (A.int .i64) ((idx_none fun i hi => hn i (by omega)).symm))))
theorem rWrite_ok (n : Nod) (l : List Jrec) (hl : l.length ≤ 1) (hr : ∀ r ∈ l, recErr r = 0) (hu : Uniq n.dur.items) (h1 : n.dur.items.length ≤ 900000) (h2 : n.dur.inbox.length ≤ 900000) (h3 : n.jour.size ≤ 100000) : FnOK Tryz.prog 125 [.agg n.cells, slR l] (.tup [.agg (rWrM n l).1.cells, .int .i64 (rWrM n l).2], none) := by
 unfold rWrM
 refine fn_ok CF rfl (by kernel_rfl) Tryz.func125 rfl ?_
 refine Sat.go (Eq.refl _) (NS.call (rAppend_ok n.jour l h3 (by omega)) rfl ?_)
 refine Sat.go (Eq.refl _) (NS.ite (fun a1 => ?_) (fun a1 => ?_))
 ·rw [if_pos a1]
  exact Sat.go (Eq.refl _) (NS.ret rfl rfl (LeA.refl _))
 rw [if_neg (by rw [a1]; decide)]
 refine Sat.go (Eq.refl _) ?_
 refine NS.loop (σ := { k : Nat // k ≤ l.length }) (fun k => [(1, slR l), (2, .ptr 2 0), (4, .ptr 4 0), (8, .int .i64 k.1)]) (fun k => [(2, .box (Nod.cells { n with jour := bs (appM (ls n.jour) l).1, dur := effs (l.take k.1) n.dur })), (4, .box [.junk, .junk, .junk, .junk, .junk, .junk, .junk, .junk])]) (fun k => l.length - k.1) ⟨0, Nat.zero_le _⟩ ?_ ?_
 ·exact weak_hd [] rfl ⟨rfl, rfl, rfl, rfl, trivial⟩ ⟨⟨_, rfl, renNod _ { n with jour := bs (appM (ls n.jour) l).1, dur := n.dur }⟩, ⟨_, rfl, ⟨_, _, rfl, trivial, _, _, rfl, trivial, _, _, rfl, trivial, _, _, rfl, trivial, _, _, rfl, trivial, _, _, rfl, trivial, _, _, rfl, trivial, _, _, rfl, trivial, rfl⟩⟩, trivial⟩ trivial (by kernel_rfl)
 rintro ⟨k, hk⟩
 refine Sat.go (Eq.refl _) (NS.ite (fun h => ?_) (fun h => ?_))
 ·have h : k < l.length := by simpa using h
  obtain rfl : k = 0 := by omega
  obtain ⟨r, rfl⟩ : ∃ r, l = [r] := by
   rcases l with _ | ⟨r, _ | ⟨r2, l⟩⟩
   ·simp at h
   ·exact ⟨r, rfl⟩
   ·simp at hl
  refine Sat.go (Eq.refl _) (NS.chk (by kernel_rfl) ?_)
  refine Sat.go (Eq.refl _) (NS.need (by simp) ?_)
  refine Sat.go (Eq.refl _) (NS.call (rEffect_ok n.dur r hu (hr r (by simp)) (by omega) (by omega)) rfl ?_)
  refine Sat.go (Eq.refl _) (NS.next ⟨1, by simp⟩ (by show 1 - 1 < 1 - 0; omega) ?_)
  exact weak_hd [] rfl ⟨rfl, rfl, rfl, ren_int rfl (i64_k (k := 0) (n := 1) (by omega) (by omega)), trivial⟩ ⟨⟨_, rfl, renNod _ { n with jour := bs (appM (ls n.jour) [r]).1, dur := effM n.dur r }⟩, ⟨_, rfl, ⟨_, _, rfl, trivial, _, _, rfl, trivial, _, _, rfl, trivial, _, _, rfl, trivial, _, _, rfl, trivial, _, _, rfl, trivial, _, _, rfl, trivial, _, _, rfl, trivial, rfl⟩⟩, trivial⟩ trivial (by kernel_rfl)
 ·have h : ¬ k < l.length := by simpa using h
  obtain rfl : k = l.length := by omega
  refine Sat.go (Eq.refl _) (NS.leave rfl (Eq.refl _) ?_)
  rw [show effs l n.dur = effs (l.take l.length) n.dur by rw [List.take_length]]
  exact Sat.go (Eq.refl _) (NS.ret rfl rfl (LeA.refl _))
noncomputable def ERR : Env := { P := Tryz.prog, eqT := lookE eqTab, frz := [25] }
theorem ERR_ok : EqOK ERR := eqOK_of eqTab_ok
noncomputable def CRR : Cx := { E := ERR, inl := [], ok := ERR_ok }
theorem rRemove_ok' (n : Nod) (id : Nid) (now : Int) (hr : recErr ⟨2, .zero, id, 0, now⟩ = 0) (hu : Uniq n.dur.items) (h1 : n.dur.items.length ≤ 900000) (h2 : n.dur.inbox.length ≤ 900000) (h3 : n.jour.size ≤ 100000) (h4 : n.ofs.length ≤ 1000) : FnOK Tryz.prog 124 [.agg n.cells, .agg id.cells, .int .i64 now] (nodA (rRemM n id now), none) := by
 refine fn_ok CRR rfl (by kernel_rfl) Tryz.func124 rfl ?_
 refine Sat.go (Eq.refl _) (NS.call (rFind_ok' n.dur id (by omega)) rfl ?_)
 refine Sat.go (Eq.refl _) (NS.call ((rWrite_ok n [⟨2, .zero, id, 0, now⟩] (by simp) (by simpa using hr) hu h1 h2 h3).le (LeL.cons (LeA.refl _) (LeL.cons (LeA.sl rfl (row_one rfl)) LeL.nil))) rfl ?_)
 refine Sat.go (Eq.refl _) (NS.call (without_ok n.ofs id h4) rfl ?_)
 refine Sat.go (Eq.refl _) (NS.chk (by kernel_rfl) ?_)
 exact Sat.go (Eq.refl _) (NS.ret rfl rfl (LeA.tup3 (LeA.refl _) (LeA.sl rfl (row_one (cells := Mb.Act.cells) (x := ⟨5, (findM n.dur id).1, 0, 0⟩) rfl)) (LeA.refl _)))
theorem ended_ok (n : Nod) (id : Nid) (s a : Bool) (now : Int) (hr : recErr ⟨2, .zero, id, 0, now⟩ = 0) (hu : Uniq n.dur.items) (h1 : n.dur.items.length ≤ 900000) (h2 : n.dur.inbox.length ≤ 900000) (h3 : n.jour.size ≤ 100000) (h4 : n.ofs.length ≤ 1000) : FnOK Tryz.prog 183 [.agg n.cells, .agg id.cells, .bool s, .bool a, .int .i64 now] (nodA (rEndM n id s a now), none) := by
 unfold rEndM
 refine fn_ok CF rfl (by kernel_rfl) Tryz.func183 rfl ?_
 refine Sat.go (Eq.refl _) (NS.call (rFind_ok' n.dur id (by omega)) rfl ?_)
 refine Sat.go (Eq.refl _) (NS.call (rDecide_ok (findM n.dur id).1.custody s a) rfl ?_)
 refine Sat.go (Eq.refl _) (NS.ite (fun a1 => ?_) (fun a1 => ?_))
 ·rw [if_pos a1]
  refine Sat.go (Eq.refl _) (NS.chk (by kernel_rfl) ?_)
  exact Sat.go (Eq.refl _) (NS.ret rfl rfl (LeA.tup3 (LeA.refl _) (LeA.sl rfl (row_one (cells := Mb.Act.cells) (x := ⟨4, (findM n.dur id).1, 0, 0⟩) rfl)) (LeA.refl _)))
 ·rw [if_neg (by rw [a1]; decide)]
  refine Sat.go (Eq.refl _) (NS.call (rRemove_ok' n id now hr hu h1 h2 h3 h4) rfl ?_)
  exact Sat.go (Eq.refl _) (NS.ret rfl rfl (LeA.refl _))
end Go.Proofs.YtggjngbighkdgaaGreat

namespace Go.Proofs.YtggjngbighkdgaaGreat
open Go.Sy Go.Mb
set_option maxRecDepth 100000
set_option maxHeartbeats 4000000
theorem emptyO {el : Nat → Nat → A} : LeA (.sl 8 0 el) (slOfr []) := LeA.sl rfl fun i hi => absurd hi (Nat.not_lt_zero _)
theorem rDue_ok (l : List Ofr) (now : Int) : FnOK Tryz.prog 184 [slOfr l, .int .i64 now] (.tup [slOfr (dueM l now).1, slOfr (dueM l now).2.1, .int .i64 (dueM l now).2.2], none) := by
 unfold dueM
 refine fn_ok CF rfl (by kernel_rfl) Tryz.func184 rfl ?_
 refine Sat.go (Eq.refl _) (NS.call (rcCheck_ok l) rfl ?_)
 refine Sat.go (Eq.refl _) (NS.ite (fun h0 => ?_) (fun h0 => ?_))
 ·rw [if_pos h0]
  exact Sat.go (Eq.refl _) (NS.ret rfl rfl (LeA.tup3 emptyO emptyO (LeA.refl _)))
 rw [if_neg (by rw [h0]; decide)]
 have hl := chkO_len (l := l) (by simpa using h0)
 refine Sat.go (Eq.refl _) ?_
 refine NS.loop (σ := { k : Nat // k ≤ l.length }) (fun k => [(0, slOfr l), (1, .int .i64 now), (7, .own 15), (8, .own 16), (9, .int .i64 k.1)]) (fun k => [(15, .row 67 8 ((l.take k.1).filter (ofDue now)).length (rowL Ofr.cells ((l.take k.1).filter (ofDue now)))), (16, .row 67 8 ((l.take k.1).filter (nt (ofDue now))).length (rowL Ofr.cells ((l.take k.1).filter (nt (ofDue now)))))]) (fun k => l.length - k.1) ⟨0, Nat.zero_le _⟩ ?_ ?_
 ·exact weak_hd [] rfl ⟨rfl, rfl, rfl, rfl, rfl, trivial⟩ ⟨ren_row rfl rfl (fun i hi => absurd hi (Nat.not_lt_zero _)), ren_row rfl rfl (fun i hi => absurd hi (Nat.not_lt_zero _)), trivial⟩ trivial (by kernel_rfl)
 rintro ⟨k, hk⟩
 have q1 : ((l.take k).filter (ofDue now)).length ≤ k := Nat.le_trans (List.length_filter_le _ _) (by simp; omega)
 have q2 : ((l.take k).filter (nt (ofDue now))).length ≤ k := Nat.le_trans (List.length_filter_le _ _) (by simp; omega)
 have s1 := fun h : k < l.length => filter_snoc (p := ofDue now) (l := l) (k := k) h
 have s2 := fun h : k < l.length => filter_snoc (p := nt (ofDue now)) (l := l) (k := k) h
 refine Sat.go (Eq.refl _) (NS.ite (fun h => ?_) (fun h => ?_))
 ·have h : k < l.length := by simpa using h
  have s1 := s1 h
  have s2 := s2 h
  refine Sat.go (Eq.refl _) (NS.need (by simp; omega) ?_)
  refine Sat.go (Eq.refl _) (NS.ite (fun h2 => ?_) (fun h2 => ?_))
  ·have h2 : ofDue now (l.getD k default) = true := h2
   rw [if_pos h2] at s1
   rw [if_neg (by unfold nt; rw [h2]; decide), List.append_nil] at s2
   refine Sat.go (Eq.refl _) (NS.need (by simp; omega) ?_)
   refine Sat.go (Eq.refl _) (NS.need (decide_eq_true (by simp only [maxRow]; show (((l.take k).filter (ofDue now)).length + 1) * _ ≤ _; omega)) ?_)
   refine Sat.go (Eq.refl _) (NS.next ⟨k + 1, by omega⟩ (by simp; omega) ?_)
   refine weak_hd [(15, 36)] rfl ⟨rfl, rfl, rfl, rfl, ren_int rfl (i64_k (by omega) (by omega)), trivial⟩ ⟨?_, ?_, trivial⟩ trivial (by kernel_rfl)
   ·rw [s1]
    exact ren_row rfl (by simp) (fun i hi j hj => row_snoc (cells := Ofr.cells) (x := l.getD k default) rfl i (by simpa using hi) j hj)
   ·rw [s2]
    exact ren_row rfl rfl fun _ _ _ _ => rfl
  ·have h2 : ofDue now (l.getD k default) = false := h2
   rw [if_neg (by rw [h2]; decide), List.append_nil] at s1
   rw [if_pos (by unfold nt; rw [h2]; rfl)] at s2
   refine Sat.go (Eq.refl _) (NS.need (by simp; omega) ?_)
   refine Sat.go (Eq.refl _) (NS.need (decide_eq_true (by simp only [maxRow]; show (((l.take k).filter (nt (ofDue now))).length + 1) * _ ≤ _; omega)) ?_)
   refine Sat.go (Eq.refl _) (NS.next ⟨k + 1, by omega⟩ (by simp; omega) ?_)
   refine weak_hd [(16, 43)] rfl ⟨rfl, rfl, rfl, rfl, ren_int rfl (i64_k (by omega) (by omega)), trivial⟩ ⟨?_, ?_, trivial⟩ trivial (by kernel_rfl)
   ·rw [s1]
    exact ren_row rfl rfl fun _ _ _ _ => rfl
   ·rw [s2]
    exact ren_row rfl (by simp) (fun i hi j hj => row_snoc (cells := Ofr.cells) (x := l.getD k default) rfl i (by simpa using hi) j hj)
 ·have h : ¬ k < l.length := by simpa using h
  obtain rfl : k = l.length := by omega
  refine Sat.go (Eq.refl _) (NS.leave rfl (Eq.refl _) ?_)
  rw [show l.take l.length = l from List.take_length]
  exact Sat.go (Eq.refl _) (NS.ret rfl rfl (LeA.refl _))
theorem vOf_tries (x : Nid) (c d : Int) {n : Nat} (h : n ≤ 64) : vOf ⟨x, c, d, (n : Int)⟩ = vOf ⟨x, c, d, 0⟩ := by
 unfold vOf
 congr 1
 rw [decide_eq_decide]
 simp only
 omega
theorem pre_filter {l : List Ofr} (o : Ofr) (hs : l.Pairwise ofLt) {k : Nat} (hk : k ≤ l.length) (h1 : ∀ i, i < k → ltO (l.getD i default) o = true) (h2 : k < l.length → ltO (l.getD k default) o = false) :
  l.filter (fun p => ltO p o) = l.take k ∧ l.filter (nt fun p => ltO p o) = l.drop k := by
 have a1 : ∀ p ∈ l.take k, ltO p o = true := by
  intro p hp
  obtain ⟨i, hi, rfl⟩ := List.getElem_of_mem hp
  have hi' : i < k ∧ i < l.length := by rw [List.length_take] at hi; exact ⟨by omega, by omega⟩
  rw [List.getElem_take, ← getD_lt hi'.2]
  exact h1 i hi'.1
 have a2 : ∀ p ∈ l.drop k, ltO p o = false := by
  intro p hp
  obtain ⟨i, hi, rfl⟩ := List.getElem_of_mem hp
  have hi' : k + i < l.length := by simp at hi; omega
  rw [List.getElem_drop]
  have hlt : k < l.length := by omega
  have h2 := h2 hlt
  cases i with
  | zero =>
   rw [getD_lt hlt] at h2
   exact h2
  | succ i =>
   rw [← Bool.not_eq_true]
   intro h3
   have h4 := ltO_iff.1 h3
   rw [List.pairwise_iff_getElem] at hs
   have h5 := ofLt_trans (hs k (k + (i + 1)) hlt hi' (by omega)) h4
   rw [getD_lt hlt, ← Bool.not_eq_true] at h2
   exact h2 (ltO_iff.2 h5)
 constructor
 ·conv => lhs; rw [← List.take_append_drop k l, List.filter_append, List.filter_eq_self.2 a1, List.filter_eq_nil_iff.2 (fun p hp => by rw [a2 p hp]; decide), List.append_nil]
 ·conv => lhs; rw [← List.take_append_drop k l, List.filter_append, List.filter_eq_nil_iff.2 (fun p hp => by show ¬ (!ltO p o) = true; rw [a1 p hp]; decide), List.filter_eq_self.2 (fun p hp => by show (!ltO p o) = true; rw [a2 p hp]; rfl), List.nil_append]
theorem rBegin_ok (l : List Ofr) (x : Nid) (c d : Int) : FnOK Tryz.prog 182 [slOfr l, .agg x.cells, .int .i64 c, .int .i64 d] (.tup [slOfr (beginM l x c d).1, .int .i64 (beginM l x c d).2], none) := by
 unfold beginM
 simp only
 refine fn_ok CF rfl (by kernel_rfl) Tryz.func182 rfl ?_
 refine Sat.go (Eq.refl _) (NS.call (rcCheck_ok l) rfl ?_)
 refine Sat.go (Eq.refl _) (NS.ite (fun h0 => ?_) (fun h0 => ?_))
 ·rw [if_pos h0]
  exact Sat.go (Eq.refl _) (NS.ret rfl rfl (LeA.tup2 emptyO (LeA.refl _)))
 rw [if_neg (by rw [h0]; decide)]
 have hl := chkO_len (l := l) (by simpa using h0)
 obtain ⟨_, _, hs⟩ := (ofs_iff l).1 (by simpa using h0)
 have hfl : (l.filter (ofId x)).length ≤ 64 := Nat.le_trans (List.length_filter_le _ _) hl
 refine Sat.go (Eq.refl _) (NS.call (rcValid_ok ⟨x, c, d, 0⟩) rfl ?_)
 rw [vOf_tries x c d hfl]
 refine Sat.go (Eq.refl _) (NS.ite (fun h1 => ?_) (fun h1 => ?_))
 ·rw [if_pos h1]
  exact Sat.go (Eq.refl _) (NS.ret rfl rfl (LeA.tup2 emptyO (LeA.refl _)))
 rw [if_neg (by rw [h1]; decide)]
 refine Sat.go (Eq.refl _) ?_
 refine NS.loop (σ := { k : Nat // k ≤ l.length ∧ ∀ i, i < k → ofKey x c (l.getD i default) = false }) (fun k => [(0, slOfr l), (2, .int .i64 c), (5, .ptr 5 0), (10, .ptr 10 0), (11, .int .i64 k.1)]) (fun k => [(5, .box x.cells), (10, .box (Ofr.cells ⟨x, c, d, (((l.take k.1).filter (ofId x)).length : Nat)⟩))]) (fun k => l.length - k.1) ⟨0, Nat.zero_le _, fun i hi => by omega⟩ ?_ ?_
 ·exact weak_hd [] rfl ⟨rfl, rfl, rfl, rfl, rfl, trivial⟩ ⟨⟨_, rfl, ⟨_, _, rfl, rfl, _, _, rfl, rfl, _, _, rfl, rfl, _, _, rfl, rfl, _, _, rfl, rfl, rfl⟩⟩, ⟨_, rfl, renOfr _ ⟨x, c, d, 0⟩⟩, trivial⟩ trivial (by kernel_rfl)
 rintro ⟨k, hk, hn⟩
 have hk : k ≤ l.length := hk
 have hsn := fun h : k < l.length => filter_snoc (p := ofId x) (l := l) (k := k) h
 have nx : ∀ (h : k < l.length), ofKey x c (l.getD k default) = false → ∀ i, i < k + 1 → ofKey x c (l.getD i default) = false := by
  intro h hq i hi
  by_cases hik : i = k
  ·subst hik; exact hq
  ·exact hn i (by omega)
 have hct : ((l.take k).filter (ofId x)).length ≤ 64 := Nat.le_trans (List.length_filter_le _ _) (by simp; omega)
 refine Sat.go (Eq.refl _) (NS.ite (fun h => ?_) (fun h => ?_))
 ·have h : k < l.length := by simpa using h
  have hsn := hsn h
  refine Sat.go (Eq.refl _) (NS.chk (by kernel_rfl) ?_)
  refine Sat.go (Eq.refl _) (NS.need (by simp; omega) ?_)
  refine Sat.go (Eq.refl _) (NS.ite (fun h2 => ?_) (fun h2 => ?_))
  ·have h2 : ofId x (l.getD k default) = true := h2
   rw [if_pos h2] at hsn
   refine Sat.go (Eq.refl _) (NS.need (by simp; omega) ?_)
   refine Sat.go (Eq.refl _) (NS.ite (fun h3 => ?_) (fun h3 => ?_))
   ·have hany : l.any (ofKey x c) = true := any_t h (by unfold ofKey; rw [show (l.getD k default).id.eqv x = true from h2, show ((l.getD k default).contact == c) = true from h3]; rfl)
    rw [if_pos (List.any_eq_true.2 (by obtain ⟨p, hp, hq⟩ := List.any_eq_true.1 hany; exact ⟨p, List.mem_filter.2 ⟨hp, by unfold ofKey at hq; rw [Bool.and_eq_true] at hq; exact hq.1⟩, hq⟩))]
    exact Sat.go (Eq.refl _) (NS.leaveOut rfl (Eq.refl _) (NS.ret rfl rfl (LeA.tup2 emptyO (LeA.refl _))))
   ·refine Sat.go (Eq.refl _) (NS.chk (by kernel_rfl) ?_)
    refine Sat.go (Eq.refl _) (NS.need (by simp; omega) ?_)
    refine Sat.go (Eq.refl _) (NS.yes (h2) ?_)
    refine Sat.go (Eq.refl _) (NS.next ⟨k + 1, by omega, nx h (by unfold ofKey; rw [show ((l.getD k default).contact == c) = false from h3, Bool.and_false])⟩ (by simp; omega) ?_)
    refine weak_hd [] rfl ⟨rfl, rfl, rfl, rfl, ren_int rfl (i64_k (k := k) (by omega) (by omega)), trivial⟩ ⟨⟨_, rfl, ⟨_, _, rfl, rfl, _, _, rfl, rfl, _, _, rfl, rfl, _, _, rfl, rfl, _, _, rfl, rfl, rfl⟩⟩, ⟨_, rfl, ⟨_, _, rfl, rfl, _, _, rfl, rfl, _, _, rfl, rfl, _, _, rfl, rfl, _, _, rfl, rfl, _, _, rfl, rfl, _, _, rfl, rfl, _, _, rfl, ren_int rfl ?_, rfl⟩⟩, trivial⟩ trivial (by kernel_rfl)
    show IntKind.i64.wrap ((((l.take k).filter (ofId x)).length : Int) + 1) = (((l.take (k + 1)).filter (ofId x)).length : Int)
    rw [hsn, wrap_i64 (by omega) (by omega)]; simp
  ·have h2 : ofId x (l.getD k default) = false := h2
   rw [if_neg (by rw [h2]; decide), List.append_nil] at hsn
   refine Sat.go (Eq.refl _) (NS.chk (by kernel_rfl) ?_)
   refine Sat.go (Eq.refl _) (NS.need (by simp; omega) ?_)
   refine Sat.go (Eq.refl _) (NS.no (h2) ?_)
   refine Sat.go (Eq.refl _) (NS.next ⟨k + 1, by omega, nx h (by unfold ofKey; rw [show (l.getD k default).id.eqv x = false from h2, Bool.false_and])⟩ (by simp; omega) ?_)
   refine weak_hd [] rfl ⟨rfl, rfl, rfl, rfl, ren_int rfl (i64_k (k := k) (by omega) (by omega)), trivial⟩ ⟨⟨_, rfl, ⟨_, _, rfl, rfl, _, _, rfl, rfl, _, _, rfl, rfl, _, _, rfl, rfl, _, _, rfl, rfl, rfl⟩⟩, ⟨_, rfl, ⟨_, _, rfl, rfl, _, _, rfl, rfl, _, _, rfl, rfl, _, _, rfl, rfl, _, _, rfl, rfl, _, _, rfl, rfl, _, _, rfl, rfl, _, _, rfl, ren_int rfl ?_, rfl⟩⟩, trivial⟩ trivial (by kernel_rfl)
   show (((l.take k).filter (ofId x)).length : Int) = (((l.take (k + 1)).filter (ofId x)).length : Int)
   rw [hsn]
 ·have h : ¬ k < l.length := by simpa using h
  obtain rfl : k = l.length := by omega
  refine Sat.go (Eq.refl _) (NS.leave rfl (Eq.refl _) ?_)
  rw [show l.take l.length = l from List.take_length]
  have hno : (l.filter (ofId x)).any (ofKey x c) = false := by
   rw [List.any_eq_false]
   intro p hp
   obtain ⟨i, hi, rfl⟩ := List.getElem_of_mem (List.mem_filter.1 hp).1
   have := hn i hi
   rw [getD_lt hi] at this
   rw [this]; decide
  rw [if_neg (by rw [hno]; decide)]
  obtain ⟨o, ho⟩ : ∃ o : Ofr, ⟨x, c, d, ((l.filter (ofId x)).length : Int)⟩ = o := ⟨_, rfl⟩
  rw [ho]
  refine Sat.go (Eq.refl _) (NS.ite (fun h3 => ?_) (fun h3 => ?_))
  ·rw [if_pos h3]
   exact Sat.go (Eq.refl _) (NS.ret rfl rfl (LeA.tup2 emptyO (LeA.refl _)))
  rw [if_neg (by rw [h3]; decide)]
  refine Sat.go (Eq.refl _) ?_
  refine NS.loop (σ := { k : Nat // k ≤ l.length ∧ ∀ i, i < k → ltO (l.getD i default) o = true }) (fun k => [(0, slOfr l), (10, .ptr 10 0), (12, .own 64), (13, .int .i64 k.1)]) (fun k => [(10, .box o.cells), (64, .row 67 8 (l.take k.1).length (rowL Ofr.cells (l.take k.1)))]) (fun k => l.length - k.1) ⟨0, Nat.zero_le _, fun i hi => by omega⟩ ?_ ?_
  ·exact weak_hd [] rfl ⟨rfl, rfl, rfl, rfl, trivial⟩ ⟨⟨_, rfl, by rw [← ho]; exact renOfr _ ⟨x, c, d, ((l.filter (ofId x)).length : Int)⟩⟩, ren_row rfl rfl (fun i hi => absurd hi (Nat.not_lt_zero _)), trivial⟩ trivial (by kernel_rfl)
  rintro ⟨k, hk2, hm⟩
  have hk2 : k ≤ l.length := hk2
  have fin : ∀ (hq : k < l.length → ltO (l.getD k default) o = false), l.filter (fun p => ltO p o) = l.take k ∧ l.filter (nt fun p => ltO p o) = l.drop k := fun hq => pre_filter o hs hk2 hm hq
  have hlen : (l.take k).length = k := by simp; omega
  refine Sat.go (Eq.refl _) (NS.chk (by kernel_rfl) ?_)
  refine Sat.go (Eq.refl _) (NS.ite (fun h4 => ?_) (fun h4 => ?_))
  ·have h4 : k < l.length := by have h4 : ((k : Nat) : Int) < (l.length : Int) := of_decide_eq_true h4; omega
   have hsn := take_snoc (l := l) (k := k) h4
   refine Sat.go (Eq.refl _) (NS.need (by simp; omega) ?_)
   refine Sat.go (Eq.refl _) (NS.call (rLessO_ok (l.getD k default) o) rfl ?_)
   refine Sat.go (Eq.refl _) (NS.ite (fun h5 => ?_) (fun h5 => ?_))
   ·refine Sat.go (Eq.refl _) (NS.need (by simp; omega) ?_)
    refine Sat.go (Eq.refl _) (NS.need (decide_eq_true (by simp only [maxRow]; show ((l.take k).length + 1) * _ ≤ _; omega)) ?_)
    refine Sat.go (Eq.refl _) (NS.next ⟨k + 1, by omega, fun i hi => ?_⟩ (by simp; omega) ?_)
    ·by_cases hik : i = k
     ·subst hik; exact h5
     ·exact hm i (by omega)
    refine weak_hd [(64, 83)] rfl ⟨rfl, rfl, rfl, ren_int rfl (i64_k (k := k) (by omega) (by omega)), trivial⟩ ⟨⟨_, rfl, renOfr _ o⟩, ?_, trivial⟩ trivial (by kernel_rfl)
    rw [hsn]
    exact ren_row rfl (by simp) (fun i hi j hj => row_snoc (cells := Ofr.cells) (x := l.getD k default) rfl i (by simpa using hi) j hj)
   ·obtain ⟨f1, f2⟩ := fin (fun _ => h5)
    refine Sat.go (Eq.refl _) (NS.leave rfl (Eq.refl _) ?_)
    refine Sat.go (Eq.refl _) (NS.need (decide_eq_true (by simp only [maxRow]; show ((l.take k).length + 1) * _ ≤ _; omega)) ?_)
    refine Sat.go (Eq.refl _) (NS.need (by simp; omega) ?_)
    refine Sat.go (Eq.refl _) (NS.need (decide_eq_true (by simp only [maxRow]; show ((l.take k).length + 1 + ((l.length : Int) - (k : Int)).toNat) * _ ≤ _; omega)) ?_)
    rw [f1, f2]
    refine Sat.go (Eq.refl _) (NS.ret rfl rfl (LeA.tup2 (LeA.sl ?_ fun i hi j hj => ?_) (LeA.refl _)))
    ·show (l.take k).length + 1 + ((l.length : Int) - (k : Int)).toNat = _
     simp; omega
    ·have hm := row_mid (a := l.take k) (b := l.drop k) (x := o) (cs := o.cells) rfl i j hj
     rw [← hm]
     have e1 : ∀ q, rowL Ofr.cells (l.drop k) q j = rowL Ofr.cells l (k + q) j := by
      intro q
      unfold rowL
      congr 2
      simp [List.getD, List.getElem?_drop]
     show (if i < (l.take k).length + 1 then _ else rowL Ofr.cells l (k + (i - ((l.take k).length + 1))) j) = _
     rw [← e1]
     rfl
  ·have h4 : ¬ k < l.length := by have h4 : ¬ ((k : Nat) : Int) < (l.length : Int) := of_decide_eq_false h4; omega
   obtain ⟨f1, f2⟩ := fin (fun hq => absurd hq h4)
   refine Sat.go (Eq.refl _) (NS.leave rfl (Eq.refl _) ?_)
   refine Sat.go (Eq.refl _) (NS.need (decide_eq_true (by simp only [maxRow]; show ((l.take k).length + 1) * _ ≤ _; omega)) ?_)
   refine Sat.go (Eq.refl _) (NS.need (by simp; omega) ?_)
   refine Sat.go (Eq.refl _) (NS.need (decide_eq_true (by simp only [maxRow]; show ((l.take k).length + 1 + ((l.length : Int) - (k : Int)).toNat) * _ ≤ _; omega)) ?_)
   rw [f1, f2]
   refine Sat.go (Eq.refl _) (NS.ret rfl rfl (LeA.tup2 (LeA.sl ?_ fun i hi j hj => ?_) (LeA.refl _)))
   ·show (l.take k).length + 1 + ((l.length : Int) - (k : Int)).toNat = _
    simp; omega
   ·have hm := row_mid (a := l.take k) (b := l.drop k) (x := o) (cs := o.cells) rfl i j hj
    rw [← hm]
    have e1 : ∀ q, rowL Ofr.cells (l.drop k) q j = rowL Ofr.cells l (k + q) j := by
     intro q
     unfold rowL
     congr 2
     simp [List.getD, List.getElem?_drop]
    show (if i < (l.take k).length + 1 then _ else rowL Ofr.cells l (k + (i - ((l.take k).length + 1))) j) = _
    rw [← e1]
    rfl
end Go.Proofs.YtggjngbighkdgaaGreat

namespace Go.Proofs.YtggjngbighkdgaaGreat
open Go.Sy Go.Mb
set_option maxRecDepth 100000
set_option maxHeartbeats 4000000
theorem rPut_ok' (n : Nod) (e : Evt) (hr : ∀ r ∈ (putM n.dur n.self n.quota e.item e.time).1, recErr r = 0) (hu : Uniq n.dur.items) (h1 : n.dur.items.length ≤ 900000) (h2 : n.dur.inbox.length ≤ 900000) (h3 : n.jour.size ≤ 100000) (h4 : n.ofs.length ≤ 1000) : FnOK Tryz.prog 119 [.agg n.cells, .agg e.cells] (nodA (rPutM n e (putM n.dur n.self n.quota e.item e.time)), none) := by
 have c := rPut_ok n.dur n.self n.quota e.item e.time (by omega) (by omega)
 have hl := putM_len n.dur n.self n.quota e.item e.time
 generalize putM n.dur n.self n.quota e.item e.time = p at *
 have cw := rWrite_ok n p.1 hl hr hu h1 h2 h3
 unfold rPutM
 generalize rWrM n p.1 = w at *
 refine fn_ok CF rfl (by kernel_rfl) Tryz.func119 rfl ?_
 refine Sat.go (Eq.refl _) (NS.call (c) rfl ?_)
 refine Sat.go (Eq.refl _) (NS.call (cw) rfl ?_)
 refine Sat.go (Eq.refl _) (NS.ite (fun a1 => ?_) (fun a1 => ?_))
 ·rw [show rKind n e p.2.1 = 2 by unfold rKind; rw [show (p.2.1 == 1) = true from a1]; rfl]
  refine Sat.go (Eq.refl _) (NS.ite (fun b1 => ?_) (fun b1 => ?_))
  ·rw [if_pos (show 0 < p.1.length by have b1 : (p.1.length : Int) > 0 := of_decide_eq_true b1; omega)]
   refine Sat.go (Eq.refl _) (NS.chk (by kernel_rfl) ?_)
   exact Sat.go (Eq.refl _) (NS.ret rfl rfl (LeA.tup3 (LeA.refl _) (LeA.sl rfl (row_one (cells := Mb.Act.cells) (x := ⟨2, e.item, 0, p.2.1⟩) rfl)) (LeA.refl _)))
  ·rw [if_neg (show ¬ 0 < p.1.length by have b1 : ¬ (p.1.length : Int) > 0 := of_decide_eq_false b1; omega)]
   refine Sat.go (Eq.refl _) (NS.chk (by kernel_rfl) ?_)
   exact Sat.go (Eq.refl _) (NS.ret rfl rfl (LeA.tup3 (LeA.refl _) (LeA.sl rfl (row_one (cells := Mb.Act.cells) (x := ⟨2, e.item, 0, p.2.1⟩) rfl)) (LeA.refl _)))
 refine Sat.go (Eq.refl _) (NS.ite (fun a2 => ?_) (fun a2 => ?_))
 ·rw [show rKind n e p.2.1 = 2 by unfold rKind; rw [show (p.2.1 == 1) = false from a1, show (p.2.1 == 2) = true from a2]; rfl]
  refine Sat.go (Eq.refl _) (NS.ite (fun b1 => ?_) (fun b1 => ?_))
  ·rw [if_pos (show 0 < p.1.length by have b1 : (p.1.length : Int) > 0 := of_decide_eq_true b1; omega)]
   refine Sat.go (Eq.refl _) (NS.chk (by kernel_rfl) ?_)
   exact Sat.go (Eq.refl _) (NS.ret rfl rfl (LeA.tup3 (LeA.refl _) (LeA.sl rfl (row_one (cells := Mb.Act.cells) (x := ⟨2, e.item, 0, p.2.1⟩) rfl)) (LeA.refl _)))
  ·rw [if_neg (show ¬ 0 < p.1.length by have b1 : ¬ (p.1.length : Int) > 0 := of_decide_eq_false b1; omega)]
   refine Sat.go (Eq.refl _) (NS.chk (by kernel_rfl) ?_)
   exact Sat.go (Eq.refl _) (NS.ret rfl rfl (LeA.tup3 (LeA.refl _) (LeA.sl rfl (row_one (cells := Mb.Act.cells) (x := ⟨2, e.item, 0, p.2.1⟩) rfl)) (LeA.refl _)))
 refine Sat.go (Eq.refl _) (NS.ite (fun a3 => ?_) (fun a3 => ?_))
 ·refine Sat.go (Eq.refl _) (NS.call (offered_ok n.ofs e.item.id (-1) h4) rfl ?_)
  refine Sat.go (Eq.refl _) (NS.ite (fun a4 => ?_) (fun a4 => ?_))
  ·rw [show rKind n e p.2.1 = 2 by unfold rKind; rw [show (p.2.1 == 1) = false from a1, show (p.2.1 == 2) = false from a2, show (p.2.1 == 3) = true from a3, show (idx (ofAt e.item.id (-1)) n.ofs == -1) = true from a4]; rfl]
   refine Sat.go (Eq.refl _) (NS.ite (fun b1 => ?_) (fun b1 => ?_))
   ·rw [if_pos (show 0 < p.1.length by have b1 : (p.1.length : Int) > 0 := of_decide_eq_true b1; omega)]
    refine Sat.go (Eq.refl _) (NS.chk (by kernel_rfl) ?_)
    exact Sat.go (Eq.refl _) (NS.ret rfl rfl (LeA.tup3 (LeA.refl _) (LeA.sl rfl (row_one (cells := Mb.Act.cells) (x := ⟨2, e.item, 0, p.2.1⟩) rfl)) (LeA.refl _)))
   ·rw [if_neg (show ¬ 0 < p.1.length by have b1 : ¬ (p.1.length : Int) > 0 := of_decide_eq_false b1; omega)]
    refine Sat.go (Eq.refl _) (NS.chk (by kernel_rfl) ?_)
    exact Sat.go (Eq.refl _) (NS.ret rfl rfl (LeA.tup3 (LeA.refl _) (LeA.sl rfl (row_one (cells := Mb.Act.cells) (x := ⟨2, e.item, 0, p.2.1⟩) rfl)) (LeA.refl _)))
  ·rw [show rKind n e p.2.1 = 3 by unfold rKind; rw [show (p.2.1 == 1) = false from a1, show (p.2.1 == 2) = false from a2, show (p.2.1 == 3) = true from a3, show (idx (ofAt e.item.id (-1)) n.ofs == -1) = false from a4]; rfl]
   refine Sat.go (Eq.refl _) (NS.ite (fun b1 => ?_) (fun b1 => ?_))
   ·rw [if_pos (show 0 < p.1.length by have b1 : (p.1.length : Int) > 0 := of_decide_eq_true b1; omega)]
    refine Sat.go (Eq.refl _) (NS.chk (by kernel_rfl) ?_)
    exact Sat.go (Eq.refl _) (NS.ret rfl rfl (LeA.tup3 (LeA.refl _) (LeA.sl rfl (row_one (cells := Mb.Act.cells) (x := ⟨3, e.item, 0, p.2.1⟩) rfl)) (LeA.refl _)))
   ·rw [if_neg (show ¬ 0 < p.1.length by have b1 : ¬ (p.1.length : Int) > 0 := of_decide_eq_false b1; omega)]
    refine Sat.go (Eq.refl _) (NS.chk (by kernel_rfl) ?_)
    exact Sat.go (Eq.refl _) (NS.ret rfl rfl (LeA.tup3 (LeA.refl _) (LeA.sl rfl (row_one (cells := Mb.Act.cells) (x := ⟨3, e.item, 0, p.2.1⟩) rfl)) (LeA.refl _)))
 ·rw [show rKind n e p.2.1 = 3 by unfold rKind; rw [show (p.2.1 == 1) = false from a1, show (p.2.1 == 2) = false from a2, show (p.2.1 == 3) = false from a3]; rfl]
  refine Sat.go (Eq.refl _) (NS.ite (fun b1 => ?_) (fun b1 => ?_))
  ·rw [if_pos (show 0 < p.1.length by have b1 : (p.1.length : Int) > 0 := of_decide_eq_true b1; omega)]
   refine Sat.go (Eq.refl _) (NS.chk (by kernel_rfl) ?_)
   exact Sat.go (Eq.refl _) (NS.ret rfl rfl (LeA.tup3 (LeA.refl _) (LeA.sl rfl (row_one (cells := Mb.Act.cells) (x := ⟨3, e.item, 0, p.2.1⟩) rfl)) (LeA.refl _)))
  ·rw [if_neg (show ¬ 0 < p.1.length by have b1 : ¬ (p.1.length : Int) > 0 := of_decide_eq_false b1; omega)]
   refine Sat.go (Eq.refl _) (NS.chk (by kernel_rfl) ?_)
   exact Sat.go (Eq.refl _) (NS.ret rfl rfl (LeA.tup3 (LeA.refl _) (LeA.sl rfl (row_one (cells := Mb.Act.cells) (x := ⟨3, e.item, 0, p.2.1⟩) rfl)) (LeA.refl _)))
theorem rSend_ok (n : Nod) (e : Evt) (h1 : n.dur.items.length ≤ 900000) (h4 : n.ofs.length ≤ 1000) : FnOK Tryz.prog 120 [.agg n.cells, .agg e.cells] (nodA (rSendM n e), none) := by
 unfold rSendM
 refine fn_ok CF rfl (by kernel_rfl) Tryz.func120 rfl ?_
 refine Sat.go (Eq.refl _) (NS.call (rFind_ok' n.dur e.id (by omega)) rfl ?_)
 refine Sat.go (Eq.refl _) (NS.ite (fun a1 => ?_) (fun a1 => ?_))
 ·rw [if_pos a1]
  exact Sat.go (Eq.refl _) (NS.ret rfl rfl (LeA.tup3 (LeA.refl _) (LeA.nil' rfl) (LeA.refl _)))
 rw [if_neg (by rw [a1]; decide)]
 refine Sat.go (Eq.refl _) (NS.call (offered_ok n.ofs e.id e.contact h4) rfl ?_)
 refine Sat.go (Eq.refl _) (NS.ite (fun a2 => ?_) (fun a2 => ?_))
 ·rw [if_pos (of_decide_eq_true a2)]
  exact Sat.go (Eq.refl _) (NS.ret rfl rfl (LeA.tup3 (LeA.refl _) (LeA.nil' rfl) (LeA.refl _)))
 rw [if_neg (of_decide_eq_false a2)]
 refine Sat.go (Eq.refl _) (NS.call (rBegin_ok n.ofs e.id e.contact e.due) rfl ?_)
 refine Sat.go (Eq.refl _) (NS.ite (fun a3 => ?_) (fun a3 => ?_))
 ·rw [if_pos a3]
  exact Sat.go (Eq.refl _) (NS.ret rfl rfl (LeA.tup3 (LeA.refl _) (LeA.nil' rfl) (LeA.refl _)))
 rw [if_neg (by rw [a3]; decide)]
 refine Sat.go (Eq.refl _) (NS.chk (by kernel_rfl) ?_)
 exact Sat.go (Eq.refl _) (NS.ret rfl rfl (LeA.tup3 (LeA.refl _) (LeA.sl rfl (row_one (cells := Mb.Act.cells) (x := ⟨1, (findM n.dur e.id).1, e.contact, 0⟩) rfl)) (LeA.refl _)))
theorem erase_snoc {l : List Ofr} {k i : Nat} (hk : k < l.length) (hi : i < l.length) : (l.take (k + 1)).eraseIdx i = if k = i then (l.take k).eraseIdx i else (l.take k).eraseIdx i ++ [l.getD k default] := by
 rw [take_snoc hk]
 have hl : (l.take k).length = k := by simp; omega
 split
 ·rename_i e
  subst e
  have e1 : (l.take k).eraseIdx k = l.take k := List.eraseIdx_of_length_le (by omega)
  rw [List.eraseIdx_append_of_length_le (by omega), hl, Nat.sub_self, e1]
  simp
 ·rename_i e
  rcases Nat.lt_or_ge i k with h | h
  ·rw [List.eraseIdx_append_of_lt_length (by omega)]
  ·have e1 : (l.take k).eraseIdx i = l.take k := List.eraseIdx_of_length_le (by omega)
   have e2 : [l.getD k default].eraseIdx (i - k) = [l.getD k default] := List.eraseIdx_of_length_le (by simp; omega)
   rw [List.eraseIdx_append_of_length_le (by omega), hl, e2, e1]
theorem rSignal_ok (n : Nod) (e : Evt) (hr : recErr ⟨2, .zero, e.id, 0, e.time⟩ = 0) (hu : Uniq n.dur.items) (h1 : n.dur.items.length ≤ 900000) (h2 : n.dur.inbox.length ≤ 900000) (h3 : n.jour.size ≤ 100000) (h4 : n.ofs.length ≤ 1000) : FnOK Tryz.prog 121 [.agg n.cells, .agg e.cells] (nodA (rSigM n e), none) := by
 unfold rSigM
 refine fn_ok CF rfl (by kernel_rfl) Tryz.func121 rfl ?_
 refine Sat.go (Eq.refl _) (NS.call (offered_ok n.ofs e.id e.contact h4) rfl ?_)
 refine Sat.go (Eq.refl _) (NS.ite (fun a1 => ?_) (fun a1 => ?_))
 ·rw [if_pos a1]
  exact Sat.go (Eq.refl _) (NS.ret rfl rfl (LeA.tup3 (LeA.refl _) (LeA.nil' rfl) (LeA.refl _)))
 rw [if_neg (by rw [a1]; decide)]
 obtain ⟨i, hi, hi2⟩ : ∃ i : Nat, i < n.ofs.length ∧ idx (ofAt e.id e.contact) n.ofs = (i : Int) := by
  rcases idx_cases (ofAt e.id e.contact) n.ofs with ⟨q, _⟩ | ⟨i, q1, q2, _⟩
  ·rw [q] at a1; cases a1
  ·exact ⟨i, q1, q2⟩
 rw [hi2, Int.toNat_natCast]
 have hle : ∀ k, ((n.ofs.take k).eraseIdx i).length ≤ k := fun k => Nat.le_trans (List.length_eraseIdx_le _ _) (by simp; omega)
 refine Sat.go (Eq.refl _) ?_
 refine NS.loop (σ := { k : Nat // k ≤ n.ofs.length }) (fun k => [(2, .ptr 2 0), (3, .ptr 3 0), (4, .ptr 4 0), (7, .int .i64 (i : Nat)), (8, .own 8), (9, .int .i64 k.1)]) (fun k => [(2, .box n.cells), (3, .box e.cells), (4, .box [.junk, .junk, .junk, .junk, .junk, .junk, .junk, .junk]), (8, .row 67 8 ((n.ofs.take k.1).eraseIdx i).length (rowL Ofr.cells ((n.ofs.take k.1).eraseIdx i)))]) (fun k => n.ofs.length - k.1) ⟨0, Nat.zero_le _⟩ ?_ ?_
 ·refine (weak_promote 8 8 67 8 (rowL Ofr.cells []) rfl rfl).trans ?_
  exact weak_hd [] rfl ⟨rfl, rfl, rfl, rfl, rfl, rfl, trivial⟩ ⟨⟨_, rfl, renNod _ _⟩, ⟨_, rfl, renEvt _ _⟩, ⟨_, rfl, ⟨_, _, rfl, trivial, _, _, rfl, trivial, _, _, rfl, trivial, _, _, rfl, trivial, _, _, rfl, trivial, _, _, rfl, trivial, _, _, rfl, trivial, _, _, rfl, trivial, rfl⟩⟩, ren_row rfl (by simp) (fun _ hq => by simp at hq), trivial⟩ trivial (by kernel_rfl)
 rintro ⟨k, hk⟩
 have hle := hle k
 refine Sat.go (Eq.refl _) (NS.ite (fun h => ?_) (fun h => ?_))
 ·have h : k < n.ofs.length := by simpa using h
  have hsn := erase_snoc h hi
  refine Sat.go (Eq.refl _) (NS.ite (fun h5 => ?_) (fun h5 => ?_))
  ·have hne : k ≠ i := by intro q; subst q; simp at h5
   rw [if_neg hne] at hsn
   refine Sat.go (Eq.refl _) (NS.need (by simp; omega) ?_)
   refine Sat.go (Eq.refl _) (NS.need (decide_eq_true (by simp only [maxRow]; show (((n.ofs.take k).eraseIdx i).length + 1) * _ ≤ _; omega)) ?_)
   refine Sat.go (Eq.refl _) (NS.next ⟨k + 1, by omega⟩ (by simp; omega) ?_)
   refine weak_hd [(8, 37)] rfl ⟨rfl, rfl, rfl, rfl, rfl, ren_int rfl (i64_k (k := k) (by omega) (by omega)), trivial⟩ ⟨⟨_, rfl, renNod _ _⟩, ⟨_, rfl, renEvt _ _⟩, ⟨_, rfl, ⟨_, _, rfl, trivial, _, _, rfl, trivial, _, _, rfl, trivial, _, _, rfl, trivial, _, _, rfl, trivial, _, _, rfl, trivial, _, _, rfl, trivial, _, _, rfl, trivial, rfl⟩⟩, ?_, trivial⟩ trivial (by kernel_rfl)
   rw [hsn]
   exact ren_row rfl (by simp) (fun q hq j hj => row_snoc (cells := Ofr.cells) (x := n.ofs.getD k default) rfl q (by simpa using hq) j hj)
  ·have he : k = i := by have h5 : ((k : Int) != (i : Int)) = false := h5; simp at h5; omega
   rw [if_pos he] at hsn
   refine Sat.go (Eq.refl _) (NS.next ⟨k + 1, by omega⟩ (by simp; omega) ?_)
   refine weak_hd [] rfl ⟨rfl, rfl, rfl, rfl, rfl, ren_int rfl (i64_k (k := k) (by omega) (by omega)), trivial⟩ ⟨⟨_, rfl, renNod _ _⟩, ⟨_, rfl, renEvt _ _⟩, ⟨_, rfl, ⟨_, _, rfl, trivial, _, _, rfl, trivial, _, _, rfl, trivial, _, _, rfl, trivial, _, _, rfl, trivial, _, _, rfl, trivial, _, _, rfl, trivial, _, _, rfl, trivial, rfl⟩⟩, ?_, trivial⟩ trivial (by kernel_rfl)
   rw [hsn]
   exact ren_row rfl rfl fun _ _ _ _ => rfl
 ·have h : ¬ k < n.ofs.length := by simpa using h
  obtain rfl : k = n.ofs.length := by omega
  refine Sat.go (Eq.refl _) (NS.leave rfl (Eq.refl _) ?_)
  refine Sat.wk (weak_freeze 8 8 rfl rfl) ?_
  have hfin : (n.ofs.take n.ofs.length).eraseIdx i = n.ofs.eraseIdx i := by rw [List.take_length]
  refine Sat.go (Eq.refl _) (NS.call ((ended_ok { n with ofs := n.ofs.eraseIdx i } e.id true e.acc e.time hr hu h1 h2 h3 (Nat.le_trans (List.length_eraseIdx_le _ _) h4)).le (LeL.cons ?_ (LeL.cons (LeA.refl _) (LeL.cons (LeA.kb true) (LeL.refl _))))) rfl ?_)
  ·rw [← hfin]; exact LeA.refl _
  exact Sat.go (Eq.refl _) (NS.ret rfl rfl (LeA.refl _))
end Go.Proofs.YtggjngbighkdgaaGreat

namespace Go.Proofs.YtggjngbighkdgaaGreat
open Go.Sy Go.Mb
set_option maxRecDepth 100000
set_option maxHeartbeats 4000000
def Szr (n : Nod) : Prop := Uniq n.dur.items ∧ n.dur.items.length ≤ 800000 ∧ n.dur.inbox.length ≤ 800000 ∧ n.jour.size ≤ 100000 ∧ n.ofs.length ≤ 1000
theorem Szr.remZ {n : Nod} (h : Szr n) (id : Nid) (now : Int) : Szr (rRemM n id now).1 := by
 obtain ⟨h1, h2, h3, h4, h5⟩ := h
 have hd : (rWrM n [⟨2, .zero, id, 0, now⟩]).1.dur = n.dur ∨ (rWrM n [⟨2, .zero, id, 0, now⟩]).1.dur = ⟨n.dur.items.filter (notId id), n.dur.inbox⟩ := by
  unfold rWrM
  split
  ·exact .inl rfl
  ·exact .inr rfl
 have hj : (rWrM n [⟨2, .zero, id, 0, now⟩]).1.jour.size ≤ 100000 := by
  unfold rWrM
  split
  ·exact h4
  ·rename_i q
   show (bs _).size ≤ _
   rw [bs_len]
   have := appM_le (s := ls n.jour) (l := [⟨2, .zero, id, 0, now⟩]) (by simpa using q)
   omega
 have hf : (n.dur.items.filter (notId id)).length ≤ n.dur.items.length := List.length_filter_le _ _
 refine ⟨?_, ?_, ?_, hj, Nat.le_trans (List.length_filter_le _ _) h5⟩
 ·show Uniq (rWrM n [⟨2, .zero, id, 0, now⟩]).1.dur.items
  rcases hd with hd | hd <;> rw [hd]
  ·exact h1
  ·exact uniq_filter h1
 ·show (rWrM n [⟨2, .zero, id, 0, now⟩]).1.dur.items.length ≤ _
  rcases hd with hd | hd <;> rw [hd]
  ·exact h2
  ·show (n.dur.items.filter (notId id)).length ≤ _; omega
 ·show (rWrM n [⟨2, .zero, id, 0, now⟩]).1.dur.inbox.length ≤ _
  rcases hd with hd | hd <;> rw [hd] <;> exact h3
theorem Szr.endZ {n : Nod} (h : Szr n) (id : Nid) (s a : Bool) (now : Int) : Szr (rEndM n id s a now).1 ∧ (rEndM n id s a now).2.1.length = 1 := by
 unfold rEndM
 split
 ·exact ⟨h, rfl⟩
 ·exact ⟨h.remZ id now, rfl⟩
theorem rTm_stick {due : List Ofr} {now : Int} {n : Nod} {k : Nat} (h : (rTmN due now n k).2.2 ≠ 0) : ∀ m, k ≤ m → rTmN due now n m = rTmN due now n k := by
  intro m hm
  induction m with
  | zero => obtain rfl : k = 0 := by omega
            rfl
  | succ m ih =>
    rcases Nat.eq_or_lt_of_le hm with e | e
    · rw [e]
    · have := ih (by omega)
      rw [rTmN, if_pos (by rw [this]; simpa using h), this]
theorem nodA_le {R : Nod × List Mb.Act × Int} {n : Nod} {acts : List Mb.Act} {f : Int} (h : R = (n, acts, f)) {x y w : A} (h1 : LeA x (.agg n.cells)) (h2 : LeA y (slAct acts)) (h4 : LeA w (.int .i64 f)) : LeA (.tup [x, y, w]) (nodA R) := by
 subst h; exact LeA.tup3 h1 h2 h4
theorem snoc_len {α : Type} (l : List α) (x : α) : l.length + 1 = (l ++ [x]).length := by simp
theorem renNod2 (σ : Nat → Nat) {x y : Nod} (h : x = y) : RenL σ x.cells y.cells := by subst h; exact renNod σ x
theorem rTimer_ok (n : Nod) (e : Evt) (hz : Szr n) (hr : ∀ o ∈ (dueM n.ofs e.time).1, recErr ⟨2, .zero, o.id, 0, e.time⟩ = 0) : FnOK Tryz.prog 122 [.agg n.cells, .agg e.cells] (nodA (rTimM n e), none) := by
 obtain ⟨d1, d2⟩ := dueM_len n.ofs e.time
 have h5 := hz.2.2.2.2
 refine fn_ok CF rfl (by kernel_rfl) Tryz.func122 rfl ?_
 refine Sat.go (Eq.refl _) (NS.call (rDue_ok n.ofs e.time) rfl ?_)
 obtain ⟨l, hl⟩ : ∃ l, l = (dueM n.ofs e.time).1 := ⟨_, rfl⟩
 obtain ⟨n0, hn0⟩ : ∃ n0 : Nod, n0 = { n with ofs := (dueM n.ofs e.time).2.1 } := ⟨_, rfl⟩
 have hz0 : Szr n0 := by rw [hn0]; exact ⟨hz.1, hz.2.1, hz.2.2.1, hz.2.2.2.1, Nat.le_trans d2 h5⟩
 obtain ⟨R, hR⟩ : ∃ R, R = rTimM n e := ⟨_, rfl⟩
 have hR2 : R = rTmN l e.time n0 l.length := by rw [hR, hl, hn0]; rfl
 rw [← hR]
 rw [← hl] at d1 hr
 rw [← hl]
 refine Sat.go (Eq.refl _) ?_
 refine NS.loop (σ := { q : Nat × Nod × List Mb.Act // q.1 ≤ l.length ∧ rTmN l e.time n0 q.1 = (q.2.1, q.2.2, 0) ∧ Szr q.2.1 ∧ q.2.2.length ≤ q.1 }) (fun q => [(2, .ptr 2 0), (3, .ptr 3 0), (4, .ptr 4 0), (7, slOfr l), (10, .own 10), (11, .int .i64 (q.1.1 : Nat))]) (fun q => [(2, .box q.1.2.1.cells), (3, .box e.cells), (4, .box [.junk, .junk, .junk, .junk, .junk, .junk, .junk, .junk]), (10, rowAct q.1.2.2)]) (fun q => l.length - q.1.1) ⟨(0, n0, []), Nat.zero_le _, rfl, hz0, Nat.zero_le _⟩ ?_ ?_
 ·refine (weak_promote 10 10 63 14 (rowL Mb.Act.cells []) rfl rfl).trans ?_
  exact weak_hd [] rfl ⟨rfl, rfl, rfl, rfl, rfl, rfl, trivial⟩ ⟨⟨_, rfl, renNod2 _ (y := { n with ofs := (dueM n.ofs e.time).2.1 }) hn0⟩, ⟨_, rfl, renEvt _ _⟩, ⟨_, rfl, ⟨_, _, rfl, trivial, _, _, rfl, trivial, _, _, rfl, trivial, _, _, rfl, trivial, _, _, rfl, trivial, _, _, rfl, trivial, _, _, rfl, trivial, _, _, rfl, trivial, rfl⟩⟩, ren_row rfl rfl fun _ _ _ _ => rfl, trivial⟩ trivial (by kernel_rfl)
 rintro ⟨⟨k, m, out⟩, hk, hs, hm, ho⟩
 have hk : k ≤ l.length := hk
 have hs : rTmN l e.time n0 k = (m, out, 0) := hs
 have hm : Szr m := hm
 have ho : out.length ≤ k := ho
 have hstep : rTmN l e.time n0 (k + 1) = if decide (0 < k) && (l.getD k default).id.eqv (l.getD (k - 1) default).id then (m, out, 0)
  else if (rEndM m (l.getD k default).id false false e.time).2.2 != 0 then (m, [], (rEndM m (l.getD k default).id false false e.time).2.2)
  else ((rEndM m (l.getD k default).id false false e.time).1, out ++ (rEndM m (l.getD k default).id false false e.time).2.1, 0) := by
  rw [rTmN, hs, if_neg (by simp)]
 refine Sat.go (Eq.refl _) (NS.ite (fun h => ?_) (fun h => ?_))
 ·have h : k < l.length := by simpa using h
  refine Sat.go (Eq.refl _) (NS.chk (by kernel_rfl) ?_)
  rcases Nat.eq_zero_or_pos k with hk0 | hk0
  ·refine Sat.go (Eq.refl _) (NS.no (decide_eq_false (by show ¬ ((k : Nat) : Int) > 0; omega)) ?_)
   rw [show decide (0 < k) = false from decide_eq_false (by omega), Bool.false_and, if_neg (by decide)] at hstep
   refine Sat.go (Eq.refl _) (NS.chk (by kernel_rfl) ?_)
   refine Sat.go (Eq.refl _) (NS.need (by simp; omega) ?_)
   refine Sat.go (Eq.refl _) (NS.call ((ended_ok m (l.getD k default).id false false e.time (hr _ (by rw [getD_lt h]; exact List.getElem_mem h)) hm.1 (Nat.le_trans hm.2.1 (by decide)) (Nat.le_trans hm.2.2.1 (by decide)) hm.2.2.2.1 hm.2.2.2.2).le (LeL.cons (LeA.refl _) (LeL.cons (LeA.refl _) (LeL.cons (LeA.kb false) (LeL.cons (LeA.kb false) (LeL.refl _)))))) rfl ?_)
   have hend := hm.endZ (l.getD k default).id false false e.time
   generalize rEndM m (l.getD k default).id false false e.time = z at *
   obtain ⟨z1, z2, z3⟩ := z
   simp only at hstep hend
   obtain ⟨hz1, hz2⟩ := hend
   refine Sat.go (Eq.refl _) (NS.ite (fun b1 => ?_) (fun b1 => ?_))
   ·rw [if_pos b1] at hstep
    have hend2 : R = (m, [], z3) := by rw [hR2, rTm_stick (k := k + 1) (by rw [hstep]; simpa using b1) l.length (by omega), hstep]
    exact Sat.go (Eq.refl _) (NS.leaveOut rfl (Eq.refl _) (NS.ret rfl rfl (nodA_le hend2 (LeA.refl _) (LeA.nil' rfl) (LeA.refl _))))
   rw [if_neg (by rw [b1]; decide)] at hstep
   refine Sat.go (Eq.refl _) ?_
   refine NS.loop (σ := { p : Nat // p ≤ z2.length }) (fun p => [(2, .ptr 2 0), (3, .ptr 3 0), (4, .ptr 4 0), (7, slOfr l), (10, .own 10), (11, .int .i64 (k : Nat)), (13, slAct z2), (15, .int .i64 (p.1 : Nat))]) (fun p => [(2, .box z1.cells), (3, .box e.cells), (4, .box [.junk, .junk, .junk, .junk, .junk, .junk, .junk, .junk]), (10, rowAct (out ++ z2.take p.1))]) (fun p => z2.length - p.1) ⟨0, Nat.zero_le _⟩ ?_ ?_
   ·exact weak_hd [] rfl ⟨rfl, rfl, rfl, rfl, rfl, rfl, rfl, rfl, trivial⟩ ⟨⟨_, rfl, renNod _ _⟩, ⟨_, rfl, renEvt _ _⟩, ⟨_, rfl, ⟨_, _, rfl, trivial, _, _, rfl, trivial, _, _, rfl, trivial, _, _, rfl, trivial, _, _, rfl, trivial, _, _, rfl, trivial, _, _, rfl, trivial, _, _, rfl, trivial, rfl⟩⟩, ren_row rfl (by show out.length = (out ++ z2.take 0).length; simp) (fun i hi j hj => by show rowL Mb.Act.cells out i j = rowL Mb.Act.cells (out ++ z2.take 0) i j; rw [List.take_zero, List.append_nil]), trivial⟩ trivial (by kernel_rfl)
   rintro ⟨p, hp⟩
   have hp : p ≤ z2.length := hp
   have hop : (out ++ z2.take p).length ≤ 2000 := by simp; omega
   refine Sat.go (Eq.refl _) (NS.ite (fun c1 => ?_) (fun c1 => ?_))
   ·have c1 : p < z2.length := by have c1 : ((p : Nat) : Int) < (z2.length : Int) := of_decide_eq_true c1; omega
    have hsn := take_snoc (l := z2) (k := p) c1
    refine Sat.go (Eq.refl _) (NS.need (by simp; omega) ?_)
    refine Sat.go (Eq.refl _) (NS.need (decide_eq_true (by simp only [maxRow]; show ((out ++ z2.take p).length + 1) * _ ≤ _; omega)) ?_)
    refine Sat.go (Eq.refl _) (NS.next ⟨p + 1, by omega⟩ (by show z2.length - (p + 1) < z2.length - p; omega) ?_)
    refine weak_hd [(10, 79)] rfl ⟨rfl, rfl, rfl, rfl, rfl, rfl, rfl, ren_int rfl (i64_k (k := p) (n := z2.length) c1 (by omega)), trivial⟩ ⟨⟨_, rfl, renNod _ _⟩, ⟨_, rfl, renEvt _ _⟩, ⟨_, rfl, ⟨_, _, rfl, trivial, _, _, rfl, trivial, _, _, rfl, trivial, _, _, rfl, trivial, _, _, rfl, trivial, _, _, rfl, trivial, _, _, rfl, trivial, _, _, rfl, trivial, rfl⟩⟩, ?_, trivial⟩ trivial (by kernel_rfl)
    show RenO _ (rowAct (out ++ z2.take (p + 1))) _
    rw [hsn, ← List.append_assoc]
    exact ren_row rfl (by show (out ++ z2.take p).length + 1 = ((out ++ z2.take p) ++ [z2.getD p default]).length; exact snoc_len _ _) (fun i hi j hj => row_snoc (cells := Mb.Act.cells) (x := z2.getD p default) rfl i (by rw [List.length_append, List.length_singleton] at hi; exact hi) j hj)
   ·have c1 : ¬ p < z2.length := by have c1 : ¬ ((p : Nat) : Int) < (z2.length : Int) := of_decide_eq_false c1; omega
    obtain rfl : p = z2.length := by omega
    refine Sat.go (Eq.refl _) (NS.leave rfl (Eq.refl _) ?_)
    refine Sat.go (Eq.refl _) (NS.next ⟨(k + 1, z1, out ++ z2), by show k + 1 ≤ l.length; omega, hstep, hz1, by show (out ++ z2).length ≤ k + 1; simp; omega⟩ (by show l.length - (k + 1) < l.length - k; omega) ?_)
    refine weak_hd [] rfl ⟨rfl, rfl, rfl, rfl, rfl, ren_int rfl (i64_k (k := k) (n := l.length) h (by omega)), trivial⟩ ⟨⟨_, rfl, renNod _ _⟩, ⟨_, rfl, renEvt _ _⟩, ⟨_, rfl, ⟨_, _, rfl, trivial, _, _, rfl, trivial, _, _, rfl, trivial, _, _, rfl, trivial, _, _, rfl, trivial, _, _, rfl, trivial, _, _, rfl, trivial, _, _, rfl, trivial, rfl⟩⟩, ?_, trivial⟩ trivial (by kernel_rfl)
    show RenO _ (rowAct (out ++ z2)) _
    exact ren_row rfl (by show (out ++ z2.take z2.length).length = _; rw [List.take_length]) (fun i hi j hj => by show rowL Mb.Act.cells (out ++ z2.take z2.length) i j = _; rw [List.take_length])
  ·obtain ⟨j, rfl⟩ : ∃ j, k = j + 1 := ⟨k - 1, by omega⟩
   have e1 : IntKind.i64.wrap (((j + 1 : Nat) : Int) - 1) = (j : Int) := by rw [wrap_i64 (by omega) (by omega)]; omega
   rw [show decide (0 < j + 1) = true from decide_eq_true (by omega), Bool.true_and, show j + 1 - 1 = j from rfl] at hstep
   refine Sat.go (Eq.refl _) (NS.yes (decide_eq_true (by show ((j + 1 : Nat) : Int) > 0; omega)) ?_)
   refine Sat.go (Eq.refl _) (NS.need (by simp; omega) ?_)
   refine Sat.go (Eq.refl _) (NS.need (by rw [e1]; simp; omega) ?_)
   refine Sat.go (Eq.refl _) (NS.ite (fun hq => ?_) (fun hq => ?_))
   ·have hq : (l.getD (j + 1) default).id.eqv (l.getD (IntKind.i64.wrap (((j + 1 : Nat) : Int) - 1)).toNat default).id = true := hq
    rw [e1] at hq
    rw [if_pos (show (l.getD (j + 1) default).id.eqv (l.getD j default).id = true from hq)] at hstep
    refine Sat.go (Eq.refl _) (NS.next ⟨(j + 1 + 1, m, out), by show j + 1 + 1 ≤ l.length; omega, hstep, hm, by show out.length ≤ j + 1 + 1; omega⟩ (by show l.length - (j + 1 + 1) < l.length - (j + 1); omega) ?_)
    exact weak_hd [] rfl ⟨rfl, rfl, rfl, rfl, rfl, ren_int rfl (i64_k (k := j + 1) (n := l.length) h (by omega)), trivial⟩ ⟨⟨_, rfl, renNod _ _⟩, ⟨_, rfl, renEvt _ _⟩, ⟨_, rfl, ⟨_, _, rfl, trivial, _, _, rfl, trivial, _, _, rfl, trivial, _, _, rfl, trivial, _, _, rfl, trivial, _, _, rfl, trivial, _, _, rfl, trivial, _, _, rfl, trivial, rfl⟩⟩, ren_row rfl rfl fun _ _ _ _ => rfl, trivial⟩ trivial (by kernel_rfl)
   ·have hq : (l.getD (j + 1) default).id.eqv (l.getD (IntKind.i64.wrap (((j + 1 : Nat) : Int) - 1)).toNat default).id = false := hq
    rw [e1] at hq
    rw [if_neg (by rw [show (l.getD (j + 1) default).id.eqv (l.getD j default).id = false from hq]; decide)] at hstep
    refine Sat.go (Eq.refl _) (NS.chk (by kernel_rfl) ?_)
    refine Sat.go (Eq.refl _) (NS.need (by simp; omega) ?_)
    refine Sat.go (Eq.refl _) (NS.call ((ended_ok m (l.getD (j + 1) default).id false false e.time (hr _ (by rw [getD_lt h]; exact List.getElem_mem h)) hm.1 (Nat.le_trans hm.2.1 (by decide)) (Nat.le_trans hm.2.2.1 (by decide)) hm.2.2.2.1 hm.2.2.2.2).le (LeL.cons (LeA.refl _) (LeL.cons (LeA.refl _) (LeL.cons (LeA.kb false) (LeL.cons (LeA.kb false) (LeL.refl _)))))) rfl ?_)
    have hend := hm.endZ (l.getD (j + 1) default).id false false e.time
    generalize rEndM m (l.getD (j + 1) default).id false false e.time = z at *
    obtain ⟨z1, z2, z3⟩ := z
    simp only at hstep hend
    obtain ⟨hz1, hz2⟩ := hend
    refine Sat.go (Eq.refl _) (NS.ite (fun b1 => ?_) (fun b1 => ?_))
    ·rw [if_pos b1] at hstep
     have hend2 : R = (m, [], z3) := by rw [hR2, rTm_stick (k := (j + 1) + 1) (by rw [hstep]; simpa using b1) l.length (by omega), hstep]
     exact Sat.go (Eq.refl _) (NS.leaveOut rfl (Eq.refl _) (NS.ret rfl rfl (nodA_le hend2 (LeA.refl _) (LeA.nil' rfl) (LeA.refl _))))
    rw [if_neg (by rw [b1]; decide)] at hstep
    refine Sat.go (Eq.refl _) ?_
    refine NS.loop (σ := { p : Nat // p ≤ z2.length }) (fun p => [(2, .ptr 2 0), (3, .ptr 3 0), (4, .ptr 4 0), (7, slOfr l), (10, .own 10), (11, .int .i64 ((j + 1) : Nat)), (13, slAct z2), (15, .int .i64 (p.1 : Nat))]) (fun p => [(2, .box z1.cells), (3, .box e.cells), (4, .box [.junk, .junk, .junk, .junk, .junk, .junk, .junk, .junk]), (10, rowAct (out ++ z2.take p.1))]) (fun p => z2.length - p.1) ⟨0, Nat.zero_le _⟩ ?_ ?_
    ·exact weak_hd [] rfl ⟨rfl, rfl, rfl, rfl, rfl, rfl, rfl, rfl, trivial⟩ ⟨⟨_, rfl, renNod _ _⟩, ⟨_, rfl, renEvt _ _⟩, ⟨_, rfl, ⟨_, _, rfl, trivial, _, _, rfl, trivial, _, _, rfl, trivial, _, _, rfl, trivial, _, _, rfl, trivial, _, _, rfl, trivial, _, _, rfl, trivial, _, _, rfl, trivial, rfl⟩⟩, ren_row rfl (by show out.length = (out ++ z2.take 0).length; simp) (fun i hi j hj => by show rowL Mb.Act.cells out i j = rowL Mb.Act.cells (out ++ z2.take 0) i j; rw [List.take_zero, List.append_nil]), trivial⟩ trivial (by kernel_rfl)
    rintro ⟨p, hp⟩
    have hp : p ≤ z2.length := hp
    have hop : (out ++ z2.take p).length ≤ 2000 := by simp; omega
    refine Sat.go (Eq.refl _) (NS.ite (fun c1 => ?_) (fun c1 => ?_))
    ·have c1 : p < z2.length := by have c1 : ((p : Nat) : Int) < (z2.length : Int) := of_decide_eq_true c1; omega
     have hsn := take_snoc (l := z2) (k := p) c1
     refine Sat.go (Eq.refl _) (NS.need (by simp; omega) ?_)
     refine Sat.go (Eq.refl _) (NS.need (decide_eq_true (by simp only [maxRow]; show ((out ++ z2.take p).length + 1) * _ ≤ _; omega)) ?_)
     refine Sat.go (Eq.refl _) (NS.next ⟨p + 1, by omega⟩ (by show z2.length - (p + 1) < z2.length - p; omega) ?_)
     refine weak_hd [(10, 79)] rfl ⟨rfl, rfl, rfl, rfl, rfl, rfl, rfl, ren_int rfl (i64_k (k := p) (n := z2.length) c1 (by omega)), trivial⟩ ⟨⟨_, rfl, renNod _ _⟩, ⟨_, rfl, renEvt _ _⟩, ⟨_, rfl, ⟨_, _, rfl, trivial, _, _, rfl, trivial, _, _, rfl, trivial, _, _, rfl, trivial, _, _, rfl, trivial, _, _, rfl, trivial, _, _, rfl, trivial, _, _, rfl, trivial, rfl⟩⟩, ?_, trivial⟩ trivial (by kernel_rfl)
     show RenO _ (rowAct (out ++ z2.take (p + 1))) _
     rw [hsn, ← List.append_assoc]
     exact ren_row rfl (by show (out ++ z2.take p).length + 1 = ((out ++ z2.take p) ++ [z2.getD p default]).length; exact snoc_len _ _) (fun i hi j hj => row_snoc (cells := Mb.Act.cells) (x := z2.getD p default) rfl i (by rw [List.length_append, List.length_singleton] at hi; exact hi) j hj)
    ·have c1 : ¬ p < z2.length := by have c1 : ¬ ((p : Nat) : Int) < (z2.length : Int) := of_decide_eq_false c1; omega
     obtain rfl : p = z2.length := by omega
     refine Sat.go (Eq.refl _) (NS.leave rfl (Eq.refl _) ?_)
     refine Sat.go (Eq.refl _) (NS.next ⟨((j + 1) + 1, z1, out ++ z2), by show (j + 1) + 1 ≤ l.length; omega, hstep, hz1, by show (out ++ z2).length ≤ (j + 1) + 1; simp; omega⟩ (by show l.length - ((j + 1) + 1) < l.length - (j + 1); omega) ?_)
     refine weak_hd [] rfl ⟨rfl, rfl, rfl, rfl, rfl, ren_int rfl (i64_k (k := (j + 1)) (n := l.length) h (by omega)), trivial⟩ ⟨⟨_, rfl, renNod _ _⟩, ⟨_, rfl, renEvt _ _⟩, ⟨_, rfl, ⟨_, _, rfl, trivial, _, _, rfl, trivial, _, _, rfl, trivial, _, _, rfl, trivial, _, _, rfl, trivial, _, _, rfl, trivial, _, _, rfl, trivial, _, _, rfl, trivial, rfl⟩⟩, ?_, trivial⟩ trivial (by kernel_rfl)
     show RenO _ (rowAct (out ++ z2)) _
     exact ren_row rfl (by show (out ++ z2.take z2.length).length = _; rw [List.take_length]) (fun i hi j hj => by show rowL Mb.Act.cells (out ++ z2.take z2.length) i j = _; rw [List.take_length])
 ·have h : ¬ k < l.length := by simpa using h
  obtain rfl : k = l.length := by omega
  refine Sat.go (Eq.refl _) (NS.leave rfl (Eq.refl _) ?_)
  exact Sat.go (Eq.refl _) (NS.ret rfl rfl (nodA_le (hR2.trans hs) (LeA.refl _) (LeA.refl _) (LeA.refl _)))
end Go.Proofs.YtggjngbighkdgaaGreat

namespace Go.Proofs.YtggjngbighkdgaaGreat
open Go.Sy Go.Mb
set_option maxRecDepth 100000
set_option maxHeartbeats 4000000
theorem rEx_stick {items : List Itm} {now : Int} {n : Nod} {k : Nat} (h : (rExN items now n k).2.2 ≠ 0) : ∀ m, k ≤ m → rExN items now n m = rExN items now n k := by
  intro m hm
  induction m with
  | zero => obtain rfl : k = 0 := by omega
            rfl
  | succ m ih =>
    rcases Nat.eq_or_lt_of_le hm with e | e
    · rw [e]
    · have := ih (by omega)
      rw [rExN, if_pos (by rw [this]; simpa using h), this]
theorem rExpire_ok' (n : Nod) (e : Evt) (hz : Szr n) (hr : ∀ x ∈ n.dur.items, recErr ⟨2, .zero, x.id, 0, e.time⟩ = 0) : FnOK Tryz.prog 123 [.agg n.cells, .agg e.cells] (nodA (rExpM n e), none) := by
 have hL := hz.2.1
 refine fn_ok CF rfl (by kernel_rfl) Tryz.func123 rfl ?_
 obtain ⟨l, hl⟩ : ∃ l, l = n.dur.items := ⟨_, rfl⟩
 obtain ⟨R, hR⟩ : ∃ R, R = rExpM n e := ⟨_, rfl⟩
 have hR2 : R = rExN l e.time n l.length := by rw [hR, hl]; rfl
 rw [← hR]
 rw [← hl] at hr hL
 refine Sat.go (Eq.refl _) ?_
 refine NS.loop (σ := { q : Nat × Nod × List Mb.Act // q.1 ≤ l.length ∧ rExN l e.time n q.1 = (q.2.1, q.2.2, 0) ∧ Szr q.2.1 ∧ q.2.2.length ≤ q.1 }) (fun q => [(2, .ptr 2 0), (3, .ptr 3 0), (4, .ptr 4 0), (7, .own 7), (8, slItm l), (9, .int .i64 (q.1.1 : Nat))]) (fun q => [(2, .box q.1.2.1.cells), (3, .box e.cells), (4, .box [.junk, .junk, .junk, .junk, .junk, .junk, .junk, .junk]), (7, rowAct q.1.2.2)]) (fun q => l.length - q.1.1) ⟨(0, n, []), Nat.zero_le _, rfl, hz, Nat.zero_le _⟩ ?_ ?_
 ·refine (weak_promote 7 7 63 14 (rowL Mb.Act.cells []) rfl rfl).trans ?_
  exact weak_hd [] rfl ⟨rfl, rfl, rfl, rfl, (by rw [hl]; rfl), rfl, trivial⟩ ⟨⟨_, rfl, renNod _ _⟩, ⟨_, rfl, renEvt _ _⟩, ⟨_, rfl, ⟨_, _, rfl, trivial, _, _, rfl, trivial, _, _, rfl, trivial, _, _, rfl, trivial, _, _, rfl, trivial, _, _, rfl, trivial, _, _, rfl, trivial, _, _, rfl, trivial, rfl⟩⟩, ren_row rfl rfl fun _ _ _ _ => rfl, trivial⟩ trivial (by kernel_rfl)
 rintro ⟨⟨k, m, out⟩, hk, hs, hm, ho⟩
 have hk : k ≤ l.length := hk
 have hs : rExN l e.time n k = (m, out, 0) := hs
 have hm : Szr m := hm
 have ho : out.length ≤ k := ho
 have hstep : rExN l e.time n (k + 1) = if (l.getD k default).expires > e.time then (m, out, 0)
  else if (rRemM m (l.getD k default).id e.time).2.2 != 0 then (m, [], (rRemM m (l.getD k default).id e.time).2.2)
  else ((rRemM m (l.getD k default).id e.time).1, out ++ [(rRemM m (l.getD k default).id e.time).2.1.getD 0 default], 0) := by
  rw [rExN, hs, if_neg (by simp)]
 refine Sat.go (Eq.refl _) (NS.ite (fun h => ?_) (fun h => ?_))
 ·have h : k < l.length := by simpa using h
  refine Sat.go (Eq.refl _) (NS.chk (by kernel_rfl) ?_)
  refine Sat.go (Eq.refl _) (NS.need (by simp; omega) ?_)
  refine Sat.go (Eq.refl _) (NS.ite (fun h2 => ?_) (fun h2 => ?_))
  ·have h2 : (l.getD k default).expires > e.time := of_decide_eq_true h2
   rw [if_pos h2] at hstep
   refine Sat.go (Eq.refl _) (NS.next ⟨(k + 1, m, out), by show k + 1 ≤ l.length; omega, hstep, hm, by show out.length ≤ k + 1; omega⟩ (by show l.length - (k + 1) < l.length - k; omega) ?_)
   exact weak_hd [] rfl ⟨rfl, rfl, rfl, rfl, rfl, ren_int rfl (i64_k (k := k) (n := l.length) h (by omega)), trivial⟩ ⟨⟨_, rfl, renNod _ _⟩, ⟨_, rfl, renEvt _ _⟩, ⟨_, rfl, ⟨_, _, rfl, trivial, _, _, rfl, trivial, _, _, rfl, trivial, _, _, rfl, trivial, _, _, rfl, trivial, _, _, rfl, trivial, _, _, rfl, trivial, _, _, rfl, trivial, rfl⟩⟩, ren_row rfl rfl fun _ _ _ _ => rfl, trivial⟩ trivial (by kernel_rfl)
  have h2 : ¬ (l.getD k default).expires > e.time := of_decide_eq_false h2
  rw [if_neg h2] at hstep
  refine Sat.go (Eq.refl _) (NS.chk (by kernel_rfl) ?_)
  refine Sat.go (Eq.refl _) (NS.need (by simp; omega) ?_)
  refine Sat.go (Eq.refl _) (NS.call (rRemove_ok' m (l.getD k default).id e.time (hr _ (by rw [getD_lt h]; exact List.getElem_mem h)) hm.1 (Nat.le_trans hm.2.1 (by decide)) (Nat.le_trans hm.2.2.1 (by decide)) hm.2.2.2.1 hm.2.2.2.2) rfl ?_)
  have hz1 := hm.remZ (l.getD k default).id e.time
  have hz2 : (rRemM m (l.getD k default).id e.time).2.1.length = 1 := rfl
  generalize rRemM m (l.getD k default).id e.time = z at *
  obtain ⟨z1, z2, z3⟩ := z
  simp only at hstep hz1 hz2
  refine Sat.go (Eq.refl _) (NS.ite (fun b1 => ?_) (fun b1 => ?_))
  ·rw [if_pos b1] at hstep
   have hend2 : R = (m, [], z3) := by rw [hR2, rEx_stick (k := k + 1) (by rw [hstep]; simpa using b1) l.length (by omega), hstep]
   exact Sat.go (Eq.refl _) (NS.leaveOut rfl (Eq.refl _) (NS.ret rfl rfl (nodA_le hend2 (LeA.refl _) (LeA.nil' rfl) (LeA.refl _))))
  rw [if_neg (by rw [b1]; decide)] at hstep
  refine Sat.go (Eq.refl _) (NS.need (by simp; omega) ?_)
  refine Sat.go (Eq.refl _) (NS.need (decide_eq_true (by simp only [maxRow]; show (out.length + 1) * _ ≤ _; omega)) ?_)
  refine Sat.go (Eq.refl _) (NS.next ⟨(k + 1, z1, out ++ [z2.getD 0 default]), by show k + 1 ≤ l.length; omega, hstep, hz1, by show (out ++ [_]).length ≤ k + 1; simp; omega⟩ (by show l.length - (k + 1) < l.length - k; omega) ?_)
  refine weak_hd [(7, 53)] rfl ⟨rfl, rfl, rfl, rfl, rfl, ren_int rfl (i64_k (k := k) (n := l.length) h (by omega)), trivial⟩ ⟨⟨_, rfl, renNod _ _⟩, ⟨_, rfl, renEvt _ _⟩, ⟨_, rfl, ⟨_, _, rfl, trivial, _, _, rfl, trivial, _, _, rfl, trivial, _, _, rfl, trivial, _, _, rfl, trivial, _, _, rfl, trivial, _, _, rfl, trivial, _, _, rfl, trivial, rfl⟩⟩, ?_, trivial⟩ trivial (by kernel_rfl)
  show RenO _ (rowAct (out ++ [z2.getD 0 default])) _
  exact ren_row rfl (snoc_len _ _) (fun i hi j hj => row_snoc (cells := Mb.Act.cells) (x := z2.getD 0 default) rfl i (by rw [← snoc_len] at hi; exact hi) j hj)
 ·have h : ¬ k < l.length := by simpa using h
  obtain rfl : k = l.length := by omega
  refine Sat.go (Eq.refl _) (NS.leave rfl (Eq.refl _) ?_)
  exact Sat.go (Eq.refl _) (NS.ret rfl rfl (nodA_le (hR2.trans hs) (LeA.refl _) (LeA.refl _) (LeA.refl _)))
end Go.Proofs.YtggjngbighkdgaaGreat

namespace Go.Proofs.YtggjngbighkdgaaGreat
open Go.Sy Go.Mb
set_option maxRecDepth 100000
set_option maxHeartbeats 4000000
noncomputable def ERG : Env := { P := Tryz.prog, eqT := lookE eqTab, frz := [92] }
theorem ERG_ok : EqOK ERG := eqOK_of eqTab_ok
noncomputable def CRG : Cx := { E := ERG, inl := [], ok := ERG_ok }
theorem rGo_ok (n : Nod) (e : Evt) (hz : Szr n) (hk : 1 ≤ e.kind ∧ e.kind ≤ 7) (hr : RecsOK n e) : FnOK Tryz.prog 76 [.agg n.cells, .agg e.cells] (nodA (rGoM n e), none) := by
 obtain ⟨u, z1, z2, z3, z4⟩ := hz
 unfold rGoM
 refine fn_ok CRG rfl (by kernel_rfl) Tryz.func76 rfl ?_
 refine Sat.go (Eq.refl _) (NS.ite (fun k1 => ?_) (fun k1 => ?_))
 ·rw [if_pos k1]
  refine Sat.go (Eq.refl _) (NS.call (rPut_ok' (lastN n) e (hr.put (by simpa using k1)) u (Nat.le_trans z1 (by decide)) (Nat.le_trans z2 (by decide)) z3 z4) rfl ?_)
  exact Sat.go (Eq.refl _) (NS.ret rfl rfl (LeA.refl _))
 rw [if_neg (by rw [k1]; decide)]
 refine Sat.go (Eq.refl _) (NS.ite (fun k2 => ?_) (fun k2 => ?_))
 ·rw [if_pos k2]
  refine Sat.go (Eq.refl _) (NS.call (rSend_ok (lastN n) e (Nat.le_trans z1 (by decide)) z4) rfl ?_)
  exact Sat.go (Eq.refl _) (NS.ret rfl rfl (LeA.refl _))
 rw [if_neg (by rw [k2]; decide)]
 refine Sat.go (Eq.refl _) (NS.ite (fun k3 => ?_) (fun k3 => ?_))
 ·rw [if_pos k3]
  refine Sat.go (Eq.refl _) (NS.call (rSignal_ok (lastN n) e (hr.id (.inl (by simpa using k3))) u (Nat.le_trans z1 (by decide)) (Nat.le_trans z2 (by decide)) z3 z4) rfl ?_)
  exact Sat.go (Eq.refl _) (NS.ret rfl rfl (LeA.refl _))
 rw [if_neg (by rw [k3]; decide)]
 refine Sat.go (Eq.refl _) (NS.ite (fun k4 => ?_) (fun k4 => ?_))
 ·rw [if_pos k4]
  refine Sat.go (Eq.refl _) (NS.call (rTimer_ok (lastN n) e ⟨u, z1, z2, z3, z4⟩ (hr.due (by simpa using k4))) rfl ?_)
  exact Sat.go (Eq.refl _) (NS.ret rfl rfl (LeA.refl _))
 rw [if_neg (by rw [k4]; decide)]
 refine Sat.go (Eq.refl _) (NS.ite (fun k5 => ?_) (fun k5 => ?_))
 ·rw [if_pos k5]
  refine Sat.go (Eq.refl _) (NS.call (rExpire_ok' (lastN n) e ⟨u, z1, z2, z3, z4⟩ (hr.exp (by simpa using k5))) rfl ?_)
  exact Sat.go (Eq.refl _) (NS.ret rfl rfl (LeA.refl _))
 rw [if_neg (by rw [k5]; decide)]
 refine Sat.go (Eq.refl _) (NS.call (rFind_ok' n.dur e.id (Nat.le_trans z1 (by decide))) rfl ?_)
 refine Sat.go (Eq.refl _) (NS.ite (fun k6 => ?_) (fun k6 => ?_))
 ·rw [if_pos k6]
  exact Sat.go (Eq.refl _) (NS.ret rfl rfl (LeA.tup3 (LeA.refl _) (LeA.nil' rfl) (LeA.refl _)))
 rw [if_neg (by rw [k6]; decide)]
 refine Sat.go (Eq.refl _) (NS.ite (fun k7 => ?_) (fun k7 => ?_))
 ·rw [if_pos k7]
  refine Sat.go (Eq.refl _) (NS.call (rRemove_ok' (lastN n) e.id e.time (hr.id (.inr (by simpa using k7))) u (Nat.le_trans z1 (by decide)) (Nat.le_trans z2 (by decide)) z3 z4) rfl ?_)
  exact Sat.go (Eq.refl _) (NS.ret rfl rfl (LeA.refl _))
 rw [if_neg (by rw [k7]; decide)]
 have hk7 : e.kind = 7 := by
  have k1 : (e.kind == 1) = false := k1
  have k2 : (e.kind == 2) = false := k2
  have k3 : (e.kind == 3) = false := k3
  have k4 : (e.kind == 4) = false := k4
  have k5 : (e.kind == 5) = false := k5
  have k7 : (e.kind == 6) = false := k7
  simp at k1 k2 k3 k4 k5 k7
  omega
 refine Sat.go (Eq.refl _) (NS.call ((rWrite_ok (lastN n) [⟨4, .zero, e.id, e.ticket, e.time⟩] (by simp) (by simpa using hr.tick hk7) u (Nat.le_trans z1 (by decide)) (Nat.le_trans z2 (by decide)) z3).le (LeL.cons (LeA.refl _) (LeL.cons (LeA.sl rfl (row_one rfl)) LeL.nil))) rfl ?_)
 exact Sat.go (Eq.refl _) (NS.ret rfl rfl (LeA.tup3 (LeA.refl _) (LeA.nil' rfl) (LeA.refl _)))
theorem act_ne {a b : Mb.Act} (h : a ≠ b) : Mb.Act.eqv a b = false := by rw [← Bool.not_eq_true, Mb.Act.eqv_iff]; exact h
theorem act_eq {a b : Mb.Act} (h1 : a.kind = b.kind) (h2 : a.item = b.item) (h3 : a.contact = b.contact) (h4 : a.value = b.value) : Mb.Act.eqv a b = true := by
 rw [Mb.Act.eqv_iff]
 obtain ⟨_, _, _, _⟩ := a
 obtain ⟨_, _, _, _⟩ := b
 simp only at h1 h2 h3 h4
 subst h1 h2 h3 h4
 rfl
theorem sameA_ok (l m : List Mb.Act) (hl : l.length ≤ 100000000) : FnOK Tryz.prog 26 [slAct l, slAct m] (.bool (sameBy Mb.Act.eqv l m), none) := by
 refine fn_ok CF rfl (by kernel_rfl) Tryz.func26 rfl ?_
 refine Sat.go (Eq.refl _) (NS.ite (fun h0 => ?_) (fun h0 => ?_))
 ·exact Sat.go (Eq.refl _) (NS.ret rfl rfl (LeA.of (congrArg A.bool ((sameBy_len (fun _ _ => Mb.Act.eqv_iff) (by intro e; rw [e] at h0; simp at h0)).symm))))
 have hlm : l.length = m.length := by simp only [bne_eq_false_iff_eq] at h0; omega
 refine Sat.go (Eq.refl _) ?_
 refine NS.loop (σ := { k : Nat // k ≤ l.length ∧ ∀ i, i < k → Mb.Act.eqv (l.getD i default) (m.getD i default) = true }) (fun k => [(0, slAct l), (1, slAct m), (5, .int .i64 k.1)]) (fun _ => []) (fun k => l.length - k.1) ⟨0, Nat.zero_le _, fun i hi => by omega⟩ ?_ ?_
 ·exact weak_hd [] rfl ⟨rfl, rfl, rfl, trivial⟩ trivial trivial (by kernel_rfl)
 rintro ⟨k, hk, hn⟩
 have nx : Mb.Act.eqv (l.getD k default) (m.getD k default) = true → ∀ i, i < k + 1 → Mb.Act.eqv (l.getD i default) (m.getD i default) = true := by
  intro hq i hi
  by_cases hik : i = k
  ·subst hik; exact hq
  ·exact hn i (by omega)
 refine Sat.go (Eq.refl _) (NS.ite (fun h => ?_) (fun h => ?_))
 ·have h : k < l.length := by simpa using h
  refine Sat.go (Eq.refl _) (NS.chk (by kernel_rfl) ?_)
  refine Sat.go (Eq.refl _) (NS.need (by simp; omega) ?_)
  refine Sat.go (Eq.refl _) (NS.need (by simp; omega) ?_)
  refine Sat.go (Eq.refl _) (NS.ite (fun c1 => ?_) (fun c1 => ?_))
  ·exact Sat.go (Eq.refl _) (NS.leaveOut rfl (Eq.refl _) (NS.ret rfl rfl (LeA.of (congrArg A.bool ((sameBy_f (k := k) (fun _ _ => Mb.Act.eqv_iff) (act_ne fun q => by have this : ((l.getD k default).kind == (m.getD k default).kind) = false := not_t c1; rw [q] at this; simp at this)).symm)))))
  have c1 : ((l.getD k default).kind == (m.getD k default).kind) = true := not_f c1
  refine Sat.go (Eq.refl _) (NS.need (by simp; omega) ?_)
  refine Sat.go (Eq.refl _) (NS.need (by simp; omega) ?_)
  refine Sat.go (Eq.refl _) (NS.call (sameItem_ok (l.getD k default).item (m.getD k default).item) rfl ?_)
  refine Sat.go (Eq.refl _) (NS.ite (fun c2 => ?_) (fun c2 => ?_))
  ·exact Sat.go (Eq.refl _) (NS.leaveOut rfl (Eq.refl _) (NS.ret rfl rfl (LeA.of (congrArg A.bool ((sameBy_f (k := k) (fun _ _ => Mb.Act.eqv_iff) (act_ne fun q => by have := not_t c2; rw [q, Itm.eqv_iff.2 rfl] at this; cases this)).symm)))))
  have c2 := Itm.eqv_iff.1 (not_f c2)
  refine Sat.go (Eq.refl _) (NS.need (by simp; omega) ?_)
  refine Sat.go (Eq.refl _) (NS.need (by simp; omega) ?_)
  refine Sat.go (Eq.refl _) (NS.ite (fun c3 => ?_) (fun c3 => ?_))
  ·exact Sat.go (Eq.refl _) (NS.leaveOut rfl (Eq.refl _) (NS.ret rfl rfl (LeA.of (congrArg A.bool ((sameBy_f (k := k) (fun _ _ => Mb.Act.eqv_iff) (act_ne fun q => by have this : ((l.getD k default).contact == (m.getD k default).contact) = false := not_t c3; rw [q] at this; simp at this)).symm)))))
  have c3 : ((l.getD k default).contact == (m.getD k default).contact) = true := not_f c3
  refine Sat.go (Eq.refl _) (NS.need (by simp; omega) ?_)
  refine Sat.go (Eq.refl _) (NS.need (by simp; omega) ?_)
  refine Sat.go (Eq.refl _) (NS.ite (fun c4 => ?_) (fun c4 => ?_))
  ·exact Sat.go (Eq.refl _) (NS.leaveOut rfl (Eq.refl _) (NS.ret rfl rfl (LeA.of (congrArg A.bool ((sameBy_f (k := k) (fun _ _ => Mb.Act.eqv_iff) (act_ne fun q => by have this : ((l.getD k default).value == (m.getD k default).value) = false := not_t c4; rw [q] at this; simp at this)).symm)))))
  have c4 : ((l.getD k default).value == (m.getD k default).value) = true := not_f c4
  refine Sat.go (Eq.refl _) (NS.next ⟨k + 1, by omega, nx (act_eq (by simpa using c1) c2 (by simpa using c3) (by simpa using c4))⟩ (by simp; omega) ?_)
  exact weak_hd [] rfl ⟨rfl, rfl, ren_int rfl (i64_k (by omega) (by omega)), trivial⟩ trivial trivial (by kernel_rfl)
 ·have h : ¬ k < l.length := by simpa using h
  refine Sat.go (Eq.refl _) (NS.leave rfl (Eq.refl _) ?_)
  exact Sat.go (Eq.refl _) (NS.ret rfl rfl (LeA.of (congrArg A.bool ((sameBy_t (fun _ _ => Mb.Act.eqv_iff) hlm fun i hi => hn i (by omega)).symm))))
end Go.Proofs.YtggjngbighkdgaaGreat

namespace Go.Proofs.YtggjngbighkdgaaGreat
open Go.Sy Go.Mb
set_option maxRecDepth 100000
set_option maxHeartbeats 4000000
theorem rEvent_ok (e : Evt) : FnOK Tryz.prog 75 [.agg e.cells] (.int .i64 (evE e), none) := by
 have cv := validId_ok e.id
 rw [← vId_valid] at cv
 have ci := rValidItem_ok e.item
 obtain ⟨kind, time, item, id, contact, due, acc, ticket⟩ := e
 simp only at cv ci
 by_cases hk7 : kind = 1 ∨ kind = 2 ∨ kind = 3 ∨ kind = 4 ∨ kind = 5 ∨ kind = 6 ∨ kind = 7
 ·rcases hk7 with rfl | rfl | rfl | rfl | rfl | rfl | rfl
  ·refine fn_ok CF rfl (by kernel_rfl) Tryz.func75 rfl ?_
   unfold evE
   repeat' (refine Sat.go (Eq.refl _) ?_; first | refine NS.chk (by kernel_rfl) ?_ | refine NS.no rfl ?_ | refine NS.yes rfl ?_ | refine NS.call cv rfl ?_ | refine NS.call ci rfl ?_ | refine NS.ite (fun h => ?_) (fun h => ?_) | exact NS.ret rfl rfl (LeA.of (congrArg (A.int .i64) (by first | (simp_all [inR]; done) | (simp_all [inR]; omega)))))
  ·refine fn_ok CF rfl (by kernel_rfl) Tryz.func75 rfl ?_
   unfold evE
   repeat' (refine Sat.go (Eq.refl _) ?_; first | refine NS.chk (by kernel_rfl) ?_ | refine NS.no rfl ?_ | refine NS.yes rfl ?_ | refine NS.call cv rfl ?_ | refine NS.call ci rfl ?_ | refine NS.ite (fun h => ?_) (fun h => ?_) | exact NS.ret rfl rfl (LeA.of (congrArg (A.int .i64) (by first | (simp_all [inR]; done) | (simp_all [inR]; omega)))))
  ·refine fn_ok CF rfl (by kernel_rfl) Tryz.func75 rfl ?_
   unfold evE
   repeat' (refine Sat.go (Eq.refl _) ?_; first | refine NS.chk (by kernel_rfl) ?_ | refine NS.no rfl ?_ | refine NS.yes rfl ?_ | refine NS.call cv rfl ?_ | refine NS.call ci rfl ?_ | refine NS.ite (fun h => ?_) (fun h => ?_) | exact NS.ret rfl rfl (LeA.of (congrArg (A.int .i64) (by first | (simp_all [inR]; done) | (simp_all [inR]; omega)))))
  ·refine fn_ok CF rfl (by kernel_rfl) Tryz.func75 rfl ?_
   unfold evE
   repeat' (refine Sat.go (Eq.refl _) ?_; first | refine NS.chk (by kernel_rfl) ?_ | refine NS.no rfl ?_ | refine NS.yes rfl ?_ | refine NS.call cv rfl ?_ | refine NS.call ci rfl ?_ | refine NS.ite (fun h => ?_) (fun h => ?_) | exact NS.ret rfl rfl (LeA.of (congrArg (A.int .i64) (by first | (simp_all [inR]; done) | (simp_all [inR]; omega)))))
  ·refine fn_ok CF rfl (by kernel_rfl) Tryz.func75 rfl ?_
   unfold evE
   repeat' (refine Sat.go (Eq.refl _) ?_; first | refine NS.chk (by kernel_rfl) ?_ | refine NS.no rfl ?_ | refine NS.yes rfl ?_ | refine NS.call cv rfl ?_ | refine NS.call ci rfl ?_ | refine NS.ite (fun h => ?_) (fun h => ?_) | exact NS.ret rfl rfl (LeA.of (congrArg (A.int .i64) (by first | (simp_all [inR]; done) | (simp_all [inR]; omega)))))
  ·refine fn_ok CF rfl (by kernel_rfl) Tryz.func75 rfl ?_
   unfold evE
   repeat' (refine Sat.go (Eq.refl _) ?_; first | refine NS.chk (by kernel_rfl) ?_ | refine NS.no rfl ?_ | refine NS.yes rfl ?_ | refine NS.call cv rfl ?_ | refine NS.call ci rfl ?_ | refine NS.ite (fun h => ?_) (fun h => ?_) | exact NS.ret rfl rfl (LeA.of (congrArg (A.int .i64) (by first | (simp_all [inR]; done) | (simp_all [inR]; omega)))))
  ·refine fn_ok CF rfl (by kernel_rfl) Tryz.func75 rfl ?_
   unfold evE
   repeat' (refine Sat.go (Eq.refl _) ?_; first | refine NS.chk (by kernel_rfl) ?_ | refine NS.no rfl ?_ | refine NS.yes rfl ?_ | refine NS.call cv rfl ?_ | refine NS.call ci rfl ?_ | refine NS.ite (fun h => ?_) (fun h => ?_) | exact NS.ret rfl rfl (LeA.of (congrArg (A.int .i64) (by first | (simp_all [inR]; done) | (simp_all [inR]; omega)))))
 ·have hE : evE ⟨kind, time, item, id, contact, due, acc, ticket⟩ = 8 := by
   unfold evE
   rw [if_pos]
   rw [Bool.not_eq_true', ← Bool.not_eq_true, inR_iff]
   show ¬ (1 ≤ kind ∧ kind ≤ 7)
   omega
  rw [hE]
  refine fn_ok CF rfl (by kernel_rfl) Tryz.func75 rfl ?_
  refine Sat.go (Eq.refl _) (NS.ite (fun a1 => ?_) (fun a1 => ?_))
  ·exact Sat.go (Eq.refl _) (NS.ret rfl rfl (LeA.refl _))
  refine Sat.go (Eq.refl _) (NS.ite (fun a2 => ?_) (fun a2 => ?_))
  ·exact Sat.go (Eq.refl _) (NS.ret rfl rfl (LeA.refl _))
  have a1 : ¬ kind < 1 := of_decide_eq_false a1
  have a2 : ¬ kind > 7 := of_decide_eq_false a2
  omega
end Go.Proofs.YtggjngbighkdgaaGreat

namespace Go.Proofs.YtggjngbighkdgaaGreat
open Go.Sy Go.Mb
set_option maxRecDepth 100000
set_option maxHeartbeats 4000000
theorem rHandle_ok (n : Nod) (e : Evt) (h1 : n.dur.items.length ≤ 500000) (h2 : n.dur.inbox.length ≤ 500000) (h3 : n.ofs.length ≤ 500000) : FnOK Tryz.prog 28 [.agg n.cells, .agg e.cells] (nodA (handM n e), none) := by
 have c := rCheckN_ok n (by omega) (by omega)
 rw [chk_eq n (by omega) (by omega) (by omega)] at c
 unfold handM
 refine fn_ok CF rfl (by kernel_rfl) Tryz.func28 rfl ?_
 refine Sat.go (Eq.refl _) (NS.call (c) rfl ?_)
 refine Sat.go (Eq.refl _) (NS.ite (fun a1 => ?_) (fun a1 => ?_))
 ·rw [if_pos a1]
  exact Sat.go (Eq.refl _) (NS.ret rfl rfl (LeA.tup3 (zeroN_le rfl) (LeA.nil' rfl) (LeA.refl _)))
 rw [if_neg (by rw [a1]; decide)]
 refine Sat.go (Eq.refl _) (NS.call (rEvent_ok e) rfl ?_)
 unfold goM
 refine Sat.go (Eq.refl _) (NS.ite (fun a2 => ?_) (fun a2 => ?_))
 ·rw [if_pos a2]
  exact Sat.go (Eq.refl _) (NS.ret rfl rfl (LeA.tup3 (zeroN_le rfl) (LeA.nil' rfl) (LeA.refl _)))
 rw [if_neg (by rw [a2]; decide)]
 refine Sat.go (Eq.refl _) (NS.ite (fun a3 => ?_) (fun a3 => ?_))
 ·rw [if_pos a3]
  exact Sat.go (Eq.refl _) (NS.ret rfl rfl (LeA.tup3 (zeroN_le rfl) (LeA.nil' rfl) (LeA.refl _)))
 rw [if_neg (by rw [a3]; decide)]
 have hv : Val n := (val_iff n).1 ⟨by have a1 : (chkN n != 0) = false := a1; simpa using a1, by have a3 : (!n.up) = false := a3; simpa using a3⟩
 have he : evE e = 0 := by have a2 : (evE e != 0) = false := a2; simpa using a2
 obtain ⟨⟨_, f⟩, hr⟩ := kind_fin hv he
 obtain ⟨k1, _⟩ := evE_ok he
 have hof := ((ofs_iff _).1 hv.of).1
 obtain ⟨l1, l2⟩ := items_len hv.j
 refine Sat.go (Eq.refl _) (NS.call (rGo_ok n e ⟨hv.j.good.2.2.1, by omega, by omega, Nat.le_trans hv.j.sz (by decide), by omega⟩ (inR_iff.1 k1) hr) rfl ?_)
 generalize rGoM n e = z at *
 obtain ⟨z1, z2, z3⟩ := z
 rcases f with ⟨b1, b2⟩ | ⟨b1, b2, _⟩
 ·rw [if_pos (by rw [b1]; rfl), b1]
  have b2 : z3 = 4 := b2
  subst b2
  refine Sat.go (Eq.refl _) (NS.yes (rfl) ?_)
  exact Sat.go (Eq.refl _) (NS.ret rfl rfl (LeA.tup3 (zeroN_le rfl) (LeA.nil' rfl) (LeA.refl _)))
 ·rw [if_neg (by rw [b1]; decide)]
  obtain ⟨rfl, rfl, rfl⟩ : z1 = _ ∧ z2 = _ ∧ z3 = 0 := by simpa using b2
  refine Sat.go (Eq.refl _) (NS.no (rfl) ?_)
  exact Sat.go (Eq.refl _) (NS.ret rfl rfl (LeA.refl _))
theorem go_chk {n : Nod} (h : chkN n = 0) {e : Evt} (hz : (goM n e).2.2 = 0) : Val n := by
 refine (val_iff n).1 ⟨h, ?_⟩
 unfold goM at hz
 split at hz
 ·rename_i q; simp only at hz; rw [hz] at q; cases q
 split at hz
 ·cases hz
 ·rename_i q; simpa using q
theorem rPlay_ok (n : Nod) (l : List Evt) (h : Szn n 100) (hl : l.length ≤ 200) : FnOK Tryz.prog 25 [.agg n.cells, slEvt l] (playA (playM n l), none) := by
 have c := rCheckN_ok n (by have := h.1; omega) (by have := h.2.1; omega)
 rw [chk_eq n (by have := h.1; omega) (by have := h.2.1; omega) (by have := h.2.2.2; omega)] at c
 unfold playM
 refine fn_ok CF rfl (by kernel_rfl) Tryz.func25 rfl ?_
 refine Sat.go (Eq.refl _) (NS.call (c) rfl ?_)
 refine Sat.go (Eq.refl _) (NS.ite (fun a1 => ?_) (fun a1 => ?_))
 ·rw [if_pos a1]
  exact Sat.go (Eq.refl _) (NS.ret rfl rfl (LeA.tup4 (zeroN_le rfl) (LeA.nil' rfl) (LeA.refl _) (LeA.refl _)))
 rw [if_neg (by rw [a1]; decide)]
 have hc0 : chkN n = 0 := by have a1 : (chkN n != 0) = false := a1; simpa using a1
 obtain ⟨R, hR⟩ : ∃ R, R = playG n [] l 0 := ⟨_, rfl⟩
 rw [← hR]
 refine Sat.go (Eq.refl _) ?_
 refine NS.loop (σ := { q : Nat × Nod × List Mb.Act // q.1 ≤ l.length ∧ Szn q.2.1 (100 + q.1) ∧ q.2.2.length ≤ q.1 * 200000 ∧ R = playG q.2.1 q.2.2 (l.drop q.1) (q.1 : Nat) ∧ chkN q.2.1 = 0 }) (fun q => [(1, slEvt l), (2, .ptr 2 0), (4, .ptr 4 0), (8, .own 8), (9, .int .i64 (q.1.1 : Nat))]) (fun q => [(2, .box q.1.2.1.cells), (4, .box [.junk, .junk, .junk, .junk, .junk, .junk, .junk, .junk]), (8, rowAct q.1.2.2)]) (fun q => l.length - q.1.1) ⟨(0, n, []), Nat.zero_le _, h, Nat.zero_le _, hR, hc0⟩ ?_ ?_
 ·refine (weak_promote 8 8 63 14 (rowL Mb.Act.cells []) rfl rfl).trans ?_
  exact weak_hd [] rfl ⟨rfl, rfl, rfl, rfl, rfl, trivial⟩ ⟨⟨_, rfl, renNod _ _⟩, ⟨_, rfl, ⟨_, _, rfl, trivial, _, _, rfl, trivial, _, _, rfl, trivial, _, _, rfl, trivial, _, _, rfl, trivial, _, _, rfl, trivial, _, _, rfl, trivial, _, _, rfl, trivial, rfl⟩⟩, ren_row rfl rfl fun _ _ _ _ => rfl, trivial⟩ trivial (by kernel_rfl)
 rintro ⟨⟨k, m, out⟩, hk, hz, ho, hp, hc⟩
 have hk : k ≤ l.length := hk
 have hz : Szn m (100 + k) := hz
 have ho : out.length ≤ k * 200000 := ho
 have hp : R = playG m out (l.drop k) (k : Nat) := hp
 have hc : chkN m = 0 := hc
 refine Sat.go (Eq.refl _) (NS.ite (fun a2 => ?_) (fun a2 => ?_))
 ·have a2 : k < l.length := by simpa using a2
  obtain ⟨g1, g2⟩ := hz.go (by omega) (l.getD k default)
  have ch := rHandle_ok m (l.getD k default) (by have := hz.1; omega) (by have := hz.2.1; omega) (by have := hz.2.2.2; omega)
  rw [show handM m (l.getD k default) = goM m (l.getD k default) by unfold handM; rw [if_neg (by rw [hc]; decide)]] at ch
  have hgv := fun hz0 => (go_val (go_chk hc (e := l.getD k default) hz0) hz0).2.1
  rw [drop_get a2, playG_cons] at hp
  refine Sat.go (Eq.refl _) (NS.chk (by kernel_rfl) ?_)
  refine Sat.go (Eq.refl _) (NS.need (by simp; omega) ?_)
  refine Sat.go (Eq.refl _) (NS.call (ch) rfl ?_)
  generalize goM m (l.getD k default) = z at *
  obtain ⟨z1, z2, z3⟩ := z
  simp only at g1 g2 hp hgv
  refine Sat.go (Eq.refl _) (NS.ite (fun a3 => ?_) (fun a3 => ?_))
  ·rw [if_pos a3] at hp
   exact Sat.go (Eq.refl _) (NS.leaveOut rfl (Eq.refl _) (NS.ret rfl rfl (playA_le hp (zeroN_le rfl) (LeA.nil' rfl) (LeA.refl _) (LeA.refl _))))
  rw [if_neg (by rw [a3]; decide)] at hp
  have hz3 : z3 = 0 := by have a3 : (z3 != 0) = false := a3; simpa using a3
  have hv1 := ((val_iff z1).2 (hgv hz3)).1
  refine Sat.go (Eq.refl _) ?_
  refine NS.loop (σ := { p : Nat // p ≤ z2.length }) (fun p => [(1, slEvt l), (2, .ptr 2 0), (4, .ptr 4 0), (8, .own 8), (9, .int .i64 (k : Nat)), (11, slAct z2), (13, .int .i64 (p.1 : Nat))]) (fun p => [(2, .box z1.cells), (4, .box [.junk, .junk, .junk, .junk, .junk, .junk, .junk, .junk]), (8, rowAct (out ++ z2.take p.1))]) (fun p => z2.length - p.1) ⟨0, Nat.zero_le _⟩ ?_ ?_
  ·exact weak_hd [] rfl ⟨rfl, rfl, rfl, rfl, rfl, rfl, rfl, trivial⟩ ⟨⟨_, rfl, renNod _ _⟩, ⟨_, rfl, ⟨_, _, rfl, trivial, _, _, rfl, trivial, _, _, rfl, trivial, _, _, rfl, trivial, _, _, rfl, trivial, _, _, rfl, trivial, _, _, rfl, trivial, _, _, rfl, trivial, rfl⟩⟩, ren_row rfl (by show out.length = (out ++ z2.take 0).length; simp) (fun i hi j hj => by show rowL Mb.Act.cells out i j = rowL Mb.Act.cells (out ++ z2.take 0) i j; rw [List.take_zero, List.append_nil]), trivial⟩ trivial (by kernel_rfl)
  rintro ⟨p, hp'⟩
  have hp' : p ≤ z2.length := hp'
  have hop : (out ++ z2.take p).length ≤ 50000000 := by simp; omega
  refine Sat.go (Eq.refl _) (NS.ite (fun c1 => ?_) (fun c1 => ?_))
  ·have c1 : p < z2.length := by have c1 : ((p : Nat) : Int) < (z2.length : Int) := of_decide_eq_true c1; omega
   have hsn := take_snoc (l := z2) (k := p) c1
   refine Sat.go (Eq.refl _) (NS.need (by simp; omega) ?_)
   refine Sat.go (Eq.refl _) (NS.need (decide_eq_true (by simp only [maxRow]; show ((out ++ z2.take p).length + 1) * _ ≤ _; omega)) ?_)
   refine Sat.go (Eq.refl _) (NS.next ⟨p + 1, by omega⟩ (by show z2.length - (p + 1) < z2.length - p; omega) ?_)
   refine weak_hd [(8, 52)] rfl ⟨rfl, rfl, rfl, rfl, rfl, rfl, ren_int rfl (i64_k (k := p) (n := z2.length) c1 (by omega)), trivial⟩ ⟨⟨_, rfl, renNod _ _⟩, ⟨_, rfl, ⟨_, _, rfl, trivial, _, _, rfl, trivial, _, _, rfl, trivial, _, _, rfl, trivial, _, _, rfl, trivial, _, _, rfl, trivial, _, _, rfl, trivial, _, _, rfl, trivial, rfl⟩⟩, ?_, trivial⟩ trivial (by kernel_rfl)
   show RenO _ (rowAct (out ++ z2.take (p + 1))) _
   rw [hsn, ← List.append_assoc]
   exact ren_row rfl (by show (out ++ z2.take p).length + 1 = ((out ++ z2.take p) ++ [z2.getD p default]).length; exact snoc_len _ _) (fun i hi j hj => row_snoc (cells := Mb.Act.cells) (x := z2.getD p default) rfl i (by rw [List.length_append, List.length_singleton] at hi; exact hi) j hj)
  ·have c1 : ¬ p < z2.length := by have c1 : ¬ ((p : Nat) : Int) < (z2.length : Int) := of_decide_eq_false c1; omega
   obtain rfl : p = z2.length := by omega
   refine Sat.go (Eq.refl _) (NS.leave rfl (Eq.refl _) ?_)
   refine Sat.go (Eq.refl _) (NS.next ⟨(k + 1, z1, out ++ z2), by show k + 1 ≤ l.length; omega, g1, by show (out ++ z2).length ≤ (k + 1) * 200000; simp only [List.length_append]; omega, by rw [hp]; show _ = playG _ _ _ ((k + 1 : Nat) : Int); rw [show ((k + 1 : Nat) : Int) = (k : Int) + 1 from rfl], hv1⟩ (by show l.length - (k + 1) < l.length - k; omega) ?_)
   refine weak_hd [] rfl ⟨rfl, rfl, rfl, rfl, ren_int rfl (i64_k (k := k) (n := l.length) a2 (by omega)), trivial⟩ ⟨⟨_, rfl, renNod _ _⟩, ⟨_, rfl, ⟨_, _, rfl, trivial, _, _, rfl, trivial, _, _, rfl, trivial, _, _, rfl, trivial, _, _, rfl, trivial, _, _, rfl, trivial, _, _, rfl, trivial, _, _, rfl, trivial, rfl⟩⟩, ?_, trivial⟩ trivial (by kernel_rfl)
   show RenO _ (rowAct (out ++ z2)) _
   exact ren_row rfl (by show (out ++ z2.take z2.length).length = _; rw [List.take_length]) (fun i hi j hj => by show rowL Mb.Act.cells (out ++ z2.take z2.length) i j = _; rw [List.take_length])
 ·have a2 : ¬ k < l.length := by simpa using a2
  obtain rfl : k = l.length := by omega
  refine Sat.go (Eq.refl _) (NS.leave rfl (Eq.refl _) ?_)
  have hp2 : R = (m, out, (l.length : Int), 0) := by rw [hp, List.drop_length]; rfl
  exact Sat.go (Eq.refl _) (NS.ret rfl rfl (playA_le hp2 (LeA.refl _) (LeA.refl _) (LeA.refl _) (LeA.refl _)))
end Go.Proofs.YtggjngbighkdgaaGreat

namespace Go.Proofs.YtggjngbighkdgaaGreat
open Go.Sy Go.Mb
set_option maxRecDepth 100000
set_option maxHeartbeats 4000000
theorem sameA_refl (l : List Mb.Act) : sameBy Mb.Act.eqv l l = true := (sameBy_iff (fun _ _ => Mb.Act.eqv_iff)).2 rfl
theorem hand_sz {n : Nod} (h : Szn n 0) (e : Evt) : Szn (handM n e).1 1 ∧ (handM n e).2.1.length ≤ 200000 := by
 unfold handM
 split
 ·exact ⟨szn_zero _, Nat.zero_le _⟩
 ·exact h.go (by omega) e
theorem playG_sz : ∀ (l : List Evt) (n : Nod) (out : List Mb.Act) (i : Int) (k : Nat), Szn n k → k + l.length ≤ 400 → Szn (playG n out l i).1 (k + l.length) ∧ (playG n out l i).2.1.length ≤ out.length + l.length * 200000
 | [], n, out, i, k, h, _ => ⟨h, Nat.le_refl _⟩
 | e :: l, n, out, i, k, h, hk => by
  rw [List.length_cons] at hk
  rw [playG_cons]
  obtain ⟨g1, g2⟩ := h.go (by omega) e
  split
  ·exact ⟨szn_zero _, Nat.zero_le _⟩
  ·obtain ⟨r1, r2⟩ := playG_sz l (goM n e).1 (out ++ (goM n e).2.1) (i + 1) (k + 1) g1 (by omega)
   rw [List.length_append] at r2
   rw [List.length_cons]
   exact ⟨r1.le (by omega), by omega⟩
theorem play_sz {n : Nod} (h : Szn n 0) {l : List Evt} (hl : l.length ≤ 200) : Szn (playM n l).1 200 ∧ (playM n l).2.1.length ≤ l.length * 200000 := by
 unfold playM
 split
 ·exact ⟨szn_zero _, Nat.zero_le _⟩
 ·obtain ⟨r1, r2⟩ := playG_sz l n [] 0 0 h (by omega)
  exact ⟨r1.le (by omega), by simpa using r2⟩
theorem szn_small {n : Nod} (h : greatN n = false) : Szn n 0 := by
 obtain ⟨s1, s2, s3, s4⟩ := small_of h
 exact ⟨by omega, by omega, by omega, by omega⟩
theorem nodeHandle_ok (n : Nod) (e : Evt) : FnOK Tryz.prog 5 [.agg n.cells, .agg e.cells] (.bool true, none) := by
 have c0 := greatN_ok n
 cases hg : greatN n
 ·rw [hg] at c0
  have hz := szn_small hg
  have c1 := nHandle_ok n e (hz.le (by omega))
  have c2 := rHandle_ok n e (by have := hz.1; omega) (by have := hz.2.1; omega) (by have := hz.2.2.2; omega)
  obtain ⟨s1, s2⟩ := hand_sz hz e
  generalize handM n e = z at *
  obtain ⟨z1, z2, z3⟩ := z
  simp only at s1 s2
  refine fn_ok CF rfl (by kernel_rfl) Tryz.func5 rfl ?_
  refine Sat.go (Eq.refl _) (NS.call (c0) rfl ?_)
  refine Sat.go (Eq.refl _) (NS.no (rfl) ?_)
  refine Sat.go (Eq.refl _) (NS.call (greatE_ok e) rfl ?_)
  refine Sat.go (Eq.refl _) (NS.ite (fun g1 => ?_) (fun g1 => ?_))
  ·refine Sat.go (Eq.refl _) (NS.call (awakeN_ok) rfl ?_)
   exact Sat.go (Eq.refl _) (NS.ret rfl rfl (LeA.refl _))
  refine Sat.go (Eq.refl _) (NS.call (c1) rfl ?_)
  refine Sat.go (Eq.refl _) (NS.call (c2) rfl ?_)
  refine Sat.go (Eq.refl _) (NS.call (rSameN_ok z1 (by have := s1.1; omega) (by have := s1.2.1; omega) (by have := s1.2.2.2; omega)) rfl ?_)
  refine Sat.go (Eq.refl _) (NS.yes (rfl) ?_)
  refine Sat.go (Eq.refl _) (NS.call (sameA_ok z2 z2 (by omega)) rfl ?_)
  refine Sat.go (Eq.refl _) (NS.yes (sameA_refl z2) ?_)
  refine Sat.go (Eq.refl _) (NS.yes (by simp) ?_)
  refine Sat.go (Eq.refl _) (NS.call (awakeN_ok) rfl ?_)
  exact Sat.go (Eq.refl _) (NS.ret rfl rfl (LeA.refl _))
 ·rw [hg] at c0
  refine fn_ok CF rfl (by kernel_rfl) Tryz.func5 rfl ?_
  refine Sat.go (Eq.refl _) (NS.call (c0) rfl ?_)
  refine Sat.go (Eq.refl _) (NS.yes (rfl) ?_)
  refine Sat.go (Eq.refl _) (NS.call (awakeN_ok) rfl ?_)
  exact Sat.go (Eq.refl _) (NS.ret rfl rfl (LeA.refl _))
theorem nodePlay_ok (n : Nod) (l : List Evt) : FnOK Tryz.prog 4 [.agg n.cells, slEvt l] (.bool true, none) := by
 have c0 := greatN_ok n
 cases hg : greatN n
 ·rw [hg] at c0
  have hz := szn_small hg
  by_cases hl : l.length ≤ 20
  ·have c1 := play_ok n l (hz.le (by omega)) (by omega)
   have c2 := rPlay_ok n l (hz.le (by omega)) (by omega)
   obtain ⟨s1, s2⟩ := play_sz hz (l := l) (by omega)
   generalize playM n l = z at *
   obtain ⟨z1, z2, z3, z4⟩ := z
   simp only at s1 s2
   refine fn_ok CF rfl (by kernel_rfl) Tryz.func4 rfl ?_
   refine Sat.go (Eq.refl _) (NS.call (c0) rfl ?_)
   refine Sat.go (Eq.refl _) (NS.no (rfl) ?_)
   refine Sat.go (Eq.refl _) (NS.no (decide_eq_false (by show ¬ (l.length : Int) > 20; omega)) ?_)
   refine Sat.go (Eq.refl _) (NS.call (contE_ok l (by omega)) rfl ?_)
   refine Sat.go (Eq.refl _) (NS.ite (fun g1 => ?_) (fun g1 => ?_))
   ·refine Sat.go (Eq.refl _) (NS.call (awakeN_ok) rfl ?_)
    exact Sat.go (Eq.refl _) (NS.ret rfl rfl (LeA.refl _))
   refine Sat.go (Eq.refl _) (NS.call (c1) rfl ?_)
   refine Sat.go (Eq.refl _) (NS.call (c2) rfl ?_)
   refine Sat.go (Eq.refl _) (NS.call (rSameN_ok z1 (by have := s1.1; omega) (by have := s1.2.1; omega) (by have := s1.2.2.2; omega)) rfl ?_)
   refine Sat.go (Eq.refl _) (NS.yes (rfl) ?_)
   refine Sat.go (Eq.refl _) (NS.call (sameA_ok z2 z2 (by omega)) rfl ?_)
   refine Sat.go (Eq.refl _) (NS.yes (sameA_refl z2) ?_)
   refine Sat.go (Eq.refl _) (NS.yes (by simp) ?_)
   refine Sat.go (Eq.refl _) (NS.yes (by simp) ?_)
   refine Sat.go (Eq.refl _) (NS.call (awakeN_ok) rfl ?_)
   exact Sat.go (Eq.refl _) (NS.ret rfl rfl (LeA.refl _))
  ·refine fn_ok CF rfl (by kernel_rfl) Tryz.func4 rfl ?_
   refine Sat.go (Eq.refl _) (NS.call (c0) rfl ?_)
   refine Sat.go (Eq.refl _) (NS.no (rfl) ?_)
   refine Sat.go (Eq.refl _) (NS.yes (decide_eq_true (by show (l.length : Int) > 20; omega)) ?_)
   refine Sat.go (Eq.refl _) (NS.call (awakeN_ok) rfl ?_)
   exact Sat.go (Eq.refl _) (NS.ret rfl rfl (LeA.refl _))
 ·rw [hg] at c0
  refine fn_ok CF rfl (by kernel_rfl) Tryz.func4 rfl ?_
  refine Sat.go (Eq.refl _) (NS.call (c0) rfl ?_)
  refine Sat.go (Eq.refl _) (NS.yes (rfl) ?_)
  refine Sat.go (Eq.refl _) (NS.call (awakeN_ok) rfl ?_)
  exact Sat.go (Eq.refl _) (NS.ret rfl rfl (LeA.refl _))
end Go.Proofs.YtggjngbighkdgaaGreat

