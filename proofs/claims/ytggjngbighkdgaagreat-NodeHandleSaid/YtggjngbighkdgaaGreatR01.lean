import Derived.Test.YtggjngbighkdgaaGreatB10
set_option linter.unusedSimpArgs false
set_option linter.unusedSectionVars false
set_option linter.unusedVariables false
namespace Go.Proofs.YtggjngbighkdgaaGreat
open Go.Sy Go.Mb
set_option maxRecDepth 100000
set_option maxHeartbeats 4000000
theorem rDecide_ok (c s a : Bool) : FnOK Tryz.prog 227 [.bool c, .bool s, .bool a] (.int .i64 (decM c s a), none) := by
 unfold decM
 refine fn_ok CF rfl (by kernel_rfl) Tryz.func227 rfl ?_
 cases c <;> cases s <;> cases a
 all_goals repeat' (first | (refine Sat.go (Eq.refl _) (NS.chk (by kernel_rfl) ?_)) | (refine Sat.go (Eq.refl _) (NS.no (rfl) ?_)) | (refine Sat.go (Eq.refl _) (NS.yes (rfl) ?_)))
 all_goals exact Sat.go (Eq.refl _) (NS.ret rfl rfl (LeA.refl _))
theorem without_ok (l : List Ofr) (x : Nid) (hl : l.length ≤ 1000) : FnOK Tryz.prog 185 [slOfr l, .agg x.cells] (slOfr (l.filter (nt (ofId x))), none) := by
 refine FnOK.frz (e := 67) ?_
 refine fn_ok CF rfl (by kernel_rfl) Tryz.func185 rfl ?_
 refine Sat.go (Eq.refl _) ?_
 refine NS.loop (σ := { k : Nat // k ≤ l.length }) (fun k => [(0, slOfr l), (3, .ptr 3 0), (5, .own 5), (6, .int .i64 k.1)]) (fun k => [(3, .box x.cells), (5, .row 67 8 ((l.take k.1).filter (nt (ofId x))).length (rowL Ofr.cells ((l.take k.1).filter (nt (ofId x)))))]) (fun k => l.length - k.1) ⟨0, Nat.zero_le _⟩ ?_ ?_
 ·refine (weak_promote 5 5 67 8 (rowL Ofr.cells []) rfl rfl).trans ?_
  exact weak_hd [] rfl ⟨rfl, rfl, rfl, rfl, trivial⟩ ⟨⟨_, rfl, ⟨_, _, rfl, rfl, _, _, rfl, rfl, _, _, rfl, rfl, _, _, rfl, rfl, _, _, rfl, rfl, rfl⟩⟩, ren_row rfl rfl fun _ _ _ _ => rfl, trivial⟩ trivial (by kernel_rfl)
 rintro ⟨k, hk⟩
 have q2 : ((l.take k).filter (nt (ofId x))).length ≤ k := Nat.le_trans (List.length_filter_le _ _) (by simp; omega)
 have s2 := fun h : k < l.length => filter_snoc (p := nt (ofId x)) (l := l) (k := k) h
 refine Sat.go (Eq.refl _) (NS.ite (fun h => ?_) (fun h => ?_))
 ·have h : k < l.length := by simpa using h
  have s2 := s2 h
  refine Sat.go (Eq.refl _) (NS.chk (by kernel_rfl) ?_)
  refine Sat.go (Eq.refl _) (NS.need (by simp; omega) ?_)
  refine Sat.go (Eq.refl _) (NS.ite (fun h2 => ?_) (fun h2 => ?_))
  ·rw [if_pos (show nt (ofId x) (l.getD k default) = true from h2)] at s2
   refine Sat.go (Eq.refl _) (NS.need (by simp; omega) ?_)
   refine Sat.go (Eq.refl _) (NS.need (decide_eq_true (by simp only [maxRow]; show (((l.take k).filter (nt (ofId x))).length + 1) * _ ≤ _; omega)) ?_)
   refine Sat.go (Eq.refl _) (NS.next ⟨k + 1, by omega⟩ (by simp; omega) ?_)
   refine weak_hd [(5, 26)] rfl ⟨rfl, rfl, rfl, ren_int rfl (i64_k (by omega) (by omega)), trivial⟩ ⟨⟨_, rfl, ⟨_, _, rfl, rfl, _, _, rfl, rfl, _, _, rfl, rfl, _, _, rfl, rfl, _, _, rfl, rfl, rfl⟩⟩, ?_, trivial⟩ trivial (by kernel_rfl)
   rw [s2]
   exact ren_row rfl (by simp) (fun i hi j hj => row_snoc (cells := Ofr.cells) (x := l.getD k default) rfl i (by simpa using hi) j hj)
  ·rw [if_neg (by rw [show nt (ofId x) (l.getD k default) = false from h2]; decide), List.append_nil] at s2
   refine Sat.go (Eq.refl _) (NS.next ⟨k + 1, by omega⟩ (by simp; omega) ?_)
   refine weak_hd [] rfl ⟨rfl, rfl, rfl, ren_int rfl (i64_k (by omega) (by omega)), trivial⟩ ⟨⟨_, rfl, ⟨_, _, rfl, rfl, _, _, rfl, rfl, _, _, rfl, rfl, _, _, rfl, rfl, _, _, rfl, rfl, rfl⟩⟩, ?_, trivial⟩ trivial (by kernel_rfl)
   rw [s2]
   exact ren_row rfl rfl fun _ _ _ _ => rfl
 ·have h : ¬ k < l.length := by simpa using h
  obtain rfl : k = l.length := by omega
  refine Sat.go (Eq.refl _) (NS.leave rfl (Eq.refl _) ?_)
  rw [show l.take l.length = l from List.take_length]
  exact Sat.go (Eq.refl _) (NS.retRow 5 rfl rfl (LeA.refl _) ⟨rfl, rfl, rfl, fun i hi j hj => rfl⟩ fun _ _ _ _ => flatOfr _ _ _)
def ofAt (x : Nid) (c : Int) (o : Ofr) : Bool := o.id.eqv x && (c == -1 || o.contact == c)
theorem offered_ok (l : List Ofr) (x : Nid) (c : Int) (hl : l.length ≤ 1000) : FnOK Tryz.prog 181 [slOfr l, .agg x.cells, .int .i64 c] (.int .i64 (idx (ofAt x c) l), none) := by
 refine fn_ok CF rfl (by kernel_rfl) Tryz.func181 rfl ?_
 refine Sat.go (Eq.refl _) ?_
 refine NS.loop (σ := { k : Nat // k ≤ l.length ∧ ∀ i, i < k → ofAt x c (l.getD i default) = false }) (fun k => [(0, slOfr l), (2, .int .i64 c), (4, .ptr 4 0), (7, .int .i64 k.1)]) (fun k => [(4, .box x.cells)]) (fun k => l.length - k.1) ⟨0, Nat.zero_le _, fun i hi => by omega⟩ ?_ ?_
 ·exact weak_hd [] rfl ⟨rfl, rfl, rfl, rfl, trivial⟩ ⟨⟨_, rfl, ⟨_, _, rfl, rfl, _, _, rfl, rfl, _, _, rfl, rfl, _, _, rfl, rfl, _, _, rfl, rfl, rfl⟩⟩, trivial⟩ trivial (by kernel_rfl)
 rintro ⟨k, hk, hn⟩
 have nx : ∀ (h : k < l.length), ofAt x c (l.getD k default) = false → ∀ i, i < k + 1 → ofAt x c (l.getD i default) = false := by
  intro h hq i hi
  by_cases hik : i = k
  ·subst hik; exact hq
  ·exact hn i (by omega)
 refine Sat.go (Eq.refl _) (NS.ite (fun h => ?_) (fun h => ?_))
 ·have h : k < l.length := by simpa using h
  refine Sat.go (Eq.refl _) (NS.chk (by kernel_rfl) ?_)
  refine Sat.go (Eq.refl _) (NS.need (by simp; omega) ?_)
  refine Sat.go (Eq.refl _) (NS.ite (fun h2 => ?_) (fun h2 => ?_))
  ·have h2 : (l.getD k default).id.eqv x = true := h2
   refine Sat.go (Eq.refl _) (NS.ite (fun h3 => ?_) (fun h3 => ?_))
   ·exact Sat.go (Eq.refl _) (NS.leaveOut rfl (Eq.refl _) (NS.ret rfl rfl (LeA.of (congrArg (A.int .i64) ((idx_found (by omega) (by unfold ofAt; rw [h2, show (c == -1) = true from h3]; rfl) hn).symm)))))
   ·refine Sat.go (Eq.refl _) (NS.need (by simp; omega) ?_)
    refine Sat.go (Eq.refl _) (NS.ite (fun h4 => ?_) (fun h4 => ?_))
    ·exact Sat.go (Eq.refl _) (NS.leaveOut rfl (Eq.refl _) (NS.ret rfl rfl (LeA.of (congrArg (A.int .i64) ((idx_found (by omega) (by unfold ofAt; rw [h2, show ((l.getD k default).contact == c) = true from h4]; simp) hn).symm)))))
    ·refine Sat.go (Eq.refl _) (NS.next ⟨k + 1, by omega, nx h (by unfold ofAt; rw [h2, show (c == -1) = false from h3, show ((l.getD k default).contact == c) = false from h4]; rfl)⟩ (by simp; omega) ?_)
     exact weak_hd [] rfl ⟨rfl, rfl, rfl, ren_int rfl (i64_k (by omega) (by omega)), trivial⟩ ⟨⟨_, rfl, ⟨_, _, rfl, rfl, _, _, rfl, rfl, _, _, rfl, rfl, _, _, rfl, rfl, _, _, rfl, rfl, rfl⟩⟩, trivial⟩ trivial (by kernel_rfl)
  ·have h2 : (l.getD k default).id.eqv x = false := h2
   refine Sat.go (Eq.refl _) (NS.next ⟨k + 1, by omega, nx h (by unfold ofAt; rw [h2]; rfl)⟩ (by simp; omega) ?_)
   exact weak_hd [] rfl ⟨rfl, rfl, rfl, ren_int rfl (i64_k (by omega) (by omega)), trivial⟩ ⟨⟨_, rfl, ⟨_, _, rfl, rfl, _, _, rfl, rfl, _, _, rfl, rfl, _, _, rfl, rfl, _, _, rfl, rfl, rfl⟩⟩, trivial⟩ trivial (by kernel_rfl)
 ·have h : ¬ k < l.length := by simpa using h
  refine Sat.go (Eq.refl _) (NS.leave rfl (Eq.refl _) ?_)
  exact Sat.go (Eq.refl _) (NS.ret rfl rfl (LeA.of (congrArg (A.int .i64) ((idx_none fun i hi => hn i (by omega)).symm))))
def rWrM (n : Nod) (l : List Jrec) : Nod × Int := if (appM (ls n.jour) l).2 != 0 then (n, 4) else ({ n with jour := bs (appM (ls n.jour) l).1, dur := effs l n.dur }, 0)
theorem rWrite_ok (n : Nod) (l : List Jrec) (hl : l.length ≤ 1) (hr : ∀ r ∈ l, recErr r = 0) (hu : Uniq n.dur.items) (h1 : n.dur.items.length ≤ 900000) (h2 : n.dur.inbox.length ≤ 900000) (h3 : n.jour.size ≤ 100000) : FnOK Tryz.prog 125 [.agg n.cells, slR l] (.tup [.agg (rWrM n l).1.cells, .int .i64 (rWrM n l).2], none) := by
 unfold rWrM
 refine fn_ok CF rfl (by kernel_rfl) Tryz.func125 rfl ?_
 refine Sat.go (Eq.refl _) (NS.call (rAppend_ok n.jour l h3 (by omega)) rfl ?_)
 refine Sat.go (Eq.refl _) (NS.ite (fun a1 => ?_) (fun a1 => ?_))
 ·rw [if_pos a1]
  exact Sat.go (Eq.refl _) (NS.ret rfl rfl (LeA.refl _))
 rw [if_neg (by rw [a1]; decide)]
 refine Sat.go (Eq.refl _) ?_
 refine NS.loop (σ := { k : Nat // k ≤ l.length }) (fun k => [(1, slR l), (2, .ptr 2 0), (4, .ptr 4 0), (8, .int .i64 k.1)]) (fun k => [(2, .box (Nod.cells { n with jour := bs (appM (ls n.jour) l).1, dur := effs (l.take k.1) n.dur })), (4, .box [.junk, .junk, .junk, .junk, .junk, .junk, .junk, .junk])]) (fun k => l.length - k.1) ⟨0, Nat.zero_le _⟩ ?_ ?_
 ·exact weak_hd [] rfl ⟨rfl, rfl, rfl, rfl, trivial⟩ ⟨⟨_, rfl, renNod _ { n with jour := bs (appM (ls n.jour) l).1, dur := n.dur }⟩, ⟨_, rfl, ⟨_, _, rfl, trivial, _, _, rfl, trivial, _, _, rfl, trivial, _, _, rfl, trivial, _, _, rfl, trivial, _, _, rfl, trivial, _, _, rfl, trivial, _, _, rfl, trivial, rfl⟩⟩, trivial⟩ trivial (by kernel_rfl)
 rintro ⟨k, hk⟩
 refine Sat.go (Eq.refl _) (NS.ite (fun h => ?_) (fun h => ?_))
 ·have h : k < l.length := by simpa using h
  obtain rfl : k = 0 := by omega
  obtain ⟨r, rfl⟩ : ∃ r, l = [r] := by
   rcases l with _ | ⟨r, _ | ⟨r2, l⟩⟩
   ·simp at h
   ·exact ⟨r, rfl⟩
   ·simp at hl
  refine Sat.go (Eq.refl _) (NS.chk (by kernel_rfl) ?_)
  refine Sat.go (Eq.refl _) (NS.need (by simp) ?_)
  refine Sat.go (Eq.refl _) (NS.call (rEffect_ok n.dur r hu (hr r (by simp)) (by omega) (by omega)) rfl ?_)
  refine Sat.go (Eq.refl _) (NS.next ⟨1, by simp⟩ (by show 1 - 1 < 1 - 0; omega) ?_)
  exact weak_hd [] rfl ⟨rfl, rfl, rfl, ren_int rfl (i64_k (k := 0) (n := 1) (by omega) (by omega)), trivial⟩ ⟨⟨_, rfl, renNod _ { n with jour := bs (appM (ls n.jour) [r]).1, dur := effM n.dur r }⟩, ⟨_, rfl, ⟨_, _, rfl, trivial, _, _, rfl, trivial, _, _, rfl, trivial, _, _, rfl, trivial, _, _, rfl, trivial, _, _, rfl, trivial, _, _, rfl, trivial, _, _, rfl, trivial, rfl⟩⟩, trivial⟩ trivial (by kernel_rfl)
 ·have h : ¬ k < l.length := by simpa using h
  obtain rfl : k = l.length := by omega
  refine Sat.go (Eq.refl _) (NS.leave rfl (Eq.refl _) ?_)
  rw [show effs l n.dur = effs (l.take l.length) n.dur by rw [List.take_length]]
  exact Sat.go (Eq.refl _) (NS.ret rfl rfl (LeA.refl _))
noncomputable def ERR : Env := { P := Tryz.prog, eqT := lookE eqTab, frz := [25] }
theorem ERR_ok : EqOK ERR := eqOK_of eqTab_ok
noncomputable def CRR : Cx := { E := ERR, inl := [], ok := ERR_ok }
def rRemM (n : Nod) (id : Nid) (now : Int) : Nod × List Mb.Act × Int :=
 ({ (rWrM n [⟨2, .zero, id, 0, now⟩]).1 with ofs := n.ofs.filter (nt (ofId id)) }, [⟨5, (findM n.dur id).1, 0, 0⟩], (rWrM n [⟨2, .zero, id, 0, now⟩]).2)
theorem rRemove_ok' (n : Nod) (id : Nid) (now : Int) (hr : recErr ⟨2, .zero, id, 0, now⟩ = 0) (hu : Uniq n.dur.items) (h1 : n.dur.items.length ≤ 900000) (h2 : n.dur.inbox.length ≤ 900000) (h3 : n.jour.size ≤ 100000) (h4 : n.ofs.length ≤ 1000) : FnOK Tryz.prog 124 [.agg n.cells, .agg id.cells, .int .i64 now] (nodA (rRemM n id now), none) := by
 refine fn_ok CRR rfl (by kernel_rfl) Tryz.func124 rfl ?_
 refine Sat.go (Eq.refl _) (NS.call (rFind_ok' n.dur id (by omega)) rfl ?_)
 refine Sat.go (Eq.refl _) (NS.call ((rWrite_ok n [⟨2, .zero, id, 0, now⟩] (by simp) (by simpa using hr) hu h1 h2 h3).le (LeL.cons (LeA.refl _) (LeL.cons (LeA.sl rfl (row_one rfl)) LeL.nil))) rfl ?_)
 refine Sat.go (Eq.refl _) (NS.call (without_ok n.ofs id h4) rfl ?_)
 refine Sat.go (Eq.refl _) (NS.chk (by kernel_rfl) ?_)
 exact Sat.go (Eq.refl _) (NS.ret rfl rfl (LeA.tup3 (LeA.refl _) (LeA.sl rfl (row_one (cells := Mb.Act.cells) (x := ⟨5, (findM n.dur id).1, 0, 0⟩) rfl)) (LeA.refl _)))
def rEndM (n : Nod) (id : Nid) (s a : Bool) (now : Int) : Nod × List Mb.Act × Int :=
 if decM (findM n.dur id).1.custody s a == 3 then (n, [⟨4, (findM n.dur id).1, 0, 0⟩], 0) else rRemM n id now
theorem ended_ok (n : Nod) (id : Nid) (s a : Bool) (now : Int) (hr : recErr ⟨2, .zero, id, 0, now⟩ = 0) (hu : Uniq n.dur.items) (h1 : n.dur.items.length ≤ 900000) (h2 : n.dur.inbox.length ≤ 900000) (h3 : n.jour.size ≤ 100000) (h4 : n.ofs.length ≤ 1000) : FnOK Tryz.prog 183 [.agg n.cells, .agg id.cells, .bool s, .bool a, .int .i64 now] (nodA (rEndM n id s a now), none) := by
 unfold rEndM
 refine fn_ok CF rfl (by kernel_rfl) Tryz.func183 rfl ?_
 refine Sat.go (Eq.refl _) (NS.call (rFind_ok' n.dur id (by omega)) rfl ?_)
 refine Sat.go (Eq.refl _) (NS.call (rDecide_ok (findM n.dur id).1.custody s a) rfl ?_)
 refine Sat.go (Eq.refl _) (NS.ite (fun a1 => ?_) (fun a1 => ?_))
 ·rw [if_pos a1]
  refine Sat.go (Eq.refl _) (NS.chk (by kernel_rfl) ?_)
  exact Sat.go (Eq.refl _) (NS.ret rfl rfl (LeA.tup3 (LeA.refl _) (LeA.sl rfl (row_one (cells := Mb.Act.cells) (x := ⟨4, (findM n.dur id).1, 0, 0⟩) rfl)) (LeA.refl _)))
 ·rw [if_neg (by rw [a1]; decide)]
  refine Sat.go (Eq.refl _) (NS.call (rRemove_ok' n id now hr hu h1 h2 h3 h4) rfl ?_)
  exact Sat.go (Eq.refl _) (NS.ret rfl rfl (LeA.refl _))
end Go.Proofs.YtggjngbighkdgaaGreat

namespace Go.Proofs.YtggjngbighkdgaaGreat
open Go.Sy Go.Mb
set_option maxRecDepth 100000
set_option maxHeartbeats 4000000
theorem chkS_zero (l : List Ofr) : ∀ (n k : Nat), chkS l n k = 0 ↔ ∀ i, k ≤ i → i < k + n → vOf (l.getD i default) = true ∧ (0 < i → ltO (l.getD (i - 1) default) (l.getD i default) = true)
 | 0, k => by unfold chkS; simp; intro i h1 h2; omega
 | n + 1, k => by
  unfold chkS
  have ih := chkS_zero l n (k + 1)
  constructor
  ·intro h i h1 h2
   split at h
   ·cases h
   rename_i a1
   split at h
   ·cases h
   rename_i a2
   rcases Nat.eq_or_lt_of_le h1 with e | e
   ·subst e
    refine ⟨by simpa using a1, fun hk => ?_⟩
    simp only [Bool.and_eq_true, decide_eq_true_eq, Bool.not_eq_true', not_and, Bool.not_eq_false] at a2
    exact a2 hk
   ·exact ih.1 h i e (by omega)
  ·intro h
   obtain ⟨a1, a2⟩ := h k (Nat.le_refl _) (by omega)
   rw [if_neg (by rw [a1]; decide), if_neg]
   ·exact ih.2 fun i h1 h2 => h i (by omega) (by omega)
   ·simp only [Bool.and_eq_true, decide_eq_true_eq, Bool.not_eq_true', not_and, Bool.not_eq_false]
    exact a2
def Ofs (l : List Ofr) : Prop := l.length ≤ 64 ∧ (∀ o ∈ l, vOf o = true) ∧ l.Pairwise ofLt
theorem ofs_iff (l : List Ofr) : chkO l = 0 ↔ Ofs l := by
 unfold chkO Ofs
 constructor
 ·intro h
  split at h
  ·cases h
  rename_i hl
  have hl : l.length ≤ 64 := by simp only [decide_eq_true_eq] at hl; omega
  have hs := (chkS_zero l l.length 0).1 h
  refine ⟨hl, fun o ho => ?_, ?_⟩
  ·obtain ⟨i, hi, rfl⟩ := List.getElem_of_mem ho
   have := (hs i (Nat.zero_le _) (by omega)).1
   rwa [getD_lt hi] at this
  ·rw [List.pairwise_iff_getElem]
   intro i j hi hj hij
   induction j with
   | zero => omega
   | succ j ih =>
    have h1 := (hs (j + 1) (Nat.zero_le _) (by omega)).2 (by omega)
    rw [show j + 1 - 1 = j from rfl, getD_lt (by omega), getD_lt hj] at h1
    have h1 := ltO_iff.1 h1
    rcases Nat.eq_or_lt_of_le (show i ≤ j by omega) with e | e
    ·subst e; exact h1
    ·exact ofLt_trans (ih (by omega) e) h1
 ·rintro ⟨hl, hv, hp⟩
  rw [if_neg (by simp only [decide_eq_true_eq]; omega)]
  refine (chkS_zero l l.length 0).2 fun i _ hi => ?_
  have hi : i < l.length := by omega
  rw [getD_lt hi]
  refine ⟨hv _ (List.getElem_mem hi), fun h0 => ?_⟩
  rw [getD_lt (by omega)]
  rw [List.pairwise_iff_getElem] at hp
  exact ltO_iff.2 (hp (i - 1) i (by omega) hi (by omega))
theorem Ofs.filter {l : List Ofr} (h : Ofs l) (p : Ofr → Bool) : Ofs (l.filter p) :=
 ⟨Nat.le_trans (List.length_filter_le _ _) h.1, fun o ho => h.2.1 o (List.mem_filter.1 ho).1, h.2.2.sublist List.filter_sublist⟩
end Go.Proofs.YtggjngbighkdgaaGreat

namespace Go.Proofs.YtggjngbighkdgaaGreat
open Go.Sy Go.Mb
set_option maxRecDepth 100000
set_option maxHeartbeats 4000000
theorem emptyO {el : Nat → Nat → A} : LeA (.sl 8 0 el) (slOfr []) := LeA.sl rfl fun i hi => absurd hi (Nat.not_lt_zero _)
theorem rDue_ok (l : List Ofr) (now : Int) : FnOK Tryz.prog 184 [slOfr l, .int .i64 now] (.tup [slOfr (dueM l now).1, slOfr (dueM l now).2.1, .int .i64 (dueM l now).2.2], none) := by
 unfold dueM
 refine fn_ok CF rfl (by kernel_rfl) Tryz.func184 rfl ?_
 refine Sat.go (Eq.refl _) (NS.call (rcCheck_ok l) rfl ?_)
 refine Sat.go (Eq.refl _) (NS.ite (fun h0 => ?_) (fun h0 => ?_))
 ·rw [if_pos h0]
  exact Sat.go (Eq.refl _) (NS.ret rfl rfl (LeA.tup3 emptyO emptyO (LeA.refl _)))
 rw [if_neg (by rw [h0]; decide)]
 have hl := chkO_len (l := l) (by simpa using h0)
 refine Sat.go (Eq.refl _) ?_
 refine NS.loop (σ := { k : Nat // k ≤ l.length }) (fun k => [(0, slOfr l), (1, .int .i64 now), (7, .own 15), (8, .own 16), (9, .int .i64 k.1)]) (fun k => [(15, .row 67 8 ((l.take k.1).filter (ofDue now)).length (rowL Ofr.cells ((l.take k.1).filter (ofDue now)))), (16, .row 67 8 ((l.take k.1).filter (nt (ofDue now))).length (rowL Ofr.cells ((l.take k.1).filter (nt (ofDue now)))))]) (fun k => l.length - k.1) ⟨0, Nat.zero_le _⟩ ?_ ?_
 ·exact weak_hd [] rfl ⟨rfl, rfl, rfl, rfl, rfl, trivial⟩ ⟨ren_row rfl rfl (fun i hi => absurd hi (Nat.not_lt_zero _)), ren_row rfl rfl (fun i hi => absurd hi (Nat.not_lt_zero _)), trivial⟩ trivial (by kernel_rfl)
 rintro ⟨k, hk⟩
 have q1 : ((l.take k).filter (ofDue now)).length ≤ k := Nat.le_trans (List.length_filter_le _ _) (by simp; omega)
 have q2 : ((l.take k).filter (nt (ofDue now))).length ≤ k := Nat.le_trans (List.length_filter_le _ _) (by simp; omega)
 have s1 := fun h : k < l.length => filter_snoc (p := ofDue now) (l := l) (k := k) h
 have s2 := fun h : k < l.length => filter_snoc (p := nt (ofDue now)) (l := l) (k := k) h
 refine Sat.go (Eq.refl _) (NS.ite (fun h => ?_) (fun h => ?_))
 ·have h : k < l.length := by simpa using h
  have s1 := s1 h
  have s2 := s2 h
  refine Sat.go (Eq.refl _) (NS.need (by simp; omega) ?_)
  refine Sat.go (Eq.refl _) (NS.ite (fun h2 => ?_) (fun h2 => ?_))
  ·have h2 : ofDue now (l.getD k default) = true := h2
   rw [if_pos h2] at s1
   rw [if_neg (by unfold nt; rw [h2]; decide), List.append_nil] at s2
   refine Sat.go (Eq.refl _) (NS.need (by simp; omega) ?_)
   refine Sat.go (Eq.refl _) (NS.need (decide_eq_true (by simp only [maxRow]; show (((l.take k).filter (ofDue now)).length + 1) * _ ≤ _; omega)) ?_)
   refine Sat.go (Eq.refl _) (NS.next ⟨k + 1, by omega⟩ (by simp; omega) ?_)
   refine weak_hd [(15, 36)] rfl ⟨rfl, rfl, rfl, rfl, ren_int rfl (i64_k (by omega) (by omega)), trivial⟩ ⟨?_, ?_, trivial⟩ trivial (by kernel_rfl)
   ·rw [s1]
    exact ren_row rfl (by simp) (fun i hi j hj => row_snoc (cells := Ofr.cells) (x := l.getD k default) rfl i (by simpa using hi) j hj)
   ·rw [s2]
    exact ren_row rfl rfl fun _ _ _ _ => rfl
  ·have h2 : ofDue now (l.getD k default) = false := h2
   rw [if_neg (by rw [h2]; decide), List.append_nil] at s1
   rw [if_pos (by unfold nt; rw [h2]; rfl)] at s2
   refine Sat.go (Eq.refl _) (NS.need (by simp; omega) ?_)
   refine Sat.go (Eq.refl _) (NS.need (decide_eq_true (by simp only [maxRow]; show (((l.take k).filter (nt (ofDue now))).length + 1) * _ ≤ _; omega)) ?_)
   refine Sat.go (Eq.refl _) (NS.next ⟨k + 1, by omega⟩ (by simp; omega) ?_)
   refine weak_hd [(16, 43)] rfl ⟨rfl, rfl, rfl, rfl, ren_int rfl (i64_k (by omega) (by omega)), trivial⟩ ⟨?_, ?_, trivial⟩ trivial (by kernel_rfl)
   ·rw [s1]
    exact ren_row rfl rfl fun _ _ _ _ => rfl
   ·rw [s2]
    exact ren_row rfl (by simp) (fun i hi j hj => row_snoc (cells := Ofr.cells) (x := l.getD k default) rfl i (by simpa using hi) j hj)
 ·have h : ¬ k < l.length := by simpa using h
  obtain rfl : k = l.length := by omega
  refine Sat.go (Eq.refl _) (NS.leave rfl (Eq.refl _) ?_)
  rw [show l.take l.length = l from List.take_length]
  exact Sat.go (Eq.refl _) (NS.ret rfl rfl (LeA.refl _))
theorem vOf_tries (x : Nid) (c d : Int) {n : Nat} (h : n ≤ 64) : vOf ⟨x, c, d, (n : Int)⟩ = vOf ⟨x, c, d, 0⟩ := by
 unfold vOf
 congr 1
 rw [decide_eq_decide]
 simp only
 omega
theorem pre_filter {l : List Ofr} (o : Ofr) (hs : l.Pairwise ofLt) {k : Nat} (hk : k ≤ l.length) (h1 : ∀ i, i < k → ltO (l.getD i default) o = true) (h2 : k < l.length → ltO (l.getD k default) o = false) :
  l.filter (fun p => ltO p o) = l.take k ∧ l.filter (nt fun p => ltO p o) = l.drop k := by
 have a1 : ∀ p ∈ l.take k, ltO p o = true := by
  intro p hp
  obtain ⟨i, hi, rfl⟩ := List.getElem_of_mem hp
  have hi' : i < k ∧ i < l.length := by rw [List.length_take] at hi; exact ⟨by omega, by omega⟩
  rw [List.getElem_take, ← getD_lt hi'.2]
  exact h1 i hi'.1
 have a2 : ∀ p ∈ l.drop k, ltO p o = false := by
  intro p hp
  obtain ⟨i, hi, rfl⟩ := List.getElem_of_mem hp
  have hi' : k + i < l.length := by simp at hi; omega
  rw [List.getElem_drop]
  have hlt : k < l.length := by omega
  have h2 := h2 hlt
  cases i with
  | zero =>
   rw [getD_lt hlt] at h2
   exact h2
  | succ i =>
   rw [← Bool.not_eq_true]
   intro h3
   have h4 := ltO_iff.1 h3
   rw [List.pairwise_iff_getElem] at hs
   have h5 := ofLt_trans (hs k (k + (i + 1)) hlt hi' (by omega)) h4
   rw [getD_lt hlt, ← Bool.not_eq_true] at h2
   exact h2 (ltO_iff.2 h5)
 constructor
 ·conv => lhs; rw [← List.take_append_drop k l, List.filter_append, List.filter_eq_self.2 a1, List.filter_eq_nil_iff.2 (fun p hp => by rw [a2 p hp]; decide), List.append_nil]
 ·conv => lhs; rw [← List.take_append_drop k l, List.filter_append, List.filter_eq_nil_iff.2 (fun p hp => by show ¬ (!ltO p o) = true; rw [a1 p hp]; decide), List.filter_eq_self.2 (fun p hp => by show (!ltO p o) = true; rw [a2 p hp]; rfl), List.nil_append]
theorem rBegin_ok (l : List Ofr) (x : Nid) (c d : Int) : FnOK Tryz.prog 182 [slOfr l, .agg x.cells, .int .i64 c, .int .i64 d] (.tup [slOfr (beginM l x c d).1, .int .i64 (beginM l x c d).2], none) := by
 unfold beginM
 simp only
 refine fn_ok CF rfl (by kernel_rfl) Tryz.func182 rfl ?_
 refine Sat.go (Eq.refl _) (NS.call (rcCheck_ok l) rfl ?_)
 refine Sat.go (Eq.refl _) (NS.ite (fun h0 => ?_) (fun h0 => ?_))
 ·rw [if_pos h0]
  exact Sat.go (Eq.refl _) (NS.ret rfl rfl (LeA.tup2 emptyO (LeA.refl _)))
 rw [if_neg (by rw [h0]; decide)]
 have hl := chkO_len (l := l) (by simpa using h0)
 obtain ⟨_, _, hs⟩ := (ofs_iff l).1 (by simpa using h0)
 have hfl : (l.filter (ofId x)).length ≤ 64 := Nat.le_trans (List.length_filter_le _ _) hl
 refine Sat.go (Eq.refl _) (NS.call (rcValid_ok ⟨x, c, d, 0⟩) rfl ?_)
 rw [vOf_tries x c d hfl]
 refine Sat.go (Eq.refl _) (NS.ite (fun h1 => ?_) (fun h1 => ?_))
 ·rw [if_pos h1]
  exact Sat.go (Eq.refl _) (NS.ret rfl rfl (LeA.tup2 emptyO (LeA.refl _)))
 rw [if_neg (by rw [h1]; decide)]
 refine Sat.go (Eq.refl _) ?_
 refine NS.loop (σ := { k : Nat // k ≤ l.length ∧ ∀ i, i < k → ofKey x c (l.getD i default) = false }) (fun k => [(0, slOfr l), (2, .int .i64 c), (5, .ptr 5 0), (10, .ptr 10 0), (11, .int .i64 k.1)]) (fun k => [(5, .box x.cells), (10, .box (Ofr.cells ⟨x, c, d, (((l.take k.1).filter (ofId x)).length : Nat)⟩))]) (fun k => l.length - k.1) ⟨0, Nat.zero_le _, fun i hi => by omega⟩ ?_ ?_
 ·exact weak_hd [] rfl ⟨rfl, rfl, rfl, rfl, rfl, trivial⟩ ⟨⟨_, rfl, ⟨_, _, rfl, rfl, _, _, rfl, rfl, _, _, rfl, rfl, _, _, rfl, rfl, _, _, rfl, rfl, rfl⟩⟩, ⟨_, rfl, renOfr _ ⟨x, c, d, 0⟩⟩, trivial⟩ trivial (by kernel_rfl)
 rintro ⟨k, hk, hn⟩
 have hk : k ≤ l.length := hk
 have hsn := fun h : k < l.length => filter_snoc (p := ofId x) (l := l) (k := k) h
 have nx : ∀ (h : k < l.length), ofKey x c (l.getD k default) = false → ∀ i, i < k + 1 → ofKey x c (l.getD i default) = false := by
  intro h hq i hi
  by_cases hik : i = k
  ·subst hik; exact hq
  ·exact hn i (by omega)
 have hct : ((l.take k).filter (ofId x)).length ≤ 64 := Nat.le_trans (List.length_filter_le _ _) (by simp; omega)
 refine Sat.go (Eq.refl _) (NS.ite (fun h => ?_) (fun h => ?_))
 ·have h : k < l.length := by simpa using h
  have hsn := hsn h
  refine Sat.go (Eq.refl _) (NS.chk (by kernel_rfl) ?_)
  refine Sat.go (Eq.refl _) (NS.need (by simp; omega) ?_)
  refine Sat.go (Eq.refl _) (NS.ite (fun h2 => ?_) (fun h2 => ?_))
  ·have h2 : ofId x (l.getD k default) = true := h2
   rw [if_pos h2] at hsn
   refine Sat.go (Eq.refl _) (NS.need (by simp; omega) ?_)
   refine Sat.go (Eq.refl _) (NS.ite (fun h3 => ?_) (fun h3 => ?_))
   ·have hany : l.any (ofKey x c) = true := any_t h (by unfold ofKey; rw [show (l.getD k default).id.eqv x = true from h2, show ((l.getD k default).contact == c) = true from h3]; rfl)
    rw [if_pos (List.any_eq_true.2 (by obtain ⟨p, hp, hq⟩ := List.any_eq_true.1 hany; exact ⟨p, List.mem_filter.2 ⟨hp, by unfold ofKey at hq; rw [Bool.and_eq_true] at hq; exact hq.1⟩, hq⟩))]
    exact Sat.go (Eq.refl _) (NS.leaveOut rfl (Eq.refl _) (NS.ret rfl rfl (LeA.tup2 emptyO (LeA.refl _))))
   ·refine Sat.go (Eq.refl _) (NS.chk (by kernel_rfl) ?_)
    refine Sat.go (Eq.refl _) (NS.need (by simp; omega) ?_)
    refine Sat.go (Eq.refl _) (NS.yes (h2) ?_)
    refine Sat.go (Eq.refl _) (NS.next ⟨k + 1, by omega, nx h (by unfold ofKey; rw [show ((l.getD k default).contact == c) = false from h3, Bool.and_false])⟩ (by simp; omega) ?_)
    refine weak_hd [] rfl ⟨rfl, rfl, rfl, rfl, ren_int rfl (i64_k (k := k) (by omega) (by omega)), trivial⟩ ⟨⟨_, rfl, ⟨_, _, rfl, rfl, _, _, rfl, rfl, _, _, rfl, rfl, _, _, rfl, rfl, _, _, rfl, rfl, rfl⟩⟩, ⟨_, rfl, ⟨_, _, rfl, rfl, _, _, rfl, rfl, _, _, rfl, rfl, _, _, rfl, rfl, _, _, rfl, rfl, _, _, rfl, rfl, _, _, rfl, rfl, _, _, rfl, ren_int rfl ?_, rfl⟩⟩, trivial⟩ trivial (by kernel_rfl)
    show IntKind.i64.wrap ((((l.take k).filter (ofId x)).length : Int) + 1) = (((l.take (k + 1)).filter (ofId x)).length : Int)
    rw [hsn, wrap_i64 (by omega) (by omega)]; simp
  ·have h2 : ofId x (l.getD k default) = false := h2
   rw [if_neg (by rw [h2]; decide), List.append_nil] at hsn
   refine Sat.go (Eq.refl _) (NS.chk (by kernel_rfl) ?_)
   refine Sat.go (Eq.refl _) (NS.need (by simp; omega) ?_)
   refine Sat.go (Eq.refl _) (NS.no (h2) ?_)
   refine Sat.go (Eq.refl _) (NS.next ⟨k + 1, by omega, nx h (by unfold ofKey; rw [show (l.getD k default).id.eqv x = false from h2, Bool.false_and])⟩ (by simp; omega) ?_)
   refine weak_hd [] rfl ⟨rfl, rfl, rfl, rfl, ren_int rfl (i64_k (k := k) (by omega) (by omega)), trivial⟩ ⟨⟨_, rfl, ⟨_, _, rfl, rfl, _, _, rfl, rfl, _, _, rfl, rfl, _, _, rfl, rfl, _, _, rfl, rfl, rfl⟩⟩, ⟨_, rfl, ⟨_, _, rfl, rfl, _, _, rfl, rfl, _, _, rfl, rfl, _, _, rfl, rfl, _, _, rfl, rfl, _, _, rfl, rfl, _, _, rfl, rfl, _, _, rfl, ren_int rfl ?_, rfl⟩⟩, trivial⟩ trivial (by kernel_rfl)
   show (((l.take k).filter (ofId x)).length : Int) = (((l.take (k + 1)).filter (ofId x)).length : Int)
   rw [hsn]
 ·have h : ¬ k < l.length := by simpa using h
  obtain rfl : k = l.length := by omega
  refine Sat.go (Eq.refl _) (NS.leave rfl (Eq.refl _) ?_)
  rw [show l.take l.length = l from List.take_length]
  have hno : (l.filter (ofId x)).any (ofKey x c) = false := by
   rw [List.any_eq_false]
   intro p hp
   obtain ⟨i, hi, rfl⟩ := List.getElem_of_mem (List.mem_filter.1 hp).1
   have := hn i hi
   rw [getD_lt hi] at this
   rw [this]; decide
  rw [if_neg (by rw [hno]; decide)]
  obtain ⟨o, ho⟩ : ∃ o : Ofr, ⟨x, c, d, ((l.filter (ofId x)).length : Int)⟩ = o := ⟨_, rfl⟩
  rw [ho]
  refine Sat.go (Eq.refl _) (NS.ite (fun h3 => ?_) (fun h3 => ?_))
  ·rw [if_pos h3]
   exact Sat.go (Eq.refl _) (NS.ret rfl rfl (LeA.tup2 emptyO (LeA.refl _)))
  rw [if_neg (by rw [h3]; decide)]
  refine Sat.go (Eq.refl _) ?_
  refine NS.loop (σ := { k : Nat // k ≤ l.length ∧ ∀ i, i < k → ltO (l.getD i default) o = true }) (fun k => [(0, slOfr l), (10, .ptr 10 0), (12, .own 64), (13, .int .i64 k.1)]) (fun k => [(10, .box o.cells), (64, .row 67 8 (l.take k.1).length (rowL Ofr.cells (l.take k.1)))]) (fun k => l.length - k.1) ⟨0, Nat.zero_le _, fun i hi => by omega⟩ ?_ ?_
  ·exact weak_hd [] rfl ⟨rfl, rfl, rfl, rfl, trivial⟩ ⟨⟨_, rfl, by rw [← ho]; exact renOfr _ ⟨x, c, d, ((l.filter (ofId x)).length : Int)⟩⟩, ren_row rfl rfl (fun i hi => absurd hi (Nat.not_lt_zero _)), trivial⟩ trivial (by kernel_rfl)
  rintro ⟨k, hk2, hm⟩
  have hk2 : k ≤ l.length := hk2
  have fin : ∀ (hq : k < l.length → ltO (l.getD k default) o = false), l.filter (fun p => ltO p o) = l.take k ∧ l.filter (nt fun p => ltO p o) = l.drop k := fun hq => pre_filter o hs hk2 hm hq
  have hlen : (l.take k).length = k := by simp; omega
  refine Sat.go (Eq.refl _) (NS.chk (by kernel_rfl) ?_)
  refine Sat.go (Eq.refl _) (NS.ite (fun h4 => ?_) (fun h4 => ?_))
  ·have h4 : k < l.length := by have h4 : ((k : Nat) : Int) < (l.length : Int) := of_decide_eq_true h4; omega
   have hsn := take_snoc (l := l) (k := k) h4
   refine Sat.go (Eq.refl _) (NS.need (by simp; omega) ?_)
   refine Sat.go (Eq.refl _) (NS.call (rLessO_ok (l.getD k default) o) rfl ?_)
   refine Sat.go (Eq.refl _) (NS.ite (fun h5 => ?_) (fun h5 => ?_))
   ·refine Sat.go (Eq.refl _) (NS.need (by simp; omega) ?_)
    refine Sat.go (Eq.refl _) (NS.need (decide_eq_true (by simp only [maxRow]; show ((l.take k).length + 1) * _ ≤ _; omega)) ?_)
    refine Sat.go (Eq.refl _) (NS.next ⟨k + 1, by omega, fun i hi => ?_⟩ (by simp; omega) ?_)
    ·by_cases hik : i = k
     ·subst hik; exact h5
     ·exact hm i (by omega)
    refine weak_hd [(64, 83)] rfl ⟨rfl, rfl, rfl, ren_int rfl (i64_k (k := k) (by omega) (by omega)), trivial⟩ ⟨⟨_, rfl, renOfr _ o⟩, ?_, trivial⟩ trivial (by kernel_rfl)
    rw [hsn]
    exact ren_row rfl (by simp) (fun i hi j hj => row_snoc (cells := Ofr.cells) (x := l.getD k default) rfl i (by simpa using hi) j hj)
   ·obtain ⟨f1, f2⟩ := fin (fun _ => h5)
    refine Sat.go (Eq.refl _) (NS.leave rfl (Eq.refl _) ?_)
    refine Sat.go (Eq.refl _) (NS.need (decide_eq_true (by simp only [maxRow]; show ((l.take k).length + 1) * _ ≤ _; omega)) ?_)
    refine Sat.go (Eq.refl _) (NS.need (by simp; omega) ?_)
    refine Sat.go (Eq.refl _) (NS.need (decide_eq_true (by simp only [maxRow]; show ((l.take k).length + 1 + ((l.length : Int) - (k : Int)).toNat) * _ ≤ _; omega)) ?_)
    rw [f1, f2]
    refine Sat.go (Eq.refl _) (NS.ret rfl rfl (LeA.tup2 (LeA.sl ?_ fun i hi j hj => ?_) (LeA.refl _)))
    ·show (l.take k).length + 1 + ((l.length : Int) - (k : Int)).toNat = _
     simp; omega
    ·have hm := row_mid (a := l.take k) (b := l.drop k) (x := o) (cs := o.cells) rfl i j hj
     rw [← hm]
     have e1 : ∀ q, rowL Ofr.cells (l.drop k) q j = rowL Ofr.cells l (k + q) j := by
      intro q
      unfold rowL
      congr 2
      simp [List.getD, List.getElem?_drop]
     show (if i < (l.take k).length + 1 then _ else rowL Ofr.cells l (k + (i - ((l.take k).length + 1))) j) = _
     rw [← e1]
     rfl
  ·have h4 : ¬ k < l.length := by have h4 : ¬ ((k : Nat) : Int) < (l.length : Int) := of_decide_eq_false h4; omega
   obtain ⟨f1, f2⟩ := fin (fun hq => absurd hq h4)
   refine Sat.go (Eq.refl _) (NS.leave rfl (Eq.refl _) ?_)
   refine Sat.go (Eq.refl _) (NS.need (decide_eq_true (by simp only [maxRow]; show ((l.take k).length + 1) * _ ≤ _; omega)) ?_)
   refine Sat.go (Eq.refl _) (NS.need (by simp; omega) ?_)
   refine Sat.go (Eq.refl _) (NS.need (decide_eq_true (by simp only [maxRow]; show ((l.take k).length + 1 + ((l.length : Int) - (k : Int)).toNat) * _ ≤ _; omega)) ?_)
   rw [f1, f2]
   refine Sat.go (Eq.refl _) (NS.ret rfl rfl (LeA.tup2 (LeA.sl ?_ fun i hi j hj => ?_) (LeA.refl _)))
   ·show (l.take k).length + 1 + ((l.length : Int) - (k : Int)).toNat = _
    simp; omega
   ·have hm := row_mid (a := l.take k) (b := l.drop k) (x := o) (cs := o.cells) rfl i j hj
    rw [← hm]
    have e1 : ∀ q, rowL Ofr.cells (l.drop k) q j = rowL Ofr.cells l (k + q) j := by
     intro q
     unfold rowL
     congr 2
     simp [List.getD, List.getElem?_drop]
    show (if i < (l.take k).length + 1 then _ else rowL Ofr.cells l (k + (i - ((l.take k).length + 1))) j) = _
    rw [← e1]
    rfl
end Go.Proofs.YtggjngbighkdgaaGreat

namespace Go.Proofs.YtggjngbighkdgaaGreat
open Go.Sy Go.Mb
set_option maxRecDepth 100000
set_option maxHeartbeats 4000000
def rKind (n : Nod) (e : Evt) (r : Int) : Int := if r == 1 || r == 2 || (r == 3 && idx (ofAt e.item.id (-1)) n.ofs == -1) then 2 else 3
def rPutM (n : Nod) (e : Evt) (p : List Jrec × Int × Int) : Nod × List Mb.Act × Int :=
 ({ (rWrM n p.1).1 with last := if 0 < p.1.length then ((rWrM n p.1).1.jour.size : Int) else (rWrM n p.1).1.last }, [⟨rKind n e p.2.1, e.item, 0, p.2.1⟩], (rWrM n p.1).2)
theorem rPut_ok' (n : Nod) (e : Evt) (hr : ∀ r ∈ (putM n.dur n.self n.quota e.item e.time).1, recErr r = 0) (hu : Uniq n.dur.items) (h1 : n.dur.items.length ≤ 900000) (h2 : n.dur.inbox.length ≤ 900000) (h3 : n.jour.size ≤ 100000) (h4 : n.ofs.length ≤ 1000) : FnOK Tryz.prog 119 [.agg n.cells, .agg e.cells] (nodA (rPutM n e (putM n.dur n.self n.quota e.item e.time)), none) := by
 have c := rPut_ok n.dur n.self n.quota e.item e.time (by omega) (by omega)
 have hl := putM_len n.dur n.self n.quota e.item e.time
 generalize putM n.dur n.self n.quota e.item e.time = p at *
 have cw := rWrite_ok n p.1 hl hr hu h1 h2 h3
 unfold rPutM
 generalize rWrM n p.1 = w at *
 refine fn_ok CF rfl (by kernel_rfl) Tryz.func119 rfl ?_
 refine Sat.go (Eq.refl _) (NS.call (c) rfl ?_)
 refine Sat.go (Eq.refl _) (NS.call (cw) rfl ?_)
 refine Sat.go (Eq.refl _) (NS.ite (fun a1 => ?_) (fun a1 => ?_))
 ·rw [show rKind n e p.2.1 = 2 by unfold rKind; rw [show (p.2.1 == 1) = true from a1]; rfl]
  refine Sat.go (Eq.refl _) (NS.ite (fun b1 => ?_) (fun b1 => ?_))
  ·rw [if_pos (show 0 < p.1.length by have b1 : (p.1.length : Int) > 0 := of_decide_eq_true b1; omega)]
   refine Sat.go (Eq.refl _) (NS.chk (by kernel_rfl) ?_)
   exact Sat.go (Eq.refl _) (NS.ret rfl rfl (LeA.tup3 (LeA.refl _) (LeA.sl rfl (row_one (cells := Mb.Act.cells) (x := ⟨2, e.item, 0, p.2.1⟩) rfl)) (LeA.refl _)))
  ·rw [if_neg (show ¬ 0 < p.1.length by have b1 : ¬ (p.1.length : Int) > 0 := of_decide_eq_false b1; omega)]
   refine Sat.go (Eq.refl _) (NS.chk (by kernel_rfl) ?_)
   exact Sat.go (Eq.refl _) (NS.ret rfl rfl (LeA.tup3 (LeA.refl _) (LeA.sl rfl (row_one (cells := Mb.Act.cells) (x := ⟨2, e.item, 0, p.2.1⟩) rfl)) (LeA.refl _)))
 refine Sat.go (Eq.refl _) (NS.ite (fun a2 => ?_) (fun a2 => ?_))
 ·rw [show rKind n e p.2.1 = 2 by unfold rKind; rw [show (p.2.1 == 1) = false from a1, show (p.2.1 == 2) = true from a2]; rfl]
  refine Sat.go (Eq.refl _) (NS.ite (fun b1 => ?_) (fun b1 => ?_))
  ·rw [if_pos (show 0 < p.1.length by have b1 : (p.1.length : Int) > 0 := of_decide_eq_true b1; omega)]
   refine Sat.go (Eq.refl _) (NS.chk (by kernel_rfl) ?_)
   exact Sat.go (Eq.refl _) (NS.ret rfl rfl (LeA.tup3 (LeA.refl _) (LeA.sl rfl (row_one (cells := Mb.Act.cells) (x := ⟨2, e.item, 0, p.2.1⟩) rfl)) (LeA.refl _)))
  ·rw [if_neg (show ¬ 0 < p.1.length by have b1 : ¬ (p.1.length : Int) > 0 := of_decide_eq_false b1; omega)]
   refine Sat.go (Eq.refl _) (NS.chk (by kernel_rfl) ?_)
   exact Sat.go (Eq.refl _) (NS.ret rfl rfl (LeA.tup3 (LeA.refl _) (LeA.sl rfl (row_one (cells := Mb.Act.cells) (x := ⟨2, e.item, 0, p.2.1⟩) rfl)) (LeA.refl _)))
 refine Sat.go (Eq.refl _) (NS.ite (fun a3 => ?_) (fun a3 => ?_))
 ·refine Sat.go (Eq.refl _) (NS.call (offered_ok n.ofs e.item.id (-1) h4) rfl ?_)
  refine Sat.go (Eq.refl _) (NS.ite (fun a4 => ?_) (fun a4 => ?_))
  ·rw [show rKind n e p.2.1 = 2 by unfold rKind; rw [show (p.2.1 == 1) = false from a1, show (p.2.1 == 2) = false from a2, show (p.2.1 == 3) = true from a3, show (idx (ofAt e.item.id (-1)) n.ofs == -1) = true from a4]; rfl]
   refine Sat.go (Eq.refl _) (NS.ite (fun b1 => ?_) (fun b1 => ?_))
   ·rw [if_pos (show 0 < p.1.length by have b1 : (p.1.length : Int) > 0 := of_decide_eq_true b1; omega)]
    refine Sat.go (Eq.refl _) (NS.chk (by kernel_rfl) ?_)
    exact Sat.go (Eq.refl _) (NS.ret rfl rfl (LeA.tup3 (LeA.refl _) (LeA.sl rfl (row_one (cells := Mb.Act.cells) (x := ⟨2, e.item, 0, p.2.1⟩) rfl)) (LeA.refl _)))
   ·rw [if_neg (show ¬ 0 < p.1.length by have b1 : ¬ (p.1.length : Int) > 0 := of_decide_eq_false b1; omega)]
    refine Sat.go (Eq.refl _) (NS.chk (by kernel_rfl) ?_)
    exact Sat.go (Eq.refl _) (NS.ret rfl rfl (LeA.tup3 (LeA.refl _) (LeA.sl rfl (row_one (cells := Mb.Act.cells) (x := ⟨2, e.item, 0, p.2.1⟩) rfl)) (LeA.refl _)))
  ·rw [show rKind n e p.2.1 = 3 by unfold rKind; rw [show (p.2.1 == 1) = false from a1, show (p.2.1 == 2) = false from a2, show (p.2.1 == 3) = true from a3, show (idx (ofAt e.item.id (-1)) n.ofs == -1) = false from a4]; rfl]
   refine Sat.go (Eq.refl _) (NS.ite (fun b1 => ?_) (fun b1 => ?_))
   ·rw [if_pos (show 0 < p.1.length by have b1 : (p.1.length : Int) > 0 := of_decide_eq_true b1; omega)]
    refine Sat.go (Eq.refl _) (NS.chk (by kernel_rfl) ?_)
    exact Sat.go (Eq.refl _) (NS.ret rfl rfl (LeA.tup3 (LeA.refl _) (LeA.sl rfl (row_one (cells := Mb.Act.cells) (x := ⟨3, e.item, 0, p.2.1⟩) rfl)) (LeA.refl _)))
   ·rw [if_neg (show ¬ 0 < p.1.length by have b1 : ¬ (p.1.length : Int) > 0 := of_decide_eq_false b1; omega)]
    refine Sat.go (Eq.refl _) (NS.chk (by kernel_rfl) ?_)
    exact Sat.go (Eq.refl _) (NS.ret rfl rfl (LeA.tup3 (LeA.refl _) (LeA.sl rfl (row_one (cells := Mb.Act.cells) (x := ⟨3, e.item, 0, p.2.1⟩) rfl)) (LeA.refl _)))
 ·rw [show rKind n e p.2.1 = 3 by unfold rKind; rw [show (p.2.1 == 1) = false from a1, show (p.2.1 == 2) = false from a2, show (p.2.1 == 3) = false from a3]; rfl]
  refine Sat.go (Eq.refl _) (NS.ite (fun b1 => ?_) (fun b1 => ?_))
  ·rw [if_pos (show 0 < p.1.length by have b1 : (p.1.length : Int) > 0 := of_decide_eq_true b1; omega)]
   refine Sat.go (Eq.refl _) (NS.chk (by kernel_rfl) ?_)
   exact Sat.go (Eq.refl _) (NS.ret rfl rfl (LeA.tup3 (LeA.refl _) (LeA.sl rfl (row_one (cells := Mb.Act.cells) (x := ⟨3, e.item, 0, p.2.1⟩) rfl)) (LeA.refl _)))
  ·rw [if_neg (show ¬ 0 < p.1.length by have b1 : ¬ (p.1.length : Int) > 0 := of_decide_eq_false b1; omega)]
   refine Sat.go (Eq.refl _) (NS.chk (by kernel_rfl) ?_)
   exact Sat.go (Eq.refl _) (NS.ret rfl rfl (LeA.tup3 (LeA.refl _) (LeA.sl rfl (row_one (cells := Mb.Act.cells) (x := ⟨3, e.item, 0, p.2.1⟩) rfl)) (LeA.refl _)))
def rSendM (n : Nod) (e : Evt) : Nod × List Mb.Act × Int :=
 if !(findM n.dur e.id).2 then (n, [], 0)
 else if idx (ofAt e.id e.contact) n.ofs ≥ 0 then (n, [], 0)
 else if (beginM n.ofs e.id e.contact e.due).2 != 0 then (n, [], 4)
 else ({ n with ofs := (beginM n.ofs e.id e.contact e.due).1 }, [⟨1, (findM n.dur e.id).1, e.contact, 0⟩], 0)
theorem rSend_ok (n : Nod) (e : Evt) (h1 : n.dur.items.length ≤ 900000) (h4 : n.ofs.length ≤ 1000) : FnOK Tryz.prog 120 [.agg n.cells, .agg e.cells] (nodA (rSendM n e), none) := by
 unfold rSendM
 refine fn_ok CF rfl (by kernel_rfl) Tryz.func120 rfl ?_
 refine Sat.go (Eq.refl _) (NS.call (rFind_ok' n.dur e.id (by omega)) rfl ?_)
 refine Sat.go (Eq.refl _) (NS.ite (fun a1 => ?_) (fun a1 => ?_))
 ·rw [if_pos a1]
  exact Sat.go (Eq.refl _) (NS.ret rfl rfl (LeA.tup3 (LeA.refl _) (LeA.nil' rfl) (LeA.refl _)))
 rw [if_neg (by rw [a1]; decide)]
 refine Sat.go (Eq.refl _) (NS.call (offered_ok n.ofs e.id e.contact h4) rfl ?_)
 refine Sat.go (Eq.refl _) (NS.ite (fun a2 => ?_) (fun a2 => ?_))
 ·rw [if_pos (of_decide_eq_true a2)]
  exact Sat.go (Eq.refl _) (NS.ret rfl rfl (LeA.tup3 (LeA.refl _) (LeA.nil' rfl) (LeA.refl _)))
 rw [if_neg (of_decide_eq_false a2)]
 refine Sat.go (Eq.refl _) (NS.call (rBegin_ok n.ofs e.id e.contact e.due) rfl ?_)
 refine Sat.go (Eq.refl _) (NS.ite (fun a3 => ?_) (fun a3 => ?_))
 ·rw [if_pos a3]
  exact Sat.go (Eq.refl _) (NS.ret rfl rfl (LeA.tup3 (LeA.refl _) (LeA.nil' rfl) (LeA.refl _)))
 rw [if_neg (by rw [a3]; decide)]
 refine Sat.go (Eq.refl _) (NS.chk (by kernel_rfl) ?_)
 exact Sat.go (Eq.refl _) (NS.ret rfl rfl (LeA.tup3 (LeA.refl _) (LeA.sl rfl (row_one (cells := Mb.Act.cells) (x := ⟨1, (findM n.dur e.id).1, e.contact, 0⟩) rfl)) (LeA.refl _)))
def rSigM (n : Nod) (e : Evt) : Nod × List Mb.Act × Int :=
 if idx (ofAt e.id e.contact) n.ofs == -1 then (n, [], 0)
 else rEndM { n with ofs := n.ofs.eraseIdx (idx (ofAt e.id e.contact) n.ofs).toNat } e.id true e.acc e.time
theorem erase_snoc {l : List Ofr} {k i : Nat} (hk : k < l.length) (hi : i < l.length) : (l.take (k + 1)).eraseIdx i = if k = i then (l.take k).eraseIdx i else (l.take k).eraseIdx i ++ [l.getD k default] := by
 rw [take_snoc hk]
 have hl : (l.take k).length = k := by simp; omega
 split
 ·rename_i e
  subst e
  have e1 : (l.take k).eraseIdx k = l.take k := List.eraseIdx_of_length_le (by omega)
  rw [List.eraseIdx_append_of_length_le (by omega), hl, Nat.sub_self, e1]
  simp
 ·rename_i e
  rcases Nat.lt_or_ge i k with h | h
  ·rw [List.eraseIdx_append_of_lt_length (by omega)]
  ·have e1 : (l.take k).eraseIdx i = l.take k := List.eraseIdx_of_length_le (by omega)
   have e2 : [l.getD k default].eraseIdx (i - k) = [l.getD k default] := List.eraseIdx_of_length_le (by simp; omega)
   rw [List.eraseIdx_append_of_length_le (by omega), hl, e2, e1]
theorem rSignal_ok (n : Nod) (e : Evt) (hr : recErr ⟨2, .zero, e.id, 0, e.time⟩ = 0) (hu : Uniq n.dur.items) (h1 : n.dur.items.length ≤ 900000) (h2 : n.dur.inbox.length ≤ 900000) (h3 : n.jour.size ≤ 100000) (h4 : n.ofs.length ≤ 1000) : FnOK Tryz.prog 121 [.agg n.cells, .agg e.cells] (nodA (rSigM n e), none) := by
 unfold rSigM
 refine fn_ok CF rfl (by kernel_rfl) Tryz.func121 rfl ?_
 refine Sat.go (Eq.refl _) (NS.call (offered_ok n.ofs e.id e.contact h4) rfl ?_)
 refine Sat.go (Eq.refl _) (NS.ite (fun a1 => ?_) (fun a1 => ?_))
 ·rw [if_pos a1]
  exact Sat.go (Eq.refl _) (NS.ret rfl rfl (LeA.tup3 (LeA.refl _) (LeA.nil' rfl) (LeA.refl _)))
 rw [if_neg (by rw [a1]; decide)]
 obtain ⟨i, hi, hi2⟩ : ∃ i : Nat, i < n.ofs.length ∧ idx (ofAt e.id e.contact) n.ofs = (i : Int) := by
  rcases idx_cases (ofAt e.id e.contact) n.ofs with ⟨q, _⟩ | ⟨i, q1, q2, _⟩
  ·rw [q] at a1; cases a1
  ·exact ⟨i, q1, q2⟩
 rw [hi2, Int.toNat_natCast]
 have hle : ∀ k, ((n.ofs.take k).eraseIdx i).length ≤ k := fun k => Nat.le_trans (List.length_eraseIdx_le _ _) (by simp; omega)
 refine Sat.go (Eq.refl _) ?_
 refine NS.loop (σ := { k : Nat // k ≤ n.ofs.length }) (fun k => [(2, .ptr 2 0), (3, .ptr 3 0), (4, .ptr 4 0), (7, .int .i64 (i : Nat)), (8, .own 8), (9, .int .i64 k.1)]) (fun k => [(2, .box n.cells), (3, .box e.cells), (4, .box [.junk, .junk, .junk, .junk, .junk, .junk, .junk, .junk]), (8, .row 67 8 ((n.ofs.take k.1).eraseIdx i).length (rowL Ofr.cells ((n.ofs.take k.1).eraseIdx i)))]) (fun k => n.ofs.length - k.1) ⟨0, Nat.zero_le _⟩ ?_ ?_
 ·refine (weak_promote 8 8 67 8 (rowL Ofr.cells []) rfl rfl).trans ?_
  exact weak_hd [] rfl ⟨rfl, rfl, rfl, rfl, rfl, rfl, trivial⟩ ⟨⟨_, rfl, renNod _ _⟩, ⟨_, rfl, renEvt _ _⟩, ⟨_, rfl, ⟨_, _, rfl, trivial, _, _, rfl, trivial, _, _, rfl, trivial, _, _, rfl, trivial, _, _, rfl, trivial, _, _, rfl, trivial, _, _, rfl, trivial, _, _, rfl, trivial, rfl⟩⟩, ren_row rfl (by simp) (fun _ hq => by simp at hq), trivial⟩ trivial (by kernel_rfl)
 rintro ⟨k, hk⟩
 have hle := hle k
 refine Sat.go (Eq.refl _) (NS.ite (fun h => ?_) (fun h => ?_))
 ·have h : k < n.ofs.length := by simpa using h
  have hsn := erase_snoc h hi
  refine Sat.go (Eq.refl _) (NS.ite (fun h5 => ?_) (fun h5 => ?_))
  ·have hne : k ≠ i := by intro q; subst q; simp at h5
   rw [if_neg hne] at hsn
   refine Sat.go (Eq.refl _) (NS.need (by simp; omega) ?_)
   refine Sat.go (Eq.refl _) (NS.need (decide_eq_true (by simp only [maxRow]; show (((n.ofs.take k).eraseIdx i).length + 1) * _ ≤ _; omega)) ?_)
   refine Sat.go (Eq.refl _) (NS.next ⟨k + 1, by omega⟩ (by simp; omega) ?_)
   refine weak_hd [(8, 37)] rfl ⟨rfl, rfl, rfl, rfl, rfl, ren_int rfl (i64_k (k := k) (by omega) (by omega)), trivial⟩ ⟨⟨_, rfl, renNod _ _⟩, ⟨_, rfl, renEvt _ _⟩, ⟨_, rfl, ⟨_, _, rfl, trivial, _, _, rfl, trivial, _, _, rfl, trivial, _, _, rfl, trivial, _, _, rfl, trivial, _, _, rfl, trivial, _, _, rfl, trivial, _, _, rfl, trivial, rfl⟩⟩, ?_, trivial⟩ trivial (by kernel_rfl)
   rw [hsn]
   exact ren_row rfl (by simp) (fun q hq j hj => row_snoc (cells := Ofr.cells) (x := n.ofs.getD k default) rfl q (by simpa using hq) j hj)
  ·have he : k = i := by have h5 : ((k : Int) != (i : Int)) = false := h5; simp at h5; omega
   rw [if_pos he] at hsn
   refine Sat.go (Eq.refl _) (NS.next ⟨k + 1, by omega⟩ (by simp; omega) ?_)
   refine weak_hd [] rfl ⟨rfl, rfl, rfl, rfl, rfl, ren_int rfl (i64_k (k := k) (by omega) (by omega)), trivial⟩ ⟨⟨_, rfl, renNod _ _⟩, ⟨_, rfl, renEvt _ _⟩, ⟨_, rfl, ⟨_, _, rfl, trivial, _, _, rfl, trivial, _, _, rfl, trivial, _, _, rfl, trivial, _, _, rfl, trivial, _, _, rfl, trivial, _, _, rfl, trivial, _, _, rfl, trivial, rfl⟩⟩, ?_, trivial⟩ trivial (by kernel_rfl)
   rw [hsn]
   exact ren_row rfl rfl fun _ _ _ _ => rfl
 ·have h : ¬ k < n.ofs.length := by simpa using h
  obtain rfl : k = n.ofs.length := by omega
  refine Sat.go (Eq.refl _) (NS.leave rfl (Eq.refl _) ?_)
  refine Sat.wk (weak_freeze 8 8 rfl rfl) ?_
  have hfin : (n.ofs.take n.ofs.length).eraseIdx i = n.ofs.eraseIdx i := by rw [List.take_length]
  refine Sat.go (Eq.refl _) (NS.call ((ended_ok { n with ofs := n.ofs.eraseIdx i } e.id true e.acc e.time hr hu h1 h2 h3 (Nat.le_trans (List.length_eraseIdx_le _ _) h4)).le (LeL.cons ?_ (LeL.cons (LeA.refl _) (LeL.cons (LeA.kb true) (LeL.refl _))))) rfl ?_)
  ·rw [← hfin]; exact LeA.refl _
  exact Sat.go (Eq.refl _) (NS.ret rfl rfl (LeA.refl _))
end Go.Proofs.YtggjngbighkdgaaGreat

namespace Go.Proofs.YtggjngbighkdgaaGreat
open Go.Sy Go.Mb
set_option maxRecDepth 100000
set_option maxHeartbeats 4000000
def Szr (n : Nod) : Prop := Uniq n.dur.items ∧ n.dur.items.length ≤ 800000 ∧ n.dur.inbox.length ≤ 800000 ∧ n.jour.size ≤ 100000 ∧ n.ofs.length ≤ 1000
theorem Szr.rem {n : Nod} (h : Szr n) (id : Nid) (now : Int) : Szr (rRemM n id now).1 := by
 obtain ⟨h1, h2, h3, h4, h5⟩ := h
 have hd : (rWrM n [⟨2, .zero, id, 0, now⟩]).1.dur = n.dur ∨ (rWrM n [⟨2, .zero, id, 0, now⟩]).1.dur = ⟨n.dur.items.filter (notId id), n.dur.inbox⟩ := by
  unfold rWrM
  split
  ·exact .inl rfl
  ·exact .inr rfl
 have hj : (rWrM n [⟨2, .zero, id, 0, now⟩]).1.jour.size ≤ 100000 := by
  unfold rWrM
  split
  ·exact h4
  ·rename_i q
   show (bs _).size ≤ _
   rw [bs_len]
   have := appM_le (s := ls n.jour) (l := [⟨2, .zero, id, 0, now⟩]) (by simpa using q)
   omega
 have hf : (n.dur.items.filter (notId id)).length ≤ n.dur.items.length := List.length_filter_le _ _
 refine ⟨?_, ?_, ?_, hj, Nat.le_trans (List.length_filter_le _ _) h5⟩
 ·show Uniq (rWrM n [⟨2, .zero, id, 0, now⟩]).1.dur.items
  rcases hd with hd | hd <;> rw [hd]
  ·exact h1
  ·exact uniq_filter h1
 ·show (rWrM n [⟨2, .zero, id, 0, now⟩]).1.dur.items.length ≤ _
  rcases hd with hd | hd <;> rw [hd]
  ·exact h2
  ·show (n.dur.items.filter (notId id)).length ≤ _; omega
 ·show (rWrM n [⟨2, .zero, id, 0, now⟩]).1.dur.inbox.length ≤ _
  rcases hd with hd | hd <;> rw [hd] <;> exact h3
theorem Szr.ended {n : Nod} (h : Szr n) (id : Nid) (s a : Bool) (now : Int) : Szr (rEndM n id s a now).1 ∧ (rEndM n id s a now).2.1.length = 1 := by
 unfold rEndM
 split
 ·exact ⟨h, rfl⟩
 ·exact ⟨h.rem id now, rfl⟩
def rTmN (due : List Ofr) (now : Int) (n : Nod) : Nat → Nod × List Mb.Act × Int
 | 0 => (n, [], 0)
 | k + 1 => if (rTmN due now n k).2.2 != 0 then rTmN due now n k
  else if decide (0 < k) && (due.getD k default).id.eqv (due.getD (k - 1) default).id then rTmN due now n k
  else if (rEndM (rTmN due now n k).1 (due.getD k default).id false false now).2.2 != 0 then ((rTmN due now n k).1, [], (rEndM (rTmN due now n k).1 (due.getD k default).id false false now).2.2)
  else ((rEndM (rTmN due now n k).1 (due.getD k default).id false false now).1, (rTmN due now n k).2.1 ++ (rEndM (rTmN due now n k).1 (due.getD k default).id false false now).2.1, 0)
theorem rTm_stick {due : List Ofr} {now : Int} {n : Nod} {k : Nat} (h : (rTmN due now n k).2.2 ≠ 0) : ∀ m, k ≤ m → rTmN due now n m = rTmN due now n k := by
  intro m hm
  induction m with
  | zero => obtain rfl : k = 0 := by omega
            rfl
  | succ m ih =>
    rcases Nat.eq_or_lt_of_le hm with e | e
    · rw [e]
    · have := ih (by omega)
      rw [rTmN, if_pos (by rw [this]; simpa using h), this]
def rTimM (n : Nod) (e : Evt) : Nod × List Mb.Act × Int := rTmN (dueM n.ofs e.time).1 e.time { n with ofs := (dueM n.ofs e.time).2.1 } (dueM n.ofs e.time).1.length
theorem nodA_le {R : Nod × List Mb.Act × Int} {n : Nod} {acts : List Mb.Act} {f : Int} (h : R = (n, acts, f)) {x y w : A} (h1 : LeA x (.agg n.cells)) (h2 : LeA y (slAct acts)) (h4 : LeA w (.int .i64 f)) : LeA (.tup [x, y, w]) (nodA R) := by
 subst h; exact LeA.tup3 h1 h2 h4
theorem snoc_len {α : Type} (l : List α) (x : α) : l.length + 1 = (l ++ [x]).length := by simp
theorem renNod2 (σ : Nat → Nat) {x y : Nod} (h : x = y) : RenL σ x.cells y.cells := by subst h; exact renNod σ x
theorem rTimer_ok (n : Nod) (e : Evt) (hz : Szr n) (hr : ∀ o ∈ (dueM n.ofs e.time).1, recErr ⟨2, .zero, o.id, 0, e.time⟩ = 0) : FnOK Tryz.prog 122 [.agg n.cells, .agg e.cells] (nodA (rTimM n e), none) := by
 obtain ⟨d1, d2⟩ := dueM_len n.ofs e.time
 have h5 := hz.2.2.2.2
 refine fn_ok CF rfl (by kernel_rfl) Tryz.func122 rfl ?_
 refine Sat.go (Eq.refl _) (NS.call (rDue_ok n.ofs e.time) rfl ?_)
 obtain ⟨l, hl⟩ : ∃ l, l = (dueM n.ofs e.time).1 := ⟨_, rfl⟩
 obtain ⟨n0, hn0⟩ : ∃ n0 : Nod, n0 = { n with ofs := (dueM n.ofs e.time).2.1 } := ⟨_, rfl⟩
 have hz0 : Szr n0 := by rw [hn0]; exact ⟨hz.1, hz.2.1, hz.2.2.1, hz.2.2.2.1, Nat.le_trans d2 h5⟩
 obtain ⟨R, hR⟩ : ∃ R, R = rTimM n e := ⟨_, rfl⟩
 have hR2 : R = rTmN l e.time n0 l.length := by rw [hR, hl, hn0]; rfl
 rw [← hR]
 rw [← hl] at d1 hr
 rw [← hl]
 refine Sat.go (Eq.refl _) ?_
 refine NS.loop (σ := { q : Nat × Nod × List Mb.Act // q.1 ≤ l.length ∧ rTmN l e.time n0 q.1 = (q.2.1, q.2.2, 0) ∧ Szr q.2.1 ∧ q.2.2.length ≤ q.1 }) (fun q => [(2, .ptr 2 0), (3, .ptr 3 0), (4, .ptr 4 0), (7, slOfr l), (10, .own 10), (11, .int .i64 (q.1.1 : Nat))]) (fun q => [(2, .box q.1.2.1.cells), (3, .box e.cells), (4, .box [.junk, .junk, .junk, .junk, .junk, .junk, .junk, .junk]), (10, rowAct q.1.2.2)]) (fun q => l.length - q.1.1) ⟨(0, n0, []), Nat.zero_le _, rfl, hz0, Nat.zero_le _⟩ ?_ ?_
 ·refine (weak_promote 10 10 63 14 (rowL Mb.Act.cells []) rfl rfl).trans ?_
  exact weak_hd [] rfl ⟨rfl, rfl, rfl, rfl, rfl, rfl, trivial⟩ ⟨⟨_, rfl, renNod2 _ (y := { n with ofs := (dueM n.ofs e.time).2.1 }) hn0⟩, ⟨_, rfl, renEvt _ _⟩, ⟨_, rfl, ⟨_, _, rfl, trivial, _, _, rfl, trivial, _, _, rfl, trivial, _, _, rfl, trivial, _, _, rfl, trivial, _, _, rfl, trivial, _, _, rfl, trivial, _, _, rfl, trivial, rfl⟩⟩, ren_row rfl rfl fun _ _ _ _ => rfl, trivial⟩ trivial (by kernel_rfl)
 rintro ⟨⟨k, m, out⟩, hk, hs, hm, ho⟩
 have hk : k ≤ l.length := hk
 have hs : rTmN l e.time n0 k = (m, out, 0) := hs
 have hm : Szr m := hm
 have ho : out.length ≤ k := ho
 have hstep : rTmN l e.time n0 (k + 1) = if decide (0 < k) && (l.getD k default).id.eqv (l.getD (k - 1) default).id then (m, out, 0)
  else if (rEndM m (l.getD k default).id false false e.time).2.2 != 0 then (m, [], (rEndM m (l.getD k default).id false false e.time).2.2)
  else ((rEndM m (l.getD k default).id false false e.time).1, out ++ (rEndM m (l.getD k default).id false false e.time).2.1, 0) := by
  rw [rTmN, hs, if_neg (by simp)]
 refine Sat.go (Eq.refl _) (NS.ite (fun h => ?_) (fun h => ?_))
 ·have h : k < l.length := by simpa using h
  refine Sat.go (Eq.refl _) (NS.chk (by kernel_rfl) ?_)
  rcases Nat.eq_zero_or_pos k with hk0 | hk0
  ·refine Sat.go (Eq.refl _) (NS.no (decide_eq_false (by show ¬ ((k : Nat) : Int) > 0; omega)) ?_)
   rw [show decide (0 < k) = false from decide_eq_false (by omega), Bool.false_and, if_neg (by decide)] at hstep
   refine Sat.go (Eq.refl _) (NS.chk (by kernel_rfl) ?_)
   refine Sat.go (Eq.refl _) (NS.need (by simp; omega) ?_)
   refine Sat.go (Eq.refl _) (NS.call ((ended_ok m (l.getD k default).id false false e.time (hr _ (by rw [getD_lt h]; exact List.getElem_mem h)) hm.1 (Nat.le_trans hm.2.1 (by decide)) (Nat.le_trans hm.2.2.1 (by decide)) hm.2.2.2.1 hm.2.2.2.2).le (LeL.cons (LeA.refl _) (LeL.cons (LeA.refl _) (LeL.cons (LeA.kb false) (LeL.cons (LeA.kb false) (LeL.refl _)))))) rfl ?_)
   have hend := hm.ended (l.getD k default).id false false e.time
   generalize rEndM m (l.getD k default).id false false e.time = z at *
   obtain ⟨z1, z2, z3⟩ := z
   simp only at hstep hend
   obtain ⟨hz1, hz2⟩ := hend
   refine Sat.go (Eq.refl _) (NS.ite (fun b1 => ?_) (fun b1 => ?_))
   ·rw [if_pos b1] at hstep
    have hend2 : R = (m, [], z3) := by rw [hR2, rTm_stick (k := k + 1) (by rw [hstep]; simpa using b1) l.length (by omega), hstep]
    exact Sat.go (Eq.refl _) (NS.leaveOut rfl (Eq.refl _) (NS.ret rfl rfl (nodA_le hend2 (LeA.refl _) (LeA.nil' rfl) (LeA.refl _))))
   rw [if_neg (by rw [b1]; decide)] at hstep
   refine Sat.go (Eq.refl _) ?_
   refine NS.loop (σ := { p : Nat // p ≤ z2.length }) (fun p => [(2, .ptr 2 0), (3, .ptr 3 0), (4, .ptr 4 0), (7, slOfr l), (10, .own 10), (11, .int .i64 (k : Nat)), (13, slAct z2), (15, .int .i64 (p.1 : Nat))]) (fun p => [(2, .box z1.cells), (3, .box e.cells), (4, .box [.junk, .junk, .junk, .junk, .junk, .junk, .junk, .junk]), (10, rowAct (out ++ z2.take p.1))]) (fun p => z2.length - p.1) ⟨0, Nat.zero_le _⟩ ?_ ?_
   ·exact weak_hd [] rfl ⟨rfl, rfl, rfl, rfl, rfl, rfl, rfl, rfl, trivial⟩ ⟨⟨_, rfl, renNod _ _⟩, ⟨_, rfl, renEvt _ _⟩, ⟨_, rfl, ⟨_, _, rfl, trivial, _, _, rfl, trivial, _, _, rfl, trivial, _, _, rfl, trivial, _, _, rfl, trivial, _, _, rfl, trivial, _, _, rfl, trivial, _, _, rfl, trivial, rfl⟩⟩, ren_row rfl (by show out.length = (out ++ z2.take 0).length; simp) (fun i hi j hj => by show rowL Mb.Act.cells out i j = rowL Mb.Act.cells (out ++ z2.take 0) i j; rw [List.take_zero, List.append_nil]), trivial⟩ trivial (by kernel_rfl)
   rintro ⟨p, hp⟩
   have hp : p ≤ z2.length := hp
   have hop : (out ++ z2.take p).length ≤ 2000 := by simp; omega
   refine Sat.go (Eq.refl _) (NS.ite (fun c1 => ?_) (fun c1 => ?_))
   ·have c1 : p < z2.length := by have c1 : ((p : Nat) : Int) < (z2.length : Int) := of_decide_eq_true c1; omega
    have hsn := take_snoc (l := z2) (k := p) c1
    refine Sat.go (Eq.refl _) (NS.need (by simp; omega) ?_)
    refine Sat.go (Eq.refl _) (NS.need (decide_eq_true (by simp only [maxRow]; show ((out ++ z2.take p).length + 1) * _ ≤ _; omega)) ?_)
    refine Sat.go (Eq.refl _) (NS.next ⟨p + 1, by omega⟩ (by show z2.length - (p + 1) < z2.length - p; omega) ?_)
    refine weak_hd [(10, 79)] rfl ⟨rfl, rfl, rfl, rfl, rfl, rfl, rfl, ren_int rfl (i64_k (k := p) (n := z2.length) c1 (by omega)), trivial⟩ ⟨⟨_, rfl, renNod _ _⟩, ⟨_, rfl, renEvt _ _⟩, ⟨_, rfl, ⟨_, _, rfl, trivial, _, _, rfl, trivial, _, _, rfl, trivial, _, _, rfl, trivial, _, _, rfl, trivial, _, _, rfl, trivial, _, _, rfl, trivial, _, _, rfl, trivial, rfl⟩⟩, ?_, trivial⟩ trivial (by kernel_rfl)
    show RenO _ (rowAct (out ++ z2.take (p + 1))) _
    rw [hsn, ← List.append_assoc]
    exact ren_row rfl (by show (out ++ z2.take p).length + 1 = ((out ++ z2.take p) ++ [z2.getD p default]).length; exact snoc_len _ _) (fun i hi j hj => row_snoc (cells := Mb.Act.cells) (x := z2.getD p default) rfl i (by rw [List.length_append, List.length_singleton] at hi; exact hi) j hj)
   ·have c1 : ¬ p < z2.length := by have c1 : ¬ ((p : Nat) : Int) < (z2.length : Int) := of_decide_eq_false c1; omega
    obtain rfl : p = z2.length := by omega
    refine Sat.go (Eq.refl _) (NS.leave rfl (Eq.refl _) ?_)
    refine Sat.go (Eq.refl _) (NS.next ⟨(k + 1, z1, out ++ z2), by show k + 1 ≤ l.length; omega, hstep, hz1, by show (out ++ z2).length ≤ k + 1; simp; omega⟩ (by show l.length - (k + 1) < l.length - k; omega) ?_)
    refine weak_hd [] rfl ⟨rfl, rfl, rfl, rfl, rfl, ren_int rfl (i64_k (k := k) (n := l.length) h (by omega)), trivial⟩ ⟨⟨_, rfl, renNod _ _⟩, ⟨_, rfl, renEvt _ _⟩, ⟨_, rfl, ⟨_, _, rfl, trivial, _, _, rfl, trivial, _, _, rfl, trivial, _, _, rfl, trivial, _, _, rfl, trivial, _, _, rfl, trivial, _, _, rfl, trivial, _, _, rfl, trivial, rfl⟩⟩, ?_, trivial⟩ trivial (by kernel_rfl)
    show RenO _ (rowAct (out ++ z2)) _
    exact ren_row rfl (by show (out ++ z2.take z2.length).length = _; rw [List.take_length]) (fun i hi j hj => by show rowL Mb.Act.cells (out ++ z2.take z2.length) i j = _; rw [List.take_length])
  ·obtain ⟨j, rfl⟩ : ∃ j, k = j + 1 := ⟨k - 1, by omega⟩
   have e1 : IntKind.i64.wrap (((j + 1 : Nat) : Int) - 1) = (j : Int) := by rw [wrap_i64 (by omega) (by omega)]; omega
   rw [show decide (0 < j + 1) = true from decide_eq_true (by omega), Bool.true_and, show j + 1 - 1 = j from rfl] at hstep
   refine Sat.go (Eq.refl _) (NS.yes (decide_eq_true (by show ((j + 1 : Nat) : Int) > 0; omega)) ?_)
   refine Sat.go (Eq.refl _) (NS.need (by simp; omega) ?_)
   refine Sat.go (Eq.refl _) (NS.need (by rw [e1]; simp; omega) ?_)
   refine Sat.go (Eq.refl _) (NS.ite (fun hq => ?_) (fun hq => ?_))
   ·have hq : (l.getD (j + 1) default).id.eqv (l.getD (IntKind.i64.wrap (((j + 1 : Nat) : Int) - 1)).toNat default).id = true := hq
    rw [e1] at hq
    rw [if_pos (show (l.getD (j + 1) default).id.eqv (l.getD j default).id = true from hq)] at hstep
    refine Sat.go (Eq.refl _) (NS.next ⟨(j + 1 + 1, m, out), by show j + 1 + 1 ≤ l.length; omega, hstep, hm, by show out.length ≤ j + 1 + 1; omega⟩ (by show l.length - (j + 1 + 1) < l.length - (j + 1); omega) ?_)
    exact weak_hd [] rfl ⟨rfl, rfl, rfl, rfl, rfl, ren_int rfl (i64_k (k := j + 1) (n := l.length) h (by omega)), trivial⟩ ⟨⟨_, rfl, renNod _ _⟩, ⟨_, rfl, renEvt _ _⟩, ⟨_, rfl, ⟨_, _, rfl, trivial, _, _, rfl, trivial, _, _, rfl, trivial, _, _, rfl, trivial, _, _, rfl, trivial, _, _, rfl, trivial, _, _, rfl, trivial, _, _, rfl, trivial, rfl⟩⟩, ren_row rfl rfl fun _ _ _ _ => rfl, trivial⟩ trivial (by kernel_rfl)
   ·have hq : (l.getD (j + 1) default).id.eqv (l.getD (IntKind.i64.wrap (((j + 1 : Nat) : Int) - 1)).toNat default).id = false := hq
    rw [e1] at hq
    rw [if_neg (by rw [show (l.getD (j + 1) default).id.eqv (l.getD j default).id = false from hq]; decide)] at hstep
    refine Sat.go (Eq.refl _) (NS.chk (by kernel_rfl) ?_)
    refine Sat.go (Eq.refl _) (NS.need (by simp; omega) ?_)
    refine Sat.go (Eq.refl _) (NS.call ((ended_ok m (l.getD (j + 1) default).id false false e.time (hr _ (by rw [getD_lt h]; exact List.getElem_mem h)) hm.1 (Nat.le_trans hm.2.1 (by decide)) (Nat.le_trans hm.2.2.1 (by decide)) hm.2.2.2.1 hm.2.2.2.2).le (LeL.cons (LeA.refl _) (LeL.cons (LeA.refl _) (LeL.cons (LeA.kb false) (LeL.cons (LeA.kb false) (LeL.refl _)))))) rfl ?_)
    have hend := hm.ended (l.getD (j + 1) default).id false false e.time
    generalize rEndM m (l.getD (j + 1) default).id false false e.time = z at *
    obtain ⟨z1, z2, z3⟩ := z
    simp only at hstep hend
    obtain ⟨hz1, hz2⟩ := hend
    refine Sat.go (Eq.refl _) (NS.ite (fun b1 => ?_) (fun b1 => ?_))
    ·rw [if_pos b1] at hstep
     have hend2 : R = (m, [], z3) := by rw [hR2, rTm_stick (k := (j + 1) + 1) (by rw [hstep]; simpa using b1) l.length (by omega), hstep]
     exact Sat.go (Eq.refl _) (NS.leaveOut rfl (Eq.refl _) (NS.ret rfl rfl (nodA_le hend2 (LeA.refl _) (LeA.nil' rfl) (LeA.refl _))))
    rw [if_neg (by rw [b1]; decide)] at hstep
    refine Sat.go (Eq.refl _) ?_
    refine NS.loop (σ := { p : Nat // p ≤ z2.length }) (fun p => [(2, .ptr 2 0), (3, .ptr 3 0), (4, .ptr 4 0), (7, slOfr l), (10, .own 10), (11, .int .i64 ((j + 1) : Nat)), (13, slAct z2), (15, .int .i64 (p.1 : Nat))]) (fun p => [(2, .box z1.cells), (3, .box e.cells), (4, .box [.junk, .junk, .junk, .junk, .junk, .junk, .junk, .junk]), (10, rowAct (out ++ z2.take p.1))]) (fun p => z2.length - p.1) ⟨0, Nat.zero_le _⟩ ?_ ?_
    ·exact weak_hd [] rfl ⟨rfl, rfl, rfl, rfl, rfl, rfl, rfl, rfl, trivial⟩ ⟨⟨_, rfl, renNod _ _⟩, ⟨_, rfl, renEvt _ _⟩, ⟨_, rfl, ⟨_, _, rfl, trivial, _, _, rfl, trivial, _, _, rfl, trivial, _, _, rfl, trivial, _, _, rfl, trivial, _, _, rfl, trivial, _, _, rfl, trivial, _, _, rfl, trivial, rfl⟩⟩, ren_row rfl (by show out.length = (out ++ z2.take 0).length; simp) (fun i hi j hj => by show rowL Mb.Act.cells out i j = rowL Mb.Act.cells (out ++ z2.take 0) i j; rw [List.take_zero, List.append_nil]), trivial⟩ trivial (by kernel_rfl)
    rintro ⟨p, hp⟩
    have hp : p ≤ z2.length := hp
    have hop : (out ++ z2.take p).length ≤ 2000 := by simp; omega
    refine Sat.go (Eq.refl _) (NS.ite (fun c1 => ?_) (fun c1 => ?_))
    ·have c1 : p < z2.length := by have c1 : ((p : Nat) : Int) < (z2.length : Int) := of_decide_eq_true c1; omega
     have hsn := take_snoc (l := z2) (k := p) c1
     refine Sat.go (Eq.refl _) (NS.need (by simp; omega) ?_)
     refine Sat.go (Eq.refl _) (NS.need (decide_eq_true (by simp only [maxRow]; show ((out ++ z2.take p).length + 1) * _ ≤ _; omega)) ?_)
     refine Sat.go (Eq.refl _) (NS.next ⟨p + 1, by omega⟩ (by show z2.length - (p + 1) < z2.length - p; omega) ?_)
     refine weak_hd [(10, 79)] rfl ⟨rfl, rfl, rfl, rfl, rfl, rfl, rfl, ren_int rfl (i64_k (k := p) (n := z2.length) c1 (by omega)), trivial⟩ ⟨⟨_, rfl, renNod _ _⟩, ⟨_, rfl, renEvt _ _⟩, ⟨_, rfl, ⟨_, _, rfl, trivial, _, _, rfl, trivial, _, _, rfl, trivial, _, _, rfl, trivial, _, _, rfl, trivial, _, _, rfl, trivial, _, _, rfl, trivial, _, _, rfl, trivial, rfl⟩⟩, ?_, trivial⟩ trivial (by kernel_rfl)
     show RenO _ (rowAct (out ++ z2.take (p + 1))) _
     rw [hsn, ← List.append_assoc]
     exact ren_row rfl (by show (out ++ z2.take p).length + 1 = ((out ++ z2.take p) ++ [z2.getD p default]).length; exact snoc_len _ _) (fun i hi j hj => row_snoc (cells := Mb.Act.cells) (x := z2.getD p default) rfl i (by rw [List.length_append, List.length_singleton] at hi; exact hi) j hj)
    ·have c1 : ¬ p < z2.length := by have c1 : ¬ ((p : Nat) : Int) < (z2.length : Int) := of_decide_eq_false c1; omega
     obtain rfl : p = z2.length := by omega
     refine Sat.go (Eq.refl _) (NS.leave rfl (Eq.refl _) ?_)
     refine Sat.go (Eq.refl _) (NS.next ⟨((j + 1) + 1, z1, out ++ z2), by show (j + 1) + 1 ≤ l.length; omega, hstep, hz1, by show (out ++ z2).length ≤ (j + 1) + 1; simp; omega⟩ (by show l.length - ((j + 1) + 1) < l.length - (j + 1); omega) ?_)
     refine weak_hd [] rfl ⟨rfl, rfl, rfl, rfl, rfl, ren_int rfl (i64_k (k := (j + 1)) (n := l.length) h (by omega)), trivial⟩ ⟨⟨_, rfl, renNod _ _⟩, ⟨_, rfl, renEvt _ _⟩, ⟨_, rfl, ⟨_, _, rfl, trivial, _, _, rfl, trivial, _, _, rfl, trivial, _, _, rfl, trivial, _, _, rfl, trivial, _, _, rfl, trivial, _, _, rfl, trivial, _, _, rfl, trivial, rfl⟩⟩, ?_, trivial⟩ trivial (by kernel_rfl)
     show RenO _ (rowAct (out ++ z2)) _
     exact ren_row rfl (by show (out ++ z2.take z2.length).length = _; rw [List.take_length]) (fun i hi j hj => by show rowL Mb.Act.cells (out ++ z2.take z2.length) i j = _; rw [List.take_length])
 ·have h : ¬ k < l.length := by simpa using h
  obtain rfl : k = l.length := by omega
  refine Sat.go (Eq.refl _) (NS.leave rfl (Eq.refl _) ?_)
  exact Sat.go (Eq.refl _) (NS.ret rfl rfl (nodA_le (hR2.trans hs) (LeA.refl _) (LeA.refl _) (LeA.refl _)))
end Go.Proofs.YtggjngbighkdgaaGreat

namespace Go.Proofs.YtggjngbighkdgaaGreat
open Go.Sy Go.Mb
set_option maxRecDepth 100000
set_option maxHeartbeats 4000000
def rExN (items : List Itm) (now : Int) (n : Nod) : Nat → Nod × List Mb.Act × Int
 | 0 => (n, [], 0)
 | k + 1 => if (rExN items now n k).2.2 != 0 then rExN items now n k
  else if (items.getD k default).expires > now then rExN items now n k
  else if (rRemM (rExN items now n k).1 (items.getD k default).id now).2.2 != 0 then ((rExN items now n k).1, [], (rRemM (rExN items now n k).1 (items.getD k default).id now).2.2)
  else ((rRemM (rExN items now n k).1 (items.getD k default).id now).1, (rExN items now n k).2.1 ++ [(rRemM (rExN items now n k).1 (items.getD k default).id now).2.1.getD 0 default], 0)
theorem rEx_stick {items : List Itm} {now : Int} {n : Nod} {k : Nat} (h : (rExN items now n k).2.2 ≠ 0) : ∀ m, k ≤ m → rExN items now n m = rExN items now n k := by
  intro m hm
  induction m with
  | zero => obtain rfl : k = 0 := by omega
            rfl
  | succ m ih =>
    rcases Nat.eq_or_lt_of_le hm with e | e
    · rw [e]
    · have := ih (by omega)
      rw [rExN, if_pos (by rw [this]; simpa using h), this]
def rExpM (n : Nod) (e : Evt) : Nod × List Mb.Act × Int := rExN n.dur.items e.time n n.dur.items.length
theorem rExpire_ok' (n : Nod) (e : Evt) (hz : Szr n) (hr : ∀ x ∈ n.dur.items, recErr ⟨2, .zero, x.id, 0, e.time⟩ = 0) : FnOK Tryz.prog 123 [.agg n.cells, .agg e.cells] (nodA (rExpM n e), none) := by
 have hL := hz.2.1
 refine fn_ok CF rfl (by kernel_rfl) Tryz.func123 rfl ?_
 obtain ⟨l, hl⟩ : ∃ l, l = n.dur.items := ⟨_, rfl⟩
 obtain ⟨R, hR⟩ : ∃ R, R = rExpM n e := ⟨_, rfl⟩
 have hR2 : R = rExN l e.time n l.length := by rw [hR, hl]; rfl
 rw [← hR]
 rw [← hl] at hr hL
 refine Sat.go (Eq.refl _) ?_
 refine NS.loop (σ := { q : Nat × Nod × List Mb.Act // q.1 ≤ l.length ∧ rExN l e.time n q.1 = (q.2.1, q.2.2, 0) ∧ Szr q.2.1 ∧ q.2.2.length ≤ q.1 }) (fun q => [(2, .ptr 2 0), (3, .ptr 3 0), (4, .ptr 4 0), (7, .own 7), (8, slItm l), (9, .int .i64 (q.1.1 : Nat))]) (fun q => [(2, .box q.1.2.1.cells), (3, .box e.cells), (4, .box [.junk, .junk, .junk, .junk, .junk, .junk, .junk, .junk]), (7, rowAct q.1.2.2)]) (fun q => l.length - q.1.1) ⟨(0, n, []), Nat.zero_le _, rfl, hz, Nat.zero_le _⟩ ?_ ?_
 ·refine (weak_promote 7 7 63 14 (rowL Mb.Act.cells []) rfl rfl).trans ?_
  exact weak_hd [] rfl ⟨rfl, rfl, rfl, rfl, (by rw [hl]; rfl), rfl, trivial⟩ ⟨⟨_, rfl, renNod _ _⟩, ⟨_, rfl, renEvt _ _⟩, ⟨_, rfl, ⟨_, _, rfl, trivial, _, _, rfl, trivial, _, _, rfl, trivial, _, _, rfl, trivial, _, _, rfl, trivial, _, _, rfl, trivial, _, _, rfl, trivial, _, _, rfl, trivial, rfl⟩⟩, ren_row rfl rfl fun _ _ _ _ => rfl, trivial⟩ trivial (by kernel_rfl)
 rintro ⟨⟨k, m, out⟩, hk, hs, hm, ho⟩
 have hk : k ≤ l.length := hk
 have hs : rExN l e.time n k = (m, out, 0) := hs
 have hm : Szr m := hm
 have ho : out.length ≤ k := ho
 have hstep : rExN l e.time n (k + 1) = if (l.getD k default).expires > e.time then (m, out, 0)
  else if (rRemM m (l.getD k default).id e.time).2.2 != 0 then (m, [], (rRemM m (l.getD k default).id e.time).2.2)
  else ((rRemM m (l.getD k default).id e.time).1, out ++ [(rRemM m (l.getD k default).id e.time).2.1.getD 0 default], 0) := by
  rw [rExN, hs, if_neg (by simp)]
 refine Sat.go (Eq.refl _) (NS.ite (fun h => ?_) (fun h => ?_))
 ·have h : k < l.length := by simpa using h
  refine Sat.go (Eq.refl _) (NS.chk (by kernel_rfl) ?_)
  refine Sat.go (Eq.refl _) (NS.need (by simp; omega) ?_)
  refine Sat.go (Eq.refl _) (NS.ite (fun h2 => ?_) (fun h2 => ?_))
  ·have h2 : (l.getD k default).expires > e.time := of_decide_eq_true h2
   rw [if_pos h2] at hstep
   refine Sat.go (Eq.refl _) (NS.next ⟨(k + 1, m, out), by show k + 1 ≤ l.length; omega, hstep, hm, by show out.length ≤ k + 1; omega⟩ (by show l.length - (k + 1) < l.length - k; omega) ?_)
   exact weak_hd [] rfl ⟨rfl, rfl, rfl, rfl, rfl, ren_int rfl (i64_k (k := k) (n := l.length) h (by omega)), trivial⟩ ⟨⟨_, rfl, renNod _ _⟩, ⟨_, rfl, renEvt _ _⟩, ⟨_, rfl, ⟨_, _, rfl, trivial, _, _, rfl, trivial, _, _, rfl, trivial, _, _, rfl, trivial, _, _, rfl, trivial, _, _, rfl, trivial, _, _, rfl, trivial, _, _, rfl, trivial, rfl⟩⟩, ren_row rfl rfl fun _ _ _ _ => rfl, trivial⟩ trivial (by kernel_rfl)
  have h2 : ¬ (l.getD k default).expires > e.time := of_decide_eq_false h2
  rw [if_neg h2] at hstep
  refine Sat.go (Eq.refl _) (NS.chk (by kernel_rfl) ?_)
  refine Sat.go (Eq.refl _) (NS.need (by simp; omega) ?_)
  refine Sat.go (Eq.refl _) (NS.call (rRemove_ok' m (l.getD k default).id e.time (hr _ (by rw [getD_lt h]; exact List.getElem_mem h)) hm.1 (Nat.le_trans hm.2.1 (by decide)) (Nat.le_trans hm.2.2.1 (by decide)) hm.2.2.2.1 hm.2.2.2.2) rfl ?_)
  have hz1 := hm.rem (l.getD k default).id e.time
  have hz2 : (rRemM m (l.getD k default).id e.time).2.1.length = 1 := rfl
  generalize rRemM m (l.getD k default).id e.time = z at *
  obtain ⟨z1, z2, z3⟩ := z
  simp only at hstep hz1 hz2
  refine Sat.go (Eq.refl _) (NS.ite (fun b1 => ?_) (fun b1 => ?_))
  ·rw [if_pos b1] at hstep
   have hend2 : R = (m, [], z3) := by rw [hR2, rEx_stick (k := k + 1) (by rw [hstep]; simpa using b1) l.length (by omega), hstep]
   exact Sat.go (Eq.refl _) (NS.leaveOut rfl (Eq.refl _) (NS.ret rfl rfl (nodA_le hend2 (LeA.refl _) (LeA.nil' rfl) (LeA.refl _))))
  rw [if_neg (by rw [b1]; decide)] at hstep
  refine Sat.go (Eq.refl _) (NS.need (by simp; omega) ?_)
  refine Sat.go (Eq.refl _) (NS.need (decide_eq_true (by simp only [maxRow]; show (out.length + 1) * _ ≤ _; omega)) ?_)
  refine Sat.go (Eq.refl _) (NS.next ⟨(k + 1, z1, out ++ [z2.getD 0 default]), by show k + 1 ≤ l.length; omega, hstep, hz1, by show (out ++ [_]).length ≤ k + 1; simp; omega⟩ (by show l.length - (k + 1) < l.length - k; omega) ?_)
  refine weak_hd [(7, 53)] rfl ⟨rfl, rfl, rfl, rfl, rfl, ren_int rfl (i64_k (k := k) (n := l.length) h (by omega)), trivial⟩ ⟨⟨_, rfl, renNod _ _⟩, ⟨_, rfl, renEvt _ _⟩, ⟨_, rfl, ⟨_, _, rfl, trivial, _, _, rfl, trivial, _, _, rfl, trivial, _, _, rfl, trivial, _, _, rfl, trivial, _, _, rfl, trivial, _, _, rfl, trivial, _, _, rfl, trivial, rfl⟩⟩, ?_, trivial⟩ trivial (by kernel_rfl)
  show RenO _ (rowAct (out ++ [z2.getD 0 default])) _
  exact ren_row rfl (snoc_len _ _) (fun i hi j hj => row_snoc (cells := Mb.Act.cells) (x := z2.getD 0 default) rfl i (by rw [← snoc_len] at hi; exact hi) j hj)
 ·have h : ¬ k < l.length := by simpa using h
  obtain rfl : k = l.length := by omega
  refine Sat.go (Eq.refl _) (NS.leave rfl (Eq.refl _) ?_)
  exact Sat.go (Eq.refl _) (NS.ret rfl rfl (nodA_le (hR2.trans hs) (LeA.refl _) (LeA.refl _) (LeA.refl _)))
end Go.Proofs.YtggjngbighkdgaaGreat

namespace Go.Proofs.YtggjngbighkdgaaGreat
open Go.Sy Go.Mb
set_option maxRecDepth 100000
set_option maxHeartbeats 4000000
def lastN (n : Nod) : Nod := { n with last := (n.jour.size : Int) }
def rGoM (n : Nod) (e : Evt) : Nod × List Mb.Act × Int :=
 if e.kind == 1 then rPutM (lastN n) e (putM n.dur n.self n.quota e.item e.time)
 else if e.kind == 2 then rSendM (lastN n) e
 else if e.kind == 3 then rSigM (lastN n) e
 else if e.kind == 4 then rTimM (lastN n) e
 else if e.kind == 5 then rExpM (lastN n) e
 else if !(findM n.dur e.id).2 then (lastN n, [], 0)
 else if e.kind == 6 then rRemM (lastN n) e.id e.time
 else ((rWrM (lastN n) [⟨4, .zero, e.id, e.ticket, e.time⟩]).1, [], (rWrM (lastN n) [⟨4, .zero, e.id, e.ticket, e.time⟩]).2)
structure RecsOK (n : Nod) (e : Evt) : Prop where
 put : e.kind = 1 → ∀ r ∈ (putM n.dur n.self n.quota e.item e.time).1, recErr r = 0
 id : e.kind = 3 ∨ e.kind = 6 → recErr ⟨2, .zero, e.id, 0, e.time⟩ = 0
 due : e.kind = 4 → ∀ o ∈ (dueM n.ofs e.time).1, recErr ⟨2, .zero, o.id, 0, e.time⟩ = 0
 exp : e.kind = 5 → ∀ x ∈ n.dur.items, recErr ⟨2, .zero, x.id, 0, e.time⟩ = 0
 tick : e.kind = 7 → recErr ⟨4, .zero, e.id, e.ticket, e.time⟩ = 0
noncomputable def ERG : Env := { P := Tryz.prog, eqT := lookE eqTab, frz := [92] }
theorem ERG_ok : EqOK ERG := eqOK_of eqTab_ok
noncomputable def CRG : Cx := { E := ERG, inl := [], ok := ERG_ok }
theorem rGo_ok (n : Nod) (e : Evt) (hz : Szr n) (hk : 1 ≤ e.kind ∧ e.kind ≤ 7) (hr : RecsOK n e) : FnOK Tryz.prog 76 [.agg n.cells, .agg e.cells] (nodA (rGoM n e), none) := by
 obtain ⟨u, z1, z2, z3, z4⟩ := hz
 unfold rGoM
 refine fn_ok CRG rfl (by kernel_rfl) Tryz.func76 rfl ?_
 refine Sat.go (Eq.refl _) (NS.ite (fun k1 => ?_) (fun k1 => ?_))
 ·rw [if_pos k1]
  refine Sat.go (Eq.refl _) (NS.call (rPut_ok' (lastN n) e (hr.put (by simpa using k1)) u (Nat.le_trans z1 (by decide)) (Nat.le_trans z2 (by decide)) z3 z4) rfl ?_)
  exact Sat.go (Eq.refl _) (NS.ret rfl rfl (LeA.refl _))
 rw [if_neg (by rw [k1]; decide)]
 refine Sat.go (Eq.refl _) (NS.ite (fun k2 => ?_) (fun k2 => ?_))
 ·rw [if_pos k2]
  refine Sat.go (Eq.refl _) (NS.call (rSend_ok (lastN n) e (Nat.le_trans z1 (by decide)) z4) rfl ?_)
  exact Sat.go (Eq.refl _) (NS.ret rfl rfl (LeA.refl _))
 rw [if_neg (by rw [k2]; decide)]
 refine Sat.go (Eq.refl _) (NS.ite (fun k3 => ?_) (fun k3 => ?_))
 ·rw [if_pos k3]
  refine Sat.go (Eq.refl _) (NS.call (rSignal_ok (lastN n) e (hr.id (.inl (by simpa using k3))) u (Nat.le_trans z1 (by decide)) (Nat.le_trans z2 (by decide)) z3 z4) rfl ?_)
  exact Sat.go (Eq.refl _) (NS.ret rfl rfl (LeA.refl _))
 rw [if_neg (by rw [k3]; decide)]
 refine Sat.go (Eq.refl _) (NS.ite (fun k4 => ?_) (fun k4 => ?_))
 ·rw [if_pos k4]
  refine Sat.go (Eq.refl _) (NS.call (rTimer_ok (lastN n) e ⟨u, z1, z2, z3, z4⟩ (hr.due (by simpa using k4))) rfl ?_)
  exact Sat.go (Eq.refl _) (NS.ret rfl rfl (LeA.refl _))
 rw [if_neg (by rw [k4]; decide)]
 refine Sat.go (Eq.refl _) (NS.ite (fun k5 => ?_) (fun k5 => ?_))
 ·rw [if_pos k5]
  refine Sat.go (Eq.refl _) (NS.call (rExpire_ok' (lastN n) e ⟨u, z1, z2, z3, z4⟩ (hr.exp (by simpa using k5))) rfl ?_)
  exact Sat.go (Eq.refl _) (NS.ret rfl rfl (LeA.refl _))
 rw [if_neg (by rw [k5]; decide)]
 refine Sat.go (Eq.refl _) (NS.call (rFind_ok' n.dur e.id (Nat.le_trans z1 (by decide))) rfl ?_)
 refine Sat.go (Eq.refl _) (NS.ite (fun k6 => ?_) (fun k6 => ?_))
 ·rw [if_pos k6]
  exact Sat.go (Eq.refl _) (NS.ret rfl rfl (LeA.tup3 (LeA.refl _) (LeA.nil' rfl) (LeA.refl _)))
 rw [if_neg (by rw [k6]; decide)]
 refine Sat.go (Eq.refl _) (NS.ite (fun k7 => ?_) (fun k7 => ?_))
 ·rw [if_pos k7]
  refine Sat.go (Eq.refl _) (NS.call (rRemove_ok' (lastN n) e.id e.time (hr.id (.inr (by simpa using k7))) u (Nat.le_trans z1 (by decide)) (Nat.le_trans z2 (by decide)) z3 z4) rfl ?_)
  exact Sat.go (Eq.refl _) (NS.ret rfl rfl (LeA.refl _))
 rw [if_neg (by rw [k7]; decide)]
 have hk7 : e.kind = 7 := by
  have k1 : (e.kind == 1) = false := k1
  have k2 : (e.kind == 2) = false := k2
  have k3 : (e.kind == 3) = false := k3
  have k4 : (e.kind == 4) = false := k4
  have k5 : (e.kind == 5) = false := k5
  have k7 : (e.kind == 6) = false := k7
  simp at k1 k2 k3 k4 k5 k7
  omega
 refine Sat.go (Eq.refl _) (NS.call ((rWrite_ok (lastN n) [⟨4, .zero, e.id, e.ticket, e.time⟩] (by simp) (by simpa using hr.tick hk7) u (Nat.le_trans z1 (by decide)) (Nat.le_trans z2 (by decide)) z3).le (LeL.cons (LeA.refl _) (LeL.cons (LeA.sl rfl (row_one rfl)) LeL.nil))) rfl ?_)
 exact Sat.go (Eq.refl _) (NS.ret rfl rfl (LeA.tup3 (LeA.refl _) (LeA.nil' rfl) (LeA.refl _)))
theorem act_ne {a b : Mb.Act} (h : a ≠ b) : Mb.Act.eqv a b = false := by rw [← Bool.not_eq_true, Mb.Act.eqv_iff]; exact h
theorem act_eq {a b : Mb.Act} (h1 : a.kind = b.kind) (h2 : a.item = b.item) (h3 : a.contact = b.contact) (h4 : a.value = b.value) : Mb.Act.eqv a b = true := by
 rw [Mb.Act.eqv_iff]
 obtain ⟨_, _, _, _⟩ := a
 obtain ⟨_, _, _, _⟩ := b
 simp only at h1 h2 h3 h4
 subst h1 h2 h3 h4
 rfl
theorem sameA_ok (l m : List Mb.Act) (hl : l.length ≤ 100000000) : FnOK Tryz.prog 26 [slAct l, slAct m] (.bool (sameBy Mb.Act.eqv l m), none) := by
 refine fn_ok CF rfl (by kernel_rfl) Tryz.func26 rfl ?_
 refine Sat.go (Eq.refl _) (NS.ite (fun h0 => ?_) (fun h0 => ?_))
 ·exact Sat.go (Eq.refl _) (NS.ret rfl rfl (LeA.of (congrArg A.bool ((sameBy_len (fun _ _ => Mb.Act.eqv_iff) (by intro e; rw [e] at h0; simp at h0)).symm))))
 have hlm : l.length = m.length := by simp only [bne_eq_false_iff_eq] at h0; omega
 refine Sat.go (Eq.refl _) ?_
 refine NS.loop (σ := { k : Nat // k ≤ l.length ∧ ∀ i, i < k → Mb.Act.eqv (l.getD i default) (m.getD i default) = true }) (fun k => [(0, slAct l), (1, slAct m), (5, .int .i64 k.1)]) (fun _ => []) (fun k => l.length - k.1) ⟨0, Nat.zero_le _, fun i hi => by omega⟩ ?_ ?_
 ·exact weak_hd [] rfl ⟨rfl, rfl, rfl, trivial⟩ trivial trivial (by kernel_rfl)
 rintro ⟨k, hk, hn⟩
 have nx : Mb.Act.eqv (l.getD k default) (m.getD k default) = true → ∀ i, i < k + 1 → Mb.Act.eqv (l.getD i default) (m.getD i default) = true := by
  intro hq i hi
  by_cases hik : i = k
  ·subst hik; exact hq
  ·exact hn i (by omega)
 refine Sat.go (Eq.refl _) (NS.ite (fun h => ?_) (fun h => ?_))
 ·have h : k < l.length := by simpa using h
  refine Sat.go (Eq.refl _) (NS.chk (by kernel_rfl) ?_)
  refine Sat.go (Eq.refl _) (NS.need (by simp; omega) ?_)
  refine Sat.go (Eq.refl _) (NS.need (by simp; omega) ?_)
  refine Sat.go (Eq.refl _) (NS.ite (fun c1 => ?_) (fun c1 => ?_))
  ·exact Sat.go (Eq.refl _) (NS.leaveOut rfl (Eq.refl _) (NS.ret rfl rfl (LeA.of (congrArg A.bool ((sameBy_f (k := k) (fun _ _ => Mb.Act.eqv_iff) (act_ne fun q => by have this : ((l.getD k default).kind == (m.getD k default).kind) = false := not_t c1; rw [q] at this; simp at this)).symm)))))
  have c1 : ((l.getD k default).kind == (m.getD k default).kind) = true := not_f c1
  refine Sat.go (Eq.refl _) (NS.need (by simp; omega) ?_)
  refine Sat.go (Eq.refl _) (NS.need (by simp; omega) ?_)
  refine Sat.go (Eq.refl _) (NS.call (sameItem_ok (l.getD k default).item (m.getD k default).item) rfl ?_)
  refine Sat.go (Eq.refl _) (NS.ite (fun c2 => ?_) (fun c2 => ?_))
  ·exact Sat.go (Eq.refl _) (NS.leaveOut rfl (Eq.refl _) (NS.ret rfl rfl (LeA.of (congrArg A.bool ((sameBy_f (k := k) (fun _ _ => Mb.Act.eqv_iff) (act_ne fun q => by have := not_t c2; rw [q, Itm.eqv_iff.2 rfl] at this; cases this)).symm)))))
  have c2 := Itm.eqv_iff.1 (not_f c2)
  refine Sat.go (Eq.refl _) (NS.need (by simp; omega) ?_)
  refine Sat.go (Eq.refl _) (NS.need (by simp; omega) ?_)
  refine Sat.go (Eq.refl _) (NS.ite (fun c3 => ?_) (fun c3 => ?_))
  ·exact Sat.go (Eq.refl _) (NS.leaveOut rfl (Eq.refl _) (NS.ret rfl rfl (LeA.of (congrArg A.bool ((sameBy_f (k := k) (fun _ _ => Mb.Act.eqv_iff) (act_ne fun q => by have this : ((l.getD k default).contact == (m.getD k default).contact) = false := not_t c3; rw [q] at this; simp at this)).symm)))))
  have c3 : ((l.getD k default).contact == (m.getD k default).contact) = true := not_f c3
  refine Sat.go (Eq.refl _) (NS.need (by simp; omega) ?_)
  refine Sat.go (Eq.refl _) (NS.need (by simp; omega) ?_)
  refine Sat.go (Eq.refl _) (NS.ite (fun c4 => ?_) (fun c4 => ?_))
  ·exact Sat.go (Eq.refl _) (NS.leaveOut rfl (Eq.refl _) (NS.ret rfl rfl (LeA.of (congrArg A.bool ((sameBy_f (k := k) (fun _ _ => Mb.Act.eqv_iff) (act_ne fun q => by have this : ((l.getD k default).value == (m.getD k default).value) = false := not_t c4; rw [q] at this; simp at this)).symm)))))
  have c4 : ((l.getD k default).value == (m.getD k default).value) = true := not_f c4
  refine Sat.go (Eq.refl _) (NS.next ⟨k + 1, by omega, nx (act_eq (by simpa using c1) c2 (by simpa using c3) (by simpa using c4))⟩ (by simp; omega) ?_)
  exact weak_hd [] rfl ⟨rfl, rfl, ren_int rfl (i64_k (by omega) (by omega)), trivial⟩ trivial trivial (by kernel_rfl)
 ·have h : ¬ k < l.length := by simpa using h
  refine Sat.go (Eq.refl _) (NS.leave rfl (Eq.refl _) ?_)
  exact Sat.go (Eq.refl _) (NS.ret rfl rfl (LeA.of (congrArg A.bool ((sameBy_t (fun _ _ => Mb.Act.eqv_iff) hlm fun i hi => hn i (by omega)).symm))))
end Go.Proofs.YtggjngbighkdgaaGreat

namespace Go.Proofs.YtggjngbighkdgaaGreat
open Go.Sy Go.Mb
set_option maxRecDepth 100000
set_option maxHeartbeats 4000000
theorem rEvent_ok (e : Evt) : FnOK Tryz.prog 75 [.agg e.cells] (.int .i64 (evE e), none) := by
 have cv := validId_ok e.id
 rw [← vId_valid] at cv
 have ci := rValidItem_ok e.item
 obtain ⟨kind, time, item, id, contact, due, acc, ticket⟩ := e
 simp only at cv ci
 by_cases hk7 : kind = 1 ∨ kind = 2 ∨ kind = 3 ∨ kind = 4 ∨ kind = 5 ∨ kind = 6 ∨ kind = 7
 ·rcases hk7 with rfl | rfl | rfl | rfl | rfl | rfl | rfl
  ·refine fn_ok CF rfl (by kernel_rfl) Tryz.func75 rfl ?_
   unfold evE
   repeat' (refine Sat.go (Eq.refl _) ?_; first | refine NS.chk (by kernel_rfl) ?_ | refine NS.no rfl ?_ | refine NS.yes rfl ?_ | refine NS.call cv rfl ?_ | refine NS.call ci rfl ?_ | refine NS.ite (fun h => ?_) (fun h => ?_) | exact NS.ret rfl rfl (LeA.of (congrArg (A.int .i64) (by first | (simp_all [inR]; done) | (simp_all [inR]; omega)))))
  ·refine fn_ok CF rfl (by kernel_rfl) Tryz.func75 rfl ?_
   unfold evE
   repeat' (refine Sat.go (Eq.refl _) ?_; first | refine NS.chk (by kernel_rfl) ?_ | refine NS.no rfl ?_ | refine NS.yes rfl ?_ | refine NS.call cv rfl ?_ | refine NS.call ci rfl ?_ | refine NS.ite (fun h => ?_) (fun h => ?_) | exact NS.ret rfl rfl (LeA.of (congrArg (A.int .i64) (by first | (simp_all [inR]; done) | (simp_all [inR]; omega)))))
  ·refine fn_ok CF rfl (by kernel_rfl) Tryz.func75 rfl ?_
   unfold evE
   repeat' (refine Sat.go (Eq.refl _) ?_; first | refine NS.chk (by kernel_rfl) ?_ | refine NS.no rfl ?_ | refine NS.yes rfl ?_ | refine NS.call cv rfl ?_ | refine NS.call ci rfl ?_ | refine NS.ite (fun h => ?_) (fun h => ?_) | exact NS.ret rfl rfl (LeA.of (congrArg (A.int .i64) (by first | (simp_all [inR]; done) | (simp_all [inR]; omega)))))
  ·refine fn_ok CF rfl (by kernel_rfl) Tryz.func75 rfl ?_
   unfold evE
   repeat' (refine Sat.go (Eq.refl _) ?_; first | refine NS.chk (by kernel_rfl) ?_ | refine NS.no rfl ?_ | refine NS.yes rfl ?_ | refine NS.call cv rfl ?_ | refine NS.call ci rfl ?_ | refine NS.ite (fun h => ?_) (fun h => ?_) | exact NS.ret rfl rfl (LeA.of (congrArg (A.int .i64) (by first | (simp_all [inR]; done) | (simp_all [inR]; omega)))))
  ·refine fn_ok CF rfl (by kernel_rfl) Tryz.func75 rfl ?_
   unfold evE
   repeat' (refine Sat.go (Eq.refl _) ?_; first | refine NS.chk (by kernel_rfl) ?_ | refine NS.no rfl ?_ | refine NS.yes rfl ?_ | refine NS.call cv rfl ?_ | refine NS.call ci rfl ?_ | refine NS.ite (fun h => ?_) (fun h => ?_) | exact NS.ret rfl rfl (LeA.of (congrArg (A.int .i64) (by first | (simp_all [inR]; done) | (simp_all [inR]; omega)))))
  ·refine fn_ok CF rfl (by kernel_rfl) Tryz.func75 rfl ?_
   unfold evE
   repeat' (refine Sat.go (Eq.refl _) ?_; first | refine NS.chk (by kernel_rfl) ?_ | refine NS.no rfl ?_ | refine NS.yes rfl ?_ | refine NS.call cv rfl ?_ | refine NS.call ci rfl ?_ | refine NS.ite (fun h => ?_) (fun h => ?_) | exact NS.ret rfl rfl (LeA.of (congrArg (A.int .i64) (by first | (simp_all [inR]; done) | (simp_all [inR]; omega)))))
  ·refine fn_ok CF rfl (by kernel_rfl) Tryz.func75 rfl ?_
   unfold evE
   repeat' (refine Sat.go (Eq.refl _) ?_; first | refine NS.chk (by kernel_rfl) ?_ | refine NS.no rfl ?_ | refine NS.yes rfl ?_ | refine NS.call cv rfl ?_ | refine NS.call ci rfl ?_ | refine NS.ite (fun h => ?_) (fun h => ?_) | exact NS.ret rfl rfl (LeA.of (congrArg (A.int .i64) (by first | (simp_all [inR]; done) | (simp_all [inR]; omega)))))
 ·have hE : evE ⟨kind, time, item, id, contact, due, acc, ticket⟩ = 8 := by
   unfold evE
   rw [if_pos]
   rw [Bool.not_eq_true', ← Bool.not_eq_true, inR_iff]
   show ¬ (1 ≤ kind ∧ kind ≤ 7)
   omega
  rw [hE]
  refine fn_ok CF rfl (by kernel_rfl) Tryz.func75 rfl ?_
  refine Sat.go (Eq.refl _) (NS.ite (fun a1 => ?_) (fun a1 => ?_))
  ·exact Sat.go (Eq.refl _) (NS.ret rfl rfl (LeA.refl _))
  refine Sat.go (Eq.refl _) (NS.ite (fun a2 => ?_) (fun a2 => ?_))
  ·exact Sat.go (Eq.refl _) (NS.ret rfl rfl (LeA.refl _))
  have a1 : ¬ kind < 1 := of_decide_eq_false a1
  have a2 : ¬ kind > 7 := of_decide_eq_false a2
  omega
end Go.Proofs.YtggjngbighkdgaaGreat

namespace Go.Proofs.YtggjngbighkdgaaGreat
open Go.Sy Go.Mb
set_option maxRecDepth 100000
set_option maxHeartbeats 4000000
structure OkJ (n : Nod) : Prop where
 sz : n.jour.size ≤ 65536
 rd : (rdJ (ls n.jour)).2 = n.jour.size
 du : effs (rdJ (ls n.jour)).1 ⟨[], []⟩ = n.dur
theorem OkJ.good {n : Nod} (h : OkJ n) : Good n.dur := by
 have hs := h.sz
 obtain ⟨_, _, _, _, j5, j6, _⟩ := jrn_ok (n := n) (by omega)
 rw [← h.du, ← j5]; exact j6
structure Val (n : Nod) : Prop where
 j : OkJ n
 up : n.up = true
 se : inR n.self 0 15 = true
 qu : inR n.quota 0 1073741824 = true
 la : inR n.last 0 (n.jour.size : Int) = true
 us : usedM n.dur.items ≤ n.quota
 of : chkO n.ofs = 0
 fd : ∀ o ∈ n.ofs, (findM n.dur o.id).2 = true
theorem val_iff (n : Nod) : (chkN n = 0 ∧ n.up = true) ↔ Val n := by
 constructor
 ·rintro ⟨h, hu⟩
  unfold chkN at h
  split at h
  ·cases h
  rename_i hr
  split at h
  ·cases h
  rename_i hs
  simp only [Bool.or_eq_true, Bool.not_eq_true', not_or, Bool.not_eq_false] at hr
  obtain ⟨⟨r1, r2⟩, r3⟩ := hr
  rw [hu] at hs
  have hsz : (n.jour.size : Int) ≤ 65536 := by
   simp only [Bool.or_eq_true, decide_eq_true_eq, not_or] at hs
   omega
  have hst : storedM n = true := by
   cases q : storedM n
   ·rw [q] at hs; simp at hs
   ·rfl
  obtain ⟨j1, j2, j3, j4, j5, j6, j7⟩ := jrn_ok hsz
  unfold storedM at hst
  simp only [Bool.and_eq_true, beq_iff_eq, Bool.not_eq_true'] at hst
  obtain ⟨⟨⟨⟨⟨⟨⟨a1, a2⟩, a3⟩, a4⟩, a5⟩, a6⟩, a7⟩, a8⟩ := hst
  have hd : (jrnD n).1 = n.dur := by
   have := sameD_iff (a := (jrnD n).1) (b := n.dur)
   refine this.1 ?_
   unfold sameD
   rw [a4, a5]; rfl
  refine ⟨⟨by omega, by rw [← j3]; omega, by rw [← j5, hd]⟩, hu, r1, r2, r3, ?_, a7, fun o ho => ?_⟩
  ·unfold checkQ at a6
   rw [if_pos r2, (good_iff _).2 j6] at a6
   simp only [bne_self_eq_false, Bool.false_eq_true, if_false] at a6
   rw [hd] at a6
   split at a6
   ·cases a6
   ·omega
  ·rw [List.any_eq_false] at a8
   have := a8 o ho
   rw [hd] at this
   simpa using this
 ·rintro ⟨⟨sz, rd, du⟩, up, se, qu, la, us, of, fd⟩
  refine ⟨?_, up⟩
  obtain ⟨j1, j2, j3, j4, j5, j6, j7⟩ := jrn_ok (n := n) (by omega)
  have hd : (jrnD n).1 = n.dur := by rw [j5, du]
  have hst : storedM n = true := by
   unfold storedM
   rw [j1, j3, rd, j4, hd]
   have e1 : sameBy Itm.eqv n.dur.items n.dur.items = true := (sameBy_iff (fun _ _ => Itm.eqv_iff)).2 rfl
   have e2 : sameBy Itm.eqv n.dur.inbox n.dur.inbox = true := (sameBy_iff (fun _ _ => Itm.eqv_iff)).2 rfl
   have e3 : checkQ n.dur n.quota = 0 := by
    unfold checkQ
    rw [if_pos qu, (good_iff _).2 (by rw [← hd]; exact j6), if_neg (by decide), if_neg (by omega)]
   have e4 : (n.ofs.any fun o => !(findM n.dur o.id).2) = false := by
    rw [List.any_eq_false]
    intro o ho
    rw [fd o ho]; decide
   rw [e1, e2, e3, of, e4]
   simp
  unfold chkN
  rw [se, qu, la, up, hst, if_neg (by decide), if_neg]
  simp; omega
theorem OkJ.wr {n : Nod} (h : OkJ n) {r : Jrec} (hr : recErr r = 0) :
  wr n r = (n, 4) ∨ (wr n r = (wrN n r, 0) ∧ OkJ (wrN n r) ∧ (wrN n r).dur = effM n.dur r ∧ ls (wrN n r).jour = ls n.jour ++ sealL (conL r) ∧ 0 < (sealL (conL r)).length) := by
 have hg := (good_iff _).2 h.good
 have ha : applyM n.dur r = (effM n.dur r, 0) := by unfold applyM; rw [hg, hr]; rfl
 unfold Go.Proofs.YtggjngbighkdgaaGreat.wr
 by_cases h1 : (appM (ls n.jour) [r]).2 = 0
 ·right
  rw [if_neg (by simp [h1]), if_neg (by rw [ha]; simp)]
  have h2 : (encRM r).2 = 0 := by
   cases q : decide ((encRM r).2 = 0)
   ·have q := of_decide_eq_false q
    exfalso
    unfold appM appJ at h1
    simp [q] at h1
   ·exact of_decide_eq_true q
  obtain ⟨_, hl, he⟩ := encRM_ok h2
  have e1 : appJ (ls n.jour) [r] = (ls n.jour ++ sealL (conL r), 0) := by
   unfold appJ
   rw [if_neg (by simp [h2]), he]
   rfl
  have e2 : (ls n.jour ++ sealL (conL r)).length ≤ 65536 := by
   have := appM_le h1
   unfold appM at this h1
   rw [e1] at this h1
   simp only [bne_self_eq_false, Bool.false_eq_true, if_false] at this h1
   split at h1
   ·cases h1
   ·rename_i q
    simp only [decide_eq_true_eq] at q
    omega
  have e3 : (appM (ls n.jour) [r]).1 = ls n.jour ++ sealL (conL r) := by
   unfold appM
   rw [e1]
   simp only [bne_self_eq_false, Bool.false_eq_true, if_false]
   rw [if_neg (by simp only [decide_eq_true_eq]; omega)]
  have e4 : ls (wrN n r).jour = ls n.jour ++ sealL (conL r) := by
   show ls (bs (appM (ls n.jour) [r]).1) = _
   rw [e3, ls_bs]
   intro x hx
   rcases List.mem_append.1 hx with hx | hx
   ·exact ls_lt _ x hx
   ·rw [← he] at hx; exact encRM_lt r x hx
  have e5 := rdJ_snoc (ls n.jour).length rfl (ls_lt n.jour) (by rw [h.rd, ls_len]) hr hl
  refine ⟨rfl, ⟨?_, ?_, ?_⟩, ?_, e4, ?_⟩
  ·rw [← ls_len, e4]; exact e2
  ·rw [e4, e5, ← ls_len, e4]
  ·rw [e4, e5, effs_snoc, h.du]
   show effM n.dur r = (applyM n.dur r).1
   rw [ha]
  ·show (applyM n.dur r).1 = _
   rw [ha]
  ·have := fstJ_enc hr hl []
   have h9 := fstJ_ok (l := sealL (conL r) ++ []) (by
    intro x hx
    rw [List.append_nil, ← he] at hx
    exact encRM_lt r x hx) this
   exact h9.2.1
 ·left
  rw [if_pos (by simpa using h1)]
end Go.Proofs.YtggjngbighkdgaaGreat

namespace Go.Proofs.YtggjngbighkdgaaGreat
open Go.Sy Go.Mb
set_option maxRecDepth 100000
set_option maxHeartbeats 4000000
theorem find_iff (d : Dur) (id : Nid) : (findM d id).2 = true ↔ ∃ x ∈ d.items, x.id = id := by
 unfold findM
 rcases idx_cases (hasId id) d.items with ⟨h1, h2⟩ | ⟨k, hk, h1, h2, _⟩
 ·rw [if_neg (by omega)]
  constructor
  ·intro h; cases h
  ·rintro ⟨x, hx, rfl⟩
   have := h2 x hx
   rw [hasId_self] at this; cases this
 ·rw [if_pos (by omega)]
  refine ⟨fun _ => ⟨d.items.getD k default, by rw [getD_lt hk]; exact List.getElem_mem hk, Nid.eqv_iff.1 h2⟩, fun _ => rfl⟩
theorem find_mem {d : Dur} {id : Nid} (h : (findM d id).2 = true) : (findM d id).1 ∈ d.items ∧ (findM d id).1.id = id := by
 unfold findM at h ⊢
 rcases idx_cases (hasId id) d.items with ⟨h1, _⟩ | ⟨k, hk, h1, h2, _⟩
 ·rw [if_neg (by omega)] at h; cases h
 ·rw [if_pos (by omega), h1]
  show d.items.getD k default ∈ _ ∧ (d.items.getD k default).id = _
  exact ⟨by rw [getD_lt hk]; exact List.getElem_mem hk, Nid.eqv_iff.1 h2⟩
theorem find_eq {d : Dur} (hu : Uniq d.items) {x : Itm} (hx : x ∈ d.items) : findM d x.id = (x, true) := by
 have h : (findM d x.id).2 = true := (find_iff _ _).2 ⟨x, hx, rfl⟩
 obtain ⟨h1, h2⟩ := find_mem h
 have e : (findM d x.id).1 = x := by
  obtain ⟨i, hi, e1⟩ := List.getElem_of_mem h1
  obtain ⟨j, hj, e2⟩ := List.getElem_of_mem hx
  rw [uniq_get] at hu
  rcases Nat.lt_trichotomy i j with hij | hij | hij
  ·exact absurd (by rw [e1, e2, h2]) (hu i j hi hj hij)
  ·subst hij; rw [← e1, e2]
  ·exact absurd (by rw [e1, e2, h2]) (hu j i hj hi hij)
 exact Prod.ext e h
end Go.Proofs.YtggjngbighkdgaaGreat

namespace Go.Proofs.YtggjngbighkdgaaGreat
open Go.Sy Go.Mb
set_option maxRecDepth 100000
set_option maxHeartbeats 4000000
theorem effs_one (d : Dur) (r : Jrec) : effs [r] d = effM d r := rfl
theorem wr_both {n : Nod} (h : OkJ n) {r : Jrec} (hr : recErr r = 0) :
  (wr n r = (n, 4) ∧ rWrM n [r] = (n, 4)) ∨ (wr n r = (wrN n r, 0) ∧ rWrM n [r] = ({ wrN n r with last := n.last }, 0) ∧ OkJ (wrN n r) ∧ (wrN n r).dur = effM n.dur r ∧ ls (wrN n r).jour = ls n.jour ++ sealL (conL r) ∧ 0 < (sealL (conL r)).length) := by
 have hg := (good_iff _).2 h.good
 have ha : applyM n.dur r = (effM n.dur r, 0) := by unfold applyM; rw [hg, hr]; rfl
 rcases h.wr hr with e | ⟨e1, e2, e3, e4, e5⟩
 ·left
  refine ⟨e, ?_⟩
  unfold wr at e
  unfold rWrM
  by_cases q : ((appM (ls n.jour) [r]).2 != 0) = true
  ·rw [if_pos q]
  ·rw [if_neg q, if_neg (by rw [ha]; simp)] at e
   exact absurd (congrArg Prod.snd e) (show ¬ (0 : Int) = 4 by decide)
 ·right
  refine ⟨e1, ?_, e2, e3, e4, e5⟩
  unfold wr at e1
  unfold rWrM
  by_cases q : ((appM (ls n.jour) [r]).2 != 0) = true
  ·rw [if_pos q] at e1
   exact absurd (congrArg Prod.snd e1) (show ¬ (4 : Int) = 0 by decide)
  ·rw [if_neg q, effs_one, ← e3]
   rfl
theorem last_same {n : Nod} {r : Jrec} (hk : r.kind = 2 ∨ r.kind = 4) : ({ wrN n r with last := n.last } : Nod) = wrN n r := by
 have : (wrN n r).last = n.last := by
  unfold wrN
  rcases hk with hk | hk <;> simp [hk]
 rw [← this]
theorem OkJ.congr {n m : Nod} (h : OkJ n) (h1 : m.jour = n.jour) (h2 : m.dur = n.dur) : OkJ m := ⟨by rw [h1]; exact h.sz, by rw [h1]; exact h.rd, by rw [h1, h2]; exact h.du⟩
theorem used_le {l : List Itm} (hl : ∀ x ∈ l, okItem x = true) (hn : l.length ≤ 1000000) (p : Itm → Bool) : usedM (l.filter p) ≤ usedM l := by
 have hd : ∀ x ∈ l, x.data.size ≤ 65536 := fun x hx => by
  have := itemErr_zero (x := x) (by simpa [okItem] using hl x hx)
  have := inR_iff.1 this.2.2.2.2.2
  omega
 have hf : (l.filter p).length ≤ l.length := List.length_filter_le _ _
 have e1 := used_sum l hd 0 (Int.le_refl _) (by omega)
 have e2 := used_sum (l.filter p) (fun x hx => hd x (List.mem_filter.1 hx).1) 0 (Int.le_refl _) (by omega)
 unfold usedM
 rw [e1, e2]
 have h3 : usedS (l.filter p) ≤ usedS l := by
  unfold usedS
  clear e1 e2 hf hd hl hn
  induction l with
  | nil => exact Int.le_refl _
  | cons x l ih =>
   rw [List.filter_cons]
   split
   ·simp only [List.map_cons, List.sum_cons]; omega
   ·simp only [List.map_cons, List.sum_cons]; omega
 omega
theorem items_len {n : Nod} (h : OkJ n) : n.dur.items.length ≤ 65536 ∧ n.dur.inbox.length ≤ 65536 := by
 have hs := h.sz
 obtain ⟨_, _, _, _, j5, _, _⟩ := jrn_ok (n := n) (by omega)
 have := jrnD_len n
 rw [j5, h.du] at this
 exact this
theorem filter_id {d : Dur} {x : Itm} (y : Itm) : (y ∈ d.items.filter (notId x.id)) ↔ y ∈ d.items ∧ y.id ≠ x.id := by
 rw [List.mem_filter]
 unfold notId hasId
 simp only [Bool.not_eq_true', ← Bool.not_eq_true, Nid.eqv_iff]
theorem Val.removed {n m : Nod} (h : Val n) {x : Itm} (hx : x ∈ n.dur.items) (hj : OkJ m) (hd : m.dur = ⟨n.dur.items.filter (notId x.id), n.dur.inbox⟩) (ho : m.ofs = n.ofs.filter (nt (ofId x.id))) (hs : m.self = n.self) (hq : m.quota = n.quota) (hu : m.up = n.up) (hl : inR m.last 0 (m.jour.size : Int) = true) : Val m := by
 have hlen := items_len h.j
 refine ⟨hj, by rw [hu]; exact h.up, by rw [hs]; exact h.se, by rw [hq]; exact h.qu, hl, ?_, ?_, fun o hom => ?_⟩
 ·rw [hd, hq]
  exact Int.le_trans (used_le h.j.good.1 (by omega) _) h.us
 ·rw [ho]
  exact (ofs_iff _).2 (((ofs_iff _).1 h.of).filter _)
 ·rw [ho, List.mem_filter] at hom
  obtain ⟨o1, o2⟩ := hom
  obtain ⟨y, y1, y2⟩ := (find_iff _ _).1 (h.fd o o1)
  rw [hd]
  refine (find_iff _ _).2 ⟨y, (filter_id y).2 ⟨y1, fun e => ?_⟩, y2⟩
  unfold nt ofId at o2
  rw [← y2, e, Nid.eqv_iff.2 rfl] at o2
  cases o2
def Agr (w w' : Wst) (r : Nod × List Mb.Act × Int) : Prop :=
 OkJ w'.n ∧ ((w'.err = 4 ∧ r.2.2 = 4) ∨ (w'.err = 0 ∧ r.2.2 = 0 ∧ r.1 = w'.n ∧ w'.acts = w.acts ++ r.2.1 ∧ Val w'.n))
theorem remove_agr {w : Wst} (h : Val w.n) (he : w.err = 0) {x : Itm} (hx : x ∈ w.n.dur.items) {t : Int} (ht : inR t 0 1099511627776 = true) :
  Agr w (w.remove t x) (rRemM w.n x.id t) ∧ ((w.remove t x).err = 0 → (w.remove t x).n.dur = ⟨w.n.dur.items.filter (notId x.id), w.n.dur.inbox⟩ ∧ ∃ s, ls (w.remove t x).n.jour = ls w.n.jour ++ s) := by
 have hid : validId x.id = true := ok_id (h.j.good.1 x hx)
 have hr := recErr2 hid ht
 have hf : (findM w.n.dur x.id).1 = x := by rw [find_eq h.j.good.2.2.1 hx]
 rcases wr_both h.j hr with ⟨e1, e2⟩ | ⟨e1, e2, e3, e4, e5, e6⟩
 ·have ee : (w.remove t x).err = 4 := by
   show (if (wr w.n ⟨2, .zero, x.id, 0, t⟩).2 != 0 then (wr w.n ⟨2, .zero, x.id, 0, t⟩).2 else w.err) = 4
   rw [e1]; rfl
  refine ⟨⟨?_, .inl ⟨ee, ?_⟩⟩, fun q => by rw [ee] at q; cases q⟩
  ·refine h.j.congr ?_ ?_
   ·show (wr w.n ⟨2, .zero, x.id, 0, t⟩).1.jour = _; rw [e1]
   ·show (wr w.n ⟨2, .zero, x.id, 0, t⟩).1.dur = _; rw [e1]
  ·show (rWrM w.n [⟨2, .zero, x.id, 0, t⟩]).2 = 4
   rw [e2]
 ·have hn : (w.remove t x).n = { wrN w.n ⟨2, .zero, x.id, 0, t⟩ with ofs := w.n.ofs.filter (nt (ofId x.id)) } := by
   show ({ (wr w.n ⟨2, .zero, x.id, 0, t⟩).1 with ofs := (wr w.n ⟨2, .zero, x.id, 0, t⟩).1.ofs.filter (nt (ofId x.id)) } : Nod) = _
   rw [e1]
   rfl
  have hj : OkJ (w.remove t x).n := by rw [hn]; exact e3.congr rfl rfl
  have hd : (w.remove t x).n.dur = ⟨w.n.dur.items.filter (notId x.id), w.n.dur.inbox⟩ := by rw [hn]; exact e4
  have hjr : ls (w.remove t x).n.jour = ls w.n.jour ++ sealL (conL ⟨2, .zero, x.id, 0, t⟩) := by rw [hn]; exact e5
  have ee : (w.remove t x).err = 0 := by
   show (if (wr w.n ⟨2, .zero, x.id, 0, t⟩).2 != 0 then (wr w.n ⟨2, .zero, x.id, 0, t⟩).2 else w.err) = 0
   rw [e1]; exact he
  have hlast : (w.remove t x).n.last = w.n.last := by rw [hn]; rfl
  have hsz : w.n.jour.size ≤ (w.remove t x).n.jour.size := by
   rw [← ls_len, ← ls_len (w.remove t x).n.jour, hjr, List.length_append]; omega
  refine ⟨⟨hj, .inr ⟨ee, ?_, ?_, ?_, ?_⟩⟩, fun _ => ⟨hd, _, hjr⟩⟩
  ·show (rWrM w.n [⟨2, .zero, x.id, 0, t⟩]).2 = 0
   rw [e2]
  ·show ({ (rWrM w.n [⟨2, .zero, x.id, 0, t⟩]).1 with ofs := w.n.ofs.filter (nt (ofId x.id)) } : Nod) = _
   rw [e2, hn, last_same (.inl rfl)]
  ·show w.acts ++ [_] = w.acts ++ [_]
   rw [hf]
  ·refine h.removed hx hj hd (by rw [hn]) (by rw [hn]; rfl) (by rw [hn]; rfl) (by rw [hn]; rfl) ?_
   rw [hlast]
   have := inR_iff.1 h.la
   exact inR_iff.2 ⟨this.1, by omega⟩
theorem remove_err {w : Wst} (h : OkJ w.n) (he : w.err = 4) {x : Itm} (hx : x ∈ w.n.dur.items) {t : Int} (ht : inR t 0 1099511627776 = true) : OkJ (w.remove t x).n ∧ (w.remove t x).err = 4 := by
 have hid : validId x.id = true := ok_id (h.good.1 x hx)
 have hr := recErr2 hid ht
 rcases h.wr hr with e1 | ⟨e1, e3, _⟩
 ·refine ⟨h.congr ?_ ?_, ?_⟩
  ·show (wr w.n ⟨2, .zero, x.id, 0, t⟩).1.jour = _; rw [e1]
  ·show (wr w.n ⟨2, .zero, x.id, 0, t⟩).1.dur = _; rw [e1]
  ·show (if (wr w.n ⟨2, .zero, x.id, 0, t⟩).2 != 0 then (wr w.n ⟨2, .zero, x.id, 0, t⟩).2 else w.err) = 4
   rw [e1]; rfl
 ·refine ⟨e3.congr ?_ ?_, ?_⟩
  ·show (wr w.n ⟨2, .zero, x.id, 0, t⟩).1.jour = _; rw [e1]
  ·show (wr w.n ⟨2, .zero, x.id, 0, t⟩).1.dur = _; rw [e1]
  ·show (if (wr w.n ⟨2, .zero, x.id, 0, t⟩).2 != 0 then (wr w.n ⟨2, .zero, x.id, 0, t⟩).2 else w.err) = 4
   rw [e1]; exact he
theorem settle_agr {w : Wst} (h : Val w.n) (he : w.err = 0) {id : Nid} (hf : (findM w.n.dur id).2 = true) {t : Int} (ht : inR t 0 1099511627776 = true) (s a : Bool) :
  Agr w (w.settle t id s a) (rEndM w.n id s a t) ∧ ((w.settle t id s a).err = 0 → ((w.settle t id s a).n = w.n ∨ ∃ x ∈ w.n.dur.items, x.id = id ∧ (w.settle t id s a).n.dur = ⟨w.n.dur.items.filter (notId id), w.n.dur.inbox⟩) ∧ ∃ s', ls (w.settle t id s a).n.jour = ls w.n.jour ++ s') := by
 obtain ⟨hx, hi⟩ := find_mem hf
 unfold Wst.settle rEndM
 rw [if_neg (by rw [hf]; decide)]
 by_cases q : (decM (findM w.n.dur id).1.custody s a == 3) = true
 ·rw [if_pos q, if_pos q]
  exact ⟨⟨h.j, .inr ⟨he, rfl, rfl, rfl, h⟩⟩, fun _ => ⟨.inl rfl, [], by rw [List.append_nil]; rfl⟩⟩
 ·rw [if_neg q, if_neg q]
  obtain ⟨h1, h2⟩ := remove_agr h he hx ht
  rw [hi] at h1 h2
  exact ⟨h1, fun e => ⟨.inr ⟨_, hx, hi, (h2 e).1⟩, (h2 e).2⟩⟩
theorem settle_err {w : Wst} (h : OkJ w.n) (he : w.err = 4) (id : Nid) {t : Int} (ht : inR t 0 1099511627776 = true) (s a : Bool) : OkJ (w.settle t id s a).n ∧ (w.settle t id s a).err = 4 := by
 unfold Wst.settle
 by_cases hf : (findM w.n.dur id).2 = true
 ·rw [if_neg (by rw [hf]; decide)]
  split
  ·exact ⟨h, he⟩
  ·exact remove_err h he (find_mem hf).1 ht
 ·rw [if_pos (by simpa using hf)]
  exact ⟨h, he⟩
end Go.Proofs.YtggjngbighkdgaaGreat

namespace Go.Proofs.YtggjngbighkdgaaGreat
open Go.Sy Go.Mb
set_option maxRecDepth 100000
set_option maxHeartbeats 4000000
def Fin (w : Wst) (r : Nod × List Mb.Act × Int) : Prop := OkJ w.n ∧ ((w.err = 4 ∧ r.2.2 = 4) ∨ (w.err = 0 ∧ r = (w.n, w.acts, 0) ∧ Val w.n))
theorem Agr.fin {w w' : Wst} {r : Nod × List Mb.Act × Int} (h : Agr w w' r) (ha : w.acts = []) : Fin w' r := by
 obtain ⟨h1, h2⟩ := h
 refine ⟨h1, ?_⟩
 rcases h2 with h2 | ⟨e1, e2, e3, e4, e5⟩
 ·exact .inl h2
 ·refine .inr ⟨e1, ?_, e5⟩
  obtain ⟨a, b, c⟩ := r
  simp only at e2 e3 e4
  rw [e4, ha, e2, e3, List.nil_append]
theorem Val.fin {w : Wst} (h : Val w.n) (ha : w.acts = []) (he : w.err = 0) : Fin w (w.n, [], 0) := ⟨h.j, .inr ⟨he, by rw [ha], h⟩⟩
theorem any_ofAt {l : List Ofr} {x : Nid} {c : Int} (hc : c ≠ -1) : (0 ≤ idx (ofAt x c) l) ↔ l.any (ofKey x c) = true := by
 have e : ofAt x c = ofKey x c := by
  funext o
  unfold ofAt ofKey
  rw [show (c == -1) = false by simpa using hc, Bool.false_or]
 rw [e, ← idx_any]
 simp
theorem any_ofAt1 {l : List Ofr} {x : Nid} : (idx (ofAt x (-1)) l = -1) ↔ l.any (ofId x) = false := by
 have e : ofAt x (-1) = ofId x := by
  funext o
  unfold ofAt ofId
  simp
 rw [e]
 rcases idx_cases (ofId x) l with ⟨h1, h2⟩ | ⟨k, hk, h1, h2, _⟩
 ·rw [h1]
  simp only [true_iff]
  rw [List.any_eq_false]
  intro p hp; rw [h2 p hp]; decide
 ·rw [h1]
  constructor
  ·intro h; omega
  ·intro h
   rw [List.any_eq_false] at h
   have := h (l.getD k default) (by rw [getD_lt hk]; exact List.getElem_mem hk)
   exact absurd h2 this
theorem ofLt_tri {a b : Ofr} (h : ¬ ofLt a b) (hk : ofKey b.id b.contact a = false) : ofLt b a := by
 unfold ofLt at h ⊢
 rcases idLt_tri a.id b.id with q | q | q
 ·exact absurd (.inl q) h
 ·exact .inl q
 ·right
  refine ⟨q.symm, ?_⟩
  have h1 : ¬ a.contact < b.contact := fun r => h (.inr ⟨q, r⟩)
  have h2 : a.contact ≠ b.contact := by
   intro r
   unfold ofKey at hk
   rw [q, Nid.eqv_iff.2 rfl, r] at hk
   simp at hk
  omega
theorem Ofs.insert {l : List Ofr} (h : Ofs l) {o : Ofr} (hv : vOf o = true) (hn : l.any (ofKey o.id o.contact) = false) (hl : l.length ≠ 64) : Ofs (l.filter (fun p => ltO p o) ++ [o] ++ l.filter (nt fun p => ltO p o)) := by
 obtain ⟨h1, h2, h3⟩ := h
 have ht := filt_two (fun p => ltO p o) l
 refine ⟨by simp only [List.length_append, List.length_singleton]; omega, fun p hp => ?_, ?_⟩
 ·simp only [List.mem_append, List.mem_singleton] at hp
  rcases hp with (hp | hp) | hp
  ·exact h2 p (List.mem_filter.1 hp).1
  ·rw [hp]; exact hv
  ·exact h2 p (List.mem_filter.1 hp).1
 ·have b1 : ∀ p ∈ l.filter (fun p => ltO p o), ofLt p o := fun p hp => ltO_iff.1 (List.mem_filter.1 hp).2
  have b2 : ∀ p ∈ l.filter (nt fun p => ltO p o), ofLt o p := by
   intro p hp
   obtain ⟨p1, p2⟩ := List.mem_filter.1 hp
   have p2 : ltO p o = false := by unfold nt at p2; simpa using p2
   refine ofLt_tri (fun q => by rw [ltO_iff.2 q] at p2; cases p2) ?_
   rw [List.any_eq_false] at hn
   simpa using hn p p1
  rw [List.append_assoc, List.pairwise_append]
  refine ⟨h3.sublist List.filter_sublist, ?_, ?_⟩
  ·rw [List.singleton_append, List.pairwise_cons]
   exact ⟨b2, h3.sublist List.filter_sublist⟩
  ·intro p hp q hq
   rcases List.mem_cons.1 hq with rfl | hq
   ·exact b1 p hp
   ·exact ofLt_trans (b1 p hp) (b2 q hq)
theorem evE_ok {e : Evt} (h : evE e = 0) : inR e.kind 1 7 = true ∧ inR e.time 0 1099511627776 = true ∧ (if e.kind == 1 then okItem e.item else if e.kind == 2 then vId e.id && inR e.contact 0 63 && inR e.due 0 1099511627777 else if e.kind == 3 then vId e.id && inR e.contact 0 63 else if e.kind == 6 then vId e.id else if e.kind == 7 then vId e.id && inR e.ticket 0 1152921504606846976 else true) = true := by
 unfold evE at h
 by_cases q1 : (!inR e.kind 1 7) = true
 ·rw [if_pos q1] at h; cases h
 rw [if_neg q1, ite_eq_left_iff] at h
 have q2 := Decidable.byContradiction fun q => absurd (h q) (by decide)
 rw [Bool.and_eq_true] at q2
 exact ⟨by simpa using q1, q2.1, q2.2⟩
theorem send_fin {w : Wst} (h : Val w.n) (ha : w.acts = []) (he : w.err = 0) {e : Evt} (hc : inR e.contact 0 63 = true) (hi : vId e.id = true) (hd : inR e.due 0 1099511627777 = true) : Fin (sendW w e) (rSendM w.n e) := by
 obtain ⟨c1, c2⟩ := inR_iff.1 hc
 obtain ⟨d1, d2⟩ := inR_iff.1 hd
 have hofs := (ofs_iff _).1 h.of
 have hfl : (w.n.ofs.filter (ofId e.id)).length ≤ 64 := Nat.le_trans (List.length_filter_le _ _) hofs.1
 unfold sendW rSendM
 by_cases hf : (findM w.n.dur e.id).2 = true
 ·rw [if_neg (show ¬ (!(findM w.n.dur e.id).2) = true by rw [hf]; decide), if_neg (show ¬ (!(findM w.n.dur e.id).2) = true by rw [hf]; decide)]
  have hv : vOf ⟨e.id, e.contact, e.due, ((w.n.ofs.filter (ofId e.id)).length : Int)⟩ = true := by
   unfold vOf
   rw [hi, Bool.true_and, decide_eq_true_eq]
   simp only
   omega
  by_cases hx : w.n.ofs.any (ofKey e.id e.contact) = true
  ·have hb : (beginM w.n.ofs e.id e.contact e.due).2 = 6 := by
    unfold beginM
    simp only
    rw [if_neg (by rw [h.of]; decide), if_neg (by rw [hv]; decide), if_pos (List.any_eq_true.2 (by obtain ⟨p, hp, hq⟩ := List.any_eq_true.1 hx; exact ⟨p, List.mem_filter.2 ⟨hp, by unfold ofKey at hq; rw [Bool.and_eq_true] at hq; exact hq.1⟩, hq⟩))]
   rw [if_neg (show ¬ ((beginM w.n.ofs e.id e.contact e.due).2 == 0) = true by rw [hb]; decide), if_pos (show ((beginM w.n.ofs e.id e.contact e.due).2 == 6) = true by rw [hb]; rfl), if_pos (show idx (ofAt e.id e.contact) w.n.ofs ≥ 0 from (any_ofAt (by omega)).2 hx)]
   exact h.fin ha he
  ·have hx : w.n.ofs.any (ofKey e.id e.contact) = false := by simpa using hx
   have hno : (w.n.ofs.filter (ofId e.id)).any (ofKey e.id e.contact) = false := by
    rw [List.any_eq_false] at hx ⊢
    intro p hp
    exact hx p (List.mem_filter.1 hp).1
   rw [if_neg (show ¬ idx (ofAt e.id e.contact) w.n.ofs ≥ 0 from fun q => by rw [(any_ofAt (by omega)).1 q] at hx; cases hx)]
   by_cases hl : w.n.ofs.length = 64
   ·have hb : (beginM w.n.ofs e.id e.contact e.due).2 = 4 := by
     unfold beginM
     simp only
     rw [if_neg (by rw [h.of]; decide), if_neg (by rw [hv]; decide), if_neg (by rw [hno]; decide), if_pos (by rw [hl]; rfl)]
    rw [if_neg (show ¬ ((beginM w.n.ofs e.id e.contact e.due).2 == 0) = true by rw [hb]; decide), if_neg (show ¬ ((beginM w.n.ofs e.id e.contact e.due).2 == 6) = true by rw [hb]; decide), if_pos (show ((beginM w.n.ofs e.id e.contact e.due).2 != 0) = true by rw [hb]; rfl)]
    exact ⟨h.j, .inl ⟨hb, rfl⟩⟩
   ·have hb : beginM w.n.ofs e.id e.contact e.due = (w.n.ofs.filter (fun p => ltO p ⟨e.id, e.contact, e.due, ((w.n.ofs.filter (ofId e.id)).length : Int)⟩) ++ [⟨e.id, e.contact, e.due, ((w.n.ofs.filter (ofId e.id)).length : Int)⟩] ++ w.n.ofs.filter (nt fun p => ltO p ⟨e.id, e.contact, e.due, ((w.n.ofs.filter (ofId e.id)).length : Int)⟩), 0) := by
     unfold beginM
     simp only
     rw [if_neg (by rw [h.of]; decide), if_neg (by rw [hv]; decide), if_neg (by rw [hno]; decide), if_neg (by simp; omega)]
    have hofs' := hofs.insert hv hx hl
    rw [if_pos (show ((beginM w.n.ofs e.id e.contact e.due).2 == 0) = true by rw [hb]; rfl), if_neg (show ¬ ((beginM w.n.ofs e.id e.contact e.due).2 != 0) = true by rw [hb]; exact Bool.false_ne_true)]
    rw [hb]
    refine ⟨h.j.congr rfl rfl, .inr ⟨he, ?_, ?_⟩⟩
    ·show _ = (_, w.acts ++ [_], 0)
     rw [ha]
     rfl
    ·refine ⟨h.j.congr rfl rfl, h.up, h.se, h.qu, h.la, h.us, (ofs_iff _).2 hofs', fun o ho => ?_⟩
     have ho : o ∈ w.n.ofs.filter (fun p => ltO p ⟨e.id, e.contact, e.due, ((w.n.ofs.filter (ofId e.id)).length : Int)⟩) ++ [⟨e.id, e.contact, e.due, ((w.n.ofs.filter (ofId e.id)).length : Int)⟩] ++ w.n.ofs.filter (nt fun p => ltO p ⟨e.id, e.contact, e.due, ((w.n.ofs.filter (ofId e.id)).length : Int)⟩) := ho
     simp only [List.mem_append, List.mem_singleton] at ho
     show (findM w.n.dur o.id).2 = true
     rcases ho with (ho | ho) | ho
     ·exact h.fd o (List.mem_filter.1 ho).1
     ·rw [ho]; exact hf
     ·exact h.fd o (List.mem_filter.1 ho).1
 ·have hf : (findM w.n.dur e.id).2 = false := by simpa using hf
  rw [if_pos (show (!(findM w.n.dur e.id).2) = true by rw [hf]; rfl), if_pos (show (!(findM w.n.dur e.id).2) = true by rw [hf]; rfl)]
  exact h.fin ha he
theorem drop_fin {w : Wst} (h : Val w.n) (ha : w.acts = []) (he : w.err = 0) {e : Evt} (ht : inR e.time 0 1099511627776 = true) : Fin (dropW w e) (if !(findM w.n.dur e.id).2 then (w.n, [], 0) else rRemM w.n e.id e.time) := by
 unfold dropW
 by_cases hf : (findM w.n.dur e.id).2 = true
 ·rw [if_pos hf, if_neg (show ¬ (!(findM w.n.dur e.id).2) = true by rw [hf]; decide)]
  obtain ⟨hx, hi⟩ := find_mem hf
  have := (remove_agr h he hx ht).1
  rw [hi] at this
  exact this.fin ha
 ·have hf : (findM w.n.dur e.id).2 = false := by simpa using hf
  rw [if_neg (show ¬ (findM w.n.dur e.id).2 = true by rw [hf]; decide), if_pos (show (!(findM w.n.dur e.id).2) = true by rw [hf]; rfl)]
  exact h.fin ha he
end Go.Proofs.YtggjngbighkdgaaGreat

namespace Go.Proofs.YtggjngbighkdgaaGreat
open Go.Sy Go.Mb
set_option maxRecDepth 100000
set_option maxHeartbeats 4000000
theorem recErr4 {id : Nid} {t now : Int} (h : validId id = true) (ht : inR t 0 1152921504606846976 = true) (hn : inR now 0 1099511627776 = true) : recErr ⟨4, .zero, id, t, now⟩ = 0 := by
 have h1 : inR 4 1 4 = true := rfl
 have h3 : Itm.zero.eqv Itm.zero = true := Itm.eqv_iff.2 rfl
 simp only [recErr, h, ht, hn, h1, h3]; rfl
theorem used_map {l m : List Itm} (h : l.map (fun x => x.data.size) = m.map (fun x => x.data.size)) : usedM l = usedM m := by
 have e : ∀ l : List Itm, usedM l = (l.map fun x => x.data.size).foldl (fun (n : Int) (s : Nat) => IntKind.i64.wrap (n + (s : Int))) 0 := fun l => by
  unfold usedM
  rw [List.foldl_map]
 rw [e l, e m, h]
theorem tick_size (l : List Itm) (id : Nid) (t : Int) : (setTick l id t).map (fun x => x.data.size) = l.map (fun x => x.data.size) ∧ (setTick l id t).map Itm.id = l.map Itm.id := by
 unfold setTick
 split
 ·constructor
  ·refine List.ext_getElem (by simp) fun i h1 h2 => ?_
   simp only [List.getElem_map, List.getElem_modify]
   split <;> rfl
  ·exact map_modify_id _ _ _
 ·exact ⟨rfl, rfl⟩
theorem found_map {d d' : Dur} (h : d'.items.map Itm.id = d.items.map Itm.id) (id : Nid) (hf : (findM d id).2 = true) : (findM d' id).2 = true := by
 obtain ⟨x, hx, e⟩ := (find_iff _ _).1 hf
 have : x.id ∈ d'.items.map Itm.id := by rw [h]; exact List.mem_map.2 ⟨x, hx, rfl⟩
 obtain ⟨y, hy, e2⟩ := List.mem_map.1 this
 exact (find_iff _ _).2 ⟨y, hy, by rw [e2, e]⟩
theorem jour_le {n m : Nod} {s : List Nat} (h : ls m.jour = ls n.jour ++ s) : n.jour.size ≤ m.jour.size := by
 rw [← ls_len, ← ls_len m.jour, h, List.length_append]; omega
theorem la_le {a : Int} {b c : Nat} (h : inR a 0 (b : Int) = true) (hbc : b ≤ c) : inR a 0 (c : Int) = true := by
 have := inR_iff.1 h
 exact inR_iff.2 ⟨this.1, by omega⟩
theorem ticket_fin {w : Wst} (h : Val w.n) (ha : w.acts = []) (he : w.err = 0) {e : Evt} (hi : vId e.id = true) (hk : inR e.ticket 0 1152921504606846976 = true) (ht : inR e.time 0 1099511627776 = true) :
  Fin (ticketW w e) (if !(findM w.n.dur e.id).2 then (w.n, [], 0) else ((rWrM w.n [⟨4, .zero, e.id, e.ticket, e.time⟩]).1, [], (rWrM w.n [⟨4, .zero, e.id, e.ticket, e.time⟩]).2)) := by
 unfold ticketW
 by_cases hf : (findM w.n.dur e.id).2 = true
 ·rw [if_pos hf, if_neg (show ¬ (!(findM w.n.dur e.id).2) = true by rw [hf]; decide)]
  have hr := recErr4 (id := e.id) (by rw [← vId_valid]; exact hi) hk ht
  rcases wr_both h.j hr with ⟨e1, e2⟩ | ⟨e1, e2, e3, e4, e5, e6⟩
  ·refine ⟨h.j.congr ?_ ?_, .inl ⟨?_, ?_⟩⟩
   ·show (wr w.n ⟨4, .zero, e.id, e.ticket, e.time⟩).1.jour = _; rw [e1]
   ·show (wr w.n ⟨4, .zero, e.id, e.ticket, e.time⟩).1.dur = _; rw [e1]
   ·show (if (wr w.n ⟨4, .zero, e.id, e.ticket, e.time⟩).2 != 0 then (wr w.n ⟨4, .zero, e.id, e.ticket, e.time⟩).2 else w.err) = 4
    rw [e1]; rfl
   ·show (rWrM w.n [⟨4, .zero, e.id, e.ticket, e.time⟩]).2 = 4
    rw [e2]
  ·have hw : w.write [⟨4, .zero, e.id, e.ticket, e.time⟩] = ⟨wrN w.n ⟨4, .zero, e.id, e.ticket, e.time⟩, w.acts, w.err⟩ := by
    show (⟨(wr w.n ⟨4, .zero, e.id, e.ticket, e.time⟩).1, w.acts, if (wr w.n ⟨4, .zero, e.id, e.ticket, e.time⟩).2 != 0 then (wr w.n ⟨4, .zero, e.id, e.ticket, e.time⟩).2 else w.err⟩ : Wst) = _
    rw [e1]; rfl
   have hd : (wrN w.n ⟨4, .zero, e.id, e.ticket, e.time⟩).dur = ⟨setTick w.n.dur.items e.id e.ticket, w.n.dur.inbox⟩ := e4
   obtain ⟨t1, t2⟩ := tick_size w.n.dur.items e.id e.ticket
   rw [hw, e2, last_same (.inr rfl)]
   refine ⟨e3, .inr ⟨he, by rw [ha], e3, h.up, h.se, h.qu, la_le h.la (jour_le e5), ?_, h.of, fun o ho => ?_⟩⟩
   ·show usedM (wrN w.n ⟨4, .zero, e.id, e.ticket, e.time⟩).dur.items ≤ w.n.quota
    rw [hd, used_map t1]
    exact h.us
   ·show (findM (wrN w.n ⟨4, .zero, e.id, e.ticket, e.time⟩).dur o.id).2 = true
    rw [hd]
    exact found_map (d := w.n.dur) t2 o.id (h.fd o ho)
 ·have hf : (findM w.n.dur e.id).2 = false := by simpa using hf
  rw [if_neg (show ¬ (findM w.n.dur e.id).2 = true by rw [hf]; decide), if_pos (show (!(findM w.n.dur e.id).2) = true by rw [hf]; rfl)]
  exact h.fin ha he
theorem found_more {d d' : Dur} (h : ∀ x ∈ d.items, x ∈ d'.items) (id : Nid) (hf : (findM d id).2 = true) : (findM d' id).2 = true := by
 obtain ⟨x, hx, e⟩ := (find_iff _ _).1 hf
 exact (find_iff _ _).2 ⟨x, h x hx, e⟩
theorem rWr_nil {n : Nod} (h : OkJ n) : rWrM n [] = (n, 0) := by
 have e : appM (ls n.jour) [] = (ls n.jour, 0) := by
  unfold appM appJ
  have := h.sz
  rw [if_neg (show ¬ (((ls n.jour, (0 : Int)) : List Nat × Int).2 != 0) = true from Bool.false_ne_true), if_neg (by rw [decide_eq_true_eq, ls_len]; omega)]
 unfold rWrM
 rw [e, if_neg (show ¬ (((ls n.jour, (0 : Int)) : List Nat × Int).2 != 0) = true from Bool.false_ne_true)]
 simp only [bs_ls]
 rfl
theorem kind_eq {w : Wst} {e : Evt} {r : Int} (hr : r = 1 ∨ r = 2 ∨ r = 3 ∨ r = 4 ∨ r = 5) : rKind w.n e r = kindP w e r := by
 unfold rKind kindP
 rcases hr with rfl | rfl | rfl | rfl | rfl
 ·rfl
 ·rfl
 ·cases q : w.n.ofs.any (ofId e.item.id)
  ·have := any_ofAt1.2 q
   rw [this]; rfl
  ·have : idx (ofAt e.item.id (-1)) w.n.ofs ≠ -1 := fun p => by rw [any_ofAt1.1 p] at q; cases q
   simp [this]
 ·rfl
 ·rfl
theorem put_fin {w : Wst} (h : Val w.n) (ha : w.acts = []) (he : w.err = 0) (hl : w.n.last = (w.n.jour.size : Int)) {e : Evt} (hx : okItem e.item = true) (ht : inR e.time 0 1099511627776 = true) :
  Fin (putW w e) (rPutM w.n e (putM w.n.dur w.n.self w.n.quota e.item e.time)) ∧ ∀ r ∈ (putM w.n.dur w.n.self w.n.quota e.item e.time).1, recErr r = 0 := by
 have hg := (good_iff _).2 h.j.good
 have hlen := items_len h.j
 obtain ⟨s1, s2⟩ := inR_iff.1 h.se
 have hp0 : putM w.n.dur w.n.self w.n.quota e.item e.time = if e.item.expires ≤ e.time then ([], 5, 0)
   else if 0 ≤ idx (hasId e.item.id) w.n.dur.items ∨ 0 ≤ idx (hasId e.item.id) w.n.dur.inbox then ([], 3, 0)
   else if e.item.dest = w.n.self then ([⟨3, e.item, .zero, 0, e.time⟩], 2, 0)
   else if IntKind.i64.wrap (usedM w.n.dur.items + (e.item.data.size : Int)) > w.n.quota then ([], 4, 0)
   else ([⟨1, e.item, .zero, 0, e.time⟩], 1, 0) := by
  unfold putM
  rw [if_neg (by rw [hg, hx]; decide), if_neg (by rw [h.qu, ht]; simp; omega)]
 have hnil : ∀ r : Int, (r = 3 ∨ r = 4 ∨ r = 5) → putM w.n.dur w.n.self w.n.quota e.item e.time = ([], r, 0) → Fin (putW w e) (rPutM w.n e (putM w.n.dur w.n.self w.n.quota e.item e.time)) := by
  intro r hr hp
  unfold putW rPutM
  rw [hp, if_neg (by simp), if_neg (by simp), rWr_nil h.j, kind_eq (w := w) (r := r) (by omega)]
  exact ⟨h.j, .inr ⟨he, by show _ = (_, w.acts ++ [_], 0); rw [ha]; rfl, h⟩⟩
 have hone : ∀ (k r : Int) (hkk : k = 1 ∨ k = 3) (hrr : r = 1 ∨ r = 2), putM w.n.dur w.n.self w.n.quota e.item e.time = ([⟨k, e.item, .zero, 0, e.time⟩], r, 0) → recErr ⟨k, e.item, .zero, 0, e.time⟩ = 0 →
   usedM (effM w.n.dur ⟨k, e.item, .zero, 0, e.time⟩).items ≤ w.n.quota → (∀ x ∈ w.n.dur.items, x ∈ (effM w.n.dur ⟨k, e.item, .zero, 0, e.time⟩).items) → Fin (putW w e) (rPutM w.n e (putM w.n.dur w.n.self w.n.quota e.item e.time)) := by
  intro k r hkk hrr hp hre hus hmo
  unfold putW rPutM
  rw [hp, if_neg (by simp), if_pos (by simp), kind_eq (w := w) (r := r) (by omega)]
  rcases wr_both h.j hre with ⟨e1, e2⟩ | ⟨e1, e2, e3, e4, e5, e6⟩
  ·refine ⟨h.j.congr ?_ ?_, .inl ⟨?_, ?_⟩⟩
   ·show (wr w.n ⟨k, e.item, .zero, 0, e.time⟩).1.jour = _; rw [e1]
   ·show (wr w.n ⟨k, e.item, .zero, 0, e.time⟩).1.dur = _; rw [e1]
   ·show (if (wr w.n ⟨k, e.item, .zero, 0, e.time⟩).2 != 0 then (wr w.n ⟨k, e.item, .zero, 0, e.time⟩).2 else w.err) = 4
    rw [e1]; rfl
   ·show (rWrM w.n [⟨k, e.item, .zero, 0, e.time⟩]).2 = 4
    rw [e2]
  ·have hw : w.write [⟨k, e.item, .zero, 0, e.time⟩] = ⟨wrN w.n ⟨k, e.item, .zero, 0, e.time⟩, w.acts, w.err⟩ := by
    show (⟨(wr w.n ⟨k, e.item, .zero, 0, e.time⟩).1, w.acts, if (wr w.n ⟨k, e.item, .zero, 0, e.time⟩).2 != 0 then (wr w.n ⟨k, e.item, .zero, 0, e.time⟩).2 else w.err⟩ : Wst) = _
    rw [e1]; rfl
   have hla : (wrN w.n ⟨k, e.item, .zero, 0, e.time⟩).last = ((wrN w.n ⟨k, e.item, .zero, 0, e.time⟩).jour.size : Int) := by
    unfold wrN
    rcases hkk with rfl | rfl <;> rfl
   simp only [hw, e2]
   refine ⟨e3, .inr ⟨he, ?_, e3, h.up, h.se, h.qu, ?_, ?_, h.of, fun o ho => ?_⟩⟩
   ·show _ = (_, w.acts ++ [_], 0)
    rw [ha]
    show (({ wrN w.n ⟨k, e.item, .zero, 0, e.time⟩ with last := ((wrN w.n ⟨k, e.item, .zero, 0, e.time⟩).jour.size : Int) } : Nod), _, _) = _
    rw [← hla]
    rfl
   ·show inR (wrN w.n ⟨k, e.item, .zero, 0, e.time⟩).last 0 _ = true
    rw [hla]
    exact inR_iff.2 ⟨by omega, Int.le_refl _⟩
   ·show usedM (wrN w.n ⟨k, e.item, .zero, 0, e.time⟩).dur.items ≤ w.n.quota
    rw [e4]; exact hus
   ·show (findM (wrN w.n ⟨k, e.item, .zero, 0, e.time⟩).dur o.id).2 = true
    rw [e4]
    exact found_more hmo o.id (h.fd o ho)
 by_cases q1 : e.item.expires ≤ e.time
 ·rw [if_pos q1] at hp0
  exact ⟨hnil 5 (by omega) hp0, by rw [hp0]; intro r hr; cases hr⟩
 rw [if_neg q1] at hp0
 by_cases q2 : 0 ≤ idx (hasId e.item.id) w.n.dur.items ∨ 0 ≤ idx (hasId e.item.id) w.n.dur.inbox
 ·rw [if_pos q2] at hp0
  exact ⟨hnil 3 (by omega) hp0, by rw [hp0]; intro r hr; cases hr⟩
 rw [if_neg q2] at hp0
 by_cases q3 : e.item.dest = w.n.self
 ·rw [if_pos q3] at hp0
  have hre := recErr3 hx ht
  exact ⟨hone 3 2 (by omega) (by omega) hp0 hre h.us (fun x hx => hx), by rw [hp0]; intro r hr; rw [List.mem_singleton] at hr; rw [hr]; exact hre⟩
 rw [if_neg q3] at hp0
 by_cases q4 : IntKind.i64.wrap (usedM w.n.dur.items + (e.item.data.size : Int)) > w.n.quota
 ·rw [if_pos q4] at hp0
  exact ⟨hnil 4 (by omega) hp0, by rw [hp0]; intro r hr; cases hr⟩
 rw [if_neg q4] at hp0
 have hre := recErr1 hx ht
 have hw : withM w.n.dur.items e.item = w.n.dur.items ++ [e.item] := by
  unfold withM
  rw [if_neg (fun q => q2 (.inl q))]
 refine ⟨hone 1 1 (by omega) (by omega) hp0 hre ?_ ?_, by rw [hp0]; intro r hr; rw [List.mem_singleton] at hr; rw [hr]; exact hre⟩
 ·show usedM (withM w.n.dur.items e.item) ≤ _
  rw [hw, used_snoc]
  omega
 ·intro x hx
  show x ∈ withM w.n.dur.items e.item
  rw [hw]
  exact List.mem_append_left _ hx
end Go.Proofs.YtggjngbighkdgaaGreat

namespace Go.Proofs.YtggjngbighkdgaaGreat
open Go.Sy Go.Mb
set_option maxRecDepth 100000
set_option maxHeartbeats 4000000
theorem Val.setF {n : Nod} (h : Val n) (p : Ofr → Bool) : Val { n with ofs := n.ofs.filter p } :=
 ⟨h.j.congr rfl rfl, h.up, h.se, h.qu, h.la, h.us, (ofs_iff _).2 (((ofs_iff _).1 h.of).filter p), fun o ho => h.fd o (List.mem_filter.1 ho).1⟩
theorem ofKey_eq {a b : Ofr} {x : Nid} {c : Int} (h1 : ofKey x c a = true) (h2 : ofKey x c b = true) : ¬ ofLt a b := by
 unfold ofKey at h1 h2
 rw [Bool.and_eq_true, Nid.eqv_iff, beq_iff_eq] at h1 h2
 rintro (q | ⟨_, q⟩)
 ·rw [h1.1, h2.1] at q; exact idLt_irr _ q
 ·omega
theorem erase_filter {x : Nid} {c : Int} : ∀ {l : List Ofr} {i : Nat}, l.Pairwise ofLt → (hi : i < l.length) → ofKey x c l[i] = true → l.eraseIdx i = l.filter (nt (ofKey x c))
 | [], i, _, hi, _ => by cases hi
 | a :: l, 0, hp, _, hk => by
  rw [List.pairwise_cons] at hp
  have hk : ofKey x c a = true := hk
  rw [List.eraseIdx_cons_zero, List.filter_cons, if_neg (by unfold nt; rw [hk]; decide)]
  rw [List.filter_eq_self.2]
  intro b hb
  unfold nt
  cases q : ofKey x c b
  ·rfl
  ·exact absurd (hp.1 b hb) (ofKey_eq hk q)
 | a :: l, i + 1, hp, hi, hk => by
  rw [List.pairwise_cons] at hp
  have hi : i < l.length := by simpa using hi
  have hk : ofKey x c l[i] = true := by simpa using hk
  rw [List.eraseIdx_cons_succ, erase_filter hp.2 hi hk, List.filter_cons, if_pos]
  unfold nt
  cases q : ofKey x c a
  ·rfl
  ·exact absurd (hp.1 _ (List.getElem_mem hi)) (ofKey_eq q hk)
theorem ofAt_key {x : Nid} {c : Int} (hc : c ≠ -1) : ofAt x c = ofKey x c := by
 funext o
 unfold ofAt ofKey
 rw [show (c == -1) = false by simpa using hc, Bool.false_or]
theorem signal_fin {w : Wst} (h : Val w.n) (ha : w.acts = []) (he : w.err = 0) {e : Evt} (hc : inR e.contact 0 63 = true) (ht : inR e.time 0 1099511627776 = true) : Fin (signalW w e) (rSigM w.n e) := by
 obtain ⟨c1, c2⟩ := inR_iff.1 hc
 have hof := (ofs_iff _).1 h.of
 unfold signalW rSigM
 rw [ofAt_key (by omega)]
 rcases idx_cases (ofKey e.id e.contact) w.n.ofs with ⟨h1, h2⟩ | ⟨k, hk, h1, h2, _⟩
 ·have hnil : w.n.ofs.filter (ofKey e.id e.contact) = [] := by
   rw [List.filter_eq_nil_iff]
   intro a ha'; rw [h2 a ha']; decide
  have hs : signalM w.n.ofs e.id e.contact = (w.n.ofs, 1, 0) := by
   unfold signalM
   rw [if_neg (by rw [h.of]; decide), if_pos (by rw [hnil]; rfl)]
  rw [hs, if_pos (show (((w.n.ofs, (1 : Int), (0 : Int)) : List Ofr × Int × Int).2.1 == 1) = true from rfl), if_pos (show (idx (ofKey e.id e.contact) w.n.ofs == -1) = true by rw [h1]; rfl)]
  exact h.fin ha he
 ·have h2 : ofKey e.id e.contact w.n.ofs[k] = true := by rwa [getD_lt hk] at h2
  have hm : w.n.ofs[k] ∈ w.n.ofs.filter (ofKey e.id e.contact) := List.mem_filter.2 ⟨List.getElem_mem hk, h2⟩
  have hs : signalM w.n.ofs e.id e.contact = (w.n.ofs.filter (nt (ofKey e.id e.contact)), 3, 0) := by
   unfold signalM
   rw [if_neg (by rw [h.of]; decide), if_neg]
   intro q
   have q : ((w.n.ofs.filter (ofKey e.id e.contact)).length : Int) = 0 := by simpa using q
   have := List.length_pos_of_mem hm
   omega
  have hid : w.n.ofs[k].id = e.id := by
   unfold ofKey at h2
   rw [Bool.and_eq_true, Nid.eqv_iff] at h2
   exact h2.1
  rw [hs, if_neg (show ¬ (((w.n.ofs.filter (nt (ofKey e.id e.contact)), (3 : Int), (0 : Int)) : List Ofr × Int × Int).2.1 == 1) = true from Bool.false_ne_true), if_neg (show ¬ (idx (ofKey e.id e.contact) w.n.ofs == -1) = true by rw [h1, beq_iff_eq]; omega), h1, Int.toNat_natCast, erase_filter hof.2.2 hk h2]
  have hv : Val (w.setO (w.n.ofs.filter (nt (ofKey e.id e.contact)))).n := h.setF _
  have hf : (findM (w.setO (w.n.ofs.filter (nt (ofKey e.id e.contact)))).n.dur e.id).2 = true := by
   have := h.fd _ (List.getElem_mem hk)
   rw [hid] at this
   exact this
  exact (settle_agr (w := w.setO (w.n.ofs.filter (nt (ofKey e.id e.contact)))) hv he hf ht true e.acc).1.fin ha
theorem found_filter {d : Dur} {id x : Nid} (h : (findM d x).2 = true) (hne : x ≠ id) : (findM ⟨d.items.filter (notId id), d.inbox⟩ x).2 = true := by
 obtain ⟨y, y1, y2⟩ := (find_iff _ _).1 h
 refine (find_iff _ _).2 ⟨y, ?_, y2⟩
 rw [List.mem_filter]
 refine ⟨y1, ?_⟩
 unfold notId hasId
 rw [Bool.not_eq_true', ← Bool.not_eq_true, Nid.eqv_iff, y2]
 exact hne
theorem zero3 : ¬ ((0 : Int) != 0) = true := Bool.false_ne_true
theorem tm_agr {w : Wst} (h : Val w.n) (ha : w.acts = []) (he : w.err = 0) {l : List Ofr} {t : Int} (ht : inR t 0 1099511627776 = true) (hp : l.Pairwise ofLt) (hf : ∀ o ∈ l, (findM w.n.dur o.id).2 = true) : ∀ k, k ≤ l.length →
  OkJ (tmN l t w k).n ∧ (((tmN l t w k).err = 4 ∧ (rTmN l t w.n k).2.2 = 4) ∨ ((tmN l t w k).err = 0 ∧ rTmN l t w.n k = ((tmN l t w k).n, (tmN l t w k).acts, 0) ∧ Val (tmN l t w k).n ∧
   ∀ j, k ≤ j → j < l.length → (k = 0 ∨ (l.getD j default).id ≠ (l.getD (k - 1) default).id) → (findM (tmN l t w k).n.dur (l.getD j default).id).2 = true))
 | 0, _ => ⟨h.j, .inr ⟨he, by show (w.n, [], 0) = (w.n, w.acts, 0); rw [ha], h, fun j _ hj _ => hf _ (by rw [getD_lt hj]; exact List.getElem_mem hj)⟩⟩
 | k + 1, hk => by
  obtain ⟨i1, i2⟩ := tm_agr h ha he ht hp hf k (by omega)
  rw [tmN, rTmN]
  generalize tmN l t w k = W at *
  generalize rTmN l t w.n k = R at *
  have hsym : ∀ a b : Nid, a.eqv b = b.eqv a := fun a b => by rw [Bool.eq_iff_iff, Nid.eqv_iff, Nid.eqv_iff]; exact eq_comm
  rcases i2 with ⟨b1, b2⟩ | ⟨b1, b2, b3, b4⟩
  ·rw [if_pos (show (R.2.2 != 0) = true by rw [b2]; rfl)]
   split
   ·obtain ⟨c1, c2⟩ := settle_err i1 b1 (l.getD k default).id ht false false
    exact ⟨c1, .inl ⟨c2, b2⟩⟩
   ·exact ⟨i1, .inl ⟨b1, b2⟩⟩
  ·rw [b2]
   dsimp only
   rw [if_neg zero3]
   by_cases q : k = 0 ∨ (l.getD k default).id ≠ (l.getD (k - 1) default).id
   ·have q1 : (k == 0 || !((l.getD (k - 1) default).id.eqv (l.getD k default).id)) = true := by
     rcases q with q | q
     ·rw [q]; rfl
     ·rw [Bool.or_eq_true]; right
      rw [Bool.not_eq_true', ← Bool.not_eq_true, Nid.eqv_iff]
      exact fun r => q r.symm
    have q2 : ¬ (decide (0 < k) && (l.getD k default).id.eqv (l.getD (k - 1) default).id) = true := by
     rw [Bool.and_eq_true, decide_eq_true_eq, Nid.eqv_iff]
     rintro ⟨r1, r2⟩
     rcases q with q | q
     ·omega
     ·exact q r2
    rw [if_pos q1, if_neg q2]
    obtain ⟨⟨a1, a2⟩, a3⟩ := settle_agr b3 b1 (b4 k (Nat.le_refl _) hk q) ht false false
    refine ⟨a1, ?_⟩
    rcases a2 with ⟨d1, d2⟩ | ⟨d1, d2, d3, d4, d5⟩
    ·left
     refine ⟨d1, ?_⟩
     rw [if_pos (by rw [d2]; rfl)]
     exact d2
    ·right
     refine ⟨d1, ?_, d5, fun j hj1 hj2 hj3 => ?_⟩
     ·rw [d2, if_neg zero3, d4, ← d3]
     ·have hj3 : (l.getD j default).id ≠ (l.getD k default).id := by
       rcases hj3 with hj3 | hj3
       ·omega
       ·exact hj3
      have hold := b4 j (by omega) hj2 (by
       rcases Nat.eq_zero_or_pos k with hk0 | hk0
       ·exact .inl hk0
       right
       intro r
       rcases q with q | q
       ·omega
       rw [List.pairwise_iff_getElem] at hp
       have p1 := hp (k - 1) k (by omega) hk (by omega)
       have p2 := hp k j hk hj2 (by omega)
       rw [← getD_lt (by omega : k - 1 < l.length), ← getD_lt hk] at p1
       rw [← getD_lt hj2, ← getD_lt hk] at p2
       rcases p1 with p1 | ⟨p1, _⟩
       ·rcases p2 with p2 | ⟨p2, _⟩
        ·rw [r] at p2; exact idLt_asymm p1 p2
        ·exact hj3 p2.symm
       ·exact q p1.symm)
      rcases (a3 d1).1 with g | ⟨x, _, _, g⟩
      ·rw [g]; exact hold
      ·rw [g]; exact found_filter hold hj3
   ·have q' : 0 < k ∧ (l.getD k default).id = (l.getD (k - 1) default).id := by
     constructor
     ·rcases Nat.eq_zero_or_pos k with r | r
      ·exact absurd (.inl r) q
      ·exact r
     ·exact Decidable.not_not.1 fun r => q (.inr r)
    have q1 : ¬ (k == 0 || !((l.getD (k - 1) default).id.eqv (l.getD k default).id)) = true := by
     rw [Bool.or_eq_true, Bool.not_eq_true', ← Bool.not_eq_true, Nid.eqv_iff]
     rintro (r | r)
     ·have : k = 0 := by simpa using r
      omega
     ·exact r q'.2.symm
    have q2 : (decide (0 < k) && (l.getD k default).id.eqv (l.getD (k - 1) default).id) = true := by
     rw [Bool.and_eq_true, decide_eq_true_eq, Nid.eqv_iff]
     exact q'
    rw [if_neg q1, if_pos q2]
    refine ⟨i1, .inr ⟨b1, rfl, b3, fun j hj1 hj2 hj3 => b4 j (by omega) hj2 (.inr ?_)⟩⟩
    rcases hj3 with hj3 | hj3
    ·omega
    ·rw [← q'.2]; exact hj3
theorem timer_fin {w : Wst} (h : Val w.n) (ha : w.acts = []) (he : w.err = 0) {e : Evt} (ht : inR e.time 0 1099511627776 = true) : Fin (timerW w e) (rTimM w.n e) := by
 have hof := (ofs_iff _).1 h.of
 have hd : dueM w.n.ofs e.time = (w.n.ofs.filter (ofDue e.time), w.n.ofs.filter (nt (ofDue e.time)), 0) := by
  unfold dueM
  rw [if_neg (by rw [h.of]; decide)]
 unfold timerW rTimM
 rw [hd]
 have hv : Val (w.setO (w.n.ofs.filter (nt (ofDue e.time)))).n := h.setF _
 obtain ⟨i1, i2⟩ := tm_agr (w := w.setO (w.n.ofs.filter (nt (ofDue e.time)))) hv ha he (l := w.n.ofs.filter (ofDue e.time)) ht (hof.filter _).2.2 (fun o ho => h.fd o (List.mem_filter.1 ho).1) _ (Nat.le_refl _)
 refine ⟨i1, ?_⟩
 rcases i2 with i2 | ⟨b1, b2, b3, _⟩
 ·exact .inl i2
 ·exact .inr ⟨b1, b2, b3⟩
theorem ex_agr {w : Wst} (h : Val w.n) (ha : w.acts = []) (he : w.err = 0) {l : List Itm} (hl : l = w.n.dur.items) {t : Int} (ht : inR t 0 1099511627776 = true) : ∀ k, k ≤ l.length →
  OkJ (exN (expRecs t l) t w (expRecs t (l.take k)).length).n ∧ (((exN (expRecs t l) t w (expRecs t (l.take k)).length).err = 4 ∧ (rExN l t w.n k).2.2 = 4) ∨ ((exN (expRecs t l) t w (expRecs t (l.take k)).length).err = 0 ∧ rExN l t w.n k = ((exN (expRecs t l) t w (expRecs t (l.take k)).length).n, (exN (expRecs t l) t w (expRecs t (l.take k)).length).acts, 0) ∧ Val (exN (expRecs t l) t w (expRecs t (l.take k)).length).n ∧
   ∀ j, k ≤ j → j < l.length → l.getD j default ∈ (exN (expRecs t l) t w (expRecs t (l.take k)).length).n.dur.items))
 | 0, _ => ⟨h.j, .inr ⟨he, by show (w.n, [], 0) = (w.n, w.acts, 0); rw [ha], h, fun j _ hj => by show _ ∈ w.n.dur.items; rw [getD_lt hj, ← hl]; exact List.getElem_mem hj⟩⟩
 | k + 1, hk => by
  obtain ⟨i1, i2⟩ := ex_agr h ha he hl ht k (by omega)
  have hu : Uniq l := by rw [hl]; exact h.j.good.2.2.1
  have hs : expRecs t (l.take (k + 1)) = expRecs t (l.take k) ++ expRec t (l.getD k default) := by rw [take_snoc hk, expRecs_snoc]
  rw [hs, rExN]
  by_cases q : (l.getD k default).expires > t
  ·have e0 : expRec t (l.getD k default) = [] := by unfold expRec; rw [if_neg (by omega)]
   rw [e0, List.append_nil]
   refine ⟨i1, ?_⟩
   rcases i2 with ⟨b1, b2⟩ | ⟨b1, b2, b3, b4⟩
   ·left
    rw [if_pos (show ((rExN l t w.n k).2.2 != 0) = true by rw [b2]; rfl)]
    exact ⟨b1, b2⟩
   ·right
    rw [b2]
    dsimp only
    rw [if_neg zero3, if_pos q]
    exact ⟨b1, rfl, b3, fun j hj1 hj2 => b4 j (by omega) hj2⟩
  ·have e1 : expRec t (l.getD k default) = [⟨2, .zero, (l.getD k default).id, 0, t⟩] := by unfold expRec; rw [if_pos (by omega)]
   have e2 : (expRecs t l).getD (expRecs t (l.take k)).length default = ⟨2, .zero, (l.getD k default).id, 0, t⟩ := by
    have e3 : expRecs t l = expRecs t (l.take k) ++ ([⟨2, .zero, (l.getD k default).id, 0, t⟩] ++ expRecs t (l.drop (k + 1))) := by
     rw [← e1, ← List.append_assoc, ← hs]
     conv => lhs; rw [← List.take_append_drop (k + 1) l]
     unfold expRecs
     rw [List.flatMap_append]
    rw [e3]
    simp [List.getD]
   rw [e1, List.length_append, List.length_singleton, exN, e2]
   generalize exN (expRecs t l) t w (expRecs t (l.take k)).length = W at *
   generalize rExN l t w.n k = R at *
   rcases i2 with ⟨b1, b2⟩ | ⟨b1, b2, b3, b4⟩
   ·rw [if_pos (show (R.2.2 != 0) = true by rw [b2]; rfl)]
    split
    ·rename_i hf
     obtain ⟨c1, c2⟩ := remove_err i1 b1 (find_mem hf).1 ht
     exact ⟨c1, .inl ⟨c2, b2⟩⟩
    ·exact ⟨i1, .inl ⟨b1, b2⟩⟩
   ·have hm : l.getD k default ∈ W.n.dur.items := b4 k (Nat.le_refl _) hk
    have hfe : findM W.n.dur (l.getD k default).id = (l.getD k default, true) := find_eq b3.j.good.2.2.1 hm
    rw [if_pos (show (findM W.n.dur (l.getD k default).id).2 = true by rw [hfe]), b2]
    dsimp only
    rw [if_neg zero3, if_neg q]
    rw [show (findM W.n.dur (l.getD k default).id).1 = l.getD k default by rw [hfe]]
    obtain ⟨⟨a1, a2⟩, a3⟩ := remove_agr b3 b1 hm ht
    refine ⟨a1, ?_⟩
    rcases a2 with ⟨d1, d2⟩ | ⟨d1, d2, d3, d4, d5⟩
    ·left
     refine ⟨d1, ?_⟩
     rw [if_pos (by rw [d2]; rfl)]
     exact d2
    ·right
     refine ⟨d1, ?_, d5, fun j hj1 hj2 => ?_⟩
     ·rw [d2, if_neg zero3, d4, ← d3]
      rfl
     ·rw [(a3 d1).1]
      refine List.mem_filter.2 ⟨b4 j (by omega) hj2, ?_⟩
      unfold notId hasId
      rw [Bool.not_eq_true', ← Bool.not_eq_true, Nid.eqv_iff]
      rw [uniq_get] at hu
      have := hu k j hk hj2 (by omega)
      rw [getD_lt hj2, getD_lt hk]
      exact fun r => this r.symm
theorem expire_fin {w : Wst} (h : Val w.n) (ha : w.acts = []) (he : w.err = 0) {e : Evt} (ht : inR e.time 0 1099511627776 = true) : Fin (expireW w e) (rExpM w.n e) := by
 have hd : expireM w.n.dur e.time = (expRecs e.time w.n.dur.items, 0) := by
  unfold expireM
  rw [if_neg (by rw [(good_iff _).2 h.j.good]; decide), if_neg (by rw [ht]; decide)]
 unfold expireW rExpM
 rw [hd]
 dsimp only
 rw [if_neg zero3]
 obtain ⟨i1, i2⟩ := ex_agr h ha he (l := w.n.dur.items) rfl ht _ (Nat.le_refl _)
 rw [List.take_length] at i1 i2
 refine ⟨i1, ?_⟩
 rcases i2 with i2 | ⟨b1, b2, b3, _⟩
 ·exact .inl i2
 ·exact .inr ⟨b1, b2, b3⟩
theorem Val.lastN {n : Nod} (h : Val n) : Val (startW n).n :=
 ⟨h.j.congr rfl rfl, h.up, h.se, h.qu, inR_iff.2 ⟨Int.natCast_nonneg _, Int.le_refl _⟩, h.us, h.of, h.fd⟩
theorem kind_fin {n : Nod} (h : Val n) {e : Evt} (he : evE e = 0) : Fin (kindW (startW n) e) (rGoM n e) ∧ RecsOK n e := by
 have hv := h.lastN
 obtain ⟨k1, k2, k3⟩ := evE_ok he
 obtain ⟨k1, k1'⟩ := inR_iff.1 k1
 have h0 : (startW n).acts = [] := rfl
 have h1 : (startW n).err = 0 := rfl
 have hp := fun hx : okItem e.item = true => put_fin hv h0 h1 rfl hx k2
 have hdue : ∀ o ∈ (dueM n.ofs e.time).1, recErr ⟨2, .zero, o.id, 0, e.time⟩ = 0 := by
  intro o ho
  have hd : dueM n.ofs e.time = (n.ofs.filter (ofDue e.time), n.ofs.filter (nt (ofDue e.time)), 0) := by
   unfold dueM
   rw [if_neg (by rw [h.of]; decide)]
  rw [hd] at ho
  have hvo := ((ofs_iff _).1 h.of).2.1 o (List.mem_filter.1 ho).1
  unfold vOf at hvo
  rw [Bool.and_eq_true] at hvo
  exact recErr2 (by rw [← vId_valid]; exact hvo.1) k2
 have hexp : ∀ x ∈ n.dur.items, recErr ⟨2, .zero, x.id, 0, e.time⟩ = 0 := fun x hx => recErr2 (ok_id (h.j.good.1 x hx)) k2
 have hk : e.kind = 1 ∨ e.kind = 2 ∨ e.kind = 3 ∨ e.kind = 4 ∨ e.kind = 5 ∨ e.kind = 6 ∨ e.kind = 7 := by omega
 unfold kindW rGoM
 rcases hk with r | r | r | r | r | r | r
 all_goals simp only [r] at k3 ⊢
 ·have k3 : okItem e.item = true := k3
  exact ⟨(hp k3).1, ⟨fun _ => (hp k3).2, (by rw [r]; rintro (q | q) <;> cases q), (by rw [r]; intro q; cases q), (by rw [r]; intro q; cases q), (by rw [r]; intro q; cases q)⟩⟩
 ·have k3 : (vId e.id && inR e.contact 0 63 && inR e.due 0 1099511627777) = true := k3
  rw [Bool.and_eq_true, Bool.and_eq_true] at k3
  exact ⟨send_fin hv h0 h1 k3.1.2 k3.1.1 k3.2, ⟨(by rw [r]; intro q; cases q), (by rw [r]; rintro (q | q) <;> cases q), (by rw [r]; intro q; cases q), (by rw [r]; intro q; cases q), (by rw [r]; intro q; cases q)⟩⟩
 ·have k3 : (vId e.id && inR e.contact 0 63) = true := k3
  rw [Bool.and_eq_true] at k3
  exact ⟨signal_fin hv h0 h1 k3.2 k2, ⟨(by rw [r]; intro q; cases q), fun _ => recErr2 (by rw [← vId_valid]; exact k3.1) k2, (by rw [r]; intro q; cases q), (by rw [r]; intro q; cases q), (by rw [r]; intro q; cases q)⟩⟩
 ·exact ⟨timer_fin hv h0 h1 k2, ⟨(by rw [r]; intro q; cases q), (by rw [r]; rintro (q | q) <;> cases q), fun _ => hdue, (by rw [r]; intro q; cases q), (by rw [r]; intro q; cases q)⟩⟩
 ·exact ⟨expire_fin hv h0 h1 k2, ⟨(by rw [r]; intro q; cases q), (by rw [r]; rintro (q | q) <;> cases q), (by rw [r]; intro q; cases q), fun _ => hexp, (by rw [r]; intro q; cases q)⟩⟩
 ·have k3 : vId e.id = true := k3
  exact ⟨drop_fin hv h0 h1 k2, ⟨(by rw [r]; intro q; cases q), fun _ => recErr2 (by rw [← vId_valid]; exact k3) k2, (by rw [r]; intro q; cases q), (by rw [r]; intro q; cases q), (by rw [r]; intro q; cases q)⟩⟩
 ·have k3 : (vId e.id && inR e.ticket 0 1152921504606846976) = true := k3
  rw [Bool.and_eq_true] at k3
  exact ⟨ticket_fin hv h0 h1 k3.1 k3.2 k2, ⟨(by rw [r]; intro q; cases q), (by rw [r]; rintro (q | q) <;> cases q), (by rw [r]; intro q; cases q), (by rw [r]; intro q; cases q), fun _ => recErr4 (by rw [← vId_valid]; exact k3.1) k3.2 k2⟩⟩
theorem go_val {n : Nod} (h : Val n) {e : Evt} (hz : (goM n e).2.2 = 0) : evE e = 0 ∧ Val (goM n e).1 ∧ goM n e = ((kindW (startW n) e).n, (kindW (startW n) e).acts, 0) ∧ rGoM n e = goM n e := by
 unfold goM at hz ⊢
 split at hz
 ·rename_i q; simp only at hz; rw [hz] at q; cases q
 rename_i q
 have he : evE e = 0 := by simpa using q
 rw [if_neg q]
 split at hz
 ·cases hz
 rename_i q2
 rw [if_neg q2]
 split at hz
 ·rename_i q3; simp only at hz; rw [hz] at q3; cases q3
 rename_i q3
 rw [if_neg q3]
 have q3 : (kindW (startW n) e).err = 0 := by simpa using q3
 obtain ⟨⟨_, f⟩, _⟩ := kind_fin h he
 rcases f with ⟨f1, _⟩ | ⟨_, f2, f3⟩
 ·rw [f1] at q3; cases q3
 ·exact ⟨he, f3, rfl, f2⟩
end Go.Proofs.YtggjngbighkdgaaGreat

namespace Go.Proofs.YtggjngbighkdgaaGreat
open Go.Sy Go.Mb
set_option maxRecDepth 100000
set_option maxHeartbeats 4000000
theorem rHandle_ok (n : Nod) (e : Evt) (h1 : n.dur.items.length ≤ 500000) (h2 : n.dur.inbox.length ≤ 500000) (h3 : n.ofs.length ≤ 500000) : FnOK Tryz.prog 28 [.agg n.cells, .agg e.cells] (nodA (handM n e), none) := by
 have c := rCheckN_ok n (by omega) (by omega)
 rw [chk_eq n (by omega) (by omega) (by omega)] at c
 unfold handM
 refine fn_ok CF rfl (by kernel_rfl) Tryz.func28 rfl ?_
 refine Sat.go (Eq.refl _) (NS.call (c) rfl ?_)
 refine Sat.go (Eq.refl _) (NS.ite (fun a1 => ?_) (fun a1 => ?_))
 ·rw [if_pos a1]
  exact Sat.go (Eq.refl _) (NS.ret rfl rfl (LeA.tup3 (zeroN_le rfl) (LeA.nil' rfl) (LeA.refl _)))
 rw [if_neg (by rw [a1]; decide)]
 refine Sat.go (Eq.refl _) (NS.call (rEvent_ok e) rfl ?_)
 unfold goM
 refine Sat.go (Eq.refl _) (NS.ite (fun a2 => ?_) (fun a2 => ?_))
 ·rw [if_pos a2]
  exact Sat.go (Eq.refl _) (NS.ret rfl rfl (LeA.tup3 (zeroN_le rfl) (LeA.nil' rfl) (LeA.refl _)))
 rw [if_neg (by rw [a2]; decide)]
 refine Sat.go (Eq.refl _) (NS.ite (fun a3 => ?_) (fun a3 => ?_))
 ·rw [if_pos a3]
  exact Sat.go (Eq.refl _) (NS.ret rfl rfl (LeA.tup3 (zeroN_le rfl) (LeA.nil' rfl) (LeA.refl _)))
 rw [if_neg (by rw [a3]; decide)]
 have hv : Val n := (val_iff n).1 ⟨by have a1 : (chkN n != 0) = false := a1; simpa using a1, by have a3 : (!n.up) = false := a3; simpa using a3⟩
 have he : evE e = 0 := by have a2 : (evE e != 0) = false := a2; simpa using a2
 obtain ⟨⟨_, f⟩, hr⟩ := kind_fin hv he
 obtain ⟨k1, _⟩ := evE_ok he
 have hof := ((ofs_iff _).1 hv.of).1
 obtain ⟨l1, l2⟩ := items_len hv.j
 refine Sat.go (Eq.refl _) (NS.call (rGo_ok n e ⟨hv.j.good.2.2.1, by omega, by omega, Nat.le_trans hv.j.sz (by decide), by omega⟩ (inR_iff.1 k1) hr) rfl ?_)
 generalize rGoM n e = z at *
 obtain ⟨z1, z2, z3⟩ := z
 rcases f with ⟨b1, b2⟩ | ⟨b1, b2, _⟩
 ·rw [if_pos (by rw [b1]; rfl), b1]
  have b2 : z3 = 4 := b2
  subst b2
  refine Sat.go (Eq.refl _) (NS.yes (rfl) ?_)
  exact Sat.go (Eq.refl _) (NS.ret rfl rfl (LeA.tup3 (zeroN_le rfl) (LeA.nil' rfl) (LeA.refl _)))
 ·rw [if_neg (by rw [b1]; decide)]
  obtain ⟨rfl, rfl, rfl⟩ : z1 = _ ∧ z2 = _ ∧ z3 = 0 := by simpa using b2
  refine Sat.go (Eq.refl _) (NS.no (rfl) ?_)
  exact Sat.go (Eq.refl _) (NS.ret rfl rfl (LeA.refl _))
theorem go_chk {n : Nod} (h : chkN n = 0) {e : Evt} (hz : (goM n e).2.2 = 0) : Val n := by
 refine (val_iff n).1 ⟨h, ?_⟩
 unfold goM at hz
 split at hz
 ·rename_i q; simp only at hz; rw [hz] at q; cases q
 split at hz
 ·cases hz
 ·rename_i q; simpa using q
theorem rPlay_ok (n : Nod) (l : List Evt) (h : Szn n 100) (hl : l.length ≤ 200) : FnOK Tryz.prog 25 [.agg n.cells, slEvt l] (playA (playM n l), none) := by
 have c := rCheckN_ok n (by have := h.1; omega) (by have := h.2.1; omega)
 rw [chk_eq n (by have := h.1; omega) (by have := h.2.1; omega) (by have := h.2.2.2; omega)] at c
 unfold playM
 refine fn_ok CF rfl (by kernel_rfl) Tryz.func25 rfl ?_
 refine Sat.go (Eq.refl _) (NS.call (c) rfl ?_)
 refine Sat.go (Eq.refl _) (NS.ite (fun a1 => ?_) (fun a1 => ?_))
 ·rw [if_pos a1]
  exact Sat.go (Eq.refl _) (NS.ret rfl rfl (LeA.tup4 (zeroN_le rfl) (LeA.nil' rfl) (LeA.refl _) (LeA.refl _)))
 rw [if_neg (by rw [a1]; decide)]
 have hc0 : chkN n = 0 := by have a1 : (chkN n != 0) = false := a1; simpa using a1
 obtain ⟨R, hR⟩ : ∃ R, R = playG n [] l 0 := ⟨_, rfl⟩
 rw [← hR]
 refine Sat.go (Eq.refl _) ?_
 refine NS.loop (σ := { q : Nat × Nod × List Mb.Act // q.1 ≤ l.length ∧ Szn q.2.1 (100 + q.1) ∧ q.2.2.length ≤ q.1 * 200000 ∧ R = playG q.2.1 q.2.2 (l.drop q.1) (q.1 : Nat) ∧ chkN q.2.1 = 0 }) (fun q => [(1, slEvt l), (2, .ptr 2 0), (4, .ptr 4 0), (8, .own 8), (9, .int .i64 (q.1.1 : Nat))]) (fun q => [(2, .box q.1.2.1.cells), (4, .box [.junk, .junk, .junk, .junk, .junk, .junk, .junk, .junk]), (8, rowAct q.1.2.2)]) (fun q => l.length - q.1.1) ⟨(0, n, []), Nat.zero_le _, h, Nat.zero_le _, hR, hc0⟩ ?_ ?_
 ·refine (weak_promote 8 8 63 14 (rowL Mb.Act.cells []) rfl rfl).trans ?_
  exact weak_hd [] rfl ⟨rfl, rfl, rfl, rfl, rfl, trivial⟩ ⟨⟨_, rfl, renNod _ _⟩, ⟨_, rfl, ⟨_, _, rfl, trivial, _, _, rfl, trivial, _, _, rfl, trivial, _, _, rfl, trivial, _, _, rfl, trivial, _, _, rfl, trivial, _, _, rfl, trivial, _, _, rfl, trivial, rfl⟩⟩, ren_row rfl rfl fun _ _ _ _ => rfl, trivial⟩ trivial (by kernel_rfl)
 rintro ⟨⟨k, m, out⟩, hk, hz, ho, hp, hc⟩
 have hk : k ≤ l.length := hk
 have hz : Szn m (100 + k) := hz
 have ho : out.length ≤ k * 200000 := ho
 have hp : R = playG m out (l.drop k) (k : Nat) := hp
 have hc : chkN m = 0 := hc
 refine Sat.go (Eq.refl _) (NS.ite (fun a2 => ?_) (fun a2 => ?_))
 ·have a2 : k < l.length := by simpa using a2
  obtain ⟨g1, g2⟩ := hz.go (by omega) (l.getD k default)
  have ch := rHandle_ok m (l.getD k default) (by have := hz.1; omega) (by have := hz.2.1; omega) (by have := hz.2.2.2; omega)
  rw [show handM m (l.getD k default) = goM m (l.getD k default) by unfold handM; rw [if_neg (by rw [hc]; decide)]] at ch
  have hgv := fun hz0 => (go_val (go_chk hc (e := l.getD k default) hz0) hz0).2.1
  rw [drop_get a2, playG_cons] at hp
  refine Sat.go (Eq.refl _) (NS.chk (by kernel_rfl) ?_)
  refine Sat.go (Eq.refl _) (NS.need (by simp; omega) ?_)
  refine Sat.go (Eq.refl _) (NS.call (ch) rfl ?_)
  generalize goM m (l.getD k default) = z at *
  obtain ⟨z1, z2, z3⟩ := z
  simp only at g1 g2 hp hgv
  refine Sat.go (Eq.refl _) (NS.ite (fun a3 => ?_) (fun a3 => ?_))
  ·rw [if_pos a3] at hp
   exact Sat.go (Eq.refl _) (NS.leaveOut rfl (Eq.refl _) (NS.ret rfl rfl (playA_le hp (zeroN_le rfl) (LeA.nil' rfl) (LeA.refl _) (LeA.refl _))))
  rw [if_neg (by rw [a3]; decide)] at hp
  have hz3 : z3 = 0 := by have a3 : (z3 != 0) = false := a3; simpa using a3
  have hv1 := ((val_iff z1).2 (hgv hz3)).1
  refine Sat.go (Eq.refl _) ?_
  refine NS.loop (σ := { p : Nat // p ≤ z2.length }) (fun p => [(1, slEvt l), (2, .ptr 2 0), (4, .ptr 4 0), (8, .own 8), (9, .int .i64 (k : Nat)), (11, slAct z2), (13, .int .i64 (p.1 : Nat))]) (fun p => [(2, .box z1.cells), (4, .box [.junk, .junk, .junk, .junk, .junk, .junk, .junk, .junk]), (8, rowAct (out ++ z2.take p.1))]) (fun p => z2.length - p.1) ⟨0, Nat.zero_le _⟩ ?_ ?_
  ·exact weak_hd [] rfl ⟨rfl, rfl, rfl, rfl, rfl, rfl, rfl, trivial⟩ ⟨⟨_, rfl, renNod _ _⟩, ⟨_, rfl, ⟨_, _, rfl, trivial, _, _, rfl, trivial, _, _, rfl, trivial, _, _, rfl, trivial, _, _, rfl, trivial, _, _, rfl, trivial, _, _, rfl, trivial, _, _, rfl, trivial, rfl⟩⟩, ren_row rfl (by show out.length = (out ++ z2.take 0).length; simp) (fun i hi j hj => by show rowL Mb.Act.cells out i j = rowL Mb.Act.cells (out ++ z2.take 0) i j; rw [List.take_zero, List.append_nil]), trivial⟩ trivial (by kernel_rfl)
  rintro ⟨p, hp'⟩
  have hp' : p ≤ z2.length := hp'
  have hop : (out ++ z2.take p).length ≤ 50000000 := by simp; omega
  refine Sat.go (Eq.refl _) (NS.ite (fun c1 => ?_) (fun c1 => ?_))
  ·have c1 : p < z2.length := by have c1 : ((p : Nat) : Int) < (z2.length : Int) := of_decide_eq_true c1; omega
   have hsn := take_snoc (l := z2) (k := p) c1
   refine Sat.go (Eq.refl _) (NS.need (by simp; omega) ?_)
   refine Sat.go (Eq.refl _) (NS.need (decide_eq_true (by simp only [maxRow]; show ((out ++ z2.take p).length + 1) * _ ≤ _; omega)) ?_)
   refine Sat.go (Eq.refl _) (NS.next ⟨p + 1, by omega⟩ (by show z2.length - (p + 1) < z2.length - p; omega) ?_)
   refine weak_hd [(8, 52)] rfl ⟨rfl, rfl, rfl, rfl, rfl, rfl, ren_int rfl (i64_k (k := p) (n := z2.length) c1 (by omega)), trivial⟩ ⟨⟨_, rfl, renNod _ _⟩, ⟨_, rfl, ⟨_, _, rfl, trivial, _, _, rfl, trivial, _, _, rfl, trivial, _, _, rfl, trivial, _, _, rfl, trivial, _, _, rfl, trivial, _, _, rfl, trivial, _, _, rfl, trivial, rfl⟩⟩, ?_, trivial⟩ trivial (by kernel_rfl)
   show RenO _ (rowAct (out ++ z2.take (p + 1))) _
   rw [hsn, ← List.append_assoc]
   exact ren_row rfl (by show (out ++ z2.take p).length + 1 = ((out ++ z2.take p) ++ [z2.getD p default]).length; exact snoc_len _ _) (fun i hi j hj => row_snoc (cells := Mb.Act.cells) (x := z2.getD p default) rfl i (by rw [List.length_append, List.length_singleton] at hi; exact hi) j hj)
  ·have c1 : ¬ p < z2.length := by have c1 : ¬ ((p : Nat) : Int) < (z2.length : Int) := of_decide_eq_false c1; omega
   obtain rfl : p = z2.length := by omega
   refine Sat.go (Eq.refl _) (NS.leave rfl (Eq.refl _) ?_)
   refine Sat.go (Eq.refl _) (NS.next ⟨(k + 1, z1, out ++ z2), by show k + 1 ≤ l.length; omega, g1, by show (out ++ z2).length ≤ (k + 1) * 200000; simp only [List.length_append]; omega, by rw [hp]; show _ = playG _ _ _ ((k + 1 : Nat) : Int); rw [show ((k + 1 : Nat) : Int) = (k : Int) + 1 from rfl], hv1⟩ (by show l.length - (k + 1) < l.length - k; omega) ?_)
   refine weak_hd [] rfl ⟨rfl, rfl, rfl, rfl, ren_int rfl (i64_k (k := k) (n := l.length) a2 (by omega)), trivial⟩ ⟨⟨_, rfl, renNod _ _⟩, ⟨_, rfl, ⟨_, _, rfl, trivial, _, _, rfl, trivial, _, _, rfl, trivial, _, _, rfl, trivial, _, _, rfl, trivial, _, _, rfl, trivial, _, _, rfl, trivial, _, _, rfl, trivial, rfl⟩⟩, ?_, trivial⟩ trivial (by kernel_rfl)
   show RenO _ (rowAct (out ++ z2)) _
   exact ren_row rfl (by show (out ++ z2.take z2.length).length = _; rw [List.take_length]) (fun i hi j hj => by show rowL Mb.Act.cells (out ++ z2.take z2.length) i j = _; rw [List.take_length])
 ·have a2 : ¬ k < l.length := by simpa using a2
  obtain rfl : k = l.length := by omega
  refine Sat.go (Eq.refl _) (NS.leave rfl (Eq.refl _) ?_)
  have hp2 : R = (m, out, (l.length : Int), 0) := by rw [hp, List.drop_length]; rfl
  exact Sat.go (Eq.refl _) (NS.ret rfl rfl (playA_le hp2 (LeA.refl _) (LeA.refl _) (LeA.refl _) (LeA.refl _)))
end Go.Proofs.YtggjngbighkdgaaGreat

namespace Go.Proofs.YtggjngbighkdgaaGreat
open Go.Sy Go.Mb
set_option maxRecDepth 100000
set_option maxHeartbeats 4000000
def greatE (e : Evt) : Bool := decide ((e.item.data.size : Int) > 100)
theorem greatE_ok (e : Evt) : FnOK Tryz.prog 23 [.agg e.cells] (.bool (greatE e), none) := by
 refine fn_ok CF rfl (by kernel_rfl) Tryz.func23 rfl ?_
 exact Sat.go (Eq.refl _) (NS.ret rfl rfl (LeA.refl _))
theorem idxE_ok (l : List Evt) (hl : l.length ≤ 1000000) (f : Nat) (p : Evt → Bool) (hc : ∀ x, FnOK Tryz.prog f [.agg (Evt.cells x)] (.bool (p x), none)) : FnOK Tryz.prog 73 [slEvt l, .fn f []] (.int .i64 (idx p l), none) := by
 refine fn_ok CF rfl (by kernel_rfl) Tryz.func73 rfl ?_
 refine Sat.go (Eq.refl _) ?_
 refine NS.loop (σ := { k : Nat // k ≤ l.length ∧ ∀ i, i < k → p (l.getD i default) = false }) (fun k => [(0, slEvt l), (1, .fn f []), (7, .int .i64 l.length), (8, .int .i64 k.1)]) (fun _ => []) (fun k => l.length - k.1) ⟨0, Nat.zero_le _, fun i hi => by omega⟩ ?_ ?_
 ·exact weak_hd [] rfl ⟨rfl, rfl, rfl, rfl, trivial⟩ trivial trivial (by kernel_rfl)
 rintro ⟨k, hk, hn⟩
 refine Sat.go (Eq.refl _) (NS.ite (fun h => ?_) (fun h => ?_))
 ·have h : k < l.length := by simpa using h
  repeat' (first | (refine Sat.go (Eq.refl _) (NS.chk (by kernel_rfl) ?_)) | (refine Sat.go (Eq.refl _) (NS.need (by simp; omega) ?_)))
  refine Sat.go (Eq.refl _) (NS.call (hc (l.getD k default)) rfl ?_)
  refine Sat.go (Eq.refl _) (NS.ite (fun h2 => ?_) (fun h2 => ?_))
  ·exact Sat.go (Eq.refl _) (NS.leaveOut rfl (Eq.refl _) (NS.ret rfl rfl (LeA.of (congrArg (A.int .i64) ((idx_found (by omega) h2 hn).symm)))))
  ·refine Sat.go (Eq.refl _) (NS.next ⟨k + 1, by omega, fun i hi => ?_⟩ (by simp; omega) ?_)
   ·by_cases hik : i = k
    ·subst hik; exact h2
    ·exact hn i (by omega)
   ·exact weak_hd [] rfl ⟨rfl, rfl, rfl, ren_int rfl (i64_k (by omega) (by omega)), trivial⟩ trivial trivial (by kernel_rfl)
 ·have h : ¬ k < l.length := by simpa using h
  refine Sat.go (Eq.refl _) (NS.leave rfl (Eq.refl _) ?_)
  exact Sat.go (Eq.refl _) (NS.ret rfl rfl (LeA.of (congrArg (A.int .i64) ((idx_none fun i hi => hn i (by omega)).symm))))
theorem contE_ok (l : List Evt) (hl : l.length ≤ 1000000) : FnOK Tryz.prog 22 [slEvt l, .fn 23 []] (.bool (l.any greatE), none) := by
 refine fn_ok CF rfl (by kernel_rfl) Tryz.func22 rfl ?_
 refine Sat.go (Eq.refl _) (NS.call (idxE_ok l hl 23 greatE greatE_ok) rfl ?_)
 exact Sat.go (Eq.refl _) (NS.ret rfl rfl (LeA.of (congrArg A.bool (idx_any greatE l))))
end Go.Proofs.YtggjngbighkdgaaGreat

namespace Go.Proofs.YtggjngbighkdgaaGreat
open Go.Sy Go.Mb
set_option maxRecDepth 100000
set_option maxHeartbeats 4000000
theorem sameA_refl (l : List Mb.Act) : sameBy Mb.Act.eqv l l = true := (sameBy_iff (fun _ _ => Mb.Act.eqv_iff)).2 rfl
theorem hand_sz {n : Nod} (h : Szn n 0) (e : Evt) : Szn (handM n e).1 1 ∧ (handM n e).2.1.length ≤ 200000 := by
 unfold handM
 split
 ·exact ⟨szn_zero _, Nat.zero_le _⟩
 ·exact h.go (by omega) e
theorem playG_sz : ∀ (l : List Evt) (n : Nod) (out : List Mb.Act) (i : Int) (k : Nat), Szn n k → k + l.length ≤ 400 → Szn (playG n out l i).1 (k + l.length) ∧ (playG n out l i).2.1.length ≤ out.length + l.length * 200000
 | [], n, out, i, k, h, _ => ⟨h, Nat.le_refl _⟩
 | e :: l, n, out, i, k, h, hk => by
  rw [List.length_cons] at hk
  rw [playG_cons]
  obtain ⟨g1, g2⟩ := h.go (by omega) e
  split
  ·exact ⟨szn_zero _, Nat.zero_le _⟩
  ·obtain ⟨r1, r2⟩ := playG_sz l (goM n e).1 (out ++ (goM n e).2.1) (i + 1) (k + 1) g1 (by omega)
   rw [List.length_append] at r2
   rw [List.length_cons]
   exact ⟨r1.le (by omega), by omega⟩
theorem play_sz {n : Nod} (h : Szn n 0) {l : List Evt} (hl : l.length ≤ 200) : Szn (playM n l).1 200 ∧ (playM n l).2.1.length ≤ l.length * 200000 := by
 unfold playM
 split
 ·exact ⟨szn_zero _, Nat.zero_le _⟩
 ·obtain ⟨r1, r2⟩ := playG_sz l n [] 0 0 h (by omega)
  exact ⟨r1.le (by omega), by simpa using r2⟩
theorem szn_small {n : Nod} (h : greatN n = false) : Szn n 0 := by
 obtain ⟨s1, s2, s3, s4⟩ := small_of h
 exact ⟨by omega, by omega, by omega, by omega⟩
theorem nodeHandle_ok (n : Nod) (e : Evt) : FnOK Tryz.prog 5 [.agg n.cells, .agg e.cells] (.bool true, none) := by
 have c0 := greatN_ok n
 cases hg : greatN n
 ·rw [hg] at c0
  have hz := szn_small hg
  have c1 := nHandle_ok n e (hz.le (by omega))
  have c2 := rHandle_ok n e (by have := hz.1; omega) (by have := hz.2.1; omega) (by have := hz.2.2.2; omega)
  obtain ⟨s1, s2⟩ := hand_sz hz e
  generalize handM n e = z at *
  obtain ⟨z1, z2, z3⟩ := z
  simp only at s1 s2
  refine fn_ok CF rfl (by kernel_rfl) Tryz.func5 rfl ?_
  refine Sat.go (Eq.refl _) (NS.call (c0) rfl ?_)
  refine Sat.go (Eq.refl _) (NS.no (rfl) ?_)
  refine Sat.go (Eq.refl _) (NS.call (greatE_ok e) rfl ?_)
  refine Sat.go (Eq.refl _) (NS.ite (fun g1 => ?_) (fun g1 => ?_))
  ·refine Sat.go (Eq.refl _) (NS.call (awakeN_ok) rfl ?_)
   exact Sat.go (Eq.refl _) (NS.ret rfl rfl (LeA.refl _))
  refine Sat.go (Eq.refl _) (NS.call (c1) rfl ?_)
  refine Sat.go (Eq.refl _) (NS.call (c2) rfl ?_)
  refine Sat.go (Eq.refl _) (NS.call (rSameN_ok z1 (by have := s1.1; omega) (by have := s1.2.1; omega) (by have := s1.2.2.2; omega)) rfl ?_)
  refine Sat.go (Eq.refl _) (NS.yes (rfl) ?_)
  refine Sat.go (Eq.refl _) (NS.call (sameA_ok z2 z2 (by omega)) rfl ?_)
  refine Sat.go (Eq.refl _) (NS.yes (sameA_refl z2) ?_)
  refine Sat.go (Eq.refl _) (NS.yes (by simp) ?_)
  refine Sat.go (Eq.refl _) (NS.call (awakeN_ok) rfl ?_)
  exact Sat.go (Eq.refl _) (NS.ret rfl rfl (LeA.refl _))
 ·rw [hg] at c0
  refine fn_ok CF rfl (by kernel_rfl) Tryz.func5 rfl ?_
  refine Sat.go (Eq.refl _) (NS.call (c0) rfl ?_)
  refine Sat.go (Eq.refl _) (NS.yes (rfl) ?_)
  refine Sat.go (Eq.refl _) (NS.call (awakeN_ok) rfl ?_)
  exact Sat.go (Eq.refl _) (NS.ret rfl rfl (LeA.refl _))
theorem nodePlay_ok (n : Nod) (l : List Evt) : FnOK Tryz.prog 4 [.agg n.cells, slEvt l] (.bool true, none) := by
 have c0 := greatN_ok n
 cases hg : greatN n
 ·rw [hg] at c0
  have hz := szn_small hg
  by_cases hl : l.length ≤ 20
  ·have c1 := play_ok n l (hz.le (by omega)) (by omega)
   have c2 := rPlay_ok n l (hz.le (by omega)) (by omega)
   obtain ⟨s1, s2⟩ := play_sz hz (l := l) (by omega)
   generalize playM n l = z at *
   obtain ⟨z1, z2, z3, z4⟩ := z
   simp only at s1 s2
   refine fn_ok CF rfl (by kernel_rfl) Tryz.func4 rfl ?_
   refine Sat.go (Eq.refl _) (NS.call (c0) rfl ?_)
   refine Sat.go (Eq.refl _) (NS.no (rfl) ?_)
   refine Sat.go (Eq.refl _) (NS.no (decide_eq_false (by show ¬ (l.length : Int) > 20; omega)) ?_)
   refine Sat.go (Eq.refl _) (NS.call (contE_ok l (by omega)) rfl ?_)
   refine Sat.go (Eq.refl _) (NS.ite (fun g1 => ?_) (fun g1 => ?_))
   ·refine Sat.go (Eq.refl _) (NS.call (awakeN_ok) rfl ?_)
    exact Sat.go (Eq.refl _) (NS.ret rfl rfl (LeA.refl _))
   refine Sat.go (Eq.refl _) (NS.call (c1) rfl ?_)
   refine Sat.go (Eq.refl _) (NS.call (c2) rfl ?_)
   refine Sat.go (Eq.refl _) (NS.call (rSameN_ok z1 (by have := s1.1; omega) (by have := s1.2.1; omega) (by have := s1.2.2.2; omega)) rfl ?_)
   refine Sat.go (Eq.refl _) (NS.yes (rfl) ?_)
   refine Sat.go (Eq.refl _) (NS.call (sameA_ok z2 z2 (by omega)) rfl ?_)
   refine Sat.go (Eq.refl _) (NS.yes (sameA_refl z2) ?_)
   refine Sat.go (Eq.refl _) (NS.yes (by simp) ?_)
   refine Sat.go (Eq.refl _) (NS.yes (by simp) ?_)
   refine Sat.go (Eq.refl _) (NS.call (awakeN_ok) rfl ?_)
   exact Sat.go (Eq.refl _) (NS.ret rfl rfl (LeA.refl _))
  ·refine fn_ok CF rfl (by kernel_rfl) Tryz.func4 rfl ?_
   refine Sat.go (Eq.refl _) (NS.call (c0) rfl ?_)
   refine Sat.go (Eq.refl _) (NS.no (rfl) ?_)
   refine Sat.go (Eq.refl _) (NS.yes (decide_eq_true (by show (l.length : Int) > 20; omega)) ?_)
   refine Sat.go (Eq.refl _) (NS.call (awakeN_ok) rfl ?_)
   exact Sat.go (Eq.refl _) (NS.ret rfl rfl (LeA.refl _))
 ·rw [hg] at c0
  refine fn_ok CF rfl (by kernel_rfl) Tryz.func4 rfl ?_
  refine Sat.go (Eq.refl _) (NS.call (c0) rfl ?_)
  refine Sat.go (Eq.refl _) (NS.yes (rfl) ?_)
  refine Sat.go (Eq.refl _) (NS.call (awakeN_ok) rfl ?_)
  exact Sat.go (Eq.refl _) (NS.ret rfl rfl (LeA.refl _))
end Go.Proofs.YtggjngbighkdgaaGreat

