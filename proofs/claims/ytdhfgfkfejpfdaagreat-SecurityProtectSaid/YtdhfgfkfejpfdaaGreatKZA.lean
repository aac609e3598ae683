/- The reference's blocks and signatures. -/
import Derived.Test.YtdhfgfkfejpfdaaGreatKH
set_option linter.unusedSimpArgs false
set_option linter.unusedSectionVars false
set_option linter.unusedVariables false
namespace Go.Mb
open Go.Sy
set_option linter.unusedVariables false
def nodeL (l : List Nat) (k : Nat) : Nat := l.getD (9 * k) 0
theorem byteS (s : ByteArray) (i : Nat) (h : (s.data.toList.getD i 0).toNat = 0 ∨ True) : IntKind.i64.wrap (((s.data.toList.getD i 0).toNat : Nat) : Int) = (((ls s).getD i 0 : Nat) : Int) := by
  rw [ls_get]
  have : (ls s).getD i 0 < 256 := by
    rw [← ls_get]; exact (s.data.toList.getD i 0).toNat_lt
  exact wrap_i64 (by omega) (by omega)
theorem nine {k : Nat} (h : k ≤ 1000000) : IntKind.i64.wrap (((9 * k : Nat) : Int) + 9) = ((9 * (k + 1) : Nat) : Int) := by rw [wrap_i64 (by omega) (by omega)]; omega
theorem auth9 {b : Bun} (h : Okb b) : (authD b).size % 9 = 0 ∧ (authD b).size = 9 * (sgB b).length ∧ enS (sgB b) = ls (authD b) := by
  cases hb : (fndB b.l 4).2 with
  | true =>
    have e := (h.enc hb).1
    have hl := congrArg List.length e
    rw [enS_len h.good.tags, ls_len] at hl
    exact ⟨by omega, hl.symm, e⟩
  | false =>
    have e : authD b = .empty := by unfold authD; rw [(fndB_none hb).1]; rfl
    have e2 := sgB_none hb
    rw [e, e2]; exact ⟨rfl, rfl, rfl⟩
end Go.Mb
namespace Go.Proofs.YtdhfgfkfejpfdaaGreat
open Go.Sy Go.Mb
set_option maxRecDepth 100000
set_option linter.unusedVariables false
set_option maxHeartbeats 4000000

theorem rFind_ok (l : List Blk) (hl : l.length ≤ 1000000) (k : Int) : FnOK Tryz.prog 41 [slBlk l, .int .i64 k] (fndA (fndB l k), none) := by
  rw [fndB_idx]
  refine fn_ok CN rfl (by kernel_rfl) Tryz.func41 rfl ?_
  refine Sat.go (Eq.refl _) ?_
  refine NS.loop (σ := { i : Nat // i ≤ l.length ∧ ∀ q, q < i → ((l.getD q default).kind == k) = false }) (fun i => [(0, slBlk l), (1, .int .i64 k), (4, .ptr 4 0), (6, .int .i64 i.1)]) (fun _ => [(4, .box [.int .i64 0, .int .i64 0, .str .empty])]) (fun i => l.length - i.1) ⟨0, Nat.zero_le _, fun i hi => by omega⟩ ?_ ?_
  · exact weak_hd [] rfl ⟨rfl, rfl, rfl, rfl, trivial⟩ ⟨⟨_, rfl, _, _, rfl, rfl, _, _, rfl, rfl, _, _, rfl, rfl, rfl⟩, trivial⟩ trivial (by kernel_rfl)
  rintro ⟨i, hi, hn⟩
  refine Sat.go (Eq.refl _) (NS.ite (fun a => ?_) (fun a => ?_))
  · have a : i < l.length := by simpa using a
    refine Sat.go (Eq.refl _) (NS.need (by simp; omega) ?_)
    refine Sat.go (Eq.refl _) (NS.ite (fun c => ?_) (fun c => ?_))
    · have e := idx_found (p := fun x : Blk => x.kind == k) (k := i) a c hn
      refine Sat.go (Eq.refl _) (NS.need (by simp; omega) ?_)
      refine Sat.go (Eq.refl _) (NS.leaveOut rfl (Eq.refl _) (NS.ret rfl rfl (?_)))
      rw [e, if_neg (by omega)]
      exact LeA.refl _
    · refine Sat.go (Eq.refl _) (NS.next ⟨i + 1, by omega, fun q hq => ?_⟩ (by show l.length - (i + 1) < l.length - i; omega) ?_)
      · by_cases hqi : q = i
        · subst hqi; exact c
        · exact hn q (by omega)
      · exact weak_hd [] rfl ⟨rfl, rfl, rfl, ren_int rfl (i64_k (by omega) (by omega)), trivial⟩ ⟨⟨_, rfl, _, _, rfl, rfl, _, _, rfl, rfl, _, _, rfl, rfl, rfl⟩, trivial⟩ trivial (by kernel_rfl)
  · have a : ¬ i < l.length := by simpa using a
    have e := idx_none (p := fun x : Blk => x.kind == k) (l := l) fun q hq => hn q (by omega)
    refine Sat.go (Eq.refl _) (NS.leave rfl (Eq.refl _) ?_)
    rw [e, if_pos (by decide)]
    exact Sat.go (Eq.refl _) (NS.ret rfl rfl (LeA.refl _))
theorem rRemoveO_ok (l : List Blk) (hl : l.length ≤ 1000) (k : Int) : FnOK Tryz.prog 44 [slBlk l, .int .i64 k] (.own 0, some (.row 41 3 (remB l k).length (rowL Blk.cells (remB l k)))) := by
  refine fn_ok CN rfl (by kernel_rfl) Tryz.func44 rfl ?_
  refine Sat.go (Eq.refl _) ?_
  refine NS.loop (σ := { i : Nat // i ≤ l.length }) (fun i => [(0, slBlk l), (1, .int .i64 k), (5, .own 7), (6, .int .i64 i.1)]) (fun i => [(7, .row 41 3 (remB (l.take i.1) k).length (rowL Blk.cells (remB (l.take i.1) k)))]) (fun i => l.length - i.1) ⟨0, Nat.zero_le _⟩ ?_ ?_
  · exact weak_hd [] rfl ⟨rfl, rfl, rfl, rfl, trivial⟩ ⟨ren_row rfl rfl fun i hi j hj => absurd hi (Nat.not_lt_zero _), trivial⟩ trivial (by kernel_rfl)
  rintro ⟨i, hi⟩
  have hi : i ≤ l.length := hi
  have hlen : (remB (l.take i) k).length ≤ 1000 := Nat.le_trans (List.length_filter_le _ _) (by simp; omega)
  refine Sat.go (Eq.refl _) (NS.ite (fun a => ?_) (fun a => ?_))
  · have a : i < l.length := by simpa using a
    have e : remB (l.take (i + 1)) k = remB (l.take i) k ++ (if ((l.getD i default).kind != k) = true then [l.getD i default] else []) := filter_snoc (p := fun x : Blk => x.kind != k) a
    refine Sat.go (Eq.refl _) (NS.need (by simp; omega) ?_)
    refine Sat.go (Eq.refl _) (NS.ite (fun b => ?_) (fun b => ?_))
    · have b : ((l.getD i default).kind != k) = true := b
      rw [if_pos b] at e
      refine Sat.go (Eq.refl _) (NS.need (by simp; omega) ?_)
      refine Sat.go (Eq.refl _) (NS.need (decide_eq_true (by simp only [maxRow]; show ((remB (l.take i) k).length + 1) * (31 + 1 + 1) ≤ _; omega)) ?_)
      refine Sat.go (Eq.refl _) (NS.next ⟨i + 1, by omega⟩ (by show l.length - (i + 1) < l.length - i; omega) ?_)
      refine weak_hd [(7, 27)] rfl ⟨rfl, rfl, rfl, ren_int rfl (i64_k (k := i) (n := l.length) a (by omega)), trivial⟩ ⟨?_, trivial⟩ trivial (by kernel_rfl)
      simp only [e]
      exact ren_row rfl (by rw [List.length_append]; rfl) (fun q hq j hj => row_snoc (cells := Blk.cells) (l := remB (l.take i) k) (x := l.getD i default) rfl q (by rw [List.length_append] at hq; exact hq) j hj)
    · have b : ((l.getD i default).kind != k) = false := b
      rw [if_neg (by rw [b]; simp), List.append_nil] at e
      refine Sat.go (Eq.refl _) (NS.next ⟨i + 1, by omega⟩ (by show l.length - (i + 1) < l.length - i; omega) ?_)
      refine weak_hd [] rfl ⟨rfl, rfl, rfl, ren_int rfl (i64_k (k := i) (n := l.length) a (by omega)), trivial⟩ ⟨?_, trivial⟩ trivial (by kernel_rfl)
      simp only [e]
      exact ren_row rfl rfl fun _ _ _ _ => rfl
  have a : i = l.length := by have a : ¬ i < l.length := by simpa using a
                              omega
  subst a
  have e : remB (l.take l.length) k = remB l k := by rw [List.take_length]
  refine Sat.go (Eq.refl _) (NS.leave rfl (Eq.refl _) ?_)
  refine Sat.go (Eq.refl _) (NS.retRow 7 rfl rfl (LeA.refl _) ⟨rfl, rfl, congrArg List.length e, fun i hi j hj => by rw [← e]⟩ fun _ _ _ _ => flatBlk _ _ _)
theorem rRemove_ok (l : List Blk) (hl : l.length ≤ 1000) (k : Int) : FnOK Tryz.prog 44 [slBlk l, .int .i64 k] (slBlk (remB l k), none) := (rRemoveO_ok l hl k).frz
theorem rCheckAll_ok (l : List Blk) (h : GoodL l) : FnOK Tryz.prog 64 [slBlk l] (.int .i64 0, none) := by
  have hn := h.1
  refine fn_ok CN rfl (by kernel_rfl) Tryz.func64 rfl ?_
  refine Sat.go (Eq.refl _) (NS.no (decide_eq_false (by omega)) ?_)
  refine Sat.go (Eq.refl _) ?_
  refine NS.loop (σ := { k : Nat // k ≤ l.length }) (fun k => [(0, slBlk l), (3, .int .i64 k.1)]) (fun k => []) (fun k => l.length - k.1) ⟨0, Nat.zero_le _⟩ ?_ ?_
  · exact weak_hd [] rfl ⟨rfl, rfl, trivial⟩ trivial trivial (by kernel_rfl)
  rintro ⟨k, hk⟩
  have hk : k ≤ l.length := hk
  refine Sat.go (Eq.refl _) (NS.ite (fun a => ?_) (fun a => ?_))
  · have a : k < l.length := by simpa using a
    have hx : l.getD k default ∈ l := by rw [getD_lt a]; exact List.getElem_mem a
    have c := rK_ok (l.getD k default)
    rw [h.2.1 _ hx] at c
    refine Sat.go (Eq.refl _) (NS.need (by simp; omega) ?_)
    refine Sat.go (Eq.refl _) (NS.call (c) rfl ?_)
    refine Sat.go (Eq.refl _) (NS.no (rfl) ?_)
    refine Sat.go (Eq.refl _) (NS.chk (by kernel_rfl) ?_)
    refine Sat.go (Eq.refl _) (NS.ite (fun b => ?_) (fun b => ?_))
    · have b : 0 < k := by have b : decide ((k : Int) > 0) = true := b; have := of_decide_eq_true b; omega
      obtain ⟨q, rfl⟩ : ∃ q, k = q + 1 := ⟨k - 1, by omega⟩
      have hq : IntKind.i64.wrap (((q + 1 : Nat) : Int) - 1) = (q : Int) := i64_s (n := 9) (by omega) (by omega)
      have hlt : (l.getD q default).kind < (l.getD (q + 1) default).kind := by
        rw [getD_lt (by omega : q < l.length), getD_lt a]
        exact List.pairwise_iff_getElem.1 h.2.2 q (q + 1) (by omega) a (by omega)
      refine Sat.go (Eq.refl _) (NS.need (by simp; omega) ?_)
      refine Sat.go (Eq.refl _) (NS.need (by rw [hq]; exact decide_eq_true (by omega)) ?_)
      refine Sat.go (Eq.refl _) (NS.no (by rw [hq]; show decide ((l.getD (q + 1) default).kind ≤ (l.getD q default).kind) = false; exact decide_eq_false (by omega)) ?_)
      refine Sat.go (Eq.refl _) (NS.next ⟨q + 1 + 1, by omega⟩ (by show l.length - (q + 1 + 1) < l.length - (q + 1); omega) ?_)
      exact weak_hd [] rfl ⟨rfl, ren_int rfl (i64_k (by omega) (by omega)), trivial⟩ trivial trivial (by kernel_rfl)
    · refine Sat.go (Eq.refl _) (NS.next ⟨k + 1, by omega⟩ (by show l.length - (k + 1) < l.length - k; omega) ?_)
      exact weak_hd [] rfl ⟨rfl, ren_int rfl (i64_k (by omega) (by omega)), trivial⟩ trivial trivial (by kernel_rfl)
  refine Sat.go (Eq.refl _) (NS.leave rfl (Eq.refl _) ?_)
  exact Sat.go (Eq.refl _) (NS.ret rfl rfl (LeA.refl _))
end Go.Proofs.YtdhfgfkfejpfdaaGreat
