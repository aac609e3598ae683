/- The tag of a list of strings. -/
import Derived.Test.YtdhfgfkfejpfdaaGreatKT
import Derived.Test.YtdhfgfkfejpfdaaGreatKU
set_option linter.unusedSimpArgs false
set_option linter.unusedSectionVars false
set_option linter.unusedVariables false
namespace Go.Mb
open Go.Sy
def chnL (l : List ByteArray) : List Nat := l.flatMap fun s => bytesN s.size 8 ++ ls s
def sC (s : ByteArray) : List A := [.str s]
theorem chnL_msg (n : Nat) (t : List Nat) (hn : n < 256) (ht : ∀ x ∈ t, x < 256) : chnL [bs [n], bs t] = msgL n t := by
  unfold chnL msgL
  simp only [List.flatMap_cons, List.flatMap_nil, List.append_nil, bs_len, ls_bs ht]
  rw [ls_bs (l := [n]) (by simpa using hn), List.append_assoc, List.append_assoc, List.append_assoc]; rfl
theorem bytesN_lt' (m : Nat) : ∀ (k : Nat), ∀ x ∈ bytesN m k, x < 256
  | 0, x, h => by cases h
  | k + 1, x, h => by
    rw [bytesN] at h
    rcases List.mem_append.1 h with h | h
    · exact bytesN_lt' m k x h
    · rw [List.mem_singleton.1 h]; omega
end Go.Mb
namespace Go.Proofs.YtdhfgfkfejpfdaaGreat
open Go.Sy Go.Mb
set_option maxRecDepth 100000
set_option linter.unusedVariables false
set_option maxHeartbeats 4000000

theorem sumE_ok (key : ByteArray) (h : ((key.size : Int) != 16) = true) : FnOK Tryz.prog 28 [.str key, .str .empty] (.tup [.str .empty, .int .i64 1], none) := by
  refine fn_ok CN rfl (by kernel_rfl) Tryz.func28 rfl ?_
  refine Sat.go (Eq.refl _) (NS.yes (h) ?_)
  exact Sat.go (Eq.refl _) (NS.ret rfl rfl (LeA.refl _))
theorem sumK_ok (key s : ByteArray) (h : key.size = 16) (hs : s.size ≤ 65536) : FnOK Tryz.prog 28 [.str key, .str s] (.tup [.str (tagM key s), .int .i64 0], none) := by
  refine fn_ok CN rfl (by kernel_rfl) Tryz.func28 rfl ?_
  refine Sat.go (Eq.refl _) (NS.no (by rw [h]; rfl) ?_)
  refine Sat.go (Eq.refl _) (NS.no (decide_eq_false (by omega)) ?_)
  refine Sat.go (Eq.refl _) (NS.call (tag_ok key s h (by omega)) rfl ?_)
  exact Sat.go (Eq.refl _) (NS.ret rfl rfl (LeA.refl _))
noncomputable def CCh : Cx := { E := EN, inl := [55], ok := EN_ok }
theorem chain_ok (key : ByteArray) (l : List ByteArray) (h : key.size = 16) (hl : (chnL l).length ≤ 65536) (hn : l.length ≤ 1000) : FnOK Tryz.prog 30 [.str key, .sl 1 l.length (rowL sC l)] (.tup [.str (bs (tagL (ls key) (chnL l))), .int .i64 0], none) := by
  refine fn_ok CCh rfl (by kernel_rfl) Tryz.func30 rfl ?_
  refine Sat.go (Eq.refl _) (NS.no (by rw [h]; rfl) ?_)
  refine Sat.go (Eq.refl _) ?_
  refine NS.loop (σ := { k : Nat // k ≤ l.length }) (fun k => [(0, .str key), (6, .own 6), (12, .sl 1 l.length (rowL sC l)), (13, .int .i64 l.length), (14, .int .i64 k.1)]) (fun k => [(6, .row 5 1 (chnL (l.take k.1)).length (rowL bC (chnL (l.take k.1))))]) (fun k => l.length - k.1) ⟨0, Nat.zero_le _⟩ ?_ ?_
  · refine (weak_promote 6 6 5 1 (rowL bC []) rfl rfl).trans ?_
    exact weak_hd [] rfl ⟨rfl, rfl, rfl, rfl, rfl, trivial⟩ ⟨ren_row rfl rfl fun _ _ _ _ => rfl, trivial⟩ trivial (by kernel_rfl)
  rintro ⟨k, hk⟩
  have hk : k ≤ l.length := hk
  refine Sat.go (Eq.refl _) (NS.ite (fun a => ?_) (fun a => ?_))
  · have a : k < l.length := by simpa using a
    have e : chnL (l.take (k + 1)) = chnL (l.take k) ++ bytesN (l.getD k default).size 8 ++ ls (l.getD k default) := by
      rw [take_snoc a]; unfold chnL; simp
    have hle : (chnL (l.take (k + 1))).length ≤ 65536 := by
      refine Nat.le_trans ?_ hl
      have : chnL l = chnL (l.take (k + 1)) ++ chnL (l.drop (k + 1)) := by unfold chnL; rw [← List.flatMap_append, List.take_append_drop]
      rw [this, List.length_append]; omega
    have hle2 := hle
    rw [e, List.length_append, List.length_append, bytesN_len, ls_len] at hle2
    have hw : IntKind.i64.wrap (IntKind.i64.wrap (((chnL (l.take k)).length : Int) + 8) + ((l.getD k default).size : Int)) = (((chnL (l.take k)).length + 8 + (l.getD k default).size : Nat) : Int) := by
      rw [wrap_i64 (n := ((chnL (l.take k)).length : Int) + 8) (by omega) (by omega), wrap_i64 (by omega) (by omega)]; omega
    refine Sat.go (Eq.refl _) (NS.need (by simp; omega) ?_)
    refine Sat.go (Eq.refl _) (NS.no (by show decide (((l.getD k default).size : Int) > 65536) = false; exact decide_eq_false (by omega)) ?_)
    refine Sat.go (Eq.refl _) (NS.no (by show decide (IntKind.i64.wrap (IntKind.i64.wrap (((chnL (l.take k)).length : Int) + 8) + ((l.getD k default).size : Int)) > 65536) = false; rw [hw]; exact decide_eq_false (by omega)) ?_)
    obtain ⟨m, hm⟩ : ∃ m, (l.getD k default).size = m := ⟨_, rfl⟩
    have hsz : IntKind.u64.wrap ((l.getD k default).size : Int) = (m : Int) := by rw [hm]; exact u64v (by omega)
    have hbn : ∀ j, (bytesN m j).length = j := bytesN_len m
    refine Sat.go (Eq.refl _) ?_
    refine NS.loop (σ := { j : Nat // j ≤ 8 }) (fun j => [(0, .own 43), (1, .int .u64 m), (6, .int .i64 j.1)]) (fun j => [(6, .dead), (43, .row 5 1 (chnL (l.take k) ++ bytesN m j.1).length (rowL bC (chnL (l.take k) ++ bytesN m j.1)))]) (fun j => 8 - j.1) ⟨0, by omega⟩ ?_ ?_
    · refine (weak_move 0 6 43 rfl rfl rfl).trans ?_
      exact weak_hd [] rfl ⟨rfl, ren_int rfl hsz, rfl, trivial⟩ ⟨rfl, ren_row rfl (by show (chnL (l.take k)).length = (chnL (l.take k) ++ []).length; rw [List.append_nil]) (fun i hi j hj => by show rowL bC (chnL (l.take k)) i j = rowL bC (chnL (l.take k) ++ []) i j; rw [List.append_nil]), trivial⟩ (by repeat' (first | exact trivial | refine ⟨.inr rfl, ?_⟩ | refine ⟨.inl rfl, ?_⟩)) (by kernel_rfl)
    rintro ⟨j, hj⟩
    have hj : j ≤ 8 := hj
    have hj2 := hbn j
    refine Sat.go (Eq.refl _) (NS.ite (fun b => ?_) (fun b => ?_))
    · have b : j < 8 := by have b : decide ((j : Int) < 8) = true := b; have := of_decide_eq_true b; omega
      refine Sat.go (Eq.refl _) (NS.need (by show decide (0 ≤ IntKind.i64.wrap (8 * (j : Int))) = true; rw [wrap_i64 (by omega) (by omega)]; exact decide_eq_true (by omega)) ?_)
      refine Sat.go (Eq.refl _) (NS.need (decide_eq_true (by simp only [maxRow]; show ((chnL (l.take k) ++ bytesN m j).length + 1) * (0 + 1 + 1) ≤ _; rw [List.length_append, hj2]; omega)) ?_)
      refine Sat.go (Eq.refl _) (NS.next ⟨j + 1, by omega⟩ (by show 8 - (j + 1) < 8 - j; omega) ?_)
      refine weak_hd [(43, 58)] rfl ⟨rfl, rfl, ren_int rfl (i64_k (k := j) (n := 8) b (by omega)), trivial⟩ ⟨rfl, ?_, trivial⟩ (by repeat' (first | exact trivial | refine ⟨.inr rfl, ?_⟩ | refine ⟨.inl rfl, ?_⟩)) (by kernel_rfl)
      refine ren_row rfl ?_ fun i hi q hq => ?_
      · show (chnL (l.take k) ++ bytesN m j).length + 1 = (chnL (l.take k) ++ bytesN m (j + 1)).length
        rw [List.length_append, List.length_append, hbn, hbn]; omega
      · have hi : i < (chnL (l.take k) ++ bytesN m (j + 1)).length := hi
        rw [List.length_append, hbn] at hi
        show _ = rowL bC (chnL (l.take k) ++ bytesN m (j + 1)) i q
        rw [show bytesN m (j + 1) = bytesN m j ++ [m / 2 ^ (8 * j) % 256] from rfl, ← List.append_assoc]
        exact row_snoc (cells := bC) (l := chnL (l.take k) ++ bytesN m j) (x := m / 2 ^ (8 * j) % 256) (congrArg (fun y => [A.int .u8 y]) (byteStep (by omega) b)) i (by rw [List.length_append, hbn]; omega) q hq
    have b : j = 8 := by have b : decide ((j : Int) < 8) = false := b; have := of_decide_eq_false b; omega
    subst b
    refine Sat.go (Eq.refl _) (NS.leave rfl (Eq.refl _) ?_)
    refine Sat.go (Eq.refl _) (NS.need (decide_eq_true (by simp only [maxRow]; show ((chnL (l.take k) ++ bytesN m 8).length + (l.getD k default).size) * (0 + 1 + 1) ≤ _; rw [List.length_append, hj2]; omega)) ?_)
    refine Sat.go (Eq.refl _) (NS.next ⟨k + 1, by omega⟩ (by show l.length - (k + 1) < l.length - k; omega) ?_)
    refine weak_hd [(6, 36)] rfl ⟨rfl, rfl, rfl, rfl, ren_int rfl (i64_k (k := k) (n := l.length) a (by omega)), trivial⟩ ⟨?_, trivial⟩ trivial (by kernel_rfl)
    rw [hm] at e
    refine ren_row rfl ?_ fun i hi q hq => ?_
    · show (chnL (l.take k) ++ bytesN m 8).length + (l.getD k default).size = (chnL (l.take (k + 1))).length
      rw [e, List.length_append (bs := ls _), ls_len]
    · show (if i < (chnL (l.take k) ++ bytesN m 8).length then rowL bC (chnL (l.take k) ++ bytesN m 8) i q else strEl (l.getD k default) (i - (chnL (l.take k) ++ bytesN m 8).length) q) = rowL bC (chnL (l.take (k + 1))) i q
      rw [strEl_row _ _ q hq, rowL_append, e]
  have a : k = l.length := by have a : ¬ k < l.length := by simpa using a
                              omega
  subst a
  refine Sat.go (Eq.refl _) (NS.leave rfl (Eq.refl _) ?_)
  have hb := bytesOf_row (chnL (l.take l.length))
  refine Sat.go (Eq.refl _) (NS.need (allN_row fun i hi => rfl) ?_)
  rw [hb]
  have hls : ls (bs (chnL l)) = chnL l := ls_bs fun x hx => by
    unfold chnL at hx
    rw [List.mem_flatMap] at hx
    obtain ⟨s, _, hx⟩ := hx
    rcases List.mem_append.1 hx with hx | hx
    · exact bytesN_lt' _ 8 x hx
    · exact ls_lt s x hx
  have c := tag_ok key (bs (chnL l)) h (by rw [bs_len]; omega)
  unfold tagM at c
  rw [hls] at c
  refine Sat.go (Eq.refl _) (NS.call ((c.le (LeL.cons (LeA.refl _) (LeL.cons (LeA.of (show A.str (bs (chnL (l.take l.length))) = A.str (bs (chnL l)) by rw [List.take_length])) LeL.nil)))) rfl ?_)
  exact Sat.go (Eq.refl _) (NS.ret rfl rfl (LeA.refl _))
end Go.Proofs.YtdhfgfkfejpfdaaGreat
