/- The law of the bytes of batches. -/
import Derived.Test.YtbpdbibnfmdpoaaGN
import Derived.Test.YtbpdbibnfmdpoaaGTN
import Derived.Test.YtbpdbibnfmdpoaaIF
set_option linter.unusedSimpArgs false
set_option linter.unusedSectionVars false
set_option linter.unusedVariables false
namespace Go.Proofs.Ytbpdbibnfmdpoaa
open Go.Sy Go.Mb
set_option maxRecDepth 100000
set_option linter.unusedVariables false
set_option maxHeartbeats 4000000

theorem spn_cs {x : Spn} {a b : Int} (h1 : a = x.lo) (h2 : b = x.hi) : [A.int .i64 a, A.int .i64 b] = x.cells := by rw [h1, h2]; rfl
theorem segmentBytes_ok (a b : Int) (d : ByteArray) (m : List Spn) : FnOK Try.prog 9 [.int .i64 a, .int .i64 b, .str d, slS m] (.bool true, none) := by
  refine fn_ok CN rfl (by kernel_rfl) Try.func9 rfl ?_
  refine Sat.go (Eq.refl _) (NS.ite (fun h0 => ?_) (fun h0 => ?_))
  · refine Sat.go (Eq.refl _) (NS.call (awake_ok) rfl ?_)
    exact Sat.go (Eq.refl _) (NS.ret rfl rfl (LeA.of (congrArg A.bool (rfl))))
  have h0 : d.size ≤ 300 := by have h0 : ¬ (d.size : Int) > 300 := of_decide_eq_false h0
                               omega
  refine Sat.go (Eq.refl _) (NS.ite (fun h1 => ?_) (fun h1 => ?_))
  · refine Sat.go (Eq.refl _) (NS.call (awake_ok) rfl ?_)
    exact Sat.go (Eq.refl _) (NS.ret rfl rfl (LeA.of (congrArg A.bool (rfl))))
  have h1 : m.length ≤ 40 := by have h1 : ¬ (m.length : Int) > 40 := of_decide_eq_false h1
                                omega
  have cb := batch_ok a b d m
  by_cases he : batE a b d m = 0
  · obtain ⟨e1, e2, e3, e4, e5, e6⟩ := batE_zero he
    obtain ⟨hnorm, hpk⟩ := norm_pcs e5 (by omega) (by omega)
    rw [bat_ok he] at cb
    have hbl := batL_len a b d m
    have hget := fun i => bat_get (a := a) (b := b) (d := d) (m := m) (i := i)
    have hcl := batL_claims a b d m
    have hlen := pk_len (by omega) hpk
    have hin := (inside_all e5).1
    have cn := normal_ok (pcsL m)
    rw [hnorm] at cn
    have hmem := pk_mem hpk
    generalize hL : batL a b d m = L at *
    generalize pcsL m = P at *
    refine Sat.go (Eq.refl _) (NS.call (cb) rfl ?_)
    refine Sat.go (Eq.refl _) (NS.no (rfl) ?_)
    refine Sat.go (Eq.refl _) ?_
    refine NS.loop (σ := { x : Nat × Int // x.1 ≤ P.length ∧ PcOK d.size x.2 (x.1 == 0) (P.drop x.1) }) (fun x => [(0, .int .i64 a), (1, .int .i64 b), (2, .str d), (3, slS m), (9, slB L), (11, .own 11), (12, .int .i64 x.1.2), (44, slB L), (45, .int .i64 P.length), (46, .int .i64 x.1.1)]) (fun x => [(11, .row 49 2 x.1.1 (rowL Spn.cells (P.take x.1.1)))]) (fun x => P.length - x.1.1) ⟨(0, 0), Nat.zero_le _, hpk⟩ ?_ ?_
    · refine (weak_promote 11 11 49 2 (rowL Spn.cells []) rfl rfl).trans ?_
      exact weak_hd [] rfl ⟨rfl, rfl, rfl, rfl, rfl, rfl, rfl, rfl, ren_int rfl (by rw [hbl]), rfl, trivial⟩ ⟨ren_row rfl rfl fun i hi j hj => rfl, trivial⟩ trivial (by kernel_rfl)
    rintro ⟨⟨k, at_⟩, hk, hP⟩
    have hP : PcOK d.size at_ (k == 0) (P.drop k) := hP
    refine Sat.go (Eq.refl _) (NS.ite (fun h => ?_) (fun h => ?_))
    · have h : k < P.length := by have h : (k : Int) < P.length := of_decide_eq_true h
                                  omega
      rw [drop_cons h] at hP
      obtain ⟨p1, p2, p3, p4, p5, p6⟩ := hP
      have q1 := (hmem _ (show P.getD k default ∈ P by rw [getD_lt h]; exact List.getElem_mem _)).1
      have hg := hget k h
      have hsg := seg_good (a := a) (b := b) (d := d) (x := P.getD k default) e1 e2 e4 q1 p2 p3 p4
      have hsz : ((d.extract (P.getD k default).lo.toNat (P.getD k default).hi.toNat).size : Int) = (P.getD k default).hi - (P.getD k default).lo := by rw [ex_len (by omega)]; omega
      have s1 : (L.getD k default).claims = [] := memD (α := Seg) (p := fun s => s.claims = []) hcl (by omega)
      have s2 : chkG (L.getD k default) = 0 := by rw [hg]; split; exact hsg.2; exact hsg.1
      have s3 : (L.getD k default).ses = a := by rw [hg]; split <;> rfl
      have s4 : (L.getD k default).tot = d.size := by rw [hg]; split <;> rfl
      have s5 : (L.getD k default).off = (P.getD k default).lo := by rw [hg]; split <;> rfl
      have s6 : (L.getD k default).data = d.extract (P.getD k default).lo.toNat (P.getD k default).hi.toNat := by rw [hg]; split <;> rfl
      have s7 : (L.getD k default).chk = decide (k = P.length - 1) := by rw [hg]; split; rename_i e; rw [decide_eq_true e]; rfl; rename_i e; rw [decide_eq_false e]; rfl
      have s8 : k = P.length - 1 → (L.getD k default).ser = b := by intro e; rw [hg, if_pos e]; rfl
      have ck := gCheck_ok (L.getD k default)
      rw [s2] at ck
      refine Sat.go (Eq.refl _) (NS.need (by exact decide_eq_true ⟨Int.natCast_nonneg _, by show (k : Int) < L.length; omega⟩) ?_)
      refine Sat.go (Eq.refl _) (NS.chk (by kernel_rfl) ?_)
      refine Sat.go (Eq.refl _) (NS.call (ck.le (LeL.cons (cellsB_le s1) LeL.nil)) rfl ?_)
      have eend : IntKind.i64.wrap ((L.getD k default).off + ((L.getD k default).data.size : Int)) = (P.getD k default).hi := by rw [s5, s6, hsz, wrap_i64 (by omega) (by omega)]; omega
      have em1 : IntKind.i64.wrap ((P.getD k default).hi - 1) = (P.getD k default).hi - 1 := wrap_i64 (by omega) (by omega)
      have edv : (P.getD k default).lo.tdiv 16 = ((P.getD k default).hi - 1).tdiv 16 := by rw [Int.tdiv_eq_ediv_of_nonneg q1, Int.tdiv_eq_ediv_of_nonneg (by omega)]; exact p4
      have elen : IntKind.i64.wrap ((L.length : Int) - 1) = ((P.length - 1 : Nat) : Int) := by rw [wrap_i64 (by omega) (by omega)]; omega
      refine Sat.go (Eq.refl _) (NS.no (rfl) ?_)
      refine Sat.go (Eq.refl _) (NS.no (by show ((L.getD k default).ses != a) = false; rw [s3]; simp) ?_)
      refine Sat.go (Eq.refl _) (NS.no (by show ((L.getD k default).tot != (d.size : Int)) = false; rw [s4]; simp) ?_)
      refine Sat.go (Eq.refl _) (NS.no (decide_eq_false (by show ¬ (L.getD k default).off < at_; rw [s5]; omega)) ?_)
      refine Sat.go (Eq.refl _) (NS.no (decide_eq_false (by show ¬ IntKind.i64.wrap ((L.getD k default).off + ((L.getD k default).data.size : Int)) > (d.size : Int); rw [eend]; omega)) ?_)
      refine Sat.go (Eq.refl _) (NS.need (by exact decide_eq_true (by show 0 ≤ (L.getD k default).off ∧ (L.getD k default).off ≤ IntKind.i64.wrap ((L.getD k default).off + ((L.getD k default).data.size : Int)) ∧ IntKind.i64.wrap ((L.getD k default).off + ((L.getD k default).data.size : Int)) ≤ d.size; rw [eend, s5]; omega)) ?_)
      refine Sat.go (Eq.refl _) (NS.no (by show (!((L.getD k default).data.toList == (d.extract (L.getD k default).off.toNat (IntKind.i64.wrap ((L.getD k default).off + ((L.getD k default).data.size : Int))).toNat).toList)) = false; rw [eend, s5, s6]; simp) ?_)
      refine Sat.go (Eq.refl _) (NS.need (rfl) ?_)
      refine Sat.go (Eq.refl _) (NS.need (rfl) ?_)
      refine Sat.go (Eq.refl _) (NS.no (by show (IntKind.i64.wrap ((L.getD k default).off.tdiv 16) != IntKind.i64.wrap ((IntKind.i64.wrap (IntKind.i64.wrap ((L.getD k default).off + ((L.getD k default).data.size : Int)) - 1)).tdiv 16)) = false; rw [eend, em1, s5, edv]; simp) ?_)
      by_cases hlast : k = P.length - 1
      · have el : ((k : Int) == IntKind.i64.wrap ((L.length : Int) - 1)) = true := by rw [elen, beq_iff_eq, hlast]
        refine Sat.go (Eq.refl _) (NS.no (by show (!((L.getD k default).chk == ((k : Int) == IntKind.i64.wrap ((L.length : Int) - 1)))) = false; rw [el, s7, decide_eq_true hlast]; rfl) ?_)
        refine Sat.go (Eq.refl _) (NS.yes (el) ?_)
        refine Sat.go (Eq.refl _) (NS.no (by show ((L.getD k default).ser != b) = false; rw [s8 hlast]; simp) ?_)
        by_cases hk0 : k = 0
        · refine Sat.go (Eq.refl _) (NS.no (decide_eq_false (by show ¬ (k : Int) > 0; omega)) ?_)
          refine Sat.go (Eq.refl _) (NS.need (decide_eq_true (by show (k + 1) * _ ≤ _; simp only [maxRow]; omega)) ?_)
          refine Sat.go (Eq.refl _) (NS.next ⟨(k + 1, (P.getD k default).hi), by show k + 1 ≤ P.length; omega, by show PcOK d.size _ (k + 1 == 0) _; exact p6⟩ (by show P.length - (k + 1) < P.length - k; omega) ?_)
          refine weak_hd [(11, 143)] rfl ⟨rfl, rfl, rfl, rfl, rfl, rfl, ren_int rfl eend, rfl, rfl, ren_int rfl (i64_k (k := k) (n := P.length) h (by omega)), trivial⟩ ⟨ren_row rfl rfl ?_, trivial⟩ trivial (by kernel_rfl)
          have hr := row_snoc (cells := Spn.cells) (l := P.take k) (x := P.getD k default) (c := 2) (cs := [.int .i64 (L.getD k default).off, .int .i64 (IntKind.i64.wrap ((L.getD k default).off + ((L.getD k default).data.size : Int)))]) (spn_cs s5 eend)
          rw [← take_snoc h, List.length_take, show min k P.length = k by omega] at hr
          exact hr
        refine Sat.go (Eq.refl _) (NS.yes (decide_eq_true (by show (k : Int) > 0; omega)) ?_)
        by_cases hoa : (P.getD k default).lo = at_
        · have hm16 : (P.getD k default).lo % 16 = 0 := by rcases p5 hoa with f | f; simp at f; exact absurd f hk0; rw [hoa]; exact f
          refine Sat.go (Eq.refl _) (NS.yes (by show ((L.getD k default).off == at_) = true; rw [s5, beq_iff_eq]; exact hoa) ?_)
          refine Sat.go (Eq.refl _) (NS.need (rfl) ?_)
          refine Sat.go (Eq.refl _) (NS.no (by show ((L.getD k default).off.tmod 16 != 0) = false; rw [s5, Int.tmod_eq_emod_of_nonneg q1, hm16]; rfl) ?_)
          refine Sat.go (Eq.refl _) (NS.need (decide_eq_true (by show (k + 1) * _ ≤ _; simp only [maxRow]; omega)) ?_)
          refine Sat.go (Eq.refl _) (NS.next ⟨(k + 1, (P.getD k default).hi), by show k + 1 ≤ P.length; omega, by show PcOK d.size _ (k + 1 == 0) _; exact p6⟩ (by show P.length - (k + 1) < P.length - k; omega) ?_)
          refine weak_hd [(11, 143)] rfl ⟨rfl, rfl, rfl, rfl, rfl, rfl, ren_int rfl eend, rfl, rfl, ren_int rfl (i64_k (k := k) (n := P.length) h (by omega)), trivial⟩ ⟨ren_row rfl rfl ?_, trivial⟩ trivial (by kernel_rfl)
          have hr := row_snoc (cells := Spn.cells) (l := P.take k) (x := P.getD k default) (c := 2) (cs := [.int .i64 (L.getD k default).off, .int .i64 (IntKind.i64.wrap ((L.getD k default).off + ((L.getD k default).data.size : Int)))]) (spn_cs s5 eend)
          rw [← take_snoc h, List.length_take, show min k P.length = k by omega] at hr
          exact hr
        · refine Sat.go (Eq.refl _) (NS.no (by show ((L.getD k default).off == at_) = false; rw [s5, beq_eq_false_iff_ne]; exact hoa) ?_)
          refine Sat.go (Eq.refl _) (NS.need (decide_eq_true (by show (k + 1) * _ ≤ _; simp only [maxRow]; omega)) ?_)
          refine Sat.go (Eq.refl _) (NS.next ⟨(k + 1, (P.getD k default).hi), by show k + 1 ≤ P.length; omega, by show PcOK d.size _ (k + 1 == 0) _; exact p6⟩ (by show P.length - (k + 1) < P.length - k; omega) ?_)
          refine weak_hd [(11, 143)] rfl ⟨rfl, rfl, rfl, rfl, rfl, rfl, ren_int rfl eend, rfl, rfl, ren_int rfl (i64_k (k := k) (n := P.length) h (by omega)), trivial⟩ ⟨ren_row rfl rfl ?_, trivial⟩ trivial (by kernel_rfl)
          have hr := row_snoc (cells := Spn.cells) (l := P.take k) (x := P.getD k default) (c := 2) (cs := [.int .i64 (L.getD k default).off, .int .i64 (IntKind.i64.wrap ((L.getD k default).off + ((L.getD k default).data.size : Int)))]) (spn_cs s5 eend)
          rw [← take_snoc h, List.length_take, show min k P.length = k by omega] at hr
          exact hr
      · have el : ((k : Int) == IntKind.i64.wrap ((L.length : Int) - 1)) = false := by rw [elen, beq_eq_false_iff_ne]; omega
        refine Sat.go (Eq.refl _) (NS.no (by show (!((L.getD k default).chk == ((k : Int) == IntKind.i64.wrap ((L.length : Int) - 1)))) = false; rw [el, s7, decide_eq_false hlast]; rfl) ?_)
        refine Sat.go (Eq.refl _) (NS.no (el) ?_)
        by_cases hk0 : k = 0
        · refine Sat.go (Eq.refl _) (NS.no (decide_eq_false (by show ¬ (k : Int) > 0; omega)) ?_)
          refine Sat.go (Eq.refl _) (NS.need (decide_eq_true (by show (k + 1) * _ ≤ _; simp only [maxRow]; omega)) ?_)
          refine Sat.go (Eq.refl _) (NS.next ⟨(k + 1, (P.getD k default).hi), by show k + 1 ≤ P.length; omega, by show PcOK d.size _ (k + 1 == 0) _; exact p6⟩ (by show P.length - (k + 1) < P.length - k; omega) ?_)
          refine weak_hd [(11, 143)] rfl ⟨rfl, rfl, rfl, rfl, rfl, rfl, ren_int rfl eend, rfl, rfl, ren_int rfl (i64_k (k := k) (n := P.length) h (by omega)), trivial⟩ ⟨ren_row rfl rfl ?_, trivial⟩ trivial (by kernel_rfl)
          have hr := row_snoc (cells := Spn.cells) (l := P.take k) (x := P.getD k default) (c := 2) (cs := [.int .i64 (L.getD k default).off, .int .i64 (IntKind.i64.wrap ((L.getD k default).off + ((L.getD k default).data.size : Int)))]) (spn_cs s5 eend)
          rw [← take_snoc h, List.length_take, show min k P.length = k by omega] at hr
          exact hr
        refine Sat.go (Eq.refl _) (NS.yes (decide_eq_true (by show (k : Int) > 0; omega)) ?_)
        by_cases hoa : (P.getD k default).lo = at_
        · have hm16 : (P.getD k default).lo % 16 = 0 := by rcases p5 hoa with f | f; simp at f; exact absurd f hk0; rw [hoa]; exact f
          refine Sat.go (Eq.refl _) (NS.yes (by show ((L.getD k default).off == at_) = true; rw [s5, beq_iff_eq]; exact hoa) ?_)
          refine Sat.go (Eq.refl _) (NS.need (rfl) ?_)
          refine Sat.go (Eq.refl _) (NS.no (by show ((L.getD k default).off.tmod 16 != 0) = false; rw [s5, Int.tmod_eq_emod_of_nonneg q1, hm16]; rfl) ?_)
          refine Sat.go (Eq.refl _) (NS.need (decide_eq_true (by show (k + 1) * _ ≤ _; simp only [maxRow]; omega)) ?_)
          refine Sat.go (Eq.refl _) (NS.next ⟨(k + 1, (P.getD k default).hi), by show k + 1 ≤ P.length; omega, by show PcOK d.size _ (k + 1 == 0) _; exact p6⟩ (by show P.length - (k + 1) < P.length - k; omega) ?_)
          refine weak_hd [(11, 143)] rfl ⟨rfl, rfl, rfl, rfl, rfl, rfl, ren_int rfl eend, rfl, rfl, ren_int rfl (i64_k (k := k) (n := P.length) h (by omega)), trivial⟩ ⟨ren_row rfl rfl ?_, trivial⟩ trivial (by kernel_rfl)
          have hr := row_snoc (cells := Spn.cells) (l := P.take k) (x := P.getD k default) (c := 2) (cs := [.int .i64 (L.getD k default).off, .int .i64 (IntKind.i64.wrap ((L.getD k default).off + ((L.getD k default).data.size : Int)))]) (spn_cs s5 eend)
          rw [← take_snoc h, List.length_take, show min k P.length = k by omega] at hr
          exact hr
        · refine Sat.go (Eq.refl _) (NS.no (by show ((L.getD k default).off == at_) = false; rw [s5, beq_eq_false_iff_ne]; exact hoa) ?_)
          refine Sat.go (Eq.refl _) (NS.need (decide_eq_true (by show (k + 1) * _ ≤ _; simp only [maxRow]; omega)) ?_)
          refine Sat.go (Eq.refl _) (NS.next ⟨(k + 1, (P.getD k default).hi), by show k + 1 ≤ P.length; omega, by show PcOK d.size _ (k + 1 == 0) _; exact p6⟩ (by show P.length - (k + 1) < P.length - k; omega) ?_)
          refine weak_hd [(11, 143)] rfl ⟨rfl, rfl, rfl, rfl, rfl, rfl, ren_int rfl eend, rfl, rfl, ren_int rfl (i64_k (k := k) (n := P.length) h (by omega)), trivial⟩ ⟨ren_row rfl rfl ?_, trivial⟩ trivial (by kernel_rfl)
          have hr := row_snoc (cells := Spn.cells) (l := P.take k) (x := P.getD k default) (c := 2) (cs := [.int .i64 (L.getD k default).off, .int .i64 (IntKind.i64.wrap ((L.getD k default).off + ((L.getD k default).data.size : Int)))]) (spn_cs s5 eend)
          rw [← take_snoc h, List.length_take, show min k P.length = k by omega] at hr
          exact hr
    have h : ¬ k < P.length := by have h : ¬ (k : Int) < P.length := of_decide_eq_false h
                                  omega
    have hk : k ≤ P.length := hk
    obtain rfl : k = P.length := by omega
    have e3 : P.take P.length = P := List.take_length
    have cs := same_ok m m (by omega)
    rw [spn_self] at cs
    refine Sat.go (Eq.refl _) (NS.leave rfl (Eq.refl _) ?_)
    refine Sat.wk (weak_freeze 11 11 rfl rfl) ?_
    refine Sat.go (Eq.refl _) (NS.call (cn.le (LeL.cons (LeA.sl rfl fun i hi j hj => by show rowL Spn.cells (P.take P.length) i j = _; rw [e3]) LeL.nil)) rfl ?_)
    refine Sat.go (Eq.refl _) (NS.yes (rfl) ?_)
    refine Sat.go (Eq.refl _) (NS.call (cs) rfl ?_)
    refine Sat.go (Eq.refl _) (NS.yes (rfl) ?_)
    refine Sat.go (Eq.refl _) (NS.call (awake_ok) rfl ?_)
    exact Sat.go (Eq.refl _) (NS.ret rfl rfl (LeA.of (congrArg A.bool (rfl))))
  · have hM : batM a b d m = ([], batE a b d m) := by unfold batM; rw [if_neg (by simpa using he)]
    rw [hM] at cb
    refine Sat.go (Eq.refl _) (NS.call (cb) rfl ?_)
    refine Sat.go (Eq.refl _) (NS.yes (by simpa using he) ?_)
    refine Sat.go (Eq.refl _) (NS.yes (rfl) ?_)
    refine Sat.go (Eq.refl _) (NS.call (awake_ok) rfl ?_)
    exact Sat.go (Eq.refl _) (NS.ret rfl rfl (LeA.of (congrArg A.bool (rfl))))
end Go.Proofs.Ytbpdbibnfmdpoaa
