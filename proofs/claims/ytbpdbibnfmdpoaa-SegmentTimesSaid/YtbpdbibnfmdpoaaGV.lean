/- The law of times of segments. -/
import Derived.Test.YtbpdbibnfmdpoaaGN
import Derived.Test.YtbpdbibnfmdpoaaGT
import Derived.Test.YtbpdbibnfmdpoaaGR
set_option linter.unusedSimpArgs false
set_option linter.unusedSectionVars false
set_option linter.unusedVariables false
namespace Go.Mb
open Go.Sy
set_option linter.unusedVariables false
def chkC (c : Ctc) : Int := if !inR c.fr 0 15 || (!inR c.to 0 15 || (!inR c.rate 1 1000 || (!inR c.rng 1 1048576 || !inR c.loss 0 16))) then 2 else if c.fr == c.to then 1 else if decide (c.start < 0) || (decide (c.start ≥ c.stop) || decide (c.stop > IntKind.i64.wrap (1099511627776 - IntKind.i64.wrap (2 * c.rng)))) then 2 else 0
theorem chkC_rate {c : Ctc} (h : chkC c = 0) : 1 ≤ c.rate ∧ c.rate ≤ 1000 := by
  unfold chkC at h
  split at h
  · cases h
  · rename_i h1
    simp only [Bool.or_eq_true, not_or, Bool.not_eq_true', Bool.not_eq_false] at h1
    have := h1.2.2.1
    simpa [inR] using this
end Go.Mb
namespace Go.Proofs.Ytbpdbibnfmdpoaa
open Go.Sy Go.Mb
set_option maxRecDepth 100000
set_option linter.unusedVariables false
set_option maxHeartbeats 4000000

theorem cWithin_ok (n lo hi : Int) : FnOK Try.prog 55 [.int .i64 n, .int .i64 lo, .int .i64 hi] (.bool (inR n lo hi), none) := by
  refine fn_ok CN rfl (by kernel_rfl) Try.func55 rfl ?_
  refine Sat.go (Eq.refl _) (NS.ite (fun h => ?_) (fun h => ?_))
  · exact Sat.go (Eq.refl _) (NS.ret rfl rfl (LeA.of (congrArg A.bool (inR_t h))))
  · exact Sat.go (Eq.refl _) (NS.ret rfl rfl (LeA.of (congrArg A.bool (inR_f h))))
theorem cCheck_ok (c : Ctc) : FnOK Try.prog 28 [.agg c.cells] (.int .i64 (chkC c), none) := by
  refine fn_ok CN rfl (by kernel_rfl) Try.func28 rfl ?_
  refine Sat.go (Eq.refl _) (NS.call (cWithin_ok c.fr 0 15) rfl ?_)
  refine Sat.go (Eq.refl _) (NS.ite (fun a1 => ?_) (fun a1 => ?_))
  · exact Sat.go (Eq.refl _) (NS.ret rfl rfl (LeA.of (congrArg (A.int .i64) (by unfold chkC; rw [show (!inR c.fr 0 15) = true from a1]; rfl))))
  refine Sat.go (Eq.refl _) (NS.call (cWithin_ok c.to 0 15) rfl ?_)
  refine Sat.go (Eq.refl _) (NS.ite (fun a2 => ?_) (fun a2 => ?_))
  · exact Sat.go (Eq.refl _) (NS.ret rfl rfl (LeA.of (congrArg (A.int .i64) (by unfold chkC; rw [show (!inR c.fr 0 15) = false from a1, show (!inR c.to 0 15) = true from a2]; rfl))))
  refine Sat.go (Eq.refl _) (NS.call (cWithin_ok c.rate 1 1000) rfl ?_)
  refine Sat.go (Eq.refl _) (NS.ite (fun a3 => ?_) (fun a3 => ?_))
  · exact Sat.go (Eq.refl _) (NS.ret rfl rfl (LeA.of (congrArg (A.int .i64) (by unfold chkC; rw [show (!inR c.fr 0 15) = false from a1, show (!inR c.to 0 15) = false from a2, show (!inR c.rate 1 1000) = true from a3]; rfl))))
  refine Sat.go (Eq.refl _) (NS.call (cWithin_ok c.rng 1 1048576) rfl ?_)
  refine Sat.go (Eq.refl _) (NS.ite (fun a4 => ?_) (fun a4 => ?_))
  · exact Sat.go (Eq.refl _) (NS.ret rfl rfl (LeA.of (congrArg (A.int .i64) (by unfold chkC; rw [show (!inR c.fr 0 15) = false from a1, show (!inR c.to 0 15) = false from a2, show (!inR c.rate 1 1000) = false from a3, show (!inR c.rng 1 1048576) = true from a4]; rfl))))
  refine Sat.go (Eq.refl _) (NS.call (cWithin_ok c.loss 0 16) rfl ?_)
  refine Sat.go (Eq.refl _) (NS.ite (fun a5 => ?_) (fun a5 => ?_))
  · exact Sat.go (Eq.refl _) (NS.ret rfl rfl (LeA.of (congrArg (A.int .i64) (by unfold chkC; rw [show (!inR c.fr 0 15) = false from a1, show (!inR c.to 0 15) = false from a2, show (!inR c.rate 1 1000) = false from a3, show (!inR c.rng 1 1048576) = false from a4, show (!inR c.loss 0 16) = true from a5]; rfl))))
  have hc : ∀ z : Int, (if c.fr == c.to then (1 : Int) else if decide (c.start < 0) || (decide (c.start ≥ c.stop) || decide (c.stop > IntKind.i64.wrap (1099511627776 - IntKind.i64.wrap (2 * c.rng)))) then 2 else 0) = z → z = chkC c := by
    intro z hz
    rw [← hz]
    unfold chkC
    rw [show (!inR c.fr 0 15) = false from a1, show (!inR c.to 0 15) = false from a2, show (!inR c.rate 1 1000) = false from a3, show (!inR c.rng 1 1048576) = false from a4, show (!inR c.loss 0 16) = false from a5]; rfl
  refine Sat.go (Eq.refl _) (NS.ite (fun a6 => ?_) (fun a6 => ?_))
  · exact Sat.go (Eq.refl _) (NS.ret rfl rfl (LeA.of (congrArg (A.int .i64) (hc 1 (by rw [if_pos a6])))))
  have a6 : ¬ (c.fr == c.to) = true := by rw [show (c.fr == c.to) = false from a6]; simp
  refine Sat.go (Eq.refl _) (NS.ite (fun a7 => ?_) (fun a7 => ?_))
  · exact Sat.go (Eq.refl _) (NS.ret rfl rfl (LeA.of (congrArg (A.int .i64) (hc 2 (by rw [if_neg a6, show decide (c.start < 0) = true from a7]; rfl)))))
  refine Sat.go (Eq.refl _) (NS.ite (fun a8 => ?_) (fun a8 => ?_))
  · exact Sat.go (Eq.refl _) (NS.ret rfl rfl (LeA.of (congrArg (A.int .i64) (hc 2 (by rw [if_neg a6, show decide (c.start < 0) = false from a7, show decide (c.start ≥ c.stop) = true from a8]; rfl)))))
  refine Sat.go (Eq.refl _) (NS.ite (fun a9 => ?_) (fun a9 => ?_))
  · exact Sat.go (Eq.refl _) (NS.ret rfl rfl (LeA.of (congrArg (A.int .i64) (hc 2 (by rw [if_neg a6, show decide (c.start < 0) = false from a7, show decide (c.start ≥ c.stop) = false from a8, show decide (c.stop > IntKind.i64.wrap (1099511627776 - IntKind.i64.wrap (2 * c.rng))) = true from a9]; rfl)))))
  · exact Sat.go (Eq.refl _) (NS.ret rfl rfl (LeA.of (congrArg (A.int .i64) (hc 0 (by rw [if_neg a6, show decide (c.start < 0) = false from a7, show decide (c.start ≥ c.stop) = false from a8, show decide (c.stop > IntKind.i64.wrap (1099511627776 - IntKind.i64.wrap (2 * c.rng))) = false from a9]; rfl)))))
theorem ccheck_ok (c : Ctc) (n : Int) (hc : chkC c = 0) (hn : inR n 1 65536 = true) : FnOK Try.prog 56 [.agg c.cells, .int .i64 n] (.int .i64 0, none) := by
  have k := cCheck_ok c
  rw [hc] at k
  have k2 := cWithin_ok n 1 65536
  rw [hn] at k2
  refine fn_ok CN rfl (by kernel_rfl) Try.func56 rfl ?_
  refine Sat.go (Eq.refl _) (NS.call (k) rfl ?_)
  refine Sat.go (Eq.refl _) (NS.no (rfl) ?_)
  refine Sat.go (Eq.refl _) (NS.call (k2) rfl ?_)
  refine Sat.go (Eq.refl _) (NS.no (rfl) ?_)
  exact Sat.go (Eq.refl _) (NS.ret rfl rfl (LeA.refl _))
theorem tick_eq {r n : Int} (hr : 1 ≤ r) (hr2 : r ≤ 1000) (hn : 1 ≤ n) (hn2 : n ≤ 16) : IntKind.i64.wrap ((IntKind.i64.wrap (IntKind.i64.wrap (IntKind.i64.wrap (n + 8) + r) - 1)).tdiv r) = tkM r n := by
  have hb := tk_bound hr hn
  rw [wrap_i64 (n := n + 8) (by omega) (by omega), wrap_i64 (n := n + 8 + r) (by omega) (by omega), wrap_i64 (n := n + 8 + r - 1) (by omega) (by omega)]
  exact wrap_i64 (by show _ ≤ tkM r n; omega) (by show tkM r n ≤ _; omega)
theorem ticks_ok (c : Ctc) (n : Int) (hc : chkC c = 0) (hn : 1 ≤ n) (hn2 : n ≤ 16) : FnOK Try.prog 83 [.agg c.cells, .int .i64 n] (.int .i64 (tkM c.rate n), none) := by
  have hr := chkC_rate hc
  refine fn_ok CN rfl (by kernel_rfl) Try.func83 rfl ?_
  refine Sat.go (Eq.refl _) (NS.need (by simp; omega) ?_)
  exact Sat.go (Eq.refl _) (NS.ret rfl rfl (LeA.of (congrArg (A.int .i64) (tick_eq hr.1 hr.2 hn hn2))))
def cutsF (n : Int) : A := .fn 97 [.ip 1 (getA [.int .i64 n])]
theorem cuts_ok (n : Int) : FnOK Try.prog 82 [.int .i64 n] (cutsF n, none) := by
  refine fn_ok CN rfl (by kernel_rfl) Try.func82 rfl ?_
  exact Sat.go (Eq.refl _) (NS.ret rfl rfl (LeA.refl _))
noncomputable def CS : Cx := { E := EN, inl := [97], ok := EN_ok }
def minI (x : Int) : Int := if 16 < x then 16 else x
theorem minI_b {x : Int} (h : x > 0) : 1 ≤ minI x ∧ minI x ≤ 16 := by unfold minI; split <;> omega
theorem minI_eq {x : Int} (h : x > 0) : minI x = ((min x.toNat 16 : Nat) : Int) := by unfold minI; split <;> omega
theorem pass_ok (c : Ctc) (n : Nat) (hc : chkC c = 0) (hn : n ≤ 65536) : FnOK Try.prog 57 [.agg c.cells, .int .i64 n] (.int .i64 (passN c.rate n), none) := by
  have hr := chkC_rate hc
  refine fn_ok CS rfl (by kernel_rfl) Try.func57 rfl ?_
  refine Sat.go (Eq.refl _) (NS.call (cuts_ok n) rfl ?_)
  refine Sat.go (Eq.refl _) ?_
  refine NS.loop (σ := { x : Int × Int // x.1 ≤ n ∧ -16 ≤ x.1 ∧ x.2 + passN c.rate x.1.toNat = passN c.rate n ∧ 0 ≤ x.2 ∧ x.2 ≤ (n - x.1) * 1024 }) (fun x => [(0, .yld 16), (1, .ip 1 (getA [.int .i64 n])), (3, .int .i64 x.1.1)]) (fun x => [(5, .box [.int .i64 x.1.2])]) (fun x => (x.1.1 + 16).toNat) ⟨(n, 0), by refine ⟨Int.le_refl _, by omega, ?_, Int.le_refl _, by simp⟩; show 0 + passN c.rate (Int.toNat (n : Int)) = _; rw [Int.zero_add]; rfl⟩ ?_ ?_
  · exact weak_hd [] rfl ⟨rfl, rfl, rfl, trivial⟩ ⟨⟨_, rfl, _, _, rfl, rfl, rfl⟩, trivial⟩ (by repeat' (first | exact trivial | refine ⟨.inr rfl, ?_⟩ | refine ⟨.inl rfl, ?_⟩)) (by kernel_rfl)
  rintro ⟨⟨x, s⟩, h1, h2, h3, h4, h5⟩
  have h1 : x ≤ n := h1
  have h2 : -16 ≤ x := h2
  have h3 : s + passN c.rate x.toNat = passN c.rate n := h3
  have h4 : 0 ≤ s := h4
  have h5 : s ≤ (n - x) * 1024 := h5
  refine Sat.go (Eq.refl _) (NS.ite (fun g => ?_) (fun g => ?_))
  · have g : x > 0 := of_decide_eq_true g
    have hb := minI_b g
    have hk := tk_bound (r := c.rate) hr.1 hb.1
    have hgo := passN_go (r := c.rate) (n := x.toNat) (by omega)
    rw [← minI_eq g] at hgo
    have es : IntKind.i64.wrap (s + tkM c.rate (minI x)) = s + tkM c.rate (minI x) := wrap_i64 (by omega) (by omega)
    have ex : IntKind.i64.wrap (x - 16) = x - 16 := wrap_i64 (by omega) (by omega)
    refine Sat.go (Eq.refl _) (NS.chk (by kernel_rfl) ?_)
    refine Sat.go (Eq.refl _) (NS.call (ticks_ok c (minI x) hc hb.1 hb.2) rfl ?_)
    refine Sat.go (Eq.refl _) (NS.next ⟨(x - 16, s + tkM c.rate (minI x)), by refine ⟨?_, ?_, ?_, ?_, ?_⟩; (show x - 16 ≤ n; omega); (show -16 ≤ x - 16; omega); (show s + tkM c.rate (minI x) + passN c.rate (x - 16).toNat = _; rw [← h3, hgo, show (x - 16).toNat = x.toNat - 16 by omega]; omega); (show 0 ≤ s + tkM c.rate (minI x); omega); (show s + tkM c.rate (minI x) ≤ (n - (x - 16)) * 1024; omega)⟩ (by show (x - 16 + 16).toNat < (x + 16).toNat; omega) ?_)
    exact weak_hd [] rfl ⟨rfl, rfl, ren_int rfl ex, trivial⟩ ⟨⟨_, rfl, _, _, rfl, ren_int rfl es, rfl⟩, trivial⟩ (by repeat' (first | exact trivial | refine ⟨.inr rfl, ?_⟩ | refine ⟨.inl rfl, ?_⟩)) (by kernel_rfl)
  have g : ¬ x > 0 := of_decide_eq_false g
  have h3 : s = passN c.rate n := by rw [← h3, show x.toNat = 0 by omega, passN_zero]; omega
  refine Sat.go (Eq.refl _) (NS.leave rfl (Eq.refl _) ?_)
  exact Sat.go (Eq.refl _) (NS.ret rfl rfl (LeA.of (congrArg (A.int .i64) (h3))))
theorem Pass_ok (c : Ctc) (n : Nat) (hc : chkC c = 0) (hn : inR n 1 65536 = true) : FnOK Try.prog 29 [.agg c.cells, .int .i64 n] (.tup [.int .i64 (passN c.rate n), .int .i64 0], none) := by
  have hn' := inR_iff.1 hn
  refine fn_ok CN rfl (by kernel_rfl) Try.func29 rfl ?_
  refine Sat.go (Eq.refl _) (NS.call (ccheck_ok c n hc hn) rfl ?_)
  refine Sat.go (Eq.refl _) (NS.no (rfl) ?_)
  refine Sat.go (Eq.refl _) (NS.call (pass_ok c n hc (by omega)) rfl ?_)
  exact Sat.go (Eq.refl _) (NS.ret rfl rfl (LeA.refl _))
theorem sumP_snoc (r : Int) (l : List Spn) (k : Nat) (h : k < l.length) : sumP r (l.take (k + 1)) = sumP r (l.take k) + tkM r ((l.getD k default).hi - (l.getD k default).lo) := by
  unfold sumP; rw [take_snoc h]; simp
theorem time_of {r : Int} {s : Seg} (hr : inR r 1 1000 = true) (hs : chkG s = 0) (hk : s.kind = 1) (h1 : 1 ≤ s.data.size) (h2 : s.data.size ≤ 16) : timeM r s = (tkM r s.data.size, 0) := by
  have hr' := inR_iff.1 hr
  unfold timeM
  rw [if_neg (by rw [hs]; simp), if_neg (by rw [hr]; simp), if_neg (by rw [hk]; simp)]
  rw [tick_eq hr'.1 hr'.2 (by omega) (by omega)]
theorem segmentTimes_ok (d : ByteArray) (c : Ctc) : FnOK Try.prog 8 [.str d, .agg c.cells] (.bool true, none) := by
  refine fn_ok (CF [33]) rfl (by kernel_rfl) Try.func8 rfl ?_
  refine Sat.go (Eq.refl _) (NS.ite (fun h0 => ?_) (fun h0 => ?_))
  · refine Sat.go (Eq.refl _) (NS.call (awake_ok) rfl ?_)
    exact Sat.go (Eq.refl _) (NS.ret rfl rfl (LeA.of (congrArg A.bool (rfl))))
  have h0 : ¬ (d.size : Int) = 0 := ne_of_beq_false h0
  refine Sat.go (Eq.refl _) (NS.ite (fun h1 => ?_) (fun h1 => ?_))
  · refine Sat.go (Eq.refl _) (NS.call (awake_ok) rfl ?_)
    exact Sat.go (Eq.refl _) (NS.ret rfl rfl (LeA.of (congrArg A.bool (rfl))))
  have h1 : d.size ≤ 300 := by have h1 : ¬ (d.size : Int) > 300 := of_decide_eq_false h1
                               omega
  refine Sat.go (Eq.refl _) (NS.call (cCheck_ok c) rfl ?_)
  refine Sat.go (Eq.refl _) (NS.ite (fun h2 => ?_) (fun h2 => ?_))
  · refine Sat.go (Eq.refl _) (NS.call (awake_ok) rfl ?_)
    exact Sat.go (Eq.refl _) (NS.ret rfl rfl (LeA.of (congrArg A.bool (rfl))))
  have hc : chkC c = 0 := by simpa using h2
  have hr := chkC_rate hc
  have hins : insideM [⟨0, d.size⟩] d.size = true := by
    have hv : vS ⟨0, d.size⟩ = true := by unfold vS; simp only [Bool.and_eq_true, decide_eq_true_eq]; omega
    have h1 : chkS [⟨0, d.size⟩] = 0 := by unfold chkS; rw [if_neg (by simp)]; unfold chkL; rw [if_pos hv]; rfl
    unfold insideM headOK
    rw [h1]
    simp
  have i1 : inR 0 0 tMax = true := by decide
  have i2 : inR 1 1 tMax = true := by decide
  have i3 : inR (d.size : Int) 1 65536 = true := by simp [inR]; omega
  have he : batE 0 1 d [⟨0, d.size⟩] = 0 := by
    rw [batE2 i1 i2, if_neg (by rw [beq_iff_eq]; omega), if_neg (by rw [decide_eq_true_eq]; omega), if_neg (by rw [hins]; simp), if_neg (by simp)]
  have cb := batch_ok 0 1 d [⟨0, d.size⟩]
  rw [bat_ok he] at cb
  have hP : pcsL [⟨0, d.size⟩] = pcs 0 d.size := by simp [pcsL, pcsS]
  have hbl := batL_len 0 1 d [⟨0, d.size⟩]
  have hget := fun i => bat_get (a := 0) (b := 1) (d := d) (m := [⟨0, d.size⟩]) (i := i)
  have hpk : PcOK d.size 0 true (pcsL [⟨0, d.size⟩]) := by
    refine pk_all _ 0 true ((chkS_zero _).1 (by unfold insideM at hins; rw [Bool.and_eq_true, beq_iff_eq] at hins; exact hins.1)).2.1 (inside_all hins).1 fun x hx => .inr ⟨rfl, ?_⟩
    exact ((inside_all hins).1 x hx).1
  have hsum := sum_pcs c.rate d.size 0 d.size (by omega) rfl
  rw [← hP] at hsum
  have hcl := batL_claims 0 1 d [⟨0, d.size⟩]
  have hlen := pk_len (by omega) hpk
  generalize hL : batL 0 1 d [⟨0, d.size⟩] = L at *
  generalize pcsL [⟨0, d.size⟩] = P at *
  refine Sat.go (Eq.refl _) (NS.call (cb.le (LeL.cons (LeA.refl _) (LeL.cons (LeA.refl _) (LeL.cons (LeA.refl _) (LeL.cons (LeA.sl rfl (one_row rfl)) LeL.nil))))) rfl ?_)
  refine Sat.go (Eq.refl _) (NS.call (Pass_ok c d.size hc i3) rfl ?_)
  refine Sat.go (Eq.refl _) (NS.no (rfl) ?_)
  refine Sat.go (Eq.refl _) (NS.no (rfl) ?_)
  refine Sat.go (Eq.refl _) ?_
  have hseg : ∀ i, i < P.length → (L.getD i default).claims = [] ∧ timeM c.rate (L.getD i default) = (tkM c.rate ((P.getD i default).hi - (P.getD i default).lo), 0) ∧ 1 ≤ (P.getD i default).hi - (P.getD i default).lo ∧ (P.getD i default).hi - (P.getD i default).lo ≤ 16 := by
    intro i hi
    have hx := pk_mem hpk (P.getD i default) (by rw [getD_lt hi]; exact List.getElem_mem _)
    obtain ⟨x1, x2, x3, x4⟩ := hx
    have sg := seg_good (a := 0) (b := 1) (d := d) (x := P.getD i default) i1 i2 (by omega) x1 x2 x3 x4
    have hsz : ((d.extract (P.getD i default).lo.toNat (P.getD i default).hi.toNat).size : Int) = (P.getD i default).hi - (P.getD i default).lo := by rw [ex_len (by omega)]; omega
    refine ⟨memD (α := Seg) (p := fun s => s.claims = []) hcl (by omega), ?_, by omega, by omega⟩
    rw [hget i hi]
    have hR : inR c.rate 1 1000 = true := by simp [inR]; omega
    split
    · rw [time_of hR sg.2 rfl (by show 1 ≤ (d.extract _ _).size; omega) (by show (d.extract _ _).size ≤ 16; omega)]
      show (tkM c.rate ((d.extract _ _).size : Nat), (0 : Int)) = _
      rw [hsz]
    · rw [time_of hR sg.1 rfl (by show 1 ≤ (d.extract _ _).size; omega) (by show (d.extract _ _).size ≤ 16; omega)]
      show (tkM c.rate ((d.extract _ _).size : Nat), (0 : Int)) = _
      rw [hsz]
  have hsb : ∀ k, k ≤ P.length → 0 ≤ sumP c.rate (P.take k) ∧ sumP c.rate (P.take k) ≤ k * 1024 := by
    intro k
    induction k with
    | zero => intro _; simp [sumP]
    | succ k ih =>
      intro hk
      obtain ⟨a1, a2⟩ := ih (by omega)
      obtain ⟨_, _, b1, b2⟩ := hseg k (by omega)
      have := tk_bound (r := c.rate) hr.1 b1
      rw [sumP_snoc _ _ _ (by omega)]
      omega
  refine NS.loop (σ := { k : Nat // k ≤ P.length }) (fun k => [(3, .ptr 3 0), (7, .int .i64 (passN c.rate d.size)), (9, .int .i64 (sumP c.rate (P.take k.1))), (50, slB L), (51, .int .i64 P.length), (52, .int .i64 k.1)]) (fun k => [(3, .box c.cells)]) (fun k => P.length - k.1) ⟨0, Nat.zero_le _⟩ ?_ ?_
  · exact weak_hd [] rfl ⟨rfl, rfl, rfl, rfl, ren_int rfl (by rw [hbl]), rfl, trivial⟩ ⟨⟨_, rfl, ⟨_, _, rfl, rfl, _, _, rfl, rfl, _, _, rfl, rfl, _, _, rfl, rfl, _, _, rfl, rfl, _, _, rfl, rfl, _, _, rfl, rfl, rfl⟩⟩, trivial⟩ trivial (by kernel_rfl)
  rintro ⟨k, hk⟩
  refine Sat.go (Eq.refl _) (NS.ite (fun h => ?_) (fun h => ?_))
  · have h : k < P.length := by have h : (k : Int) < P.length := of_decide_eq_true h
                                omega
    obtain ⟨g1, g2, g3, g4⟩ := hseg k h
    have ct := time_ok c.rate (L.getD k default)
    rw [g2] at ct
    refine Sat.go (Eq.refl _) (NS.need (by exact decide_eq_true ⟨Int.natCast_nonneg _, by show (k : Int) < L.length; omega⟩) ?_)
    refine Sat.go (Eq.refl _) (NS.call (ct.le (LeL.cons (LeA.refl _) (LeL.cons (cellsB_le g1) LeL.nil))) rfl ?_)
    have tb := tk_bound (r := c.rate) hr.1 g3
    have sb := hsb k (by omega)
    refine Sat.go (Eq.refl _) (NS.no (rfl) ?_)
    refine Sat.go (Eq.refl _) (NS.no (decide_eq_false (by show ¬ tkM c.rate _ < 1; omega)) ?_)
    refine Sat.go (Eq.refl _) (NS.next ⟨k + 1, by omega⟩ (by simp; omega) ?_)
    refine weak_hd [] rfl ⟨rfl, rfl, ren_int rfl ?_, rfl, rfl, ren_int rfl (i64_k (k := k) (n := P.length) (by omega) (by omega)), trivial⟩ ⟨⟨_, rfl, ⟨_, _, rfl, rfl, _, _, rfl, rfl, _, _, rfl, rfl, _, _, rfl, rfl, _, _, rfl, rfl, _, _, rfl, rfl, _, _, rfl, rfl, rfl⟩⟩, trivial⟩ trivial (by kernel_rfl)
    show IntKind.i64.wrap (sumP c.rate (P.take k) + tkM c.rate ((P.getD k default).hi - (P.getD k default).lo)) = sumP c.rate (P.take (k + 1))
    rw [sumP_snoc _ _ _ h]
    exact wrap_i64 (by omega) (by omega)
  have h : ¬ k < P.length := by have h : ¬ (k : Int) < P.length := of_decide_eq_false h
                                omega
  have hk : k ≤ P.length := hk
  obtain rfl : k = P.length := by omega
  refine Sat.go (Eq.refl _) (NS.leave rfl (Eq.refl _) ?_)
  refine Sat.go (Eq.refl _) (NS.yes (by show (sumP c.rate (P.take P.length) == passN c.rate d.size) = true; rw [List.take_length, hsum]; simp) ?_)
  refine Sat.go (Eq.refl _) (NS.call (awake_ok) rfl ?_)
  exact Sat.go (Eq.refl _) (NS.ret rfl rfl (LeA.of (congrArg A.bool (rfl))))
end Go.Proofs.Ytbpdbibnfmdpoaa
