/- Scripts: the walk. -/
import Derived.Test.YthfbahebeembeaaUZM
set_option linter.unusedSimpArgs false
set_option linter.unusedSectionVars false
set_option linter.unusedVariables false
namespace Go.Mb
open Go.Sy
set_option linter.unusedVariables false
theorem u8_q (n d m : Nat) (hn : n < 256) (hd : 0 < d) (hm : 0 < m) : (IntKind.u8.wrap ((n : Int).tdiv (d : Int))).tmod (m : Int) = ((n / d % m : Nat) : Int) := by
  have h1 : (n : Int).tdiv (d : Int) = ((n / d : Nat) : Int) := by rw [Int.tdiv_eq_ediv_of_nonneg (by omega)]; exact (Int.natCast_ediv n d).symm
  have h2 : n / d < 256 := Nat.lt_of_le_of_lt (Nat.div_le_self _ _) hn
  rw [h1]
  generalize n / d = q at *
  rw [wrap_u8m, show ((q : Int)) % 256 = (q : Int) by omega, Int.tmod_eq_emod_of_nonneg (by omega)]
  exact (Int.natCast_emod q m).symm
theorem u8_d (n d : Nat) (hn : n < 256) (hd : 0 < d) : IntKind.u8.wrap ((n : Int).tdiv (d : Int)) = ((n / d : Nat) : Int) := by
  have h1 : (n : Int).tdiv (d : Int) = ((n / d : Nat) : Int) := by rw [Int.tdiv_eq_ediv_of_nonneg (by omega)]; exact (Int.natCast_ediv n d).symm
  have h2 : n / d < 256 := Nat.lt_of_le_of_lt (Nat.div_le_self _ _) hn
  rw [h1]
  generalize n / d = q at *
  rw [wrap_u8m, show ((q : Int)) % 256 = (q : Int) by omega]
theorem i64_n (n : Nat) (hn : n < 256) : IntKind.i64.wrap (n : Int) = (n : Int) := wrap_i64 (by omega) (by omega)
theorem own_i (n : Nat) (hn : n < 256) : (IntKind.i64.wrap (n : Int)).tmod 2 = ((n % 2 : Nat) : Int) := by
  rw [i64_n n hn, Int.tmod_eq_emod_of_nonneg (by omega)]; omega
theorem oth_i (n : Nat) (hn : n < 256) : IntKind.i64.wrap (1 - (IntKind.i64.wrap (n : Int)).tmod 2) = ((1 - n % 2 : Nat) : Int) := by
  rw [own_i n hn, wrap_i64 (by omega) (by omega)]; omega
end Go.Mb
namespace Go.Proofs.Ythfbahebeembeaa
open Go.Sy Go.Mb
set_option maxRecDepth 100000
set_option linter.unusedVariables false
set_option maxHeartbeats 4000000
theorem sgreat_ok (x : Scr) : FnOK Try.prog 42 [.agg x.cells] (.bool (decide ((x.acts.length : Int) > 16) || decide ((x.cts.length : Int) > 8)), none) := by
  refine fn_ok CN rfl (by kernel_rfl) Try.func42 rfl ?_
  refine Sat.go (Eq.refl _) (NS.ite (fun h => ?_) (fun h => ?_))
  · exact Sat.go (Eq.refl _) (NS.ret rfl rfl (LeA.of (congrArg A.bool (by rw [show decide ((x.acts.length : Int) > 16) = true from h]; rfl))))
  · exact Sat.go (Eq.refl _) (NS.ret rfl rfl (LeA.of (congrArg A.bool (by rw [show decide ((x.acts.length : Int) > 16) = false from h, Bool.false_or]))))
theorem play_ok (x : Scr) (hacts : ∀ y ∈ x.acts, y < 256) (hl : x.acts.length ≤ 16) : FnOK Try.prog 43 [.agg x.cells] (.tup [.agg ((plK x x.acts.length).getD 0 default).cells, .agg ((plK x x.acts.length).getD 1 default).cells, .bool true], none) := by
  have c1 := new_ok 4
  rw [show newM 4 = (⟨4, []⟩, 0) by kernel_rfl] at c1
  refine fn_ok CN rfl (by kernel_rfl) Try.func43 rfl ?_
  refine Sat.go (Eq.refl _) (NS.call (c1) rfl ?_)
  refine Sat.go (Eq.refl _) ?_
  refine NS.loop (σ := { k : Nat // k ≤ x.acts.length }) (fun k => [(1, .ptr 1 0), (2, .ptr 2 0), (3, .ptr 3 0), (5, .ptr 5 0), (6, .int .i64 0), (7, .own 28), (30, slU x.acts), (31, .int .i64 x.acts.length), (32, .int .i64 k.1)]) (fun k => [(1, .box x.cells), (2, .box [.int .i64 0, .nils]), (3, .box [.int .i64 0, .nils]), (5, .box (His.cells ⟨4, []⟩)), (28, .row 24 2 2 (rowL His.cells (plK x k.1)))]) (fun k => x.acts.length - k.1) ⟨0, Nat.zero_le _⟩ ?_ ?_
  · refine weak_hd [] rfl ⟨rfl, rfl, rfl, rfl, rfl, rfl, rfl, rfl, rfl, trivial⟩ ⟨⟨_, rfl, renScr _ _⟩, ⟨_, rfl, _, _, rfl, rfl, _, _, rfl, rfl, rfl⟩, ⟨_, rfl, _, _, rfl, rfl, _, _, rfl, rfl, rfl⟩, ⟨_, rfl, renHis _ ⟨4, []⟩⟩, ?_, trivial⟩ trivial (by kernel_rfl)
    exact ren_row rfl rfl fun i hi j hj => by match i, hi, j, hj with | 0, _, 0, _ => rfl | 0, _, 1, _ => rfl | 1, _, 0, _ => rfl | 1, _, 1, _ => rfl
  rintro ⟨k, hk⟩
  refine Sat.go (Eq.refl _) (NS.ite (fun a => ?_) (fun a => ?_))
  · have a : k < x.acts.length := by simpa using a
    have hpl : plK x (k + 1) = stepM x (plK x k) (x.acts.getD k default) := rfl
    have inv := inv_all x k (by omega)
    have hn : (x.acts.getD k default) < 256 := hacts _ (by rw [getD_lt a]; exact List.getElem_mem _)
    have hi : (x.acts.getD k default) % 2 < 2 := Nat.mod_lt _ (by omega)
    have hll := inv.len
    obtain ⟨n1, n2, n3⟩ := inv.at (by omega) hi
    obtain ⟨m1, m2, m3⟩ := inv.at (i := 1 - (x.acts.getD k default) % 2) (by omega) (by omega)
    have w1 := own_i (x.acts.getD k default) hn
    have w2 := oth_i (x.acts.getD k default) hn
    have w3 : (IntKind.u8.wrap (((x.acts.getD k default) : Int).tdiv 2)).tmod 4 = (((x.acts.getD k default) / 2 % 4 : Nat) : Int) := u8_q (x.acts.getD k default) 2 4 hn (by omega) (by omega)
    have w4 : (IntKind.u8.wrap (((x.acts.getD k default) : Int).tdiv 8)) = (((x.acts.getD k default) / 8 : Nat) : Int) := u8_d (x.acts.getD k default) 8 hn (by omega)
    have o1 : ((IntKind.i64.wrap ((x.acts.getD k default) : Int)).tmod 2).toNat = (x.acts.getD k default) % 2 := by rw [w1]; exact Int.toNat_natCast _
    have o2 : (IntKind.i64.wrap (1 - (IntKind.i64.wrap ((x.acts.getD k default) : Int)).tmod 2)).toNat = 1 - (x.acts.getD k default) % 2 := by rw [w2]; exact Int.toNat_natCast _
    have q1 : 0 ≤ (IntKind.i64.wrap ((x.acts.getD k default) : Int)).tmod 2 ∧ (IntKind.i64.wrap ((x.acts.getD k default) : Int)).tmod 2 < 2 := by rw [w1]; omega
    have q2 : 0 ≤ IntKind.i64.wrap (1 - (IntKind.i64.wrap ((x.acts.getD k default) : Int)).tmod 2) ∧ IntKind.i64.wrap (1 - (IntKind.i64.wrap ((x.acts.getD k default) : Int)).tmod 2) < 2 := by rw [w2]; omega
    repeat' (first | (refine Sat.go (Eq.refl _) (NS.need (rfl) ?_)) | (refine Sat.go (Eq.refl _) (NS.need (by (try dsimp only); simp only [decide_eq_true_eq]; omega) ?_)))
    by_cases hq : (x.acts.getD k default) / 2 % 4 = 0
    · refine Sat.go (Eq.refl _) (NS.yes (by show ((IntKind.u8.wrap (((x.acts.getD k default) : Int).tdiv 2)).tmod 4 == 0) = true; rw [w3, hq]; rfl) ?_)
      have hex : plK x (k + 1) = (plK x k).set ((x.acts.getD k default) % 2) (exchM ((plK x k).getD ((x.acts.getD k default) % 2) default) ((plK x k).getD (1 - (x.acts.getD k default) % 2) default)) := by
        rw [hpl]
        unfold stepM
        rw [if_pos (by first | (rw [hq]; rfl) | (rw [hc]; simp))]
      obtain ⟨e1, e2, e3⟩ := inv.exch (by omega) hi
      have g1 : FnOK Try.prog 20 [.agg ((plK x k).getD ((IntKind.i64.wrap ((x.acts.getD k default) : Int)).tmod 2).toNat default).cells] (.tup [slN (vecL 4 ((plK x k).getD ((x.acts.getD k default) % 2) default).l), .int .i64 0], none) := by
        rw [o1]
        have := knownV_ok ((plK x k).getD ((x.acts.getD k default) % 2) default) (by omega)
        rw [n2, n1, if_neg (by simp), if_neg (by simp)] at this
        exact this
      have g2 : FnOK Try.prog 39 [.agg ((plK x k).getD (IntKind.i64.wrap (1 - (IntKind.i64.wrap ((x.acts.getD k default) : Int)).tmod 2)).toNat default).cells, slN (vecL 4 ((plK x k).getD ((x.acts.getD k default) % 2) default).l)] (lisR ((missM ((plK x k).getD (1 - (x.acts.getD k default) % 2) default) (vecL 4 ((plK x k).getD ((x.acts.getD k default) % 2) default).l)).1, 0), none) := by
        rw [o2]
        have := missing_ok ((plK x k).getD (1 - (x.acts.getD k default) % 2) default) (vecL 4 ((plK x k).getD ((x.acts.getD k default) % 2) default).l) (by omega) (by simp [vecL])
        have e4 : missM ((plK x k).getD (1 - (x.acts.getD k default) % 2) default) (vecL 4 ((plK x k).getD ((x.acts.getD k default) % 2) default).l) = ((missM ((plK x k).getD (1 - (x.acts.getD k default) % 2) default) (vecL 4 ((plK x k).getD ((x.acts.getD k default) % 2) default).l)).1, 0) := Prod.ext rfl e1
        rw [e4] at this
        exact this
      have hml := missM_len ((plK x k).getD (1 - (x.acts.getD k default) % 2) default) (vecL 4 ((plK x k).getD ((x.acts.getD k default) % 2) default).l)
      have g3 : FnOK Try.prog 37 [.agg ((plK x k).getD ((IntKind.i64.wrap ((x.acts.getD k default) : Int)).tmod 2).toNat default).cells, slChg (missM ((plK x k).getD (1 - (x.acts.getD k default) % 2) default) (vecL 4 ((plK x k).getD ((x.acts.getD k default) % 2) default).l)).1] (hisR (exchM ((plK x k).getD ((x.acts.getD k default) % 2) default) ((plK x k).getD (1 - (x.acts.getD k default) % 2) default), 0), none) := by
        rw [o1]
        have := merge_ok ((plK x k).getD ((x.acts.getD k default) % 2) default) (missM ((plK x k).getD (1 - (x.acts.getD k default) % 2) default) (vecL 4 ((plK x k).getD ((x.acts.getD k default) % 2) default).l)).1 (by omega) (by omega)
        have e4 : mergeM ((plK x k).getD ((x.acts.getD k default) % 2) default) (missM ((plK x k).getD (1 - (x.acts.getD k default) % 2) default) (vecL 4 ((plK x k).getD ((x.acts.getD k default) % 2) default).l)).1 = (exchM ((plK x k).getD ((x.acts.getD k default) % 2) default) ((plK x k).getD (1 - (x.acts.getD k default) % 2) default), 0) := Prod.ext (by unfold exchM; rw [n1]; rfl) e2
        rw [e4] at this
        exact this
      repeat' (first | (refine Sat.go (Eq.refl _) (NS.need (decide_eq_true q1) ?_)) | (refine Sat.go (Eq.refl _) (NS.need (by (try dsimp only); simp only [decide_eq_true_eq, Int.toNat_natCast]; rw [o1]; omega) ?_)))
      refine Sat.go (Eq.refl _) (NS.call (g1) rfl ?_)
      repeat' (first | (refine Sat.go (Eq.refl _) (NS.need (decide_eq_true q2) ?_)) | (refine Sat.go (Eq.refl _) (NS.need (by (try dsimp only); simp only [decide_eq_true_eq, Int.toNat_natCast]; rw [o2]; omega) ?_)))
      refine Sat.go (Eq.refl _) (NS.call (g2) rfl ?_)
      repeat' (first | (refine Sat.go (Eq.refl _) (NS.need (decide_eq_true q1) ?_)) | (refine Sat.go (Eq.refl _) (NS.need (by (try dsimp only); simp only [decide_eq_true_eq, Int.toNat_natCast]; rw [o1]; omega) ?_)))
      refine Sat.go (Eq.refl _) (NS.call (g3) rfl ?_)
      repeat' (first | (refine Sat.go (Eq.refl _) (NS.no (rfl) ?_)))
      repeat' (first | (refine Sat.go (Eq.refl _) (NS.need (decide_eq_true q1) ?_)) | (refine Sat.go (Eq.refl _) (NS.need (by (try dsimp only); simp only [decide_eq_true_eq, Int.toNat_natCast]; rw [o1]; omega) ?_)))
      refine Sat.go (Eq.refl _) (NS.next ⟨k + 1, a⟩ (by simp; omega) ?_)
      refine weak_hd [] rfl ⟨rfl, rfl, rfl, rfl, rfl, rfl, rfl, rfl, ren_int rfl (i64_k (k := k) (n := x.acts.length) a (by omega)), trivial⟩ ⟨⟨_, rfl, renScr _ _⟩, ⟨_, rfl, _, _, rfl, rfl, _, _, rfl, rfl, rfl⟩, ⟨_, rfl, _, _, rfl, rfl, _, _, rfl, rfl, rfl⟩, ⟨_, rfl, renHis _ ⟨4, []⟩⟩, ?_, trivial⟩ trivial (by kernel_rfl)
      rw [hex]
      refine ren_row rfl rfl fun i hi' j hj => ?_
      refine Eq.trans ?_ (row_setG (cells := His.cells) (c := 2) (plK x k) ((x.acts.getD k default) % 2) (exchM ((plK x k).getD ((x.acts.getD k default) % 2) default) ((plK x k).getD (1 - (x.acts.getD k default) % 2) default)) (by omega) i j hj)
      rw [← o1]; rfl
    · refine Sat.go (Eq.refl _) (NS.no (by show ((IntKind.u8.wrap (((x.acts.getD k default) : Int).tdiv 2)).tmod 4 == 0) = false; rw [w3, beq_eq_false_iff_ne]; omega) ?_)
      by_cases hc : x.cts.length = 0
      · refine Sat.go (Eq.refl _) (NS.yes (by show (((x.cts.length : Nat) : Int) == 0) = true; rw [hc]; rfl) ?_)
        have hex : plK x (k + 1) = (plK x k).set ((x.acts.getD k default) % 2) (exchM ((plK x k).getD ((x.acts.getD k default) % 2) default) ((plK x k).getD (1 - (x.acts.getD k default) % 2) default)) := by
          rw [hpl]
          unfold stepM
          rw [if_pos (by first | (rw [hq]; rfl) | (rw [hc]; simp))]
        obtain ⟨e1, e2, e3⟩ := inv.exch (by omega) hi
        have g1 : FnOK Try.prog 20 [.agg ((plK x k).getD ((IntKind.i64.wrap ((x.acts.getD k default) : Int)).tmod 2).toNat default).cells] (.tup [slN (vecL 4 ((plK x k).getD ((x.acts.getD k default) % 2) default).l), .int .i64 0], none) := by
          rw [o1]
          have := knownV_ok ((plK x k).getD ((x.acts.getD k default) % 2) default) (by omega)
          rw [n2, n1, if_neg (by simp), if_neg (by simp)] at this
          exact this
        have g2 : FnOK Try.prog 39 [.agg ((plK x k).getD (IntKind.i64.wrap (1 - (IntKind.i64.wrap ((x.acts.getD k default) : Int)).tmod 2)).toNat default).cells, slN (vecL 4 ((plK x k).getD ((x.acts.getD k default) % 2) default).l)] (lisR ((missM ((plK x k).getD (1 - (x.acts.getD k default) % 2) default) (vecL 4 ((plK x k).getD ((x.acts.getD k default) % 2) default).l)).1, 0), none) := by
          rw [o2]
          have := missing_ok ((plK x k).getD (1 - (x.acts.getD k default) % 2) default) (vecL 4 ((plK x k).getD ((x.acts.getD k default) % 2) default).l) (by omega) (by simp [vecL])
          have e4 : missM ((plK x k).getD (1 - (x.acts.getD k default) % 2) default) (vecL 4 ((plK x k).getD ((x.acts.getD k default) % 2) default).l) = ((missM ((plK x k).getD (1 - (x.acts.getD k default) % 2) default) (vecL 4 ((plK x k).getD ((x.acts.getD k default) % 2) default).l)).1, 0) := Prod.ext rfl e1
          rw [e4] at this
          exact this
        have hml := missM_len ((plK x k).getD (1 - (x.acts.getD k default) % 2) default) (vecL 4 ((plK x k).getD ((x.acts.getD k default) % 2) default).l)
        have g3 : FnOK Try.prog 37 [.agg ((plK x k).getD ((IntKind.i64.wrap ((x.acts.getD k default) : Int)).tmod 2).toNat default).cells, slChg (missM ((plK x k).getD (1 - (x.acts.getD k default) % 2) default) (vecL 4 ((plK x k).getD ((x.acts.getD k default) % 2) default).l)).1] (hisR (exchM ((plK x k).getD ((x.acts.getD k default) % 2) default) ((plK x k).getD (1 - (x.acts.getD k default) % 2) default), 0), none) := by
          rw [o1]
          have := merge_ok ((plK x k).getD ((x.acts.getD k default) % 2) default) (missM ((plK x k).getD (1 - (x.acts.getD k default) % 2) default) (vecL 4 ((plK x k).getD ((x.acts.getD k default) % 2) default).l)).1 (by omega) (by omega)
          have e4 : mergeM ((plK x k).getD ((x.acts.getD k default) % 2) default) (missM ((plK x k).getD (1 - (x.acts.getD k default) % 2) default) (vecL 4 ((plK x k).getD ((x.acts.getD k default) % 2) default).l)).1 = (exchM ((plK x k).getD ((x.acts.getD k default) % 2) default) ((plK x k).getD (1 - (x.acts.getD k default) % 2) default), 0) := Prod.ext (by unfold exchM; rw [n1]; rfl) e2
          rw [e4] at this
          exact this
        repeat' (first | (refine Sat.go (Eq.refl _) (NS.need (decide_eq_true q1) ?_)) | (refine Sat.go (Eq.refl _) (NS.need (by (try dsimp only); simp only [decide_eq_true_eq, Int.toNat_natCast]; rw [o1]; omega) ?_)))
        refine Sat.go (Eq.refl _) (NS.call (g1) rfl ?_)
        repeat' (first | (refine Sat.go (Eq.refl _) (NS.need (decide_eq_true q2) ?_)) | (refine Sat.go (Eq.refl _) (NS.need (by (try dsimp only); simp only [decide_eq_true_eq, Int.toNat_natCast]; rw [o2]; omega) ?_)))
        refine Sat.go (Eq.refl _) (NS.call (g2) rfl ?_)
        repeat' (first | (refine Sat.go (Eq.refl _) (NS.need (decide_eq_true q1) ?_)) | (refine Sat.go (Eq.refl _) (NS.need (by (try dsimp only); simp only [decide_eq_true_eq, Int.toNat_natCast]; rw [o1]; omega) ?_)))
        refine Sat.go (Eq.refl _) (NS.call (g3) rfl ?_)
        repeat' (first | (refine Sat.go (Eq.refl _) (NS.no (rfl) ?_)))
        repeat' (first | (refine Sat.go (Eq.refl _) (NS.need (decide_eq_true q1) ?_)) | (refine Sat.go (Eq.refl _) (NS.need (by (try dsimp only); simp only [decide_eq_true_eq, Int.toNat_natCast]; rw [o1]; omega) ?_)))
        refine Sat.go (Eq.refl _) (NS.next ⟨k + 1, a⟩ (by simp; omega) ?_)
        refine weak_hd [] rfl ⟨rfl, rfl, rfl, rfl, rfl, rfl, rfl, rfl, ren_int rfl (i64_k (k := k) (n := x.acts.length) a (by omega)), trivial⟩ ⟨⟨_, rfl, renScr _ _⟩, ⟨_, rfl, _, _, rfl, rfl, _, _, rfl, rfl, rfl⟩, ⟨_, rfl, _, _, rfl, rfl, _, _, rfl, rfl, rfl⟩, ⟨_, rfl, renHis _ ⟨4, []⟩⟩, ?_, trivial⟩ trivial (by kernel_rfl)
        rw [hex]
        refine ren_row rfl rfl fun i hi' j hj => ?_
        refine Eq.trans ?_ (row_setG (cells := His.cells) (c := 2) (plK x k) ((x.acts.getD k default) % 2) (exchM ((plK x k).getD ((x.acts.getD k default) % 2) default) ((plK x k).getD (1 - (x.acts.getD k default) % 2) default)) (by omega) i j hj)
        rw [← o1]; rfl
      · refine Sat.go (Eq.refl _) (NS.no (by show (((x.cts.length : Nat) : Int) == 0) = false; rw [beq_eq_false_iff_ne]; omega) ?_)
        refine Sat.go (Eq.refl _) (NS.chk (by kernel_rfl) ?_)
        have w5 : (IntKind.i64.wrap (IntKind.u8.wrap (((x.acts.getD k default) : Int).tdiv 8))).tmod (x.cts.length : Int) = (((x.acts.getD k default) / 8 % x.cts.length : Nat) : Int) := by
          rw [w4, i64_n _ (by have := Nat.div_le_self (x.acts.getD k default) 8; omega), Int.tmod_eq_emod_of_nonneg (by omega)]
          exact (Int.natCast_emod _ _).symm
        have o3 : ((IntKind.i64.wrap (IntKind.u8.wrap (((x.acts.getD k default) : Int).tdiv 8))).tmod (x.cts.length : Int)).toNat = (x.acts.getD k default) / 8 % x.cts.length := by rw [w5]; exact Int.toNat_natCast _
        have hmod : (x.acts.getD k default) / 8 % x.cts.length < x.cts.length := Nat.mod_lt _ (by omega)
        have q3 : 0 ≤ (IntKind.i64.wrap (IntKind.u8.wrap (((x.acts.getD k default) : Int).tdiv 8))).tmod (x.cts.length : Int) ∧ (IntKind.i64.wrap (IntKind.u8.wrap (((x.acts.getD k default) : Int).tdiv 8))).tmod (x.cts.length : Int) < (x.cts.length : Int) := by rw [w5]; omega
        have hst : plK x (k + 1) = if (chgM ((plK x k).getD ((x.acts.getD k default) % 2) default) (((x.acts.getD k default) % 2 : Nat) : Int) ((x.acts.getD k default) / 2 % 4 == 1) (x.cts.getD ((x.acts.getD k default) / 8 % x.cts.length) default)).2 == 0 then (plK x k).set ((x.acts.getD k default) % 2) (chgM ((plK x k).getD ((x.acts.getD k default) % 2) default) (((x.acts.getD k default) % 2 : Nat) : Int) ((x.acts.getD k default) / 2 % 4 == 1) (x.cts.getD ((x.acts.getD k default) / 8 % x.cts.length) default)).1 else (plK x k) := by
          rw [hpl]
          show (if ((x.acts.getD k default) / 2 % 4 == 0 || x.cts.length == 0) = true then _ else _) = _
          rw [if_neg (by rw [Bool.or_eq_true]; rintro (h | h) <;> rw [beq_iff_eq] at h <;> omega)]
        repeat' (first | (refine Sat.go (Eq.refl _) (NS.need (rfl) ?_)) | (refine Sat.go (Eq.refl _) (NS.need (by show (((x.cts.length : Nat) : Int) != 0) = true; rw [bne_iff_ne]; omega) ?_)) | (refine Sat.go (Eq.refl _) (NS.need (decide_eq_true q3) ?_)))
        by_cases h1 : (x.acts.getD k default) / 2 % 4 = 1
        · refine Sat.go (Eq.refl _) (NS.yes (by show ((IntKind.u8.wrap (((x.acts.getD k default) : Int).tdiv 2)).tmod 4 == 1) = true; rw [w3, h1]; rfl) ?_)
          rw [show ((x.acts.getD k default) / 2 % 4 == 1) = true by rw [h1]; rfl] at hst
          have g4 : FnOK Try.prog 15 [.agg ((plK x k).getD ((IntKind.i64.wrap ((x.acts.getD k default) : Int)).tmod 2).toNat default).cells, .int .i64 ((IntKind.i64.wrap ((x.acts.getD k default) : Int)).tmod 2), .agg (x.cts.getD ((IntKind.i64.wrap (IntKind.u8.wrap (((x.acts.getD k default) : Int).tdiv 8))).tmod (x.cts.length : Int)).toNat default).cells] (hisR (chgM ((plK x k).getD ((x.acts.getD k default) % 2) default) (((x.acts.getD k default) % 2 : Nat) : Int) true (x.cts.getD ((x.acts.getD k default) / 8 % x.cts.length) default)), none) := by
            rw [o1, o3, w1]
            exact remove_ok ((plK x k).getD ((x.acts.getD k default) % 2) default) (((x.acts.getD k default) % 2 : Nat) : Int) (x.cts.getD ((x.acts.getD k default) / 8 % x.cts.length) default) (by omega)
          repeat' (first | (refine Sat.go (Eq.refl _) (NS.chk (by kernel_rfl) ?_)) | (refine Sat.go (Eq.refl _) (NS.need (decide_eq_true q1) ?_)) | (refine Sat.go (Eq.refl _) (NS.need (by (try dsimp only); simp only [decide_eq_true_eq, Int.toNat_natCast]; rw [o1]; omega) ?_)))
          refine Sat.go (Eq.refl _) (NS.call (g4) rfl ?_)
          refine Sat.go (Eq.refl _) (NS.ite (fun e => ?_) (fun e => ?_))
          · have e : ((chgM ((plK x k).getD ((x.acts.getD k default) % 2) default) (((x.acts.getD k default) % 2 : Nat) : Int) true (x.cts.getD ((x.acts.getD k default) / 8 % x.cts.length) default)).2 == 0) = true := e
            have hex := hst.trans (if_pos e)
            repeat' (first | (refine Sat.go (Eq.refl _) (NS.need (decide_eq_true q1) ?_)) | (refine Sat.go (Eq.refl _) (NS.need (by (try dsimp only); simp only [decide_eq_true_eq, Int.toNat_natCast]; rw [o1]; omega) ?_)))
            refine Sat.go (Eq.refl _) (NS.next ⟨k + 1, a⟩ (by simp; omega) ?_)
            refine weak_hd [] rfl ⟨rfl, rfl, rfl, rfl, rfl, rfl, rfl, rfl, ren_int rfl (i64_k (k := k) (n := x.acts.length) a (by omega)), trivial⟩ ⟨⟨_, rfl, renScr _ _⟩, ⟨_, rfl, _, _, rfl, rfl, _, _, rfl, rfl, rfl⟩, ⟨_, rfl, _, _, rfl, rfl, _, _, rfl, rfl, rfl⟩, ⟨_, rfl, renHis _ ⟨4, []⟩⟩, ?_, trivial⟩ trivial (by kernel_rfl)
            rw [hex]
            refine ren_row rfl rfl fun i hi' j hj => ?_
            refine Eq.trans ?_ (row_setG (cells := His.cells) (c := 2) (plK x k) ((x.acts.getD k default) % 2) (chgM ((plK x k).getD ((x.acts.getD k default) % 2) default) (((x.acts.getD k default) % 2 : Nat) : Int) true (x.cts.getD ((x.acts.getD k default) / 8 % x.cts.length) default)).1 (by omega) i j hj)
            rw [← o1]; rfl
          · have e : ((chgM ((plK x k).getD ((x.acts.getD k default) % 2) default) (((x.acts.getD k default) % 2 : Nat) : Int) true (x.cts.getD ((x.acts.getD k default) / 8 % x.cts.length) default)).2 == 0) = false := e
            have hex := hst.trans (if_neg (by rw [e]; simp))
            refine Sat.go (Eq.refl _) (NS.next ⟨k + 1, a⟩ (by simp; omega) ?_)
            refine weak_hd [] rfl ⟨rfl, rfl, rfl, rfl, rfl, rfl, rfl, rfl, ren_int rfl (i64_k (k := k) (n := x.acts.length) a (by omega)), trivial⟩ ⟨⟨_, rfl, renScr _ _⟩, ⟨_, rfl, _, _, rfl, rfl, _, _, rfl, rfl, rfl⟩, ⟨_, rfl, _, _, rfl, rfl, _, _, rfl, rfl, rfl⟩, ⟨_, rfl, renHis _ ⟨4, []⟩⟩, ?_, trivial⟩ trivial (by kernel_rfl)
            rw [hex]
            exact ren_row rfl rfl fun _ _ _ _ => rfl
        · refine Sat.go (Eq.refl _) (NS.no (by show ((IntKind.u8.wrap (((x.acts.getD k default) : Int).tdiv 2)).tmod 4 == 1) = false; rw [w3, beq_eq_false_iff_ne]; omega) ?_)
          rw [show ((x.acts.getD k default) / 2 % 4 == 1) = false by rw [beq_eq_false_iff_ne]; exact h1] at hst
          have g4 : FnOK Try.prog 13 [.agg ((plK x k).getD ((IntKind.i64.wrap ((x.acts.getD k default) : Int)).tmod 2).toNat default).cells, .int .i64 ((IntKind.i64.wrap ((x.acts.getD k default) : Int)).tmod 2), .agg (x.cts.getD ((IntKind.i64.wrap (IntKind.u8.wrap (((x.acts.getD k default) : Int).tdiv 8))).tmod (x.cts.length : Int)).toNat default).cells] (hisR (chgM ((plK x k).getD ((x.acts.getD k default) % 2) default) (((x.acts.getD k default) % 2 : Nat) : Int) false (x.cts.getD ((x.acts.getD k default) / 8 % x.cts.length) default)), none) := by
            rw [o1, o3, w1]
            exact put_ok ((plK x k).getD ((x.acts.getD k default) % 2) default) (((x.acts.getD k default) % 2 : Nat) : Int) (x.cts.getD ((x.acts.getD k default) / 8 % x.cts.length) default) (by omega)
          repeat' (first | (refine Sat.go (Eq.refl _) (NS.chk (by kernel_rfl) ?_)) | (refine Sat.go (Eq.refl _) (NS.need (decide_eq_true q1) ?_)) | (refine Sat.go (Eq.refl _) (NS.need (by (try dsimp only); simp only [decide_eq_true_eq, Int.toNat_natCast]; rw [o1]; omega) ?_)))
          refine Sat.go (Eq.refl _) (NS.call (g4) rfl ?_)
          refine Sat.go (Eq.refl _) (NS.ite (fun e => ?_) (fun e => ?_))
          · have e : ((chgM ((plK x k).getD ((x.acts.getD k default) % 2) default) (((x.acts.getD k default) % 2 : Nat) : Int) false (x.cts.getD ((x.acts.getD k default) / 8 % x.cts.length) default)).2 == 0) = true := e
            have hex := hst.trans (if_pos e)
            repeat' (first | (refine Sat.go (Eq.refl _) (NS.need (decide_eq_true q1) ?_)) | (refine Sat.go (Eq.refl _) (NS.need (by (try dsimp only); simp only [decide_eq_true_eq, Int.toNat_natCast]; rw [o1]; omega) ?_)))
            refine Sat.go (Eq.refl _) (NS.next ⟨k + 1, a⟩ (by simp; omega) ?_)
            refine weak_hd [] rfl ⟨rfl, rfl, rfl, rfl, rfl, rfl, rfl, rfl, ren_int rfl (i64_k (k := k) (n := x.acts.length) a (by omega)), trivial⟩ ⟨⟨_, rfl, renScr _ _⟩, ⟨_, rfl, _, _, rfl, rfl, _, _, rfl, rfl, rfl⟩, ⟨_, rfl, _, _, rfl, rfl, _, _, rfl, rfl, rfl⟩, ⟨_, rfl, renHis _ ⟨4, []⟩⟩, ?_, trivial⟩ trivial (by kernel_rfl)
            rw [hex]
            refine ren_row rfl rfl fun i hi' j hj => ?_
            refine Eq.trans ?_ (row_setG (cells := His.cells) (c := 2) (plK x k) ((x.acts.getD k default) % 2) (chgM ((plK x k).getD ((x.acts.getD k default) % 2) default) (((x.acts.getD k default) % 2 : Nat) : Int) false (x.cts.getD ((x.acts.getD k default) / 8 % x.cts.length) default)).1 (by omega) i j hj)
            rw [← o1]; rfl
          · have e : ((chgM ((plK x k).getD ((x.acts.getD k default) % 2) default) (((x.acts.getD k default) % 2 : Nat) : Int) false (x.cts.getD ((x.acts.getD k default) / 8 % x.cts.length) default)).2 == 0) = false := e
            have hex := hst.trans (if_neg (by rw [e]; simp))
            refine Sat.go (Eq.refl _) (NS.next ⟨k + 1, a⟩ (by simp; omega) ?_)
            refine weak_hd [] rfl ⟨rfl, rfl, rfl, rfl, rfl, rfl, rfl, rfl, ren_int rfl (i64_k (k := k) (n := x.acts.length) a (by omega)), trivial⟩ ⟨⟨_, rfl, renScr _ _⟩, ⟨_, rfl, _, _, rfl, rfl, _, _, rfl, rfl, rfl⟩, ⟨_, rfl, _, _, rfl, rfl, _, _, rfl, rfl, rfl⟩, ⟨_, rfl, renHis _ ⟨4, []⟩⟩, ?_, trivial⟩ trivial (by kernel_rfl)
            rw [hex]
            exact ren_row rfl rfl fun _ _ _ _ => rfl
  · have a : x.acts.length ≤ k := by simpa using a
    obtain rfl : k = x.acts.length := by omega
    refine Sat.go (Eq.refl _) (NS.leave rfl (Eq.refl _) ?_)
    repeat' (first | (refine Sat.go (Eq.refl _) (NS.chk (by kernel_rfl) ?_)) | (refine Sat.go (Eq.refl _) (NS.need (rfl) ?_)))
    exact Sat.go (Eq.refl _) (NS.ret rfl rfl (LeA.tup3 (LeA.refl _) (LeA.refl _) (LeA.of (congrArg A.bool rfl))))
end Go.Proofs.Ythfbahebeembeaa
