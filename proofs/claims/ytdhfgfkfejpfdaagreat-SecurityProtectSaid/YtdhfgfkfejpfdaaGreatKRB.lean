/- The reference's hash of lists. -/
import Derived.Test.YtdhfgfkfejpfdaaGreatKRA
import Derived.Test.YtdhfgfkfejpfdaaGreatKCH
set_option linter.unusedSimpArgs false
set_option linter.unusedSectionVars false
set_option linter.unusedVariables false
namespace Go.Mb
open Go.Sy
set_option linter.unusedVariables false
def padB (m k : Nat) : List Nat := bytesN m k ++ List.replicate (8 - k) 0
theorem bytesN_le (m : Nat) : ∀ k, (bytesN m k).length = k
  | 0 => rfl
  | k + 1 => by rw [bytesN, List.length_append, bytesN_le m k]; rfl
theorem padB_len (m : Nat) {k : Nat} (h : k ≤ 8) : (padB m k).length = 8 := by unfold padB; rw [List.length_append, bytesN_le, List.length_replicate]; omega
theorem padB_set (m : Nat) {k : Nat} (h : k < 8) : (padB m k).set k (m / 2 ^ (8 * k) % 256) = padB m (k + 1) := by
  unfold padB
  rw [List.set_append_right (h := by rw [bytesN_le]; exact Nat.le_refl _), bytesN_le, Nat.sub_self, show 8 - k = (8 - (k + 1)) + 1 by omega, List.replicate_succ, List.set_cons_zero, bytesN]
  simp
theorem byteStepU {m k : Nat} (hm : m < 2 ^ 64) (hk : k < 8) : IntKind.u8.wrap ((m : Int).fdiv (2 ^ (min (IntKind.u64.wrap (8 * IntKind.u64.wrap (k : Int))).toNat IntKind.u64.bits))) = ((m / 2 ^ (8 * k) % 256 : Nat) : Int) := by
  have e0 : min (IntKind.u64.wrap (8 * IntKind.u64.wrap (k : Int))).toNat IntKind.u64.bits = 8 * k := by
    have : IntKind.u64.bits = 64 := rfl
    rw [this, u64v (n := k) (by omega), show (8 : Int) * (k : Int) = ((8 * k : Nat) : Int) by omega, u64v (by omega)]; omega
  rw [e0, shrU, wrap_u8m]; omega
theorem lastW {s : ByteArray} (hs : s.size ≤ 1000000) {w : Nat} (hw : w < 2 ^ 64) : IntKind.u64.wrap ((BitVec.ofInt IntKind.u64.bits (w : Int) ||| BitVec.ofInt IntKind.u64.bits (IntKind.u64.wrap (IntKind.u64.wrap ((s.size : Int).tmod 256) * 2 ^ (min (56 : Int).toNat IntKind.u64.bits)))).toNat : Int) = ((w ||| (s.size % 256 * 2 ^ 56) : Nat) : Int) := by
  have e : ((s.size : Nat) : Int).tmod 256 = ((s.size % 256 : Nat) : Int) := (Int.ofNat_tmod s.size 256).symm
  have hb : s.size % 256 < 256 := Nat.mod_lt _ (by decide)
  have hl : s.size % 256 * 2 ^ 56 < 2 ^ 64 := by omega
  rw [e, u64v (n := s.size % 256) (by omega), show min (56 : Int).toNat IntKind.u64.bits = 56 from rfl, shlU, Nat.mod_eq_of_lt hl, orU hw hl]
end Go.Mb
namespace Go.Proofs.YtdhfgfkfejpfdaaGreat
open Go.Sy Go.Mb
set_option maxRecDepth 100000
set_option linter.unusedVariables false
set_option maxHeartbeats 4000000

theorem rBytes8_ok (m : Nat) (hm : m < 2 ^ 64) : FnOK Tryz.prog 70 [.int .u64 m] (.str (bs (bytesN m 8)), none) := by
  refine fn_ok CN rfl (by kernel_rfl) Tryz.func70 rfl ?_
  refine Sat.go (Eq.refl _) (NS.need (decide_eq_true (by simp only [maxRow]; omega)) ?_)
  refine Sat.go (Eq.refl _) ?_
  refine NS.loop (σ := { k : Nat // k ≤ 8 }) (fun k => [(0, .int .u64 m), (3, .own 5), (4, .int .i64 k.1)]) (fun k => [(5, .row 5 1 8 (rowL bC (padB m k.1)))]) (fun k => 8 - k.1) ⟨0, by omega⟩ ?_ ?_
  · refine weak_hd [] rfl ⟨rfl, rfl, rfl, trivial⟩ ⟨ren_row rfl rfl fun i hi j hj => ?_, trivial⟩ trivial (by kernel_rfl)
    have hi : i < 8 := hi
    obtain rfl : j = 0 := by have hj : j < 1 := hj; omega
    rcases (by omega : i = 0 ∨ i = 1 ∨ i = 2 ∨ i = 3 ∨ i = 4 ∨ i = 5 ∨ i = 6 ∨ i = 7) with rfl | rfl | rfl | rfl | rfl | rfl | rfl | rfl <;> rfl
  rintro ⟨k, hk⟩
  have hk : k ≤ 8 := hk
  refine Sat.go (Eq.refl _) (NS.ite (fun a => ?_) (fun a => ?_))
  · have a : k < 8 := by have a : decide ((k : Int) < 8) = true := a; have := of_decide_eq_true a; omega
    have e := byteStepU hm a
    refine Sat.go (Eq.refl _) (NS.need (by show decide (0 ≤ IntKind.u64.wrap (8 * IntKind.u64.wrap (k : Int))) = true; rw [u64v (n := k) (by omega), show (8 : Int) * (k : Int) = ((8 * k : Nat) : Int) by omega, u64v (by omega)]; exact decide_eq_true (by omega)) ?_)
    refine Sat.go (Eq.refl _) (NS.need (by show decide (0 ≤ (k : Int) ∧ (k : Int) < ((8 : Nat) : Int)) = true; exact decide_eq_true (by omega)) ?_)
    refine Sat.go (Eq.refl _) (NS.need (by show decide (((k : Nat) : Int).toNat < 8) = true; exact decide_eq_true (by omega)) ?_)
    refine Sat.go (Eq.refl _) (NS.next ⟨k + 1, by omega⟩ (by show 8 - (k + 1) < 8 - k; omega) ?_)
    refine weak_hd [] rfl ⟨rfl, rfl, ren_int rfl (i64_k (k := k) (n := 8) a (by omega)), trivial⟩ ⟨ren_row rfl rfl (fun q hq j hj => ?_), trivial⟩ trivial (by kernel_rfl)
    have hrs := row_setG (cells := bC) (padB m k) k (m / 2 ^ (8 * k) % 256) (by rw [padB_len m hk]; exact a) q j hj
    rw [padB_set m a] at hrs
    show _ = rowL bC (padB m (k + 1)) q j
    rw [← hrs]
    show (if _ then getA [A.int .u8 _] (j - 0) else _) = (if _ then getA [A.int .u8 _] (j - 0) else _)
    rw [← e]
    rfl
  have a : k = 8 := by have a : decide ((k : Int) < 8) = false := a; have := of_decide_eq_false a; omega
  subst a
  have hp : padB m 8 = bytesN m 8 := by unfold padB; simp
  have hb := bytesOf_row (padB m 8)
  rw [padB_len m (Nat.le_refl _)] at hb
  refine Sat.go (Eq.refl _) (NS.leave rfl (Eq.refl _) ?_)
  refine Sat.go (Eq.refl _) (NS.need (allN_row fun i hi => rfl) ?_)
  rw [hb, hp]
  exact Sat.go (Eq.refl _) (NS.ret rfl rfl (LeA.refl _))
theorem rHash_ok (key s : ByteArray) (hs : s.size ≤ 100000) (hk : key.size ≤ 1000) : FnOK Tryz.prog 71 [.str key, .str s] (.str (tagM key s), none) := by
  have c0 : FnOK Tryz.prog 86 [.str key, .int .i64 0] (.int .u64 (wordL (ls key) : Nat), none) := rWord_ok key 0 (by omega) (by omega)
  have c8 : FnOK Tryz.prog 86 [.str key, .int .i64 8] (.int .u64 (wordL ((ls key).drop 8) : Nat), none) := rWord_ok key 8 (by omega) (by omega)
  have h0 := sip0_ok (ls_lt key)
  have x1 := xorU (wordL_lt (ls_lt key)) (show 8317987319222330741 < 2 ^ 64 by decide)
  have x2 := xorU (wordL_lt (drop_lt (ls_lt key) 8)) (show 7237128888997146477 < 2 ^ 64 by decide)
  have x3 := xorU (wordL_lt (ls_lt key)) (show 7816392313619706465 < 2 ^ 64 by decide)
  have x4 := xorU (wordL_lt (drop_lt (ls_lt key) 8)) (show 8387220255154660723 < 2 ^ 64 by decide)
  have hsl := ls_len s
  refine fn_ok CN rfl (by kernel_rfl) Tryz.func71 rfl ?_
  refine Sat.go (Eq.refl _) (NS.call (c0) rfl ?_)
  refine Sat.go (Eq.refl _) (NS.call (c8) rfl ?_)
  refine Sat.go (Eq.refl _) ?_
  refine NS.loop (σ := { k : Nat // 8 * k ≤ s.size }) (fun k => [(1, .str s), (7, .ptr 7 0), (8, .int .i64 ((8 * k.1 : Nat) : Int))]) (fun k => [(7, .box (Hs.cells (foldW (ls s) (sip0 (ls key)) k.1)))]) (fun k => s.size - 8 * k.1) ⟨0, by omega⟩ ?_ ?_
  · exact weak_hd [] rfl ⟨rfl, rfl, rfl, trivial⟩ ⟨⟨_, rfl, _, _, rfl, ren_int rfl x1, _, _, rfl, ren_int rfl x2, _, _, rfl, ren_int rfl x3, _, _, rfl, ren_int rfl x4, rfl⟩, trivial⟩ trivial (by kernel_rfl)
  rintro ⟨k, hk8⟩
  have hk8 : 8 * k ≤ s.size := hk8
  have hw : IntKind.i64.wrap (((8 * k : Nat) : Int) + 8) = ((8 * (k + 1) : Nat) : Int) := by rw [wrap_i64 (by omega) (by omega)]; omega
  have hm := wordL_lt (drop_lt (ls_lt s) (8 * k))
  have hok := foldW_ok (ls_lt s) h0 k
  have cw := rWord_ok s (8 * k) (by omega) (by omega)
  refine Sat.go (Eq.refl _) (NS.ite (fun q => ?_) (fun q => ?_))
  · have q : 8 * (k + 1) ≤ s.size := by have q : decide (IntKind.i64.wrap (((8 * k : Nat) : Int) + 8) ≤ (s.size : Int)) = true := q; rw [hw] at q; have := of_decide_eq_true q; omega
    have ca := rAbsorb_ok _ hok _ hm
    refine Sat.go (Eq.refl _) (NS.chk (by kernel_rfl) ?_)
    refine Sat.go (Eq.refl _) (NS.call (cw) rfl ?_)
    refine Sat.go (Eq.refl _) (NS.call (ca) rfl ?_)
    refine Sat.go (Eq.refl _) (NS.next ⟨k + 1, by omega⟩ (by show s.size - 8 * (k + 1) < s.size - 8 * k; omega) ?_)
    exact weak_hd [] rfl ⟨rfl, rfl, ren_int rfl hw, trivial⟩ ⟨⟨_, rfl, _, _, rfl, rfl, _, _, rfl, rfl, _, _, rfl, rfl, _, _, rfl, rfl, rfl⟩, trivial⟩ trivial (by kernel_rfl)
  have q : ¬ 8 * (k + 1) ≤ s.size := by have q : decide (IntKind.i64.wrap (((8 * k : Nat) : Int) + 8) ≤ (s.size : Int)) = false := q; rw [hw] at q; have := of_decide_eq_false q; omega
  have hk9 : k = s.size / 8 := by omega
  refine Sat.go (Eq.refl _) (NS.leave rfl (Eq.refl _) ?_)
  refine Sat.go (Eq.refl _) (NS.chk (by kernel_rfl) ?_)
  refine Sat.go (Eq.refl _) (NS.call (cw) rfl ?_)
  have hlw := (lastW (s := s) (by omega) hm).trans (congrArg (fun x : Nat => (x : Int)) (show (wordL ((ls s).drop (8 * k)) ||| (s.size % 256 * 2 ^ 56)) = wordL (lastB (ls s)) by rw [wordL_last (ls_lt s), hsl, ← hk9]))
  have hm2 := wordL_lt (lastB_lt (ls_lt s))
  have hok2 := foldW_ok (ls_lt s) h0 k
  obtain ⟨T, hT⟩ : ∃ T, absb (foldW (ls s) (sip0 (ls key)) k) (wordL (lastB (ls s))) = T := ⟨_, rfl⟩
  have ca := rAbsorb_ok _ hok2 _ hm2
  rw [hT] at ca
  have hTok : T.ok := hT ▸ absb_ok hok2 hm2
  have hT2 : absb (foldW (ls s) (sip0 (ls key)) ((ls s).length / 8)) (wordL (lastB (ls s))) = T := by rw [hsl, ← hk9]; exact hT
  obtain ⟨R, hR0, hRs⟩ : ∃ R : Nat → Hs, R 0 = ⟨T.a, T.b, T.c ^^^ 255, T.d⟩ ∧ ∀ q, R (q + 1) = rnd (R q) := ⟨rndK _, rfl, fun _ => rfl⟩
  have hR4 : R 4 = finS T := by rw [hRs, hRs, hRs, hRs, hR0]; rfl
  have hRok : ∀ q, (R q).ok := fun q => by
    induction q with
    | zero => rw [hR0]; exact ⟨hTok.1, hTok.2.1, xor_lt hTok.2.2.1 (by decide), hTok.2.2.2⟩
    | succ q ih => rw [hRs]; exact rnd_ok ih
  have cr : ∀ q, FnOK Tryz.prog 88 [.agg (R q).cells] (.agg (R (q + 1)).cells, none) := fun q => by
    have := rRound_ok (R q) (hRok q)
    rwa [← hRs] at this
  have e5 : IntKind.u64.wrap ((BitVec.ofInt IntKind.u64.bits (T.c : Int) ^^^ BitVec.ofInt IntKind.u64.bits 255).toNat : Int) = ((T.c ^^^ 255 : Nat) : Int) := xorU hTok.2.2.1 (show 255 < 2 ^ 64 by decide)
  refine Sat.go (Eq.refl _) (NS.need (rfl) ?_)
  refine Sat.go (Eq.refl _) (NS.need (by kernel_rfl) ?_)
  refine Sat.go (Eq.refl _) (NS.call (ca.le (LeL.cons (LeA.refl _) (LeL.cons (LeA.of (congrArg (A.int .u64) hlw)) LeL.nil))) rfl ?_)
  refine Sat.go (Eq.refl _) (NS.call ((cr 0).le (LeL.cons (LeA.of (by show A.agg [.int .u64 T.a, .int .u64 T.b, .int .u64 _, .int .u64 T.d] = A.agg (R 0).cells; rw [e5, hR0]; rfl)) LeL.nil)) rfl ?_)
  refine Sat.go (Eq.refl _) (NS.call (cr 1) rfl ?_)
  refine Sat.go (Eq.refl _) (NS.call (cr 2) rfl ?_)
  refine Sat.go (Eq.refl _) (NS.call (cr 3) rfl ?_)
  have hr := hRok 4
  have hh : hashL (ls key) (ls s) = (((R 4).a ^^^ (R 4).b) ^^^ (R 4).c) ^^^ (R 4).d := by rw [hR4, ← hT2]; rfl
  have hx1 := xor_lt hr.1 hr.2.1
  have hx2 := xor_lt hx1 hr.2.2.1
  have hx3 := xor_lt hx2 hr.2.2.2
  have eH : xI (xI (xI (R 4).a (R 4).b) (R 4).c) (R 4).d = ((hashL (ls key) (ls s) : Nat) : Int) := by
    rw [hh, xI_eq hr.1 hr.2.1, xI_eq hx1 hr.2.2.1, xI_eq hx2 hr.2.2.2]
  refine Sat.go (Eq.refl _) (NS.call (((rBytes8_ok (hashL (ls key) (ls s)) (by rw [hh]; exact hx3)).le (LeL.cons (LeA.of (congrArg (A.int .u64) eH)) LeL.nil))) rfl ?_)
  exact Sat.go (Eq.refl _) (NS.ret rfl rfl (LeA.refl _))
theorem rChain_ok (key : ByteArray) (l : List ByteArray) (h : key.size = 16) (hl : (chnL l).length ≤ 65536) (hn : l.length ≤ 1000) : FnOK Tryz.prog 46 [.str key, .sl 1 l.length (rowL sC l)] (.tup [.str (bs (tagL (ls key) (chnL l))), .int .i64 0], none) := by
  refine fn_ok CN rfl (by kernel_rfl) Tryz.func46 rfl ?_
  refine Sat.go (Eq.refl _) (NS.no (by rw [h]; rfl) ?_)
  refine Sat.go (Eq.refl _) ?_
  refine NS.loop (σ := { k : Nat // k ≤ l.length }) (fun k => [(0, .str key), (1, .sl 1 l.length (rowL sC l)), (6, .str (bs (chnL (l.take k.1)))), (7, .int .i64 k.1)]) (fun k => []) (fun k => l.length - k.1) ⟨0, Nat.zero_le _⟩ ?_ ?_
  · exact weak_hd [] rfl ⟨rfl, rfl, rfl, rfl, trivial⟩ trivial trivial (by kernel_rfl)
  rintro ⟨k, hk⟩
  have hk : k ≤ l.length := hk
  refine Sat.go (Eq.refl _) (NS.ite (fun a => ?_) (fun a => ?_))
  · have a : k < l.length := by simpa using a
    have e : chnL (l.take (k + 1)) = chnL (l.take k) ++ bytesN (l.getD k default).size 8 ++ ls (l.getD k default) := by
      rw [take_snoc a]; unfold chnL; simp
    have hle : (chnL (l.take (k + 1))).length ≤ 65536 := by
      refine Nat.le_trans ?_ hl
      have : chnL l = chnL (l.take (k + 1)) ++ chnL (l.drop (k + 1)) := by unfold chnL; rw [← List.flatMap_append, List.take_append_drop]
      rw [this, List.length_append]; omega
    have hle2 := hle
    rw [e, List.length_append, List.length_append, bytesN_len, ls_len] at hle2
    have hw : IntKind.i64.wrap (IntKind.i64.wrap (((chnL (l.take k)).length : Int) + 8) + ((l.getD k default).size : Int)) = (((chnL (l.take k)).length + 8 + (l.getD k default).size : Nat) : Int) := by
      rw [wrap_i64 (n := ((chnL (l.take k)).length : Int) + 8) (by omega) (by omega), wrap_i64 (by omega) (by omega)]; omega
    have hz : (bs (chnL (l.take k))).size = (chnL (l.take k)).length := bs_len _
    have hsz : IntKind.u64.wrap ((l.getD k default).size : Int) = (((l.getD k default).size : Nat) : Int) := u64v (by omega)
    refine Sat.go (Eq.refl _) (NS.need (by simp; omega) ?_)
    refine Sat.go (Eq.refl _) (NS.no (by show decide (IntKind.i64.wrap (IntKind.i64.wrap (((bs (chnL (l.take k))).size : Int) + 8) + ((l.getD k default).size : Int)) > 65536) = false; rw [hz, hw]; exact decide_eq_false (by omega)) ?_)
    have hb8 : (bs (bytesN (l.getD k default).size 8)).size = 8 := by rw [bs_len, bytesN_le]
    refine Sat.go (Eq.refl _) (NS.chk (by kernel_rfl) ?_)
    refine Sat.go (Eq.refl _) (NS.need (by simp; omega) ?_)
    refine Sat.go (Eq.refl _) (NS.call ((rBytes8_ok (l.getD k default).size (by omega)).le (LeL.cons (LeA.of (congrArg (A.int .u64) hsz)) LeL.nil)) rfl ?_)
    refine Sat.go (Eq.refl _) (NS.need (decide_eq_true (by rw [hz, hb8]; omega)) ?_)
    refine Sat.go (Eq.refl _) (NS.need (by simp; omega) ?_)
    refine Sat.go (Eq.refl _) (NS.need (decide_eq_true (by show (bs (chnL (l.take k)) ++ bs (bytesN (l.getD k default).size 8)).size + (l.getD k default).size ≤ _; rw [ByteArray.size_append, hz, hb8]; omega)) ?_)
    refine Sat.go (Eq.refl _) (NS.next ⟨k + 1, by omega⟩ (by show l.length - (k + 1) < l.length - k; omega) ?_)
    exact weak_hd [] rfl ⟨rfl, rfl, ren_str rfl (by show bs (chnL (l.take k)) ++ bs (bytesN (l.getD k default).size 8) ++ l.getD k default = bs (chnL (l.take (k + 1))); rw [e, bs_append, bs_append, bs_ls]), ren_int rfl (i64_k (k := k) (n := l.length) a (by omega)), trivial⟩ trivial trivial (by kernel_rfl)
  have a : k = l.length := by have a : ¬ k < l.length := by simpa using a
                              omega
  subst a
  have hls : ls (bs (chnL l)) = chnL l := ls_bs fun x hx => by
    unfold chnL at hx
    rw [List.mem_flatMap] at hx
    obtain ⟨s, _, hx⟩ := hx
    rcases List.mem_append.1 hx with hx | hx
    · exact bytesN_lt' _ 8 x hx
    · exact ls_lt s x hx
  have c := rHash_ok key (bs (chnL l)) (by rw [bs_len]; omega) (by omega)
  unfold tagM at c
  rw [hls] at c
  refine Sat.go (Eq.refl _) (NS.leave rfl (Eq.refl _) ?_)
  refine Sat.go (Eq.refl _) (NS.call ((c.le (LeL.cons (LeA.refl _) (LeL.cons (LeA.of (show A.str (bs (chnL (l.take l.length))) = A.str (bs (chnL l)) by rw [List.take_length])) LeL.nil)))) rfl ?_)
  exact Sat.go (Eq.refl _) (NS.ret rfl rfl (LeA.refl _))
end Go.Proofs.YtdhfgfkfejpfdaaGreat
