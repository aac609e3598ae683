/- Bundles with other signatures, in plain words. -/
import Derived.Test.YtdhfgfkfejpfdaaGreatKV
set_option linter.unusedSimpArgs false
set_option linter.unusedSectionVars false
set_option linter.unusedVariables false
namespace Go.Mb
open Go.Sy
set_option linter.unusedVariables false

def setS (b : Bun) (S : List Sg) : Bun := { b with l := putL b.l (newB b S) }
theorem chkB_with {b : Bun} (h : chkB b = 0) {l : List Blk} (hl : GoodL l) : chkB { b with l := l } = 0 := chkB_zero.2 ⟨(chkB_zero.1 h).1, hl⟩
theorem goodL_of {b : Bun} (h : chkB b = 0) : GoodL b.l := (chkB_zero.1 h).2
theorem fnd_flags {b : Bun} (h : chkB b = 0) : 0 ≤ (fndB b.l 4).1.flags ∧ (fndB b.l 4).1.flags ≤ 15 := by
  cases hb : (fndB b.l 4).2 with
  | true =>
    have := (goodL_of h).2.1 _ (fndB_some hb).1
    rw [chkK_zero] at this; omega
  | false => rw [(fndB_none hb).1]; exact ⟨by decide, by decide⟩
theorem newB_chk {b : Bun} (h : chkB b = 0) {S : List Sg} (hs : GoodS S) : chkK (newB b S) = 0 := by
  have hf := fnd_flags h
  have e := enS_len hs.tags
  have hl := hs.len
  rw [chkK_zero]
  refine ⟨by show (1 : Int) ≤ 4; decide, by show (4 : Int) ≤ 255; decide, hf.1, hf.2, ?_⟩
  show (bs (enS S)).size ≤ 1024
  rw [bs_len, e]; omega
/-- A bundle that can be examined. -/
structure Okb (b : Bun) : Prop where
  chk : chkB b = 0
  dmg : dmgB b = false
theorem Okb.good {b : Bun} (h : Okb b) : GoodS (sgB b) := by
  cases hb : (fndB b.l 4).2 with
  | true =>
    have hd := h.dmg
    unfold dmgB at hd
    rw [hb, Bool.true_and] at hd
    exact (goodS_sgs (ls_lt _) hd).1
  | false =>
    have e : sgB b = [] := by unfold sgB authD; rw [(fndB_none hb).1]; rfl
    rw [e]; exact ⟨List.Pairwise.nil, fun p hp => by cases hp⟩
theorem Okb.enc {b : Bun} (h : Okb b) (hb : (fndB b.l 4).2 = true) : enS (sgB b) = ls (authD b) ∧ sgB b ≠ [] := by
  have hd := h.dmg
  unfold dmgB at hd
  rw [hb, Bool.true_and] at hd
  obtain ⟨h1, h2, h3⟩ := goodS_sgs (ls_lt _) hd
  refine ⟨enS_sgs h3, fun e => h2 ?_⟩
  rw [← enS_sgs h3, show sgs (ls (authD b)) = [] from e]; rfl
theorem sgB_none {b : Bun} (hb : (fndB b.l 4).2 = false) : sgB b = [] := by unfold sgB authD; rw [(fndB_none hb).1]; rfl
theorem setS_fnd {b : Bun} (h : chkB b = 0) (S : List Sg) : fndB (setS b S).l 4 = (newB b S, true) := by
  have hm : newB b S ∈ (setS b S).l := putL_mem.2 (.inl rfl)
  exact fndB_mem (putL_sorted (goodL_of h).2.2 _) hm
theorem setS_flags {b : Bun} (h : chkB b = 0) (S : List Sg) : (fndB (setS b S).l 4).1.flags = (fndB b.l 4).1.flags := by rw [setS_fnd h]; rfl
theorem setS_auth {b : Bun} (h : chkB b = 0) {S : List Sg} (hs : GoodS S) : ls (authD (setS b S)) = enS S := by
  unfold authD; rw [setS_fnd h]; exact ls_bs hs.lt
theorem setS_sg {b : Bun} (h : chkB b = 0) {S : List Sg} (hs : GoodS S) : sgB (setS b S) = S := by
  unfold sgB; rw [setS_auth h hs, sgs_enS hs.tags]
/-- There is room for a block of signatures. -/
def room (b : Bun) : Prop := (remB b.l 4).length ≤ 7
theorem setS_room {b : Bun} (h : chkB b = 0) (S : List Sg) : (setS b S).l.length ≤ 8 ↔ room b := by
  have := putL_len (goodL_of h).2.2 (newB b S)
  rw [show (newB b S).kind = 4 from rfl] at this
  unfold setS room; simp only; omega
theorem setS_chk {b : Bun} (h : chkB b = 0) {S : List Sg} (hs : GoodS S) (hr : room b) : chkB (setS b S) = 0 :=
  chkB_with h (putL_good (goodL_of h) (newB_chk h hs) ((setS_room h S).2 hr))
theorem setS_ok {b : Bun} (h : chkB b = 0) {S : List Sg} (hs : GoodS S) (hn : S ≠ []) (hr : room b) : Okb (setS b S) :=
  ⟨setS_chk h hs hr, by unfold dmgB; rw [setS_auth h hs, dmgL_enS hs hn, Bool.and_false]⟩
theorem setS_rem {b : Bun} (h : chkB b = 0) (S : List Sg) : remB (setS b S).l 4 = remB b.l 4 := remB_putL (goodL_of h).2.2 (newB b S)
theorem setS_room' {b : Bun} (h : chkB b = 0) (S : List Sg) : room (setS b S) ↔ room b := by unfold room; rw [setS_rem h]
theorem setS_setS {b : Bun} (h : chkB b = 0) (S S' : List Sg) : setS (setS b S) S' = setS b S' := by
  have e : newB (setS b S) S' = newB b S' := by unfold newB; rw [setS_flags h]
  have e2 : setS (setS b S) S' = { setS b S with l := putL (setS b S).l (newB b S') } := by unfold setS at e ⊢; rw [e]
  rw [e2]
  show ({ b with l := putL (putL b.l (newB b S)) (newB b S') } : Bun) = { b with l := putL b.l (newB b S') }
  rw [putL_putL (goodL_of h).2.2 (x := newB b S) (y := newB b S') rfl]
theorem setS_self {b : Bun} (h : Okb b) (hb : (fndB b.l 4).2 = true) : setS b (sgB b) = b := by
  have e : newB b (sgB b) = (fndB b.l 4).1 := by
    unfold newB
    rw [(h.enc hb).1, bs_ls]
    have h2 := (fndB_some hb).2
    unfold authD
    generalize fndB b.l 4 = r at h2 ⊢
    obtain ⟨⟨k, f, d⟩, q⟩ := r
    have h2 : k = 4 := h2
    rw [h2]
  unfold setS
  rw [e, putL_self (goodL_of h.chk).2.2 (fndB_some hb).1]
theorem setS_sdt {b : Bun} (h : chkB b = 0) (S : List Sg) : sdt (setS b S) = sdt b := by
  unfold sdt
  rw [show rem4 (setS b S).l = rem4 b.l from rem4_putL (goodL_of h).2.2 _ (.inr (.inr (.inr rfl)))]
  rfl
theorem setS_sgn {b : Bun} (h : chkB b = 0) (S : List Sg) (n : Nat) (key : ByteArray) : sgnM (setS b S) n key = sgnM b n key := by unfold sgnM; rw [setS_sdt h]
theorem sgnM_len (b : Bun) (n : Nat) (key : ByteArray) : (sgnM b n key).length = 8 := rfl
theorem bytesN_lt (m : Nat) : ∀ (k : Nat), ∀ x ∈ bytesN m k, x < 256
  | 0, x, h => by cases h
  | k + 1, x, h => by
    rw [bytesN] at h
    rcases List.mem_append.1 h with h | h
    · exact bytesN_lt m k x h
    · rw [List.mem_singleton.1 h]; omega
theorem sgnM_lt (b : Bun) (n : Nat) (key : ByteArray) : ∀ x ∈ sgnM b n key, x < 256 := bytesN_lt _ 8
theorem room_of {b : Bun} (h : chkB b = 0) (hb : (fndB b.l 4).2 = true) : room b := by
  have h1 := putL_self (goodL_of h).2.2 (fndB_some hb).1
  have h2 := putL_len (goodL_of h).2.2 (fndB b.l 4).1
  have h3 := (goodL_of h).1
  rw [h1, (fndB_some hb).2] at h2
  unfold room; omega
theorem remB_none {l : List Blk} {k : Int} (h : (fndB l k).2 = false) : remB l k = l := List.filter_eq_self.2 fun x hx => by have := (fndB_none h).2 x hx; simpa using this
/-- Without signatures. -/
def noS (b : Bun) : Bun := { b with l := remB b.l 4 }
theorem noS_chk {b : Bun} (h : chkB b = 0) : chkB (noS b) = 0 := chkB_with h (remB_good (goodL_of h) 4)
theorem noS_fnd (b : Bun) : fndB (noS b).l 4 = (default, false) := by
  cases hb : (fndB (noS b).l 4).2 with
  | false => exact (fndB_none hb).1
  | true =>
    obtain ⟨h1, h2⟩ := fndB_some hb
    have := (List.mem_filter.1 h1).2
    simp only [bne_iff_ne, ne_eq] at this
    exact absurd h2 this
theorem noS_sg (b : Bun) : sgB (noS b) = [] := sgB_none (by rw [noS_fnd])
theorem noS_ok {b : Bun} (h : chkB b = 0) : Okb (noS b) := ⟨noS_chk h, by unfold dmgB; rw [noS_fnd]; rfl⟩
theorem noS_sdt (b : Bun) : sdt (noS b) = sdt b := by
  unfold sdt
  rw [show rem4 (noS b).l = rem4 b.l from (remB_rem4 (.inr (.inr (.inr rfl)))).symm]
  rfl
/-- What Protect returns. -/
def okN (n : Int) : Prop := 0 ≤ n ∧ n < 16
structure PA (b : Bun) (n : Int) (key : ByteArray) : Prop where
  ok : Okb b
  rng : okN n
  key : key.size = 16
theorem chkAll_iff {b : Bun} {n : Int} {key : ByteArray} : chkAll b n key = 0 ↔ PA b n key := by
  unfold chkAll
  split <;> rename_i h1
  · have h1 : chkB b ≠ 0 := by simpa using h1
    exact ⟨fun e => absurd e h1, fun e => absurd e.ok.chk h1⟩
  have h1 : chkB b = 0 := by simpa using h1
  split <;> rename_i h2
  · simp only [Bool.or_eq_true, decide_eq_true_eq] at h2
    exact ⟨fun e => (by cases e), fun e => by have := e.rng; unfold okN at this; omega⟩
  simp only [Bool.or_eq_true, decide_eq_true_eq, not_or] at h2
  split <;> rename_i h3
  · simp only [bne_iff_ne, ne_eq] at h3
    exact ⟨fun e => (by cases e), fun e => by have := e.key; omega⟩
  simp only [bne_iff_ne, ne_eq, Decidable.not_not] at h3
  split <;> rename_i h4
  · exact ⟨fun e => (by cases e), fun e => by rw [e.ok.dmg] at h4; cases h4⟩
  exact ⟨fun _ => ⟨⟨h1, by simpa using h4⟩, ⟨by omega, by omega⟩, by omega⟩, fun _ => rfl⟩
theorem fresh_ins {b : Bun} {n : Int} {key : ByteArray} (h : PA b n key) (hf : (fndS (sgB b) n).2 = false) : GoodS (insS (n.toNat, sgnM b n.toNat key) (sgB b)) := by
  have hr := h.rng
  unfold okN at hr
  refine h.ok.good.ins (by show n.toNat < 16; omega) rfl (sgnM_lt _ _ _) fun y hy => ?_
  have := fndS_none.1 hf y hy
  show y.1 ≠ n.toNat
  omega
theorem protM_ok {b x : Bun} {n : Int} {key : ByteArray} : protM b n key = (x, 0) ↔ PA b n key ∧ (fndS (sgB b) n).2 = false ∧ room b ∧ x = setS b (insS (n.toNat, sgnM b n.toNat key) (sgB b)) := by
  unfold protM
  split <;> rename_i h1
  · have h1 : chkAll b n key ≠ 0 := by simpa using h1
    exact ⟨fun e => absurd (congrArg Prod.snd e) h1, fun e => absurd (chkAll_iff.2 e.1) h1⟩
  have h1 : chkAll b n key = 0 := by simpa using h1
  have hp := chkAll_iff.1 h1
  split <;> rename_i h2
  · exact ⟨fun e => (by have := congrArg Prod.snd e; cases this), fun e => by rw [e.2.1] at h2; cases h2⟩
  have h2 : (fndS (sgB b) n).2 = false := by simpa using h2
  have hr := setS_room hp.ok.chk (insS (n.toNat, sgnM b n.toNat key) (sgB b))
  unfold setS at hr
  simp only at hr
  split <;> rename_i h3
  · simp only [decide_eq_true_eq] at h3
    exact ⟨fun e => (by have := congrArg Prod.snd e; cases this), fun e => by have := hr.2 e.2.2.1; omega⟩
  simp only [decide_eq_true_eq] at h3
  constructor
  · intro e; exact ⟨hp, h2, hr.1 (by omega), (congrArg Prod.fst e).symm⟩
  · rintro ⟨_, _, _, e⟩; rw [e]; rfl
theorem protM_snd {b : Bun} {n : Int} {key : ByteArray} : (protM b n key).2 = 0 ↔ PA b n key ∧ (fndS (sgB b) n).2 = false ∧ room b := by
  constructor
  · intro e
    have := protM_ok (b := b) (n := n) (key := key) (x := (protM b n key).1)
    have h := this.1 (by rw [← e])
    exact ⟨h.1, h.2.1, h.2.2.1⟩
  · intro h
    rw [(protM_ok (x := setS b (insS (n.toNat, sgnM b n.toNat key) (sgB b)))).2 ⟨h.1, h.2.1, h.2.2, rfl⟩]
theorem protM_fst {b : Bun} {n : Int} {key : ByteArray} (h : (protM b n key).2 ≠ 0) : (protM b n key).1 = default := by
  unfold protM at h ⊢
  split
  · rfl
  · rename_i h1
    rw [if_neg h1] at h
    split
    · rfl
    · rename_i h2
      rw [if_neg h2] at h
      split
      · rfl
      · rename_i h3
        rw [if_neg h3] at h
        exact absurd rfl h
theorem verM_ok {b : Bun} {n : Int} {key : ByteArray} : verM b n key = 0 ↔ PA b n key ∧ fndS (sgB b) n = (sgnM b n.toNat key, true) := by
  unfold verM
  split <;> rename_i h1
  · have h1 : chkAll b n key ≠ 0 := by simpa using h1
    exact ⟨fun e => absurd e h1, fun e => absurd (chkAll_iff.2 e.1) h1⟩
  have h1 : chkAll b n key = 0 := by simpa using h1
  have hp := chkAll_iff.1 h1
  split <;> rename_i h2
  · simp only [Bool.not_eq_true'] at h2
    exact ⟨fun e => (by cases e), fun e => by rw [e.2] at h2; cases h2⟩
  have h2 : (fndS (sgB b) n).2 = true := by simpa using h2
  obtain ⟨p, hpm, hpn, hpe⟩ := fndS_some h2
  have hl := (hp.ok.good.2 p hpm).2.2
  split <;> rename_i h3
  · refine ⟨fun e => (by cases e), fun e => ?_⟩
    rw [e.2] at h3
    simp at h3
  · refine ⟨fun _ => ⟨hp, ?_⟩, fun _ => rfl⟩
    simp only [bne_iff_ne, ne_eq, Decidable.not_not] at h3
    rw [hpe] at h3 ⊢
    have := congrArg ls (ba_inj.1 h3)
    rw [ls_bs hl, ls_bs (sgnM_lt _ _ _)] at this
    rw [this]
end Go.Mb
