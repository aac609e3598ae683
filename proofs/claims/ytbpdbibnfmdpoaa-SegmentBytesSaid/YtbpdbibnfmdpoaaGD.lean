/- Encoding segments. -/
import Derived.Test.YtbpdbibnfmdpoaaGC
import Derived.Test.YtbpdbibnfmdpoaaVT
set_option linter.unusedSimpArgs false
set_option linter.unusedSectionVars false
set_option linter.unusedVariables false
namespace Go.Mb
open Go.Sy
set_option linter.unusedVariables false
def bitI (b : Bool) : Int := if b then 1 else 0
def hd6 (s : Seg) : List Int := [s.kind, s.ses, s.ser, s.off, s.tot, bitI s.chk]
def endsL (l : List Spn) : List Int := l.flatMap fun x => [x.lo, x.hi]
def encT (d : List Nat) : List Nat := encI d.length ++ d
def encG (s : Seg) : List Nat := encL (hd6 s) ++ encT (ls s.data) ++ encLL (endsL s.claims)
def encGM (s : Seg) : ByteArray × Int := if chkG s != 0 then (.empty, chkG s) else (bs (sealL (encG s)), 0)
theorem endsL_len (l : List Spn) : (endsL l).length = 2 * l.length := by
  induction l with
  | nil => rfl
  | cons a l ih => simp only [endsL, List.flatMap_cons, List.length_append, List.length_cons, List.length_nil] at ih ⊢; omega
theorem endsL_snoc (l : List Spn) (k : Nat) (h : k < l.length) : endsL (l.take (k + 1)) = endsL (l.take k) ++ [(l.getD k default).lo, (l.getD k default).hi] := by
  rw [take_snoc h]; simp [endsL]
/-- What is known of a valid segment. -/
structure GoodG (s : Seg) : Prop where
  k1 : 1 ≤ s.kind
  k2 : s.kind ≤ 3
  a1 : 0 ≤ s.ses
  a2 : s.ses ≤ tMax
  b1 : 0 ≤ s.ser
  b2 : s.ser ≤ tMax
  t1 : 0 ≤ s.tot
  t2 : s.tot ≤ 65536
  o1 : 0 ≤ s.off
  o2 : s.off ≤ 65536
  d : s.data.size ≤ 16
  c1 : chkS s.claims = 0
theorem goodG {s : Seg} (h : chkG s = 0) : GoodG s := by
  obtain ⟨hk, hn, ho⟩ := chkG_zero.1 h
  have hk : 1 ≤ s.kind ∧ s.kind ≤ 3 := by simpa [inR] using hk
  unfold numG at hn
  rw [Bool.and_eq_true, Bool.and_eq_true] at hn
  obtain ⟨n1, n2, n3⟩ := hn
  have n1 : 0 ≤ s.ses ∧ s.ses ≤ tMax := by simpa [inR] using n1
  have n2 : 0 ≤ s.ser ∧ s.ser ≤ tMax := by simpa [inR] using n2
  have hnil : ∀ l : List Spn, (l.length == 0) = true → chkS l = 0 := by
    intro l hl
    have : l = [] := List.eq_nil_of_length_eq_zero (by simpa using hl)
    rw [this]; rfl
  unfold numK at n3
  unfold othG at ho
  split at n3
  · rename_i hk1
    rw [if_pos hk1] at ho
    simp only [num1, inR, Bool.and_eq_true, decide_eq_true_eq] at n3
    simp only [oth1, inR, Bool.and_eq_true, decide_eq_true_eq] at ho
    exact ⟨hk.1, hk.2, n1.1, n1.2, n2.1, n2.2, by omega, by omega, by omega, by omega, by omega, hnil _ ho.2⟩
  · rename_i hk1
    rw [if_neg hk1] at ho
    split at n3
    · rename_i hk2
      rw [if_pos hk2] at ho
      simp only [num2, inR, Bool.and_eq_true, decide_eq_true_eq, beq_iff_eq] at n3
      simp only [oth2, noData, insideM, Bool.and_eq_true, beq_iff_eq] at ho
      exact ⟨hk.1, hk.2, n1.1, n1.2, n2.1, n2.2, by omega, by omega, by omega, by omega, by omega, ho.2.1⟩
    · rename_i hk2
      rw [if_neg hk2] at ho
      simp only [num3, Bool.and_eq_true, beq_iff_eq] at n3
      simp only [oth3, noData, Bool.and_eq_true] at ho
      have hd : s.data.size = 0 := by simpa using ho.1.2
      exact ⟨hk.1, hk.2, n1.1, n1.2, n2.1, n2.2, by omega, by omega, by omega, by omega, by omega, hnil _ ho.2⟩
theorem hd6_in {s : Seg} (g : GoodG s) : ∀ x ∈ hd6 s, inI x = true := by
  have e : tMax = 1099511627776 := rfl
  have := g.k1; have := g.k2; have := g.a1; have := g.a2; have := g.b1; have := g.b2; have := g.t1; have := g.t2; have := g.o1; have := g.o2
  intro x hx
  simp only [hd6, List.mem_cons, List.not_mem_nil, or_false] at hx
  rw [inI_iff]
  rcases hx with rfl | rfl | rfl | rfl | rfl | rfl
  · omega
  · omega
  · omega
  · omega
  · omega
  · unfold bitI; split <;> omega
theorem spn_all : ∀ (l : List Spn) (p : Option Int), chkL p l = 0 → ∀ x ∈ l, vS x = true
  | [], _, _, x, hx => by cases hx
  | y :: l, p, h, x, hx => by
    unfold chkL at h
    split at h
    · rename_i hv
      split at h
      · cases h
      · rcases List.mem_cons.1 hx with rfl | hx
        · exact hv
        · exact spn_all l _ h x hx
    · cases h
theorem chkS_both {l : List Spn} (h : chkS l = 0) : (∀ x ∈ l, vS x = true) ∧ l.length ≤ 1000 := by
  unfold chkS at h
  split at h
  · cases h
  · exact ⟨spn_all l _ h, by omega⟩
theorem ends_in {l : List Spn} (h : chkS l = 0) : ∀ x ∈ endsL l, inI x = true := by
  have hs := (chkS_both h).1
  intro x hx
  simp only [endsL, List.mem_flatMap, List.mem_cons, List.not_mem_nil, or_false] at hx
  obtain ⟨y, hy, hx⟩ := hx
  have hv := hs y hy
  rw [inI_iff]
  simp only [vS, Bool.and_eq_true, decide_eq_true_eq] at hv
  rcases hx with rfl | rfl <;> omega
theorem encG_len {s : Seg} (g : GoodG s) : (encG s).length ≤ 65536 := by
  have h1 := encL_len (hd6_in g)
  have h2 := encL_len (ends_in g.c1)
  have h3 := (chkS_both g.c1).2
  have h4 := g.d
  have h5 := endsL_len s.claims
  have h6 := encI_len (inI_nat (n := (endsL s.claims).length) (by omega))
  have h7 := encI_len (inI_nat (n := (ls s.data).length) (by rw [ls_len]; omega))
  have h8 := ls_len s.data
  simp only [encG, encT, encLL, List.length_append]
  simp only [hd6, List.length_cons, List.length_nil] at h1
  unfold hd6
  omega
theorem encL_lt' (l : List Int) : ∀ x ∈ encL l, x < 256 := by
  intro x hx
  simp only [encL, List.mem_flatMap] at hx
  obtain ⟨a, _, h⟩ := hx
  exact encZ_mem h
theorem encG_lt (s : Seg) : ∀ x ∈ encG s, x < 256 := by
  intro x hx
  simp only [encG, encT, encLL, List.mem_append] at hx
  rcases hx with (hx | hx | hx) | hx | hx
  · exact encL_lt' _ x hx
  · exact encZ_mem hx
  · exact ls_lt _ x hx
  · exact encZ_mem hx
  · exact encL_lt' _ x hx
end Go.Mb
namespace Go.Proofs.Ytbpdbibnfmdpoaa
open Go.Sy Go.Mb
set_option maxRecDepth 100000
set_option linter.unusedVariables false
set_option maxHeartbeats 4000000

theorem ren_seg (σ : Nat → Nat) (s : Seg) : RenL σ s.cells s.cells := ⟨_, _, rfl, rfl, _, _, rfl, rfl, _, _, rfl, rfl, _, _, rfl, rfl, _, _, rfl, rfl, _, _, rfl, .inl rfl, _, _, rfl, rfl, _, _, rfl, rfl, rfl⟩
theorem bit_ok (b : Bool) : FnOK Try.prog 31 [.bool b] (.int .i64 (bitI b), none) := by
  refine fn_ok CN rfl (by kernel_rfl) Try.func31 rfl ?_
  refine Sat.go (Eq.refl _) (NS.ite (fun h => ?_) (fun h => ?_))
  · exact Sat.go (Eq.refl _) (NS.ret rfl rfl (LeA.of (congrArg (A.int .i64) (by rw [h]; rfl))))
  · exact Sat.go (Eq.refl _) (NS.ret rfl rfl (LeA.of (congrArg (A.int .i64) (by rw [h]; rfl))))
theorem text_of {d : ByteArray} (h : d.size ≤ 65536) : textM d = (bs (encT (ls d)), 0) := by
  obtain ⟨e1, e2⟩ := ls_textM (s := d) (by omega)
  exact Prod.ext e1 e2
theorem list_of {l : List Int} (h : ∀ x ∈ l, inI x = true) (hl : l.length ≤ 65536) : listM l = (bs (encLL l), 0) := by
  refine listM_good (by simp; omega) fun i hi => ?_
  exact memD (p := fun x => inI x = true) h hi
theorem seal_of {p : List Nat} (h : ∀ x ∈ p, x < 256) (hl : p.length ≤ 65536) : sealM (bs p) = (bs (sealL p), 0) := by
  unfold sealM
  rw [bs_len, ls_bs h, if_neg]
  simp; omega
theorem encode_ok (s : Seg) : FnOK Try.prog 12 [.agg s.cells] (.tup [.str (encGM s).1, .int .i64 (encGM s).2], none) := by
  refine fn_ok CN rfl (by kernel_rfl) Try.func12 rfl ?_
  refine Sat.go (Eq.refl _) (NS.call (gCheck_ok s) rfl ?_)
  refine Sat.go (Eq.refl _) (NS.ite (fun h1 => ?_) (fun h1 => ?_))
  · exact Sat.go (Eq.refl _) (NS.ret rfl rfl (str_le (by unfold encGM; rw [if_pos h1]; rfl)))
  have g := goodG (by simpa using h1)
  have hin := hd6_in g
  refine Sat.go (Eq.refl _) (NS.chk (by kernel_rfl) ?_)
  refine Sat.go (Eq.refl _) (NS.call (bit_ok s.chk) rfl ?_)
  refine Sat.go (Eq.refl _) ?_
  refine NS.loop (σ := { k : Nat // k ≤ 6 }) (fun k => [(1, .ptr 1 0), (5, .str (bs (encL ((hd6 s).take k.1)))), (35, .own 35), (36, .int .i64 6), (37, .int .i64 k.1)]) (fun k => [(1, .box s.cells), (35, .row 3 1 6 (rowL nC (hd6 s)))]) (fun k => 6 - k.1) ⟨0, Nat.zero_le _⟩ ?_ ?_
  · refine weak_hd [] rfl ⟨rfl, ren_str rfl rfl, rfl, rfl, rfl, trivial⟩ ⟨⟨_, rfl, ren_seg _ _⟩, ren_row rfl rfl fun i hi j hj => ?_, trivial⟩ trivial (by kernel_rfl)
    have hj : j < 1 := hj
    obtain rfl : j = 0 := by omega
    match i, hi with
    | 0, _ => rfl
    | 1, _ => rfl
    | 2, _ => rfl
    | 3, _ => rfl
    | 4, _ => rfl
    | 5, _ => rfl
  rintro ⟨k, hk⟩
  have hl6 : (hd6 s).length = 6 := rfl
  have hel := encL_len (l := (hd6 s).take k) fun x hx => hin x (List.mem_of_mem_take hx)
  simp only [List.length_take] at hel
  refine Sat.go (Eq.refl _) (NS.ite (fun h => ?_) (fun h => ?_))
  · have h : k < 6 := by have h : (k : Int) < 6 := of_decide_eq_true h
                         omega
    have hx : inI ((hd6 s).getD k default) = true := memD (p := fun x => inI x = true) hin h
    have c2 := int_ok ((hd6 s).getD k default)
    rw [intM_ok hx] at c2
    have hxl := encI_len hx
    refine Sat.go (Eq.refl _) (NS.need (by simp; omega) ?_)
    refine Sat.go (Eq.refl _) (NS.yes (decide_eq_true (show k < 6 from h)) ?_)
    refine Sat.go (Eq.refl _) (NS.call (c2) rfl ?_)
    refine Sat.go (Eq.refl _) (NS.need (decide_eq_true (by rw [bs_len, bs_len]; show (encL ((hd6 s).take k)).length + (encI ((hd6 s).getD k default)).length ≤ _; omega)) ?_)
    refine Sat.go (Eq.refl _) (NS.next ⟨k + 1, by omega⟩ (by simp; omega) ?_)
    exact weak_hd [] rfl ⟨rfl, ren_str rfl (by show bs (encL ((hd6 s).take k)) ++ bs (encI ((hd6 s).getD k default)) = bs (encL ((hd6 s).take (k + 1))); rw [encL_snoc (hd6 s) k h, bs_append]), rfl, rfl, ren_int rfl (i64_k (k := k) (n := 6) (by omega) (by omega)), trivial⟩ ⟨⟨_, rfl, ren_seg _ _⟩, ren_row rfl rfl fun i hi j hj => rfl, trivial⟩ trivial (by kernel_rfl)
  have hk' : ¬ (k : Int) < 6 := of_decide_eq_false h
  obtain rfl : k = 6 := by omega
  refine Sat.go (Eq.refl _) (NS.leave rfl (Eq.refl _) ?_)
  have ct := text_ok s.data
  rw [text_of (d := s.data) (by have := g.d; omega)] at ct
  refine Sat.go (Eq.refl _) (NS.call (ct) rfl ?_)
  have hc := (chkS_both g.c1).2
  have hen := ends_in g.c1
  have hele := endsL_len s.claims
  refine Sat.go (Eq.refl _) ?_
  refine NS.loop (σ := { k : Nat // k ≤ s.claims.length }) (fun k => [(5, .str (bs (encL (hd6 s)))), (10, .str (bs (encT (ls s.data)))), (12, .own 12), (57, slS s.claims), (58, .int .i64 s.claims.length), (59, .int .i64 k.1)]) (fun k => [(12, .row 3 1 (2 * k.1) (rowL nC (endsL (s.claims.take k.1))))]) (fun k => s.claims.length - k.1) ⟨0, Nat.zero_le _⟩ ?_ ?_
  · refine (weak_promote 12 12 3 1 (rowL nC []) rfl rfl).trans ?_
    exact weak_hd [] rfl ⟨rfl, rfl, rfl, rfl, rfl, rfl, trivial⟩ ⟨ren_row rfl rfl fun i hi j hj => rfl, trivial⟩ trivial (by kernel_rfl)
  rintro ⟨k, hk⟩
  refine Sat.go (Eq.refl _) (NS.ite (fun h => ?_) (fun h => ?_))
  · have h : k < s.claims.length := by simpa using h
    refine Sat.go (Eq.refl _) (NS.need (by simp; omega) ?_)
    refine Sat.go (Eq.refl _) (NS.need (decide_eq_true (by show (2 * k + 2) * _ ≤ _; simp only [maxRow]; omega)) ?_)
    refine Sat.go (Eq.refl _) (NS.next ⟨k + 1, by omega⟩ (by simp; omega) ?_)
    refine weak_hd [(12, 69)] rfl ⟨rfl, rfl, rfl, rfl, rfl, ren_int rfl (i64_k (k := k) (n := s.claims.length) (by omega) (by omega)), trivial⟩ ⟨?_, trivial⟩ trivial (by kernel_rfl)
    have e2 : (endsL (s.claims.take k)).length = 2 * k := by rw [endsL_len, List.length_take]; omega
    refine ren_row rfl (by show 2 * k + 2 = 2 * (k + 1); omega) fun i hi j hj => ?_
    have hi : i < 2 * (k + 1) := hi
    have hj : j < 1 := hj
    obtain rfl : j = 0 := by omega
    rw [show rowL nC (endsL (s.claims.take (⟨k + 1, by omega⟩ : { k : Nat // k ≤ s.claims.length }).1)) i 0 = rowL nC (endsL (s.claims.take k) ++ [(s.claims.getD k default).lo, (s.claims.getD k default).hi]) i 0 by rw [← endsL_snoc _ k h], ← rowL_append, e2]
    show (if i < 2 * k then _ else _) = _
    by_cases hik : i < 2 * k
    · rw [if_pos hik, if_pos hik]
    · rw [if_neg hik, if_neg hik]
      match i - 2 * k, (show i - 2 * k < 2 by omega) with
      | 0, _ => rfl
      | 1, _ => rfl
  have hk' : ¬ k < s.claims.length := by simpa using h
  obtain rfl : k = s.claims.length := by omega
  refine Sat.go (Eq.refl _) (NS.leave rfl (Eq.refl _) ?_)
  have cl := list_ok (endsL s.claims)
  rw [list_of hen (by omega)] at cl
  have cs := seal_ok (bs (encG s))
  rw [seal_of (encG_lt s) (encG_len g)] at cs
  have hgl := encG_len g
  have hgl : (encL (hd6 s)).length + (encT (ls s.data)).length + (encLL (endsL s.claims)).length ≤ 65536 := by simpa [encG, List.length_append, Nat.add_assoc] using hgl
  have e3 : s.claims.take s.claims.length = s.claims := List.take_length
  refine Sat.go (Eq.refl _) (NS.call (cl.le (LeL.cons (LeA.sl hele.symm fun i hi j hj => by show rowL nC (endsL (s.claims.take s.claims.length)) i j = _; rw [e3]) LeL.nil)) rfl ?_)
  refine Sat.go (Eq.refl _) (NS.need (decide_eq_true (by rw [bs_len, bs_len]; omega)) ?_)
  refine Sat.go (Eq.refl _) (NS.need (decide_eq_true (by rw [← bs_append, bs_len, bs_len, List.length_append]; omega)) ?_)
  refine Sat.go (Eq.refl _) (NS.call (cs.le (LeL.cons (LeA.of (congrArg A.str (by show bs (encL (hd6 s)) ++ bs (encT (ls s.data)) ++ bs (encLL (endsL s.claims)) = bs (encG s); rw [← bs_append, ← bs_append]; rfl))) LeL.nil)) rfl ?_)
  exact Sat.go (Eq.refl _) (NS.ret rfl rfl (str_le (by unfold encGM; rw [if_neg (by rw [h1]; simp)])))
end Go.Proofs.Ytbpdbibnfmdpoaa
