import Derived.Test.YthfbahebeembeaaSyE
import Derived.Test.YthfbahebeembeaaSySort
import Derived.Shelf.SlSortCmp.NoneTotal
set_option linter.unusedSimpArgs false
set_option linter.unusedSectionVars false
set_option linter.unusedVariables false
/- Sorting a row of structs by a comparison, by the library's contract. -/
namespace Go.Sy
open Go.RowKit Go.Sort Go.Shelf Go.Proofs Go.Mb
set_option linter.unusedVariables false

/-- How elements lie: k cells each, which hold these values and no others. -/
structure Lies {α : Type} (enc : α → List Value) (k : Nat) (cells : α → List A) : Prop where
  pos : 0 < k
  len : ∀ x, (enc x).length = k
  one : ∀ x, ∀ v ∈ enc x, v.oneCell' = true
  cell : ∀ x j, j < k → ∀ w O u, R w O (getA (cells x) j) virg u ↔ (enc x)[j]? = some u

section
variable {α : Type} [Inhabited α] {enc : α → List Value} {k : Nat} {cells : α → List A}
theorem flat_get (H : Lies enc k cells) (zs : List α) {i j : Nat} (hi : i < zs.length) (hj : j < k) : (flatK enc k zs.toArray).toList[i * k + j]? = (enc (zs.getD i default))[j]? := by
  have hlt : i * k + j < zs.length * k := by
    have := Nat.mul_le_mul_right k (show i + 1 ≤ zs.length from hi)
    rw [Nat.succ_mul] at this
    omega
  have h1 : (i * k + j) / k = i := by
    rw [Nat.mul_comm, Nat.mul_add_div H.pos, Nat.div_eq_of_lt hj]; rfl
  have h2 : (i * k + j) % k = j := by
    rw [Nat.mul_comm, Nat.mul_add_mod, Nat.mod_eq_of_lt hj]
  have h3 := get_flatK enc k zs.toArray (i * k + j) (by simpa using hlt)
  have hs : i * k + j < (flatK enc k zs.toArray).size := by rw [size_flatK]; simpa using hlt
  rw [getElem!_pos (flatK enc k zs.toArray) (i * k + j) hs, h1, h2] at h3
  rw [Array.getElem?_toList, Array.getElem?_eq_getElem hs, h3]
  have e1 : (zs.toArray)[i]! = zs.getD i default := by simp [List.getD, hi, getElem!_pos]
  rw [e1]
  have hj' : j < (enc (zs.getD i default)).length := by rw [H.len]; exact hj
  rw [List.getElem?_eq_getElem hj', getElem!_pos (enc (zs.getD i default)) j hj']
theorem ObR_K {w : World} {O : Nat → Prop} {e : TypeId} {zs : List α} {l : Loc} (H : Lies enc k cells) (h : ObR w O virg (.row e k zs.length (rowL cells zs)) l) : ∃ v, l = .row v ∧ rowR w e k v zs.length (flatK enc k zs.toArray).toList := by
  obtain ⟨v, xs, h1, h2, h3, h4⟩ := h
  refine ⟨v, h1, ?_⟩
  have hx : xs = (flatK enc k zs.toArray).toList := by
    apply List.ext_getElem?
    intro t
    have hl := h2.1
    rcases Nat.lt_or_ge t (zs.length * k) with ht | ht
    · have hq : t / k < zs.length := Nat.div_lt_of_lt_mul (by rw [Nat.mul_comm]; exact ht)
      have hr : t % k < k := Nat.mod_lt _ H.pos
      have he : t / k * k + t % k = t := Nat.div_add_mod' t k
      obtain ⟨u, h5, h6⟩ := h4 (t / k) hq (t % k) hr
      rw [he] at h5
      have h7 := flat_get H zs hq hr
      rw [he] at h7
      rw [h5, h7]
      exact ((H.cell _ _ hr _ _ _).1 h6).symm
    · rw [List.getElem?_eq_none (by omega), List.getElem?_eq_none (by simp; omega)]
  rw [← hx]
  exact h2
theorem flat_one (H : Lies enc k cells) (zs : List α) : ∀ u ∈ (flatK enc k zs.toArray).toList, u.oneCell' = true := by
  intro u hu
  obtain ⟨t, ht, rfl⟩ := List.getElem_of_mem hu
  have ht' : t < zs.length * k := by simpa using ht
  have hq : t / k < zs.length := Nat.div_lt_of_lt_mul (by rw [Nat.mul_comm]; exact ht')
  have hr : t % k < k := Nat.mod_lt _ H.pos
  have he : t / k * k + t % k = t := Nat.div_add_mod' t k
  have h7 := flat_get H zs hq hr
  rw [he, List.getElem?_eq_getElem ht] at h7
  exact H.one _ _ (List.mem_of_getElem? h7.symm)
theorem K_ObR {w : World} {O : Nat → Prop} {e : TypeId} {zs : List α} {v : Value} (H : Lies enc k cells) (h : rowR w e k v zs.length (flatK enc k zs.toArray).toList) : ObR w O virg (.row e k zs.length (rowL cells zs)) (.row v) := by
  refine ⟨v, _, rfl, h, flat_one H zs, fun i hi j hj => ?_⟩
  have hj' : j < (enc (zs.getD i default)).length := by rw [H.len]; exact hj
  refine ⟨(enc (zs.getD i default))[j], ?_, ?_⟩
  · rw [flat_get H zs hi hj, List.getElem?_eq_getElem hj']
  · exact (H.cell _ _ hj _ _ _).2 (List.getElem?_eq_getElem hj')

/-- What a comparison comes to, in whatever world. -/
def Compares (P : Program) (g : FuncId) (enc : α → List Value) (cf : α → α → Int) : Prop :=
  ∀ x y W, Calls P g #[.agg (enc x).toArray, .agg (enc y).toArray] W fun e w' => e = .returned (.int .i64 (cf x y)) ∧ ∃ q os', w' = grow (W.drewN q) os'

theorem sortF_mu {P : Program} {ρ : Ren} (L : SlLaysF0.n6 P ρ) (hent : entB P (ρ.f 6) = true) (H : Lies enc k cells) (aE : ∀ w, (isAgg (ρ.t 24)).run P w = .ok true w) (zE : ∀ w, (Go.sizeOf (ρ.t 24)).run P w = .ok k w) (cf : α → α → Int) (hO : SWO (ltOf cf)) (g : FuncId)
    (eg : ∀ args w, (callFunc g args).run P w = .ok (.enter g args) w) (hcmp : Compares P g enc cf) (zs : List α) (e : TypeId) (hsz : zs.length < 4611686018427387904) :
    FnMu P (ρ.f 6) [.own 0, .fn g []] (.row e k zs.length (rowL cells zs)) (fun ob r => (∃ zs' : List α, zs'.Perm zs ∧ zs'.Pairwise (fun a b => ltOf cf b a = false) ∧ ob = .row e k zs.length (rowL cells zs')) ∧ r = .tup []) := by
  refine ⟨hent, fun w l vs hb hob hr => ?_⟩
  obtain ⟨v, rfl, hx, hh⟩ := ObR_K H hob
  simp only [RL, R, upd_same] at hr
  obtain ⟨v', _, rfl, ⟨rfl, _⟩, v2, _, rfl, ⟨vs2, rfl, rfl⟩, rfl⟩ := hr
  rcases hh with ⟨hn, a, rfl⟩ | ⟨b, cap, cur, rfl, ⟨fz, hg, hfz⟩, h1, h2, h3, h4⟩
  · have hz : zs = [] := List.eq_nil_of_length_eq_zero hn
    subst hz
    refine (AnyF.slices_SortFunc_none L a 0 _ w).mono ?_
    rintro e' w' ⟨rfl, rfl⟩
    refine ⟨_, _, _, rfl, ⟨⟨[], List.Perm.refl _, List.Pairwise.nil, rfl⟩, rfl⟩, Bel.refl _ _, fun _ _ _ => rfl, ?_, rfl, ?_⟩
    · exact K_ObR (zs := []) H ⟨by simp, .inl ⟨rfl, a, rfl⟩⟩
    · simp [R, RL]
  · have hg0 : b < w.heap.size := hb b rfl
    have hfs : (flatK enc k zs.toArray).size = zs.length * k := by simp
    have hH : HoldsK enc k w b 0 zs.toArray := by
      intro j hj
      rw [hfs] at hj
      have h6 : zs.length * k ≤ cur.size := by rw [h3]; exact Nat.mul_le_mul_right k h1
      refine ⟨?_, frozen_no hg hfz _ (by omega)⟩
      have hcur : w.heap[b]? = some (.cells (List.toArray cur.toList) e fz) := by simpa using hg
      rw [Nat.zero_add, cell_of_block hcur]
      have h5 : cur.toList[j]? = (cur.toList.take (zs.length * k))[j]? := by rw [List.getElem?_take_of_lt hj]
      rw [h5, h4, Array.getElem?_toList]
      rw [Array.getElem?_eq_getElem (by rw [hfs]; exact hj)]
      simp only [id, getElem!_pos (flatK enc k zs.toArray) j (show j < (flatK enc k zs.toArray).size by rw [hfs]; exact hj)]
    have hcl : CmpLays P g #[] enc k cf b 0 zs.toArray.size w := fun _ _ _ _ x y => hcmp x y _
    have hcon := AnyQ.slices_SortFunc L k aE zE enc H.len H.one cf hO g #[] b 0 (cap + 1) zs.toArray w eg hcl hH hg0 (by simpa using hsz)
    refine hcon.mono ?_
    rintro e' w' ⟨rfl, d', m, os, hp, hs, rfl⟩
    obtain ⟨p1, _, p3⟩ := hp
    have e1 : d'.extract 0 zs.toArray.size = d' := by rw [← p1]; exact Array.extract_size
    rw [e1, Array.extract_size] at p3
    have hl : d'.toList.length = zs.length := by simpa using p1
    have hd' : d'.toList.toArray = d' := by simp
    refine ⟨_, _, _, rfl, ⟨⟨d'.toList, by simpa using p3, ?_, rfl⟩, rfl⟩, heap_below, fun c hb' hne => heap_same hb' (fun e => hne (by rw [e]; rfl)), ?_, rfl, ?_⟩
    · rw [List.pairwise_iff_getElem]
      intro i j hi hj hij
      have hi' : i < d'.size := by simpa using hi
      have hj' : j < d'.size := by simpa using hj
      have := hs i j (Nat.zero_le _) hij (by omega)
      rw [getElem!_pos d' j hj', getElem!_pos d' i hi'] at this
      simpa using this
    · have hfd : (flatK enc k d').size = zs.length * k := by simp [p1]
      have := K_ObR (w := sortWorldK enc k w b 0 m d' os) (O := fun _ => True) (e := e) (zs := d'.toList) (v := .slice (some ⟨b, 0, none⟩) zs.length (cap + 1)) H ⟨by simp, .inr ⟨b, cap, putCells id 0 (flatK enc k d') cur, by rw [hl], ⟨fz, heap_here hg, by simpa [putCells] using hfz⟩, by omega, h2, by simp [putCells]; omega, ?_⟩⟩
      · rw [hl] at this
        exact this
      · have h6 := take_put (enc := (id : Value → Value)) (d := flatK enc k d') (c := cur) (n := zs.length * k) hfd (by rw [h3]; exact Nat.mul_le_mul_right k h1)
        rw [hl, h6, hd']
        simp
    · simp [R, RL]
/-- Aggregates that lie as a list of values. -/
theorem RL_get {w : World} {O : Nat → Prop} : ∀ {l : List A} {vs : List Value}, l.length = vs.length → (∀ j, j < l.length → ∀ u, vs[j]? = some u → R w O (getA l j) virg u) → RL w O l virg vs
  | [], [], _, _ => by simp [RL]
  | a :: l, v :: vs, hl, h => by
    refine ⟨v, vs, rfl, h 0 (by simp) v rfl, RL_get (by simpa using hl) fun j hj u hu => ?_⟩
    have := h (j + 1) (by simpa using hj) u (by simpa using hu)
    simpa [getA] using this
theorem world_grow {w w' : World} (h : Bel w.heap.size w w') : ∃ q os, w' = grow (w.drewN q) os := by
  refine ⟨w'.drawn - w.drawn, w'.heap.extract w.heap.size w'.heap.size, ?_⟩
  obtain ⟨h1, h2, h3, h4, h5, h6⟩ := h
  cases w with
  | mk hp tp dr os op =>
    cases w' with
    | mk hp' tp' dr' os' op' =>
      simp only at h1 h2 h3 h4 h5 h6
      subst h1; subst h2; subst h3
      have e1 : dr + (dr' - dr) = dr' := by omega
      have e2 : hp' = hp ++ hp'.extract hp.size hp'.size := by
        apply Array.ext_getElem?
        intro i
        by_cases hi : i < hp.size
        · rw [h5 i hi, Array.getElem?_append_left hi]
        · rw [Array.getElem?_append_right (by omega), Array.getElem?_extract]
          by_cases hj : i < hp'.size
          · rw [if_pos (by omega)]; congr 1; omega
          · rw [if_neg (by omega), Array.getElem?_eq_none (by omega)]
      simp only [grow, World.drewN, e1]
      rw [← e2]
/-- A comparison's contract in our own form is what sorting asks for. -/
theorem compares_of {P : Program} (H : Lies enc k cells) (hc : ∀ x, (cells x).length = k) {g : FuncId} {cf : α → α → Int} (h : ∀ x y, FnOK P g [.agg (cells x), .agg (cells y)] (.int .i64 (cf x y), none)) : Compares P g enc cf := by
  intro x y W
  have hag : ∀ z, R W (fun _ => False) (.agg (cells z)) virg (.agg (enc z).toArray) := fun z => ⟨enc z, rfl, RL_get (by rw [hc, H.len]) fun j hj u hu => (H.cell z j (by rw [← hc z]; exact hj) _ _ _).2 hu⟩
  have hr := (h x y).run W (fun _ => False) [.agg (enc x).toArray, .agg (enc y).toArray] (fun b hb => hb.elim) ⟨_, _, rfl, hag x, _, _, rfl, hag y, rfl⟩
  refine hr.mono ?_
  rintro e w' ⟨v, l, rfl, hb, hv, _, _⟩
  simp only [R] at hv
  subst hv
  exact ⟨rfl, world_grow hb⟩
end
end Go.Sy
