import Derived.Test.YtggjngbighkdgaaGreatE01
import Derived.Laws.CopyOwn
import Derived.Laws.MakeOwn
import Derived.MapKept
import Derived.MapFrom
import Derived.RangeFuncRecord
import Derived.CallsIn
set_option linter.unusedSimpArgs false
set_option linter.unusedSectionVars false
set_option linter.unusedVariables false
namespace Go.Sy
open Go.RowKit
theorem getA_setL : ∀ (l : List A) (d : Nat) (v : A) (i : Nat), getA (setL l d v) i = if i = d /\ d < l.length then v else getA l i
 | [], d, v, i => by simp [setL]
 | a :: l, 0, v, i => by cases i <;> simp [setL, getA]
 | a :: l, d + 1, v, 0 => by simp [setL, getA]
 | a :: l, d + 1, v, i + 1 => by simp [setL, getA, getA_setL l d v i]
theorem getO_setX : ∀ (l : List Ob) (d : Nat) (v : Ob) (i : Nat), getO (setX l d v) i = if i = d then v else getO l i
 | [], 0, v, i => by cases i <;> simp [setX, getO]
 | [], d + 1, v, 0 => by simp [setX, getO]
 | [], d + 1, v, i + 1 => by simp [setX, getO, getO_setX [] d v i]
 | a :: l, 0, v, i => by cases i <;> simp [setX, getO]
 | a :: l, d + 1, v, 0 => by simp [setX, getO]
 | a :: l, d + 1, v, i + 1 => by simp [setX, getO, getO_setX l d v i]
theorem length_setL {α : Type} : ∀ (l : List α) (d : Nat) (v : α), (setL l d v).length = l.length
 | [], d, v => by simp [setL]
 | a :: l, 0, v => by simp [setL]
 | a :: l, d + 1, v => by simp [setL, length_setL l d v]
def upd (ρ : Nat -> Loc) (d : Nat) (l : Loc) : Nat -> Loc := fun i => if i = d then l else ρ i
theorem upd_same (ρ : Nat -> Loc) (d : Nat) (l : Loc) : upd ρ d l d = l := by simp [upd]
theorem upd_ne (ρ : Nat -> Loc) (d : Nat) (l : Loc) {i : Nat} (h : i ≠ d) : upd ρ d l i = ρ i := by simp [upd, h]
def Ow (X : Nat -> Prop) (ρ : Nat -> Loc) : Nat -> Prop := fun b => X b \/ owned ρ b
section
variable {w0 w w' : World} {X : Nat -> Prop} {st : St} {a : Act} {ρ ρ' : Nat -> Loc}
theorem Rel.put (h : Rel w0 X st a w ρ) (dst : Option Tmp) {x : A} {v : Value} (hr : R w (Ow X ρ) x ρ v) :
  Rel w0 X ⟨match dst with | some d => setL st.tmps d x | none => st.tmps, st.objs⟩ (a.put dst v) w ρ := by
 cases dst with
 | none => exact ⟨h.len, h.tmp, h.obj, h.dis, h.kept, h.new, h.old, h.dfr⟩
 | some d =>
  refine ⟨by simp [Act.put, length_setL, h.len], fun i => ?_, h.obj, h.dis, h.kept, h.new, h.old, h.dfr⟩
  simp only [getA_setL, Act.put]
  by_cases hi : i = d /\ d < st.tmps.length
  ·rw [if_pos hi]
   obtain ⟨rfl, hd⟩ := hi
   have : (a.tmps.setIfInBounds i v).getD i undef = v := by
    simp [Array.getD, h.len, hd]
   rw [this]
   exact hr
  ·rw [if_neg hi]
   have : (a.tmps.setIfInBounds d v).getD i undef = a.tmps.getD i undef := by
    by_cases hid : i = d
    ·subst hid
     have hge : a.tmps.size <= i := by rw [h.len]; exact Nat.le_of_not_lt fun h' => hi ⟨rfl, h'⟩
     rw [Array.setIfInBounds_eq_of_size_le hge]
    ·simp [Array.getD_eq_getD_getElem?, Ne.symm hid]
   rw [this]
   exact h.tmp i
theorem MapR.mono {w w' : World} {O O' : Nat -> Prop} {ρ ρ' : Nat -> Loc} {ag : Bool} {n : Nat} {f : List Int -> Option A} {es : List MapEntry} (h : ∀ a v, R w O a ρ v -> R w' O' a ρ' v) (hm : MapR w O ρ ag n f es) : MapR w' O' ρ' ag n f es := by
 refine ⟨hm.1, hm.2.1, fun q hq => ?_⟩
 have := hm.2.2 q hq
 split at this
 ·rename_i a ha
  obtain ⟨e, h1, h2, h3⟩ := this
  exact ⟨e, h1, h2, h _ _ h3⟩
 ·rename_i ha
  exact this
theorem ObR.later {O O' : Nat -> Prop} {o : Ob} {l : Loc} (hl : Later w w' O O' ρ ρ') (hb : ∀ b, l.block = some b -> w'.heap[b]? = w.heap[b]?) (h : ObR w O ρ o l) : ObR w' O' ρ' o l := by
 cases o with
 | virgin => exact h
 | dead => exact h
 | box cells =>
  obtain ⟨b, vs, t, rfl, hg, hr⟩ := h
  exact ⟨b, vs, t, rfl, (hb b rfl).trans hg, RL.later cells ρ ρ' vs hl hr⟩
 | row e c n el =>
  obtain ⟨v, xs, rfl, hown, h1, h2⟩ := h
  refine ⟨v, xs, rfl, ?_, h1, fun i hi j hj => ?_⟩
  ·obtain ⟨hl', hh⟩ := hown
   refine ⟨hl', ?_⟩
   rcases hh with hh | ⟨g, cap, cur, rfl, ⟨fz, hg, hz⟩, hr⟩
   ·exact .inl hh
   ·exact .inr ⟨g, cap, cur, rfl, ⟨fz, (hb g rfl).trans hg, hz⟩, hr⟩
  ·obtain ⟨u, hu, hr⟩ := h2 i hi j hj
   exact ⟨u, hu, R.later _ virg virg u hl.virg hr⟩
 | lp ts ps asg bod sta pend =>
  obtain ⟨b, r, vs, rfl, hg, h1, h2, h3⟩ := h
  exact ⟨b, r, vs, rfl, (hb b rfl).trans hg, h1, RL.later ts ρ ρ' vs hl h2, h3⟩
 | mp t ag n cl u hh v =>
  obtain ⟨b, es, clock, rfl, hg, hm, hc⟩ := h
  exact ⟨b, es, clock, rfl, (hb b rfl).trans hg, hm.mono fun a v h => R.later a ρ ρ' v hl h, hc⟩
theorem Rel.dfr_free (h : Rel w0 X st a w ρ) {D : Nat} {ds : Option (List Deferred)} (hD : w.heap[D]? = some (.deferred ds)) (hle : w0.heap.size <= D) : ¬ Ow X ρ D := by
 rintro (hx | ⟨id, hid⟩)
 ·have := h.old D hx; omega
 ·have hob := h.obj id
  generalize ρ id = l at hob hid
  cases ho : getO st.objs id with
  | virgin => rw [ho] at hob; cases hob; cases hid
  | dead => rw [ho] at hob; cases hob; cases hid
  | box cells =>
   rw [ho] at hob
   obtain ⟨b, vs, t, rfl, hg, _⟩ := hob
   simp only [Loc.block, Option.some.injEq] at hid
   subst hid; rw [hg] at hD; cases hD
  | row e c n el =>
   rw [ho] at hob
   obtain ⟨v, xs, rfl, ⟨_, hh⟩, _⟩ := hob
   rcases hh with ⟨_, s, rfl⟩ | ⟨g, cap, cur, rfl, ⟨fz, hg, _⟩, _⟩
   ·cases s <;> cases hid
   ·simp only [Loc.block, rowB, Option.some.injEq] at hid
    subst hid; rw [hg] at hD; cases hD
  | lp ts ps asg bod sta pend =>
   rw [ho] at hob
   obtain ⟨b, r, vs, rfl, hg, _⟩ := hob
   simp only [Loc.block, Option.some.injEq] at hid
   subst hid; rw [hg] at hD; cases hD
  | mp t ag n cl u hh v =>
   rw [ho] at hob
   obtain ⟨b, es, clock, rfl, hg, _⟩ := hob
   simp only [Loc.block, Option.some.injEq] at hid
   subst hid; rw [hg] at hD; cases hD
theorem Rel.dfr_next (h : Rel w0 X st a w ρ) (hl : Later w w' (Ow X ρ) (Ow X ρ') ρ ρ') : ∃ Ds : List Nat, a.defers = Ds.map markOf /\ Ds.Nodup /\ ∀ D ∈ Ds, w'.heap[D]? = some (.deferred (some [])) /\ w0.heap.size <= D := by
 obtain ⟨Ds, h1, h2, h3⟩ := h.dfr
 refine ⟨Ds, h1, h2, fun D hD => ?_⟩
 obtain ⟨h4, h5⟩ := h3 D hD
 exact ⟨(hl.same D (Array.getElem?_eq_some_iff.1 h4).1 (h.dfr_free h4 h5)).trans h4, h5⟩
theorem Rel.next {objs' : List Ob} (h : Rel w0 X st a w ρ) (hl : Later w w' (Ow X ρ) (Ow X ρ') ρ ρ') (hk : Bel w0.heap.size w0 w')
  (hobj : ∀ id, ObR w' (Ow X ρ') ρ' (getO objs' id) (ρ' id)) (hdis : ∀ i j b, (ρ' i).block = some b -> (ρ' j).block = some b -> i = j)
  (hnew : ∀ b, owned ρ' b -> w0.heap.size <= b /\ b < w'.heap.size) : Rel w0 X ⟨st.tmps, objs'⟩ a w' ρ' :=
 ⟨h.len, fun i => R.later _ ρ ρ' _ hl (h.tmp i), hobj, hdis, hk, hnew, h.old, h.dfr_next hl⟩
theorem Rel.size (h : Rel w0 X st a w ρ) : w0.heap.size <= w.heap.size := h.kept.size
theorem Rel.virgin (h : Rel w0 X st a w ρ) {d : Nat} (hd : getO st.objs d = .virgin) : ρ d = .virgin := by
 have := h.obj d; rw [hd] at this; exact this
theorem owned_upd {d : Nat} {l : Loc} {b : Nat} (h : owned (upd ρ d l) b) : owned ρ b \/ l.block = some b := by
 obtain ⟨i, hi⟩ := h
 by_cases hid : i = d
 ·subst hid; rw [upd_same] at hi; exact .inr hi
 ·rw [upd_ne _ _ _ hid] at hi; exact .inl ⟨i, hi⟩
theorem laterMake {d : Nat} {l : Loc} (o : Obj) (hv : ρ d = .virgin) (hl : ∀ b, l.block = some b -> b = w.heap.size) : Later w (w.alloc o) (Ow X ρ) (Ow X (upd ρ d l)) ρ (upd ρ d l) := by
 refine ⟨by simp, fun b hb _ => Below.heap_alloc _ _ _ hb, fun b hb ho => ?_, fun id => ?_⟩
 ·rcases ho with ho | ho
  ·exact .inl ho
  ·rcases owned_upd ho with ho | ho
   ·exact .inr ho
   ·have := hl b ho; omega
 ·by_cases hid : id = d
  ·subst hid; exact .inr (.inl hv)
  ·exact .inl (upd_ne _ _ _ hid)
theorem Rel.make {d : Nat} {ob : Ob} {l : Loc} {o : Obj} (h : Rel w0 X st a w ρ) (hd : getO st.objs d = .virgin) (hl : ∀ b, l.block = some b -> b = w.heap.size)
  (hob : ObR (w.alloc o) (Ow X (upd ρ d l)) (upd ρ d l) ob l) :
  Rel w0 X ⟨st.tmps, setX st.objs d ob⟩ a (w.alloc o) (upd ρ d l) := by
 have hL := laterMake (X := X) (w := w) o (h.virgin hd) hl
 refine h.next hL (h.kept.alloc h.size o) (fun id => ?_) (fun i j b hi hj => ?_) (fun b hb => ?_)
 ·rw [getO_setX]
  by_cases hid : id = d
  ·subst hid; rw [if_pos rfl, upd_same]; exact hob
  ·rw [if_neg hid, upd_ne _ _ _ hid]
   refine (h.obj id).later hL fun b hb => Below.heap_alloc _ _ _ ?_
   exact (h.new b ⟨id, hb⟩).2
 ·by_cases hid : i = d <;> by_cases hjd : j = d
  ·rw [hid, hjd]
  ·subst hid
   rw [upd_same] at hi; rw [upd_ne _ _ _ hjd] at hj
   have := (h.new b ⟨j, hj⟩).2
   have := hl b hi; omega
  ·subst hjd
   rw [upd_same] at hj; rw [upd_ne _ _ _ hid] at hi
   have := (h.new b ⟨i, hi⟩).2
   have := hl b hj; omega
  ·rw [upd_ne _ _ _ hid] at hi; rw [upd_ne _ _ _ hjd] at hj
   exact h.dis i j b hi hj
 ·rcases owned_upd hb with hb | hb
  ·have := h.new b hb; exact ⟨this.1, by simp; omega⟩
  ·have := hl b hb; subst this; exact ⟨h.size, by simp⟩
theorem RL_of_get {O : Nat -> Prop} : ∀ {l : List A} {vs : List Value}, l.length = vs.length -> (∀ i v, vs[i]? = some v -> R w O (getA l i) ρ v) -> RL w O l ρ vs
 | [], vs, hl, _ => by simp only [RL]; exact List.eq_nil_of_length_eq_zero (by simpa using hl.symm)
 | a :: l, [], hl, _ => by simp at hl
 | a :: l, v :: vs, hl, h => by
  simp only [RL]
  exact ⟨v, vs, rfl, h 0 v rfl, RL_of_get (by simpa using hl) fun i u hu => h (i + 1) u (by simpa using hu)⟩
theorem getA_append : ∀ (l m : List A) (i : Nat), getA (l ++ m) i = if i < l.length then getA l i else getA m (i - l.length)
 | [], m, i => by simp
 | a :: l, m, 0 => by simp [getA]
 | a :: l, m, i + 1 => by simp [getA, getA_append l m i]
theorem getA_repeatL (z : List A) : ∀ (n i : Nat), i < n * z.length -> getA (repeatL z n) i = getA z (i % z.length)
 | 0, i, h => by simp at h
 | n + 1, i, h => by
  rw [repeatL, getA_append]
  split
  ·rename_i hi; rw [Nat.mod_eq_of_lt hi]
  ·rename_i hi
   have e : (n + 1) * z.length = n * z.length + z.length := by rw [Nat.succ_mul]
   rw [getA_repeatL z n (i - z.length) (by omega)]
   congr 1
   exact (Nat.mod_eq_sub_mod (by omega)).symm
theorem length_repeatL (z : List A) : ∀ n, (repeatL z n).length = n * z.length
 | 0 => by simp [repeatL]
 | n + 1 => by rw [repeatL, List.length_append, length_repeatL z n, Nat.succ_mul]; omega
theorem repeatL_RL {O : Nat -> Prop} {z : List A} {zero : Array Value} {len s : Nat} (hz : RL w O z ρ zero.toList) (hs : z.length = s) (hs0 : 0 < s) :
  RL w O (repeatL z len) ρ ((Array.range (len * s)).map (zero[· % zero.size]!)).toList := by
 have hzl := hz.len
 have hzs : zero.size = s := by rw [<- hs, <- hzl]; simp
 refine RL_of_get (by simp [length_repeatL, hs]) fun i v hi => ?_
 have hil : i < len * s := by
  rcases Nat.lt_or_ge i (len * s) with h | h
  ·exact h
  ·rw [List.getElem?_eq_none (by simpa using h)] at hi; cases hi
 rw [getA_repeatL z len i (by rw [hs]; exact hil), hs]
 have hm : i % s < s := Nat.mod_lt _ hs0
 refine hz.get (i % s) v ?_
 simp [hil] at hi
 subst hi
 rw [hzs]
 have : i % s < zero.size := by omega
 simp [this]
theorem fold_size : ∀ (zs : List (Value × Nat)) (off : Nat) (c : Array Value), (zs.foldl (fun cs (p : Value × Nat) => cs.setIfInBounds (off + p.2) p.1) c).size = c.size
 | [], off, c => rfl
 | z :: zs, off, c => by simp only [List.foldl_cons]; rw [fold_size zs]; simp
theorem fill_size (place : Nat -> Option (Nat × Nat)) : ∀ (l : List (Nat × Value)) (c c' : Array Value), Instr.fill place c l = some c' -> c'.size = c.size
 | [], c, c', h => by simp [Instr.fill] at h; rw [h]
 | (q, v) :: l, c, c', h => by
  simp only [Instr.fill] at h
  split at h
  ·cases h
  ·split at h
   ·cases h
   ·rw [fill_size place l _ _ h, <- Array.foldl_toList]
    exact fold_size _ _ _
theorem semO_sound {E : Env} {o : Oper} {d : Nat} {rw : Bool} {ob : Ob} (h : Rel w0 X st a w ρ) (hd : getO st.objs d = .virgin) (hs : (semO E o.op (evA st.tmps)).eval = some (rw, ob)) :
  ∃ v l obj, (execOp a.eval o).run E.P w = .ok (.value v) (w.alloc obj) /\ (∀ b, l.block = some b -> b = w.heap.size) /\ ObR (w.alloc obj) (Ow X (upd ρ d l)) (upd ρ d l) ob l /\
   R (w.alloc obj) (Ow X (upd ρ d l)) (mkV rw d ob) (upd ρ d l) v := by
 have hev := evA_R h.tmp
 have hv := h.virgin hd
 obtain ⟨dst, op, type, pos, after, guard⟩ := o
 simp only at hs
 cases op with
 | box t x =>
  simp only [semO] at hs
  split at hs
  ·rename_i cs hcs
   simp only [T.eval, Option.some.injEq, Prod.mk.injEq] at hs
   obtain ⟨rfl, rfl⟩ := hs
   have hr := cellsOf_R (hev x) hcs
   refine ⟨.pointer (some ⟨w.heap.size, 0, none⟩), .blk w.heap.size, .cells (a.eval x).cells t, ?_, (fun b hb => by simpa [Loc.block, rowB, eq_comm] using hb), ?_, ?_⟩
   ·simp [execOp, Instr.box, newVar, newRow]
   ·exact ⟨w.heap.size, (a.eval x).cells.toList, t, rfl, by rw [heap_alloc_new], RL.later _ _ _ _ (laterMake _ hv (fun b hb => by simpa [Loc.block, eq_comm] using hb)) hr⟩
   ·simp only [mkV, R, upd_same]
  ·cases hs
 | alloc t =>
  simp only [semO] at hs
  split at hs
  ·rename_i cs hcs
   simp only [T.eval, Option.some.injEq, Prod.mk.injEq] at hs
   obtain ⟨rfl, rfl⟩ := hs
   obtain ⟨i, v, hi, hz, hr⟩ := zeroCells_sound (w := w) (O := Ow X ρ) (ρ := ρ) hcs
   refine ⟨.pointer (some ⟨w.heap.size, 0, none⟩), .blk w.heap.size, .cells v.cells t, ?_, (fun b hb => by simpa [Loc.block, rowB, eq_comm] using hb), ?_, ?_⟩
   ·simp [execOp, Instr.alloc, zeroValue, typeInfo, hi, hz, newVar, newRow]
   ·exact ⟨w.heap.size, v.cells.toList, t, rfl, by rw [heap_alloc_new], RL.later _ _ _ _ (laterMake _ hv (fun b hb => by simpa [Loc.block, eq_comm] using hb)) hr⟩
   ·simp only [mkV, R, upd_same]
  ·cases hs
 | buildSlice t len parts =>
  cases len with
  | zero =>
   simp only [semO] at hs
   split at hs
   ·rename_i e hu hpl
    split at hs
    ·rename_i s hsz
     simp only [T.eval, Option.some.injEq, Prod.mk.injEq] at hs
     obtain ⟨rfl, rfl⟩ := hs
     obtain rfl : parts = #[] := by cases parts; simp at hpl; rw [hpl]
     refine ⟨.slice (some ⟨w.heap.size, 0, none⟩) 0 0, .row (.slice (some ⟨w.heap.size, 0, none⟩) 0 0), .cells #[] e, ?_, (fun b hb => by cases hb), ⟨_, [], rfl, ⟨by simp, .inl ⟨rfl, _, rfl⟩⟩, by simp, fun i hi => by omega⟩, ?_⟩
     ·simp [execOp, Instr.buildSlice, run_underlying hu, sizeT_run hsz, Instr.fill, newRow]
      congr 2; exact Array.eq_empty_of_size_eq_zero (by simp)
     ·simp only [mkV, R, upd_same]
      exact ⟨trivial, _, _, _, rfl⟩
    ·cases hs
   ·cases hs
  | succ len =>
  simp only [semO] at hs
  split at hs
  ·rename_i e hu
   split at hs
   ·rename_i z s hz hsz
    split at hs
    ·rename_i cs hcs
     split at hs
     ·split at hs
      ·rename_i hcond
       obtain ⟨hzl, hs1, hlen, hl0⟩ := hcond
       subst hs1
       simp only [T.eval, Option.some.injEq, Prod.mk.injEq] at hs
       obtain ⟨rfl, rfl⟩ := hs
       obtain ⟨i, zv, hi, hzv, hr⟩ := zeroCells_sound (w := w) (O := Ow X ρ) (ρ := ρ) hz
       have hrep := repeatL_RL (len := len + 1) hr hzl (by omega)
       obtain ⟨us, hf, hus⟩ := fill_sound (mapEvP_spec hev parts.toList) hrep hcs
       simp only [Array.toArray_toList] at hf
       have hparts : (parts.map fun (i, x) => (i, a.eval x)).toList = parts.toList.map fun p => (p.1, a.eval p.2) := by simp
       have hul : us.length = (len + 1) * 1 := by
        have := fill_size _ _ _ _ hf
        simpa using this
       have hcu : cs.length = us.length := hus.len.symm
       refine ⟨.slice (some ⟨w.heap.size, 0, none⟩) (len + 1) (len + 1), .blk w.heap.size, .cells us.toArray e, ?_, (fun b hb => by simpa [Loc.block, eq_comm] using hb), ?_, ?_⟩
       ·have hn : (len + 1) * 1 ≠ 0 := by omega
        have hn' : ¬ ((len + 1) * 1 > 2 ^ 24) := by omega
        simp only [execOp, Instr.buildSlice, Sem.run_bind, run_underlying hu, Result.andThen_ok, sizeT_run hsz, if_neg hn', if_neg hn, Sem.run_pure, zeroValue, typeInfo, run_program, hi, hzv, hparts, hf, newRow, run_newObj]
        rfl
       ·exact ⟨w.heap.size, us, e, rfl, by rw [heap_alloc_new], RL.later _ _ _ _ (laterMake _ hv (fun b hb => by simpa [Loc.block, eq_comm] using hb)) hus⟩
       ·simp only [mkV, R, upd_same]
        exact ⟨len + 1, by rw [hcu, hul]; simp, by rw [hcu, hul]; omega, by simp only [maxLen]; omega⟩
      ·cases hs
     split at hs
     ·rename_i hcond
      obtain ⟨hcl, hac, hzl, hs0, hlen, hl0⟩ := hcond
      simp only [T.eval, Option.some.injEq, Prod.mk.injEq] at hs
      obtain ⟨rfl, rfl⟩ := hs
      obtain ⟨i, zv, hi, hzv, hr⟩ := zeroCells_sound (w := w) (O := Ow X ρ) (ρ := ρ) hz
      have hrep := repeatL_RL (len := len + 1) hr hzl hs0
      obtain ⟨us, hf, hus⟩ := fill_sound (mapEvP_spec hev parts.toList) hrep hcs
      simp only [Array.toArray_toList] at hf
      have hparts : (parts.map fun (i, x) => (i, a.eval x)).toList = parts.toList.map fun p => (p.1, a.eval p.2) := by simp
      have hul : us.length = (len + 1) * s := by
       have := fill_size _ _ _ _ hf
       simpa using this
      refine ⟨.slice (some ⟨w.heap.size, 0, none⟩) (len + 1) (len + 1), .row (.slice (some ⟨w.heap.size, 0, none⟩) (len + 1) (len + 1)), .cells us.toArray e, ?_, (fun b hb => by simpa [Loc.block, rowB, eq_comm] using hb), ?_, ?_⟩
      ·have hn : (len + 1) * s ≠ 0 := by have := Nat.mul_pos hl0 hs0; omega
       have hn' : ¬ ((len + 1) * s > 2 ^ 24) := by omega
       simp only [execOp, Instr.buildSlice, Sem.run_bind, run_underlying hu, Result.andThen_ok, sizeT_run hsz, if_neg hn', if_neg hn, Sem.run_pure, zeroValue, typeInfo, run_program, hi, hzv, hparts, hf, newRow, run_newObj]
       rfl
      ·have hcl' := (R.closed (w := w) (O := Ow X ρ) (ρ := ρ) virg 5).2 cs us hcl hus
       refine ⟨_, us, rfl, ⟨hul, .inr ⟨w.heap.size, len, us.toArray, rfl, ⟨(0, 0), by rw [heap_alloc_new], .inr rfl⟩, Nat.le_refl _, ?_, by simpa using hul, ?_⟩⟩, RL.mem_cell hus hac, fun i hi j hj => ?_⟩
       ·have : len + 1 <= (len + 1) * s := Nat.le_mul_of_pos_right (len + 1) hs0
        simp only [maxLen]; omega
       ·simp; rw [List.take_of_length_le (by omega)]
       ·have hlt : i * s + j < us.length := by
         rw [hul]
         calc i * s + j < i * s + s := by omega
          _ = (i + 1) * s := by rw [Nat.succ_mul]
          _ <= (len + 1) * s := Nat.mul_le_mul_right s hi
        refine ⟨us[i * s + j], List.getElem?_eq_getElem hlt, ?_⟩
        exact R.later _ virg virg _ (laterMake (X := X) (ρ := ρ) (d := d) (l := .row (.slice (some ⟨w.heap.size, 0, none⟩) (len + 1) (len + 1))) _ hv (fun b hb => by simpa [Loc.block, rowB, eq_comm] using hb)).virg (hcl'.get _ _ (List.getElem?_eq_getElem hlt))
      ·simp only [mkV, R, upd_same]
       exact ⟨trivial, _, _, _, rfl⟩
     ·cases hs
    ·cases hs
   ·cases hs
  ·cases hs
 | makeSlice t l c =>
  simp only [semO] at hs
  split at hs
  ·rename_i e hu
   split at hs
   ·rename_i i z hi hz
    have hl := hev l
    have hc := hev c
    split at hs
    ·rename_i kl n kc m hn hm
     rw [hn] at hl; rw [hm] at hc
     simp only [R] at hl hc
     split at hs
     ·rename_i hcond
      obtain ⟨hzl, hs0, hzc, hza⟩ := hcond
      simp only [litN_eq, T.need, T.eval] at hs
      split at hs
      ·rename_i hb
       simp only [decide_eq_true_eq] at hb
       obtain ⟨h0, hnm, hbd⟩ := hb
       simp only [Option.some.injEq, Prod.mk.injEq] at hs
       obtain ⟨rfl, rfl⟩ := hs
       obtain ⟨i', zv, hi', hzv, hr⟩ := zeroCells_sound (w := w) (O := Ow X ρ) (ρ := ρ) hz
       rw [hi] at hi'; cases hi'
       have hmx : m.toNat <= maxRow := Nat.le_trans (Nat.le_mul_of_pos_right _ (Nat.succ_pos _)) hbd
       have hby : m.toNat * i.bytes <= m.toNat * (i.bytes + 1) := Nat.mul_le_mul_left _ (Nat.le_succ _)
       have hrun := run_make (P := E.P) w t e i zv hu hi hzv kl kc n m h0 hnm (by
        have : ((i.bytes * m.toNat : Nat) : Int) <= 281474976710656 := by
         rw [Nat.mul_comm]; unfold maxRow at hbd; omega
        rw [Int.natCast_mul] at this
        rwa [show ((m.toNat : Nat) : Int) = m by omega] at this) (by unfold maxRow at hmx; omega)
       have hzs : zv.cells.size = i.size := by rw [<- hzl, <- hr.len]; simp
       have hlb : ∀ b, (Loc.row (.slice (some ⟨w.heap.size, 0, none⟩) n.toNat m.toNat)).block = some b -> b = w.heap.size := by
        intro b hb
        simp only [Loc.block, rowB] at hb
        split at hb
        ·rename_i heq; simp only [Value.slice.injEq, Option.some.injEq] at heq; obtain ⟨rfl, _⟩ := heq; simpa [eq_comm] using hb
        ·cases hb
       refine ⟨.slice (some ⟨w.heap.size, 0, none⟩) n.toNat m.toNat, .row (.slice (some ⟨w.heap.size, 0, none⟩) n.toNat m.toNat), .cells (madeCells zv.cells (m.toNat * i.size)) e, by simp [execOp, hl, hc, hrun], hlb, ?_, ?_⟩
       ·have hcells : ∀ k, k < m.toNat * i.size -> (madeCells zv.cells (m.toNat * i.size)).toList[k]? = zv.cells.toList[k % i.size]? := by
         intro k hk
         have hmod : k % i.size < i.size := Nat.mod_lt _ hs0
         have : k % i.size < zv.cells.size := by omega
         simp only [madeCells, Array.toList_map, List.getElem?_map, Array.toList_range, List.getElem?_range hk, Option.map_some, hzs]
         rw [getElem!_pos zv.cells _ this]
         simp [this]
        have hzr := (R.closed (w := w) (O := Ow X ρ) (ρ := ρ) virg 5).2 z _ hzc hr
        have hln : n.toNat * i.size <= m.toNat * i.size := Nat.mul_le_mul_right _ (by omega)
        refine ⟨_, (madeCells zv.cells (m.toNat * i.size)).toList.take (n.toNat * i.size), rfl, ⟨by simp only [List.length_take, Array.length_toList, size_madeCells]; omega, ?_⟩, fun u hu' => ?_, fun q hq j hj => ?_⟩
        ·cases hmm : m.toNat with
         | zero =>
          left
          have : n.toNat = 0 := by omega
          exact ⟨this, _, by rw [this]⟩
         | succ cap =>
          right
          refine ⟨w.heap.size, cap, madeCells zv.cells ((cap + 1) * i.size), rfl, ⟨(0, 0), by rw [heap_alloc_new], .inr rfl⟩, by omega, ?_, by rw [size_madeCells], rfl⟩
          unfold maxRow at hmx; unfold maxLen; omega
        ·have hu2 := List.mem_of_mem_take hu'
         obtain ⟨k, hk, rfl⟩ := List.getElem_of_mem hu2
         have hk' : k < m.toNat * i.size := by simpa [size_madeCells] using hk
         have := hcells k hk'
         rw [List.getElem?_eq_getElem hk] at this
         exact RL.mem_cell hr hza _ (List.mem_of_getElem? this.symm)
        ·have hlt : q * i.size + j < n.toNat * i.size := by
          calc q * i.size + j < q * i.size + i.size := by omega
           _ = (q + 1) * i.size := by rw [Nat.succ_mul]
           _ <= n.toNat * i.size := Nat.mul_le_mul_right _ hq
         have hz2 : j < zv.cells.toList.length := by simpa [hzs] using hj
         refine ⟨zv.cells.toList[j], ?_, R.later _ virg virg _ (laterMake (X := X) (ρ := ρ) (d := d) _ hv hlb).virg (hzr.get _ _ (List.getElem?_eq_getElem hz2))⟩
         rw [List.getElem?_take_of_lt hlt, hcells _ (by omega)]
         rw [show (q * i.size + j) % i.size = j by rw [Nat.mul_comm, Nat.mul_add_mod, Nat.mod_eq_of_lt hj]]
         exact List.getElem?_eq_getElem hz2
       ·simp only [mkV, R, upd_same]
        exact ⟨trivial, _, _, _, rfl⟩
      ·cases hs
     ·cases hs
    ·cases hs
   ·cases hs
  ·cases hs
 | _ => simp [semO, T.eval] at hs
theorem run_storeCells_fz (P : Program) (g o : Nat) (t : TypeId) (fz : Nat × Nat) : ∀ (vs : List Value) (i : Nat) (cur : Array Value) (w : World), w.heap[g]? = some (.cells cur t fz) -> (cur.size <= fz.1 \/ fz.2 = 0) -> o + i + vs.length <= cur.size -> (∀ v ∈ vs, v.oneCell' = true) ->
  (storeCells ⟨g, o, none⟩ vs i).run P w = .ok () (w.setRow g (cur.toList.take (o + i) ++ vs ++ cur.toList.drop (o + i + vs.length)).toArray)
 | [], i, cur, w, hg, _, _, _ => by
  simp only [storeCells, List.append_nil, List.length_nil, Nat.add_zero, List.take_append_drop, Array.toArray_toList]
  rw [setRow_self w g cur t fz hg]
  rfl
 | v :: rest, i, cur, w, hg, hfz, hl, h1 => by
  have hi : o + i < cur.size := by simp at hl; omega
  have hadd : (⟨g, o, none⟩ : Addr).add i = ⟨g, o + i, none⟩ := by unfold Addr.add; split <;> simp_all
  have hcell : w.cell? ⟨g, o + i, none⟩ = some cur[o + i] := by simp [World.cell?, hg, hi]
  have hfro : w.frozen? ⟨g, o + i, none⟩ = false := by
   obtain ⟨lo, hi'⟩ := fz
   simp only [World.frozen?, hg, Bool.and_eq_false_iff, decide_eq_false_iff_not]
   simp only at hfz
   omega
  have hst : (store ((⟨g, o, none⟩ : Addr).add i) v).run P w = .ok () (w.setRow g (cur.setIfInBounds (o + i) v)) := by
   rw [hadd, run_store P w _ v _ (h1 v (by simp)), hcell]
   simp [hfro, setCell_eq_setRow w g (o + i) cur t fz v hg]
  have ih := run_storeCells_fz P g o t fz rest (i + 1) (cur.setIfInBounds (o + i) v) (w.setRow g (cur.setIfInBounds (o + i) v)) (setRow_heap w g cur _ t _ hg) (by simpa using hfz) (by simp at hl ⊢; omega) (fun x hx => h1 x (by simp [hx]))
  simp only [storeCells, Sem.run_bind, hst, Result.andThen_ok, ih, setRow_setRow]
  congr 3
  have e := list_seg_step cur.toList (o + i) v rest (by simp at hl ⊢; omega)
  simpa [Array.toList_setIfInBounds, Nat.add_assoc] using e
theorem bel_setRow {B g : Nat} {w0 w : World} (hb : Bel B w0 w) (hBg : B <= g) (cs : Array Value) : Bel B w0 (w.setRow g cs) :=
 hb.trans ⟨rfl, rfl, rfl, by simp [World.setRow], fun k hk => setRow_other w g k cs (by omega), trivial⟩
theorem Rel.write {id : Nat} {ob : Ob} {b : Nat} {cur new : Array Value} {t : TypeId} {fz : Nat × Nat} (h : Rel w0 X st a w ρ) (hl : (ρ id).block = some b) (hg : w.heap[b]? = some (.cells cur t fz))
  (hob : ObR (w.setRow b new) (Ow X ρ) ρ ob (ρ id)) : Rel w0 X ⟨st.tmps, setX st.objs id ob⟩ a (w.setRow b new) ρ := by
 have hL : Later w (w.setRow b new) (Ow X ρ) (Ow X ρ) ρ ρ :=
  ⟨by simp, fun b' _ hn => setRow_other _ _ _ _ (fun e => hn (by subst e; exact .inr ⟨id, hl⟩)), fun _ _ h => h, fun _ => .inl rfl⟩
 refine h.next hL (bel_setRow h.kept (h.new b ⟨id, hl⟩).1 _) (fun i => ?_) h.dis (fun b' hb' => by have := h.new b' hb'; simpa using this)
 rw [getO_setX]
 by_cases hid : i = id
 ·subst hid; rw [if_pos rfl]; exact hob
 ·rw [if_neg hid]
  exact (h.obj i).later hL fun b' hb' => setRow_other _ _ _ _ (fun e => hid (h.dis i id b (by rw [hb', e]) hl))
theorem laterWrite {b : Nat} {new : Array Value} {id : Nat} (hl : (ρ id).block = some b) : Later w (w.setRow b new) (Ow X ρ) (Ow X ρ) ρ ρ :=
 ⟨by simp, fun b' _ hn => setRow_other _ _ _ _ (fun e => hn (by subst e; exact .inr ⟨id, hl⟩)), fun _ _ h => h, fun _ => .inl rfl⟩
def spl (l : List Value) (o : Nat) (vs : List Value) : List Value := l.take o ++ vs ++ l.drop (o + vs.length)
theorem spl_length (l : List Value) (o : Nat) (vs : List Value) (h : o + vs.length <= l.length) : (spl l o vs).length = l.length := by
 simp [spl]; omega
theorem spl_get (l : List Value) (o : Nat) (vs : List Value) (k : Nat) (h : o + vs.length <= l.length) : (spl l o vs)[k]? = if o <= k /\ k < o + vs.length then vs[k - o]? else l[k]? := by
 have h1 : (l.take o).length = o := by simp; omega
 unfold spl
 rw [List.append_assoc]
 rcases Nat.lt_or_ge k o with hk | hk
 ·rw [List.getElem?_append_left (by omega), List.getElem?_take_of_lt hk, if_neg (by omega)]
 ·rw [List.getElem?_append_right (by omega), h1]
  rcases Nat.lt_or_ge (k - o) vs.length with hk2 | hk2
  ·rw [List.getElem?_append_left hk2, if_pos (by omega)]
  ·rw [List.getElem?_append_right hk2, if_neg (by omega), List.getElem?_drop]
   congr 1; omega
theorem spl_take (l : List Value) (o : Nat) (vs : List Value) (m : Nat) (h : o + vs.length <= m) (hm : m <= l.length) : (spl l o vs).take m = spl (l.take m) o vs := by
 apply List.ext_getElem?
 intro k
 rw [spl_get _ _ _ _ (by simp; omega), List.getElem?_take]
 split
 ·rw [spl_get _ _ _ _ (by omega), List.getElem?_take_of_lt ‹_›]
 ·rw [if_neg (by omega), List.getElem?_take, if_neg ‹_›]
theorem spl_mem {l : List Value} {o : Nat} {vs : List Value} {u : Value} (h : u ∈ spl l o vs) : u ∈ l \/ u ∈ vs := by
 simp only [spl, List.mem_append] at h
 rcases h with (h | h) | h
 ·exact .inl (List.mem_of_mem_take h)
 ·exact .inr h
 ·exact .inl (List.mem_of_mem_drop h)
theorem storeA_sound {P : Program} {t : TypeId} {x y : A} {vx vy : Value} {id : Nat} {ob : Ob} (h : Rel w0 X st a w ρ) (hx : R w (Ow X ρ) x ρ vx) (hy : R w (Ow X ρ) y ρ vy)
  (hs : (storeA P st.objs t x y).eval = some (id, ob)) : ∃ w', (Instr.storeAt t vx vy).run P w = .ok () w' /\ Rel w0 X ⟨st.tmps, setX st.objs id ob⟩ a w' ρ /\ Later w w' (Ow X ρ) (Ow X ρ) ρ ρ := by
 unfold storeA at hs
 split at hs
 ·rename_i s cs hsz hcs
  have hr := cellsOf_R hy hcs
  split at hs
  ·rename_i hcond
   obtain ⟨hlen, hs0, hac⟩ := hcond
   have hvs : vy.cells.size = s := by rw [<- hlen, <- hr.len]; simp
   have h1 := RL.mem_cell hr hac
   cases x with
   | ptr id' off =>
    simp only at hs
    split at hs
    ·rename_i cells hcells
     split at hs
     ·rename_i cells' hset
      simp only [T.eval, Option.some.injEq, Prod.mk.injEq] at hs
      obtain ⟨rfl, rfl⟩ := hs
      have hob := h.obj id'
      rw [hcells] at hob
      obtain ⟨b, vs, bt, hρ, hg, hrc⟩ := hob
      simp only [R, hρ] at hx
      subst hx
      have hbl : (ρ id').block = some b := by rw [hρ]; rfl
      have hset' := RL.setN hrc hr hset
      rcases hset' with ⟨h5, h6⟩ | ⟨rfl, rfl⟩
      ·refine ⟨w.setRow b (vs.take off ++ vy.cells.toList ++ vs.drop (off + vy.cells.toList.length)).toArray, ?_, h.write (t := bt) hbl hg ?_, laterWrite hbl⟩
       ·simp only [Instr.storeAt, Instr.sureAddr, storeVar, Sem.run_bind, Sem.run_pure, Result.andThen_ok, sizeT_run hsz, hvs, ne_eq, not_true_eq_false, if_false]
        rw [run_storeCells_at P b off bt vy.cells.toList 0 (List.toArray vs) w hg (by simpa using h6) h1]
        simp
       ·exact ⟨b, _, bt, hρ, setRow_heap _ _ _ _ _ _ hg, RL.later _ _ _ _ (laterWrite hbl) h5⟩
      ·simp at hlen; omega
     ·cases hs
    ·cases hs
   | ap id' i =>
    simp only at hs
    split at hs
    ·rename_i cells hcells
     split at hs
     ·rename_i k v l hint
      split at hs
      ·rename_i hk
       simp only [T.need, T.eval] at hs
       split at hs
       ·rename_i hin
        simp only [decide_eq_true_eq] at hin
        simp only [Option.some.injEq, Prod.mk.injEq] at hs
        obtain ⟨rfl, rfl⟩ := hs
        have hob := h.obj id'
        rw [hcells] at hob
        obtain ⟨b, vs, bt, hρ, hg, hrc⟩ := hob
        simp only [R, hρ] at hx
        subst hx
        have hbl : (ρ id').block = some b := by rw [hρ]; rfl
        have hvs' := intsK_R hrc hint
        rw [<- hk] at hvs'
        have hv1 : vy.cells.toList = [.int k v] := by
         simp only [RL] at hr
         obtain ⟨u, us, hu, h2, h3⟩ := hr
         simp only [R] at h2
         subst h2
         rw [hu, h3]
        have hlen2 : vs.length = l.length := by rw [hvs']; simp
        refine ⟨w.setRow b (vs.take i ++ vy.cells.toList ++ vs.drop (i + vy.cells.toList.length)).toArray, ?_, h.write (t := bt) hbl hg ?_, laterWrite hbl⟩
        ·simp only [Instr.storeAt, Instr.sureAddr, storeVar, Sem.run_bind, Sem.run_pure, Result.andThen_ok, sizeT_run hsz, hvs, ne_eq, not_true_eq_false, if_false]
         rw [run_storeCells_at P b i bt vy.cells.toList 0 (List.toArray vs) w hg (by rw [hv1]; simp; omega) h1]
         simp
        ·refine ⟨b, _, bt, hρ, setRow_heap _ _ _ _ _ _ hg, ?_⟩
         rw [hv1, hvs', setIs_R k i v l hin, setIs_eq, if_pos (Nat.zero_le _), Nat.sub_zero]
         exact RL_ints _
       ·cases hs
      ·cases hs
     ·cases hs
    ·cases hs
   | rp id' c i off =>
    simp only at hs
    split at hs
    ·rename_i e c' n el hrow
     split at hs
     ·rename_i hc2
      obtain ⟨rfl, hoff, hcl⟩ := hc2
      simp only [litN_eq, T.need, T.eval] at hs
      split at hs
      ·rename_i hin
       simp only [decide_eq_true_eq] at hin
       simp only [Option.some.injEq, Prod.mk.injEq] at hs
       obtain ⟨rfl, rfl⟩ := hs
       have hob := h.obj id'
       rw [hrow] at hob
       obtain ⟨rv, xs, hρ, hown, hxs, hel⟩ := hob
       obtain ⟨hxl, hh⟩ := hown
       rcases hh with ⟨rfl, _⟩ | ⟨g, cap, cur, rfl, ⟨fz, hg, hz⟩, hnc, hcm, hcs', htk⟩
       ·omega
       ·simp only [R, hρ] at hx
        obtain ⟨ad, n', cap', hv', rfl⟩ := hx
        simp only [Value.slice.injEq, Option.some.injEq] at hv'
        obtain ⟨rfl, _, _⟩ := hv'
        have hbl : (ρ id').block = some g := by rw [hρ]; rfl
        have hvl : vy.cells.toList.length = s := by simpa using hvs
        have hfit : i * c + off + s <= n * c := by
         calc i * c + off + s <= i * c + c := by omega
          _ = (i + 1) * c := by rw [Nat.succ_mul]
          _ <= n * c := Nat.mul_le_mul_right c hin
        have hfit2 : n * c <= cur.size := by rw [hcs']; exact Nat.mul_le_mul_right c hnc
        refine ⟨w.setRow g (spl cur.toList (i * c + off) vy.cells.toList).toArray, ?_, h.write (t := e) hbl hg ?_, laterWrite hbl⟩
        ·simp only [Instr.storeAt, Instr.sureAddr, storeVar, Sem.run_bind, Sem.run_pure, Result.andThen_ok, sizeT_run hsz, hvs, ne_eq, not_true_eq_false, if_false, add_at]
         rw [run_storeCells_fz P g (0 + (i * c + off)) e fz vy.cells.toList 0 cur w hg hz (by rw [hvl]; omega) h1]
         simp [spl]
        ·have hcl' := (R.closed (w := w) (O := Ow X ρ) (ρ := ρ) virg 5).2 cs _ hcl hr
         refine ⟨_, spl xs (i * c + off) vy.cells.toList, hρ, ⟨?_, .inr ⟨g, cap, _, rfl, ⟨fz, setRow_heap _ _ _ _ _ _ hg, by rw [List.size_toArray, spl_length _ _ _ (by rw [hvl, Array.length_toList]; omega), Array.length_toList]; exact hz⟩, hnc, hcm, ?_, ?_⟩⟩, ?_, fun q hq j hj => ?_⟩
         ·rw [spl_length _ _ _ (by rw [hvl]; omega), hxl]
         ·simp only [List.size_toArray]; rw [spl_length _ _ _ (by rw [hvl, Array.length_toList]; omega), Array.length_toList, hcs']
         ·simp only []; rw [spl_take _ _ _ _ (by rw [hvl]; omega) (by rw [Array.length_toList]; omega), htk]
         ·intro u hu
          rcases spl_mem hu with h2 | h2
          ·exact hxs u h2
          ·exact h1 u h2
         ·by_cases hq' : q = i /\ off <= j /\ j < off + s
          ·obtain ⟨rfl, ho1, ho2⟩ := hq'
           have hlt : j - off < vy.cells.toList.length := by omega
           refine ⟨vy.cells.toList[j - off], ?_, ?_⟩
           ·rw [spl_get _ _ _ _ (by rw [hvl]; omega), if_pos (by omega)]
            rw [show q * c + j - (q * c + off) = j - off by omega]
            exact List.getElem?_eq_getElem hlt
           ·simp only [ho1, ho2, and_self, if_true]
            exact R.later _ virg virg _ (laterWrite (X := X) hbl).virg (hcl'.get _ _ (List.getElem?_eq_getElem hlt))
          ·obtain ⟨u, hu, hru⟩ := hel q hq j hj
           refine ⟨u, ?_, ?_⟩
           ·rw [spl_get _ _ _ _ (by rw [hvl]; omega), if_neg, hu]
            rintro ⟨h7, h8⟩
            apply hq'
            rw [hvl] at h8
            have : q = i := by
             rcases Nat.lt_trichotomy q i with hlt | heq | hgt
             ·have : (q + 1) * c <= i * c := Nat.mul_le_mul_right c hlt
              rw [Nat.succ_mul] at this; omega
             ·exact heq
             ·have : (i + 1) * c <= q * c := Nat.mul_le_mul_right c hgt
              rw [Nat.succ_mul] at this; omega
            subst this
            exact ⟨rfl, by omega, by omega⟩
           ·simp only [hq', if_false]
            exact R.later _ virg virg _ (laterWrite (X := X) hbl).virg hru
      ·cases hs
     ·cases hs
    ·cases hs
   | _ => cases hs
  ·cases hs
 ·cases hs
theorem zcells_get (z : Array Value) (n c : Nat) (hz : z.size = c) (hc : 0 < c) (k : Nat) (hk : k < n * c) : (Builtin.zeroCells z n).toList[k]? = z.toList[k % c]? := by
 have hmod : k % c < c := Nat.mod_lt _ hc
 have hlt : k % c < z.size := by omega
 simp only [Builtin.zeroCells, Array.toList_map, List.getElem?_map, Array.toList_range, hz, List.getElem?_range hk, Option.map_some]
 rw [getElem!_pos z _ hlt]
 simp [hlt]
theorem clearA_sound {P : Program} {t ty : TypeId} {x : A} {vx : Value} {id : Nat} {ob : Ob} (h : Rel w0 X st a w ρ) (hx : R w (Ow X ρ) x ρ vx)
  (hs : (clearA P st.objs t x).eval = some (id, ob)) : ∃ w', (Builtin.clear_ #[t] ty #[vx]).run P w = .ok (.tuple #[]) w' /\ Rel w0 X ⟨st.tmps, setX st.objs id ob⟩ a w' ρ /\ Later w w' (Ow X ρ) (Ow X ρ) ρ ρ := by
 unfold clearA at hs
 split at hs
 ·rename_i e hu
  split at hs
  ·rename_i z hz
   split at hs
   ·rename_i id' c lo n
    split at hs
    ·rename_i e' c' m el hrow
     split at hs
     ·rename_i hcond
      obtain ⟨rfl, hzl, hc0, hzc, hza⟩ := hcond
      simp only [T.need, T.eval] at hs
      split at hs
      ·rename_i hn
       simp only [decide_eq_true_eq] at hn
       simp only [Option.some.injEq, Prod.mk.injEq] at hs
       obtain ⟨rfl, rfl⟩ := hs
       have hob := h.obj id'
       rw [hrow] at hob
       obtain ⟨rv, xs, hρ, hown, hxs, hel⟩ := hob
       obtain ⟨hxl, hh⟩ := hown
       simp only [R, hρ] at hx
       obtain ⟨a0, N, cap0, a', hv', hloN, rfl, _, had⟩ := hx
       obtain ⟨ad, rfl, rfl⟩ := had hn
       rcases hh with ⟨rfl, b, rfl⟩ | ⟨g, cap, cur, rfl, ⟨fz, hg, hfz⟩, hnc, hcm, hcs', htk⟩
       ·simp only [Value.slice.injEq] at hv'; omega
       ·simp only [Value.slice.injEq, Option.some.injEq] at hv'
        obtain ⟨rfl, rfl, rfl⟩ := hv'
        obtain ⟨i, zv, hi, hzv, hr⟩ := zeroCells_sound (w := w) (O := Ow X ρ) (ρ := ρ) hz
        have hzs : zv.cells.size = c := by rw [<- hzl, <- hr.len]; simp
        have hbl : (ρ id').block = some g := by rw [hρ]; rfl
        have hvl : (Builtin.zeroCells zv.cells n).toList.length = n * c := by simp [Builtin.zeroCells, hzs]
        have hfit : lo * c + n * c <= m * c := by rw [<- Nat.add_mul]; exact Nat.mul_le_mul_right c hloN
        have hfit2 : m * c <= cur.size := by rw [hcs']; exact Nat.mul_le_mul_right c hnc
        have hget : ∀ k, k < n * c -> (Builtin.zeroCells zv.cells n).toList[k]? = zv.cells.toList[k % c]? := zcells_get _ _ _ hzs hc0
        have h1 : ∀ u ∈ (Builtin.zeroCells zv.cells n).toList, u.oneCell' = true := by
         intro u hu
         obtain ⟨k, hk, rfl⟩ := List.getElem_of_mem hu
         have := hget k (by rw [<- hvl]; exact hk)
         rw [List.getElem?_eq_getElem hk] at this
         exact RL.mem_cell hr hza _ (List.mem_of_getElem? this.symm)
        obtain ⟨n', rfl⟩ : ∃ n', n = n' + 1 := ⟨n - 1, by omega⟩
        refine ⟨w.setRow g (spl cur.toList (lo * c) (Builtin.zeroCells zv.cells (n' + 1)).toList).toArray, ?_, h.write (t := e') hbl hg ?_, laterWrite hbl⟩
        ·simp only [Builtin.clear_, List.getElem?_toArray, List.getElem?_cons_zero, Sem.run_bind, run_underlying hu, Result.andThen_ok, zeroValue, typeInfo, run_program, hi, hzv, Sem.run_pure, add_at]
         rw [run_storeCells_fz P g (0 + lo * c) e' fz _ 0 cur w hg hfz (by rw [hvl]; omega) h1]
         simp [spl]
        ·have hcl' := (R.closed (w := w) (O := Ow X ρ) (ρ := ρ) virg 5).2 z _ hzc hr
         refine ⟨_, spl xs (lo * c) (Builtin.zeroCells zv.cells (n' + 1)).toList, hρ, ⟨?_, .inr ⟨g, cap, _, rfl, ⟨fz, setRow_heap _ _ _ _ _ _ hg, by rw [List.size_toArray, spl_length _ _ _ (by rw [hvl, Array.length_toList]; omega), Array.length_toList]; exact hfz⟩, hnc, hcm, ?_, ?_⟩⟩, ?_, fun q hq j hj => ?_⟩
         ·rw [spl_length _ _ _ (by rw [hvl]; omega), hxl]
         ·simp only [List.size_toArray]; rw [spl_length _ _ _ (by rw [hvl, Array.length_toList]; omega), Array.length_toList, hcs']
         ·simp only []; rw [spl_take _ _ _ _ (by rw [hvl]; omega) (by rw [Array.length_toList]; omega), htk]
         ·intro u hu
          rcases spl_mem hu with h2 | h2
          ·exact hxs u h2
          ·exact h1 u h2
         ·by_cases hq' : lo <= q /\ q < lo + (n' + 1)
          ·have hk : (q - lo) * c + j < (n' + 1) * c := by
            calc (q - lo) * c + j < (q - lo) * c + c := by omega
             _ = (q - lo + 1) * c := by rw [Nat.succ_mul]
             _ <= (n' + 1) * c := Nat.mul_le_mul_right c (by omega)
           have hqe : q * c = lo * c + (q - lo) * c := by rw [<- Nat.add_mul]; congr 1; omega
           have hjz : j < zv.cells.toList.length := by simp [hzs]; exact hj
           refine ⟨zv.cells.toList[j], ?_, ?_⟩
           ·rw [spl_get _ _ _ _ (by rw [hvl]; omega), if_pos (by rw [hvl]; omega), show q * c + j - lo * c = (q - lo) * c + j by omega, hget _ hk]
            rw [show ((q - lo) * c + j) % c = j by rw [Nat.mul_comm, Nat.mul_add_mod, Nat.mod_eq_of_lt hj]]
            exact List.getElem?_eq_getElem hjz
           ·simp only [hq', and_self, if_true]
            exact R.later _ virg virg _ (laterWrite (X := X) hbl).virg (hcl'.get _ _ (List.getElem?_eq_getElem hjz))
          ·obtain ⟨u, hu', hru⟩ := hel q hq j hj
           refine ⟨u, ?_, ?_⟩
           ·rw [spl_get _ _ _ _ (by rw [hvl]; omega), if_neg, hu']
            rw [hvl]
            rintro ⟨h7, h8⟩
            apply hq'
            constructor
            ·rcases Nat.lt_or_ge q lo with hlt | hge
             ·have : (q + 1) * c <= lo * c := Nat.mul_le_mul_right c hlt
              rw [Nat.succ_mul] at this; omega
             ·exact hge
            ·rcases Nat.lt_or_ge q (lo + (n' + 1)) with hlt | hge
             ·exact hlt
             ·have : (lo + (n' + 1)) * c <= q * c := Nat.mul_le_mul_right c hge
              rw [Nat.add_mul] at this; omega
           ·simp only [hq', if_false]
            exact R.later _ virg virg _ (laterWrite (X := X) hbl).virg hru
      ·cases hs
     ·cases hs
    ·cases hs
   ·cases hs
  ·cases hs
 ·cases hs
theorem rowOf_sound {objs : List Ob} {c m : Nat} {y : A} {vy : Value} {ey : Nat -> Nat -> A} {O : Nat -> Prop} (hob : Obs w O ρ objs) (hy : R w O y ρ vy) (h : rowOf objs c y = some (m, ey)) (hc : 0 < c) (hns : ∀ b, y ≠ .str b) :
  ∃ (s : Option Addr) (cap : Nat) (news : List Value), vy = .slice s m cap /\ news.length = m * c /\ (∀ u ∈ news, u.oneCell' = true) /\ (∀ i, i < m -> ∀ j, j < c -> ∃ u, news[i * c + j]? = some u /\ R w O (ey i j) virg u) /\
   (s = none -> m = 0) /\ (∀ ad, s = some ad -> ∀ j u, news[j]? = some u -> w.cell? (ad.add j) = some u) := by
 cases y with
 | nils =>
  simp only [rowOf, Option.some.injEq, Prod.mk.injEq] at h
  obtain ⟨rfl, rfl⟩ := h
  simp only [R] at hy
  subst hy
  exact ⟨none, 0, [], rfl, by simp, by simp, fun i hi => by omega, fun _ => rfl, fun ad h j u hu => by simp at hu⟩
 | sl c' n el =>
  simp only [rowOf] at h
  split at h
  ·rename_i hcc
   subst hcc
   simp only [Option.some.injEq, Prod.mk.injEq] at h
   obtain ⟨rfl, rfl⟩ := h
   simp only [R] at hy
   obtain ⟨s, cap, rfl, h1, h2, h3⟩ := hy
   rcases Nat.eq_zero_or_pos n with hn | hn
   ·subst hn
    exact ⟨s, cap, [], rfl, by simp, by simp, fun i hi => by omega, fun _ => rfl, fun ad _ j u hu => by simp at hu⟩
   ·obtain ⟨ad, rfl, him, hcell⟩ := h3 (Nat.mul_pos hn hc)
    obtain ⟨news, hl, hv⟩ := exists_list (n * c') (fun k u => w.cell? (ad.add k) = some u /\ u.oneCell' = true /\ R w O (el (k / c') (k % c')) virg u) (fun k hk => by
     obtain ⟨u, hu, h1, hr⟩ := hcell (k / c') (Nat.div_lt_of_lt_mul (by rw [Nat.mul_comm]; exact hk)) (k % c') (Nat.mod_lt _ hc)
     refine ⟨u, ?_, h1, hr⟩
     rw [Nat.mul_comm, Nat.div_add_mod] at hu
     exact hu)
    refine ⟨some ad, cap, news, rfl, hl, fun u hu => ?_, fun i hi j hj => ?_, (fun h => by cases h), fun ad' h j u hu => ?_⟩
    ·obtain ⟨k, hk, rfl⟩ := List.getElem_of_mem hu
     exact (hv k _ (List.getElem?_eq_getElem hk)).2.1
    ·have hlt : i * c' + j < news.length := by
      rw [hl]
      calc i * c' + j < i * c' + c' := by omega
       _ = (i + 1) * c' := by rw [Nat.succ_mul]
       _ <= n * c' := Nat.mul_le_mul_right c' hi
     refine ⟨news[i * c' + j], List.getElem?_eq_getElem hlt, ?_⟩
     have := (hv _ _ (List.getElem?_eq_getElem hlt)).2.2
     rwa [show (i * c' + j) / c' = i by rw [Nat.mul_comm, Nat.mul_add_div hc, Nat.div_eq_of_lt hj]; rfl, show (i * c' + j) % c' = j by rw [Nat.mul_comm, Nat.mul_add_mod, Nat.mod_eq_of_lt hj]] at this
    ·cases h; exact (hv j u hu).1
  ·cases h
 | own id =>
  simp only [rowOf] at h
  split at h
  ·rename_i e c' n el hrow
   split at h
   ·rename_i hcc
    subst hcc
    simp only [Option.some.injEq, Prod.mk.injEq] at h
    obtain ⟨rfl, rfl⟩ := h
    rcases hob id with hd | hob'
    ·rw [hrow] at hd; cases hd
    ·rw [hrow] at hob'
     obtain ⟨rv, xs, hρ, hown, hxs, hel⟩ := hob'
     simp only [R, hρ] at hy
     obtain ⟨rfl, _⟩ := hy
     rcases Nat.eq_zero_or_pos n with hn | hn
     ·subst hn
      have hx0 : xs = [] := List.eq_nil_of_length_eq_zero (by simpa using hown.1)
      subst hx0
      rcases hown.2 with ⟨_, s, rfl⟩ | ⟨g, cap, cur, rfl, _⟩
      ·exact ⟨s, 0, [], rfl, by simp, by simp, fun i hi => by omega, fun _ => rfl, fun ad h j u hu => by simp at hu⟩
      ·exact ⟨_, cap + 1, [], rfl, by simp, by simp, fun i hi => by omega, fun _ => rfl, fun ad _ j u hu => by simp at hu⟩
     ·obtain ⟨g, cap, rfl, _, _, hcell⟩ := ownsRow_cell hown hn
      refine ⟨_, cap + 1, xs, rfl, hown.1, hxs, hel, (fun h => by cases h), fun ad h j u hu => ?_⟩
      cases h
      rw [add_at, Nat.zero_add]
      exact hcell j u hu
   ·cases h
  ·cases h
 | str b => exact (hns b rfl).elim
 | _ => simp [rowOf] at h
theorem cpI_eq (k : IntKind) (m : Nat) (ey : Nat -> Nat -> A) : ∀ (l : List Int) (j : Nat), cpI k m ey j l = ((List.range l.length).map fun i => A.int k (if j + i < m then u8Of (ey (j + i) 0) else l.getD i 0))
 | [], j => rfl
 | n :: l, j => by
  rw [cpI, cpI_eq k m ey l (j + 1), List.length_cons, List.range_succ_eq_map, List.map_cons, List.map_map]
  congr 1
  apply List.map_congr_left
  intro i _
  simp only [Function.comp, Nat.succ_eq_add_one]
  rw [show j + 1 + i = j + (i + 1) by omega]
  simp [List.getD]
theorem allN_get {f : Nat -> Bool} : ∀ {n i : Nat}, allN f n = true -> i < n -> f i = true
 | 0, i, _, h => by omega
 | n + 1, i, h, hi => by
  simp only [allN, Bool.and_eq_true] at h
  by_cases e : i = n
  ·rw [e]; exact h.2
  ·exact allN_get h.1 (by omega)
theorem isK_int {k : IntKind} {a : A} (h : isK k a = true) : a = .int k (u8Of a) := by
 cases a with
 | int k' n =>
  simp only [isK] at h
  split at h
  ·rename_i e; subst e; rfl
  ·cases h
 | _ => cases h
theorem copyA_sound {P : Program} {t t' ty : TypeId} {x y : A} {vx vy : Value} {id q : Nat} {ob : Ob} (h : Rel w0 X st a w ρ) (hx : R w (Ow X ρ) x ρ vx) (hy : R w (Ow X ρ) y ρ vy)
  (hs : (copyA P st.objs t t' x y).eval = some (id, ob, q)) : ∃ w', (Builtin.copy_ #[t, t'] ty #[vx, vy]).run P w = .ok (goInt (q : Nat)) w' /\ Rel w0 X ⟨st.tmps, setX st.objs id ob⟩ a w' ρ /\ Later w w' (Ow X ρ) (Ow X ρ) ρ ρ := by
 unfold copyA at hs
 split at hs
 ·rename_i e e' id' c lo n c' m ey hu hu'
  split at hs
  ·rename_i cells s s' hcells hse hse'
   split at hs
   ·rename_i l hint
    split at hs
    ·rename_i hc
     obtain ⟨rfl, rfl, rfl, rfl, rfl, hln⟩ := hc
     simp only [T.need, T.eval] at hs
     split at hs
     ·rename_i hall
      simp only [Option.some.injEq, Prod.mk.injEq] at hs
      obtain ⟨rfl, rfl, rfl⟩ := hs
      have hob := h.obj id'
      rw [hcells] at hob
      obtain ⟨b, vs, bt, hρ, hg, hrc⟩ := hob
      have hvs := intsK_R hrc hint
      have hbl : (ρ id').block = some b := by rw [hρ]; rfl
      simp only [R, hρ] at hx
      obtain ⟨cap, rfl, h1, h2⟩ := hx
      have hsz : (P.info? e).map (·.size) = some 1 := hse
      simp only [R] at hy
      obtain ⟨ya, ycap, rfl, hy1, hy2, hy3⟩ := hy
      have hlv : vs.length = n := by rw [hvs, List.length_map, hln]
      by_cases hmin : Nat.min m n = 0
      ·have hcp := run_copy_none (P := P) w t t' ty e (some ⟨b, 0 * 1, none⟩) ya n cap m ycap hu hsz hmin
       refine ⟨w, by rw [hcp]; show _ = Result.ok (goInt ((min m n : Nat) : Int)) w; rw [show min m n = 0 from hmin]; rfl, ?_, ⟨Nat.le_refl _, fun _ _ _ => rfl, fun _ _ h => h, fun _ => .inl rfl⟩⟩
       refine ⟨h.len, h.tmp, fun i => ?_, h.dis, h.kept, h.new, h.old, h.dfr⟩
       simp only [getO_setX]
       by_cases hi : i = id'
       ·subst hi
        rw [if_pos rfl]
        refine ⟨b, vs, bt, hρ, hg, ?_⟩
        have : cpI (kindOf cells) m ey 0 l = l.map (A.int (kindOf cells)) := by
         rw [cpI_eq]
         apply List.ext_getElem
         ·simp
         ·intro i h3 h4
          simp only [List.getElem_map, List.getElem_range, Nat.zero_add]
          have hi : i < l.length := by simpa using h4
          rw [if_neg (by have : min m n = 0 := hmin; omega)]
          simp [List.getD, hi]
        rw [this, hvs]
        exact RL_ints _
       ·rw [if_neg hi]; exact h.obj i
      ·have hpos : 0 < m * 1 := by have : min m n ≠ 0 := hmin; omega
       obtain ⟨ad, rfl, him, hcell⟩ := hy3 hpos
       have hcs : ∀ j, j < min m n -> w.cell? (ad.add j) = some (.int (kindOf cells) (u8Of (ey j 0))) := by
        intro j hj
        obtain ⟨u, hu1, _, hu3⟩ := hcell j (by omega) 0 (by omega)
        have hk := isK_int (allN_get hall hj)
        rw [hk] at hu3
        simp only [R] at hu3
        rw [Nat.mul_one, Nat.add_zero, hu3] at hu1
        exact hu1
       let cs : List Value := (List.range (min m n)).map fun j => .int (kindOf cells) (u8Of (ey j 0))
       have hcl : cs.length = min m n := by simp [cs]
       have hcp := run_copy_row (P := P) w t t' ty e b (0 * 1) n cap ad m ycap (List.toArray vs) bt cs hu hsz hg hcl (fun j v hv => by
        have hj : j < min m n := by have := (List.getElem?_eq_some_iff.1 hv).1; omega
        rw [hcs j hj]
        simpa [cs, hj] using hv) (by simp [hcl, hlv]; omega) (fun v hv => by
        simp only [cs, List.mem_map] at hv
        obtain ⟨j, _, rfl⟩ := hv
        rfl)
       rw [hcl] at hcp
       refine ⟨_, hcp, h.write (t := bt) hbl hg ?_, laterWrite hbl⟩
       refine ⟨b, _, bt, hρ, setRow_heap _ _ _ _ _ _ hg, ?_⟩
       have e1 : (List.toArray vs).toList.take (0 * 1) ++ cs ++ (List.toArray vs).toList.drop (0 * 1 + min m n) = (List.range l.length).map fun i => Value.int (kindOf cells) (if i < m then u8Of (ey i 0) else l.getD i 0) := by
        simp only [Nat.zero_mul, List.take_zero, List.nil_append, Nat.zero_add]
        apply List.ext_getElem
        ·simp [hcl, hlv, hln]; omega
        ·intro i h3 h4
         have hi : i < l.length := by simpa using h4
         by_cases hlt : i < min m n
         ·rw [List.getElem_append_left (by omega)]
          simp only [cs, List.getElem_map, List.getElem_range]
          rw [if_pos (by omega)]
         ·rw [List.getElem_append_right (by omega)]
          simp only [List.getElem_drop, List.getElem_map, List.getElem_range, hcl, hvs]
          have e2 : min m n + (i - min m n) = i := by omega
          rw [if_neg (by omega)]
          simp only [e2]
          simp [List.getD, hi]
       rw [e1, cpI_eq]
       have ea : ((List.range l.length).map fun i => A.int (kindOf cells) (if 0 + i < m then u8Of (ey (0 + i) 0) else l.getD i 0)) = ((List.range l.length).map fun i => (if i < m then u8Of (ey i 0) else l.getD i 0)).map (A.int (kindOf cells)) := by
        rw [List.map_map]
        apply List.map_congr_left
        intro i _
        simp
       have ev : ((List.range l.length).map fun i => Value.int (kindOf cells) (if i < m then u8Of (ey i 0) else l.getD i 0)) = ((List.range l.length).map fun i => (if i < m then u8Of (ey i 0) else l.getD i 0)).map (Value.int (kindOf cells)) := by
        rw [List.map_map]; rfl
       rw [ea, ev]
       exact RL_ints _
     ·cases hs
    ·cases hs
   ·cases hs
  ·cases hs
 ·cases hs
theorem strEl_R {O : Nat -> Prop} (b : ByteArray) : ∀ i, i < b.size -> ∀ j, j < 1 -> ∃ u, (byteCells b)[i * 1 + j]? = some u /\ R w O (strEl b i j) virg u := by
 intro i hi j hj
 obtain rfl : j = 0 := by omega
 have hi' : i < b.data.toList.length := by rw [Array.length_toList]; exact hi
 refine ⟨.int .u8 (b.data.toList[i].toNat : Int), ?_, ?_⟩
 ·simp only [Nat.mul_one, Nat.add_zero, byteCells, List.getElem?_map, List.getElem?_eq_getElem hi', Option.map_some]
 ·simp only [strEl, R]
  rw [List.getD, List.getElem?_eq_getElem hi']; rfl
theorem rowOf_src {P : Program} {t t' e : TypeId} {objs : List Ob} {c m : Nat} {y : A} {vy : Value} {ey : Nat -> Nat -> A} {O : Nat -> Prop} (hob : Obs w O ρ objs) (hy : R w O y ρ vy) (ht : P.underlying t = some (.slice e)) (hok : okApp P t t' y = true) (h : rowOf objs c y = some (m, ey)) (hc : 0 < c) :
  ∃ news : List Value, Src P c t' vy m news w /\ ∀ i, i < m -> ∀ j, j < c -> ∃ u, news[i * c + j]? = some u /\ R w O (ey i j) virg u := by
 by_cases hstr : ∃ b, y = .str b
 ·obtain ⟨b, rfl⟩ := hstr
  simp only [rowOf] at h
  split at h
  ·rename_i hc1
   subst hc1
   simp only [Option.some.injEq, Prod.mk.injEq] at h
   obtain ⟨rfl, rfl⟩ := h
   simp only [R] at hy
   subst hy
   have hk : P.underlying t' = some .string := by
    simp only [okApp] at hok
    split at hok
    ·rename_i h; exact h
    ·cases hok
   exact ⟨byteCells b, Src.ofString w hk b, strEl_R b⟩
  ·cases h
 ·have hns : ∀ b, y ≠ .str b := fun b e => hstr ⟨b, e⟩
  have htt : t = t' := by
   cases y <;> first | exact Nat.eq_of_beq_eq_true hok | exact (hns _ rfl).elim
  subst htt
  obtain ⟨s, cap, news, rfl, hl, h1, hel, hnone, hcell⟩ := rowOf_sound hob hy h hc hns
  cases s with
  | none =>
   have hm := hnone rfl
   subst hm
   have : news = [] := List.eq_nil_of_length_eq_zero (by simpa using hl)
   subst this
   exact ⟨[], Src.ofNil w ht cap, hel⟩
  | some ad => exact ⟨news, Src.ofSlice w ht ad m cap news hl (hcell ad rfl) h1, hel⟩
theorem firstCells_cap0 {P : Program} (w : World) (size : Nat) (a0 : Option Addr) : (Builtin.firstCells size 0 (.slice a0 0 0)).run P w = .ok #[] w := by
 cases a0 <;> simp [Builtin.firstCells, loadCells, loadCellsFrom]
theorem run_append_row {P : Program} (t t' ty e : TypeId) (i : TypeInfo) (zv : Value) (ht : P.underlying t = some (.slice e)) (hi : P.info? e = some i) (hz : i.zero = some zv) (hzs : zv.cells.size = i.size) (hs0 : 0 < i.size)
  (v : Value) (n : Nat) (xs : List Value) (hown : rowR w e i.size v n xs) (x : Value) (m : Nat) (news : List Value) (hs : Src P i.size t' x m news w) (h63 : n + m <= maxLen) (hbytes : (n + m) * i.bytes <= 140737488355328) :
  ∃ v' w', (Builtin.append_ #[t, t'] ty #[v, x]).run P w = .ok v' w' /\ rowR w' e i.size v' (n + m) (xs ++ news) /\ GB w w' (rowB v) /\ (∀ b, rowB v' = some b -> rowB v = some b \/ b = w.heap.size) := by
 have hlen : (xs ++ news).length = (n + m) * i.size := by rw [List.length_append, hown.1, hs.newsLen, Nat.add_mul]
 have hsmall : ((n + m : Nat) : Int) <= 9223372036854775807 := by simp only [maxLen] at h63; omega
 have grown : ∀ (old : Nat), old < n + m -> ∀ row, 
   rowR (w.drew.alloc (.cells ((xs ++ news).toArray ++ Builtin.zeroCells zv.cells (grownCap w (n + m) old e - (n + m))) e)) e i.size (.slice (some ⟨w.heap.size, 0, none⟩) (n + m) (grownCap w (n + m) old e)) (n + m) (xs ++ news) /\
   GB w (w.drew.alloc (.cells ((xs ++ news).toArray ++ Builtin.zeroCells zv.cells (grownCap w (n + m) old e - (n + m))) e)) row := by
  intro old ho row
  have hge := grownCap_ge w (n + m) old e
  have hcm : grownCap w (n + m) old e <= maxLen := grownCap_le_maxLen w (n + m) old e h63
  refine ⟨⟨hlen, .inr ?_⟩, ⟨rfl, rfl, rfl, by simp, fun k hk _ => heap_alloc_old w.drew _ k hk, trivial⟩⟩
  obtain ⟨cp, hcp⟩ : ∃ cp, grownCap w (n + m) old e = cp + 1 := ⟨grownCap w (n + m) old e - 1, by omega⟩
  rw [hcp] at hge hcm ⊢
  refine ⟨w.heap.size, cp, _, rfl, ⟨(0, 0), heap_alloc_new w.drew _, .inr rfl⟩, hge, hcm, ?_, ?_⟩
  ·simp only [Array.size_append, List.size_toArray, size_zeroCells, hzs, hlen, <- Nat.add_mul]
   congr 1
   omega
  ·simp only [Array.toList_append]
   rw [<- hlen]
   exact List.take_left
 have grow : ∀ (base : Option Addr) (cap : Nat), v = .slice base n cap -> (Builtin.firstCells i.size n (.slice base n cap)).run P w.drew = .ok xs.toArray w.drew -> cap < n + m ->
   ∃ v' w', (Builtin.append_ #[t, t'] ty #[v, x]).run P w = .ok v' w' /\ rowR w' e i.size v' (n + m) (xs ++ news) /\ GB w w' (rowB v) /\ (∀ b, rowB v' = some b -> rowB v = some b \/ b = w.heap.size) := by
  rintro base cap rfl hold hlt
  have hr := run_append_grow_src (P := P) w t t' ty e i zv ht hi hz base n cap xs hold x m news hs hlt hsmall (growslice_fits (by omega) hbytes)
  obtain ⟨g1, g2⟩ := grown cap hlt (rowB (.slice base n cap))
  refine ⟨_, _, hr, g1, g2, fun b hb => .inr ?_⟩
  unfold rowB at hb
  split at hb
  ·rename_i heq
   simp only [Value.slice.injEq, Option.some.injEq] at heq
   obtain ⟨rfl, _⟩ := heq
   simpa [eq_comm] using hb
  ·cases hb
 rcases hown.2 with ⟨rfl, a0, rfl⟩ | ⟨g, cp, cur, rfl, ⟨fz, hg, hfz⟩, hnc, hcm, hcs, htk⟩
 ·have hx0 : xs = [] := List.eq_nil_of_length_eq_zero (by simpa using hown.1)
  subst hx0
  rcases Nat.eq_zero_or_pos m with hm0 | hm0
  ·subst hm0
   have hnn : news = [] := List.eq_nil_of_length_eq_zero (by simpa using hs.newsLen)
   subst hnn
   refine ⟨.slice a0 0 0, w, ?_, ⟨by simp, .inl ⟨rfl, _, rfl⟩⟩, GB.refl w _, fun b hb => .inl hb⟩
   have h0 := hs.cells
   have hl0 := hs.len w
   rcases hs.kind with ⟨e', hk⟩ | hk <;> cases a0 <;> simp [Builtin.append_, run_underlying ht, run_underlying hk, sizeOf, typeInfo, hi, hl0, h0, storeCells]
  ·exact grow a0 0 rfl (firstCells_cap0 _ _ _) (by omega)
 ·by_cases hroom : n + m <= cp + 1
  ·have hfit : n * i.size + news.length <= cur.size := by rw [hs.newsLen, hcs, <- Nat.add_mul]; exact Nat.mul_le_mul_right _ hroom
   have hst := run_storeCells_fz P g (n * i.size) e fz news 0 cur w hg hfz (by simpa using hfit) hs.one
   simp only [Nat.add_zero] at hst
   refine ⟨.slice (some ⟨g, 0, none⟩) (n + m) (cp + 1), w.setRow g (cur.toList.take (n * i.size) ++ news ++ cur.toList.drop (n * i.size + news.length)).toArray, ?_, ⟨hlen, .inr ⟨g, cp, _, rfl, ⟨fz, setRow_heap w g cur _ e _ hg, ?_⟩, hroom, hcm, ?_, ?_⟩⟩, ⟨rfl, rfl, rfl, by simp, fun k _ hk => setRow_other w g k _ (fun e => hk (by simp [rowB, e])), trivial⟩, fun b hb => .inl hb⟩
   ·rcases hs.kind with ⟨e', hk⟩ | hk <;> simp [Builtin.append_, run_underlying ht, run_underlying hk, sizeOf, typeInfo, hi, hs.len, hroom, hs.cells, Addr.add_lit, hst]
   ·simp only [List.size_toArray, List.length_append, List.length_take, List.length_drop, Array.length_toList]
    omega
   ·simp only [List.size_toArray, List.length_append, List.length_take, List.length_drop, Array.length_toList]
    omega
   ·rw [htk, <- hlen]
    exact List.take_left
  ·refine grow (some ⟨g, 0, none⟩) (cp + 1) rfl ?_ (by omega)
   refine run_firstCells_some w.drew i.size n ⟨g, 0, none⟩ n (cp + 1) xs hown.1 fun j u hu => ?_
   show w.cell? _ = _
   rcases Nat.eq_zero_or_pos n with hn0 | hn0
   ·subst hn0
    have hx0 : xs = [] := List.eq_nil_of_length_eq_zero (by simpa using hown.1)
    subst hx0
    simp at hu
   ·obtain ⟨g', cap', hv', _, _, hcell⟩ := ownsRow_cell hown hn0
    simp only [Value.slice.injEq, Option.some.injEq, Addr.mk.injEq] at hv'
    rw [add_at, Nat.zero_add, hv'.1.1]
    exact hcell j u hu
def killO (objs : List Ob) : Option Nat -> List Ob
 | none => objs
 | some id => setX objs id .dead
def killL (ρ : Nat -> Loc) : Option Nat -> (Nat -> Loc)
 | none => ρ
 | some id => upd ρ id .dead
theorem Rel.append {blk : Option Nat} {v' : Value} {kill : Option Nat} {d : Nat} {ob : Ob} (h : Rel w0 X st a w ρ) (hk : ∀ b, blk = some b -> ∃ id, kill = some id /\ (ρ id).block = some b)
  (hlive : ∀ id, kill = some id -> getO st.objs id ≠ .dead /\ getO st.objs id ≠ .virgin) (hg : GB w w' blk) (hb : ∀ b, rowB v' = some b -> blk = some b \/ b = w.heap.size) (hd : getO (killO st.objs kill) d = .virgin)
  (hsz : ∀ b, rowB v' = some b -> b < w'.heap.size)
  (hob : Later w w' (Ow X ρ) (Ow X (upd (killL ρ kill) d (.row v'))) ρ (upd (killL ρ kill) d (.row v')) -> ObR w' (Ow X (upd (killL ρ kill) d (.row v'))) (upd (killL ρ kill) d (.row v')) ob (.row v')) :
  Rel w0 X ⟨st.tmps, setX (killO st.objs kill) d ob⟩ a w' (upd (killL ρ kill) d (.row v')) /\ Later w w' (Ow X ρ) (Ow X (upd (killL ρ kill) d (.row v'))) ρ (upd (killL ρ kill) d (.row v')) := by
 have hkd : kill ≠ some d := by
  rintro rfl
  simp only [killO, getO_setX] at hd
  split at hd
  ·cases hd
  ·exact (hlive d rfl).2 hd
 have hdo : getO st.objs d = .virgin := by
  cases kill with
  | none => exact hd
  | some id =>
   simp only [killO, getO_setX] at hd
   split at hd
   ·cases hd
   ·exact hd
 have hv := h.virgin hdo
 have hkl : ∀ i, killL ρ kill i = ρ i \/ (killL ρ kill i = .dead /\ kill = some i) := by
  intro i
  cases kill with
  | none => exact .inl rfl
  | some id =>
   by_cases hi : i = id
   ·subst hi; exact .inr ⟨by simp [killL, upd], rfl⟩
   ·exact .inl (by simp [killL, upd, hi])
 have how : ∀ b, owned (upd (killL ρ kill) d (.row v')) b -> (∃ i, kill ≠ some i /\ i ≠ d /\ (ρ i).block = some b) \/ rowB v' = some b := by
  rintro b ⟨i, hi⟩
  by_cases hid : i = d
  ·subst hid; rw [upd_same] at hi; exact .inr hi
  ·rw [upd_ne _ _ _ hid] at hi
   rcases hkl i with e | ⟨e, _⟩
   ·rw [e] at hi
    refine .inl ⟨i, ?_, hid, hi⟩
    rintro rfl
    simp [killL, upd] at e
    rw [<- e] at hi; cases hi
   ·rw [e] at hi; cases hi
 have hL : Later w w' (Ow X ρ) (Ow X (upd (killL ρ kill) d (.row v'))) ρ (upd (killL ρ kill) d (.row v')) := by
  refine ⟨hg.size, fun b hb' hn => hg.block b hb' fun e => ?_, fun b hb' ho => ?_, fun i => ?_⟩
  ·obtain ⟨id, _, hid⟩ := hk b e.symm
   exact hn (.inr ⟨id, hid⟩)
  ·rcases ho with ho | ho
   ·exact .inl ho
   ·rcases how b ho with ⟨i, _, _, hi⟩ | ho
    ·exact .inr ⟨i, hi⟩
    ·rcases hb b ho with hb | hb
     ·obtain ⟨id, _, hid⟩ := hk b hb
      exact .inr ⟨id, hid⟩
     ·omega
  ·by_cases hid : i = d
   ·subst hid; exact .inr (.inl hv)
   ·rw [upd_ne _ _ _ hid]
    rcases hkl i with e | ⟨e, _⟩
    ·exact .inl e
    ·exact .inr (.inr e)
 have hbl : Bel w0.heap.size w0 w' := h.kept.grown hg h.size (fun k hk' => by
  obtain ⟨id, _, hid⟩ := hk k hk'
  exact (h.new k ⟨id, hid⟩).1)
 refine ⟨h.next hL hbl (fun i => ?_) (fun i j b hi hj => ?_) (fun b hb' => ?_), hL⟩
 ·rw [getO_setX]
  by_cases hid : i = d
  ·subst hid; rw [if_pos rfl, upd_same]; exact hob hL
  ·rw [if_neg hid, upd_ne _ _ _ hid]
   cases kill with
   | none =>
    simp only [killO, killL]
    refine (h.obj i).later hL fun b hb' => hg.block b (h.new b ⟨i, hb'⟩).2 fun e => ?_
    obtain ⟨id, hid', _⟩ := hk b e.symm
    cases hid'
   | some id =>
    simp only [killO, killL, getO_setX]
    by_cases hii : i = id
    ·subst hii
     rw [if_pos rfl, upd_same]
     exact rfl
    ·rw [if_neg hii, upd_ne _ _ _ hii]
     refine (h.obj i).later hL fun b hb' => hg.block b (h.new b ⟨i, hb'⟩).2 fun e => ?_
     obtain ⟨id', hid', hb2⟩ := hk b e.symm
     cases hid'
     exact hii (h.dis i id b hb' hb2)
 ·have key : ∀ i, i ≠ d -> ((upd (killL ρ kill) d (.row v')) i).block = some b -> rowB v' = some b -> False := by
   intro i hid hi hv'
   rw [upd_ne _ _ _ hid] at hi
   rcases hkl i with e | ⟨e, _⟩
   ·rw [e] at hi
    rcases hb b hv' with hb | hb
    ·obtain ⟨id, hid', hb2⟩ := hk b hb
     have := h.dis i id b hi hb2
     subst this
     rw [hid'] at e
     simp [killL, upd] at e
     rw [<- e] at hi; cases hi
    ·have := (h.new b ⟨i, hi⟩).2
     omega
   ·rw [e] at hi; cases hi
  by_cases hid : i = d <;> by_cases hjd : j = d
  ·rw [hid, hjd]
  ·subst hid; rw [upd_same] at hi; exact (key j hjd hj hi).elim
  ·subst hjd; rw [upd_same] at hj; exact (key i hid hi hj).elim
  ·rw [upd_ne _ _ _ hid] at hi; rw [upd_ne _ _ _ hjd] at hj
   rcases hkl i with e | ⟨e, _⟩
   ·rcases hkl j with e' | ⟨e', _⟩
    ·rw [e] at hi; rw [e'] at hj; exact h.dis i j b hi hj
    ·rw [e'] at hj; cases hj
   ·rw [e] at hi; cases hi
 ·rcases how b hb' with ⟨i, _, _, hi⟩ | hv'
  ·have := h.new b ⟨i, hi⟩
   exact ⟨this.1, Nat.lt_of_lt_of_le this.2 hg.size⟩
  ·refine ⟨?_, hsz b hv'⟩
   rcases hb b hv' with hb | hb
   ·obtain ⟨id, _, hid⟩ := hk b hb
    exact (h.new b ⟨id, hid⟩).1
   ·subst hb; exact h.size
theorem obs_of (h : Rel w0 X st a w ρ) : Obs w (Ow X ρ) ρ st.objs := fun id => .inr (h.obj id)
theorem append_core {P : Program} {t t' ty e : TypeId} {i : TypeInfo} {z : List A} {v vy : Value} {n m d : Nat} {xs : List Value} {ex ey : Nat -> Nat -> A} {y : A} {kill : Option Nat} (h : Rel w0 X st a w ρ)
  (ht : P.underlying t = some (.slice e)) (hi : P.info? e = some i) (hz : zeroCells P e = some z) (hzl : z.length = i.size) (hs0 : 0 < i.size)
  (hown : rowR w e i.size v n xs) (hxs : ∀ u ∈ xs, u.oneCell' = true) (hel : ∀ q, q < n -> ∀ j, j < i.size -> ∃ u, xs[q * i.size + j]? = some u /\ R w (Ow X ρ) (ex q j) virg u)
  (hy : R w (Ow X ρ) y ρ vy) (hok : okApp P t t' y = true) (hrow : rowOf st.objs i.size y = some (m, ey)) (hbd : (n + m) * (i.bytes + 1) <= maxRow)
  (hk : ∀ b, rowB v = some b -> ∃ id, kill = some id /\ (ρ id).block = some b) (hlive : ∀ id, kill = some id -> getO st.objs id ≠ .dead /\ getO st.objs id ≠ .virgin)
  (hd : getO (killO st.objs kill) d = .virgin) :
  ∃ v' w', (Builtin.append_ #[t, t'] ty #[v, vy]).run P w = .ok v' w' /\ (∃ s k c, v' = .slice s k c) /\
   Rel w0 X ⟨st.tmps, setX (killO st.objs kill) d (.row e i.size (n + m) fun q j => if q < n then ex q j else ey (q - n) j)⟩ a w' (upd (killL ρ kill) d (.row v')) /\ Later w w' (Ow X ρ) (Ow X (upd (killL ρ kill) d (.row v'))) ρ (upd (killL ρ kill) d (.row v')) := by
 obtain ⟨i', zv, hi', hzv, hzr⟩ := zeroCells_sound (w := w) (O := Ow X ρ) (ρ := ρ) hz
 rw [hi] at hi'; cases hi'
 have hzs : zv.cells.size = i.size := by rw [<- hzl, <- hzr.len]; simp
 obtain ⟨news, hsrc, hnel⟩ := rowOf_src (obs_of h) hy ht hok hrow hs0
 have hnl := hsrc.newsLen
 have hn1 := hsrc.one
 have hm1 : n + m <= maxRow := Nat.le_trans (Nat.le_mul_of_pos_right _ (Nat.succ_pos _)) hbd
 have hb2 : (n + m) * i.bytes <= 140737488355328 := by
  have : (n + m) * i.bytes <= (n + m) * (i.bytes + 1) := Nat.mul_le_mul_left _ (Nat.le_succ _)
  unfold maxRow at hbd; omega
 have hlen : n + m <= maxLen := by unfold maxRow at hm1; unfold maxLen; omega
 have fin : ∀ blk v' w', rowR w' e i.size v' (n + m) (xs ++ news) -> GB w w' blk -> (∀ b, blk = some b -> rowB v = some b) -> (∀ b, rowB v' = some b -> blk = some b \/ b = w.heap.size) ->
   (∃ s k c, v' = .slice s k c) /\ Rel w0 X ⟨st.tmps, setX (killO st.objs kill) d (.row e i.size (n + m) fun q j => if q < n then ex q j else ey (q - n) j)⟩ a w' (upd (killL ρ kill) d (.row v')) /\ Later w w' (Ow X ρ) (Ow X (upd (killL ρ kill) d (.row v'))) ρ (upd (killL ρ kill) d (.row v')) := by
  intro blk v' w' hown' hg hbv hb
  refine ⟨?_, h.append (blk := blk) (fun b hb => hk b (hbv b hb)) hlive hg hb hd ?_ ?_⟩
  ·rcases hown'.2 with ⟨_, s, rfl⟩ | ⟨g, cp, cur, rfl, _⟩
   ·exact ⟨_, _, _, rfl⟩
   ·exact ⟨_, _, _, rfl⟩
  ·intro b hb'
   rcases hown'.2 with ⟨_, s, rfl⟩ | ⟨g, cp, cur, rfl, ⟨fz, hgg, _⟩, _⟩
   ·cases s <;> cases hb'
   ·simp only [rowB, Option.some.injEq] at hb'
    subst hb'
    rcases Nat.lt_or_ge g w'.heap.size with hlt | hge
    ·exact hlt
    ·rw [Array.getElem?_eq_none hge] at hgg; cases hgg
  ·intro hL
   refine ⟨v', xs ++ news, rfl, hown', fun u hu => ?_, fun q hq j hj => ?_⟩
   ·rcases List.mem_append.1 hu with hu | hu
    ·exact hxs u hu
    ·exact hn1 u hu
   ·by_cases hqn : q < n
    ·obtain ⟨u, hu, hr⟩ := hel q hqn j hj
     refine ⟨u, ?_, ?_⟩
     ·rw [List.getElem?_append_left, hu]
      rcases Nat.lt_or_ge (q * i.size + j) xs.length with hlt | hge
      ·exact hlt
      ·rw [List.getElem?_eq_none hge] at hu; cases hu
     ·simp only [hqn, if_true]
      exact R.later _ virg virg u hL.virg hr
    ·obtain ⟨u, hu, hr⟩ := hnel (q - n) (by omega) j hj
     refine ⟨u, ?_, ?_⟩
     ·have hle : n * i.size <= q * i.size := Nat.mul_le_mul_right _ (by omega)
      rw [List.getElem?_append_right (by rw [hown.1]; omega), hown.1, <- hu, Nat.sub_mul]
      congr 1; omega
     ·simp only [hqn, if_false]
      exact R.later _ virg virg u hL.virg hr
 obtain ⟨v', w', hrun, hr', hg', hb'⟩ := run_append_row (w := w) t t' ty e i zv ht hi hzv hzs hs0 v n xs hown vy m news hsrc hlen hb2
 have := fin (rowB v) v' w' hr' hg' (fun _ h => h) hb'
 exact ⟨v', w', hrun, this.1, this.2⟩
theorem appendA_sound {P : Program} {t t' ty : TypeId} {x y : A} {vx vy : Value} {kill : Option Nat} {ob : Ob} {d : Nat} (h : Rel w0 X st a w ρ) (hx : R w (Ow X ρ) x ρ vx) (hy : R w (Ow X ρ) y ρ vy)
  (hs : (appendA P st.objs t t' x y).eval = some (kill, ob)) (hd : getO (killO st.objs kill) d = .virgin) :
  ∃ v' w', (Builtin.append_ #[t, t'] ty #[vx, vy]).run P w = .ok v' w' /\ (∃ s k c, v' = .slice s k c) /\ Rel w0 X ⟨st.tmps, setX (killO st.objs kill) d ob⟩ a w' (upd (killL ρ kill) d (.row v')) /\ Later w w' (Ow X ρ) (Ow X (upd (killL ρ kill) d (.row v'))) ρ (upd (killL ρ kill) d (.row v')) := by
 unfold appendA at hs
 cases hok : okApp P t t' y with
 | false => rw [hok] at hs; cases hs
 | true =>
 rw [hok] at hs
 simp only at hs
 split at hs
 ·rename_i e hu
  split at hs
  ·rename_i i hi
   split at hs
   ·rename_i m ey z hrow hz
    split at hs
    ·rename_i hcond
     obtain ⟨hzl, hs0⟩ := hcond
     split at hs
     ·simp only [litN_eq, T.need, T.eval] at hs
      split at hs
      ·rename_i hb
       simp only [decide_eq_true_eq] at hb
       simp only [Option.some.injEq, Prod.mk.injEq] at hs
       obtain ⟨rfl, rfl⟩ := hs
       simp only [R] at hx
       subst hx
       have := append_core (ty := ty) (v := .slice none 0 0) (n := 0) (xs := []) (ex := fun _ _ => .junk) (kill := none) h hu hi hz hzl hs0 ⟨by simp, .inl ⟨rfl, _, rfl⟩⟩ (by simp) (fun q hq => by omega) hy hok hrow (by simpa using hb) (fun b hb => by cases hb) (fun id hid => by cases hid) hd
       simpa using this
      ·cases hs
     ·rename_i id
      split at hs
      ·rename_i e' c n ex hr
       split at hs
       ·rename_i hc
        obtain ⟨rfl, rfl⟩ := hc
        simp only [litN_eq, T.need, T.eval] at hs
        split at hs
        ·rename_i hb
         simp only [decide_eq_true_eq] at hb
         simp only [Option.some.injEq, Prod.mk.injEq] at hs
         obtain ⟨rfl, rfl⟩ := hs
         have hob := h.obj id
         rw [hr] at hob
         obtain ⟨rv, xs, hρ, hown, hxs, hel⟩ := hob
         simp only [R, hρ] at hx
         obtain ⟨rfl, _⟩ := hx
         exact append_core (ty := ty) (kill := some id) h hu hi hz hzl hs0 hown hxs hel hy hok hrow hb (fun b hb => ⟨id, rfl, by rw [hρ]; exact hb⟩) (fun id' hid => by cases hid; rw [hr]; simp) hd
        ·cases hs
       ·cases hs
      ·cases hs
     ·cases hs
    ·cases hs
   ·cases hs
  ·cases hs
 ·cases hs
theorem getA_dropN : ∀ (n : Nat) (l : List A) (j : Nat), getA (dropN n l) j = getA l (n + j)
 | 0, l, j => by rw [Nat.zero_add]; rfl
 | n + 1, [], j => rfl
 | n + 1, a :: l, j => by simp only [dropN]; rw [getA_dropN n l j, Nat.succ_add]; rfl
theorem row_sl {O O' : Nat -> Prop} {ρ' : Nat -> Loc} {e c n : Nat} {el : Nat -> Nat -> A} {l : Loc} {v : Value} (hob : ObR w O ρ (.row e c n el) l) (hl : l = .row v) (hO : ∀ b, b < w.heap.size -> O' b -> O b) (hfree : ∀ b, l.block = some b -> b < w.heap.size /\ ¬ O' b) : R w O' (.sl c n el) ρ' v := by
 subst hl
 have hL : Later w w O O' virg virg := ⟨Nat.le_refl _, fun _ _ _ => rfl, hO, fun _ => .inl rfl⟩
 obtain ⟨rv, xs, hρ, hown, hxs, hel⟩ := hob
 cases hρ
 simp only [R]
 rcases Nat.eq_zero_or_pos n with hn | hn
 ·subst hn
  rcases hown.2 with ⟨_, s, rfl⟩ | ⟨g, cap, cur, rfl, _, h1, h2, _⟩
  ·exact ⟨_, _, rfl, Nat.le_refl _, Nat.zero_le _, fun h => by simp at h⟩
  ·exact ⟨_, _, rfl, h1, h2, fun h => by simp at h⟩
 ·obtain ⟨g, cap, rfl, h1, h2, hcell⟩ := ownsRow_cell hown hn
  refine ⟨_, _, rfl, h1, h2, fun hp => ⟨_, rfl, ?_, fun i hi j hj => ?_⟩⟩
  ·exact hfree g rfl
  ·obtain ⟨u, hu, hru⟩ := hel i hi j hj
   refine ⟨u, ?_, hxs u (List.mem_of_getElem? hu), R.later _ virg virg u hL hru⟩
   rw [add_at, Nat.zero_add]
   exact hcell _ _ hu
theorem frzV_cases (fz : List Nat) (B d : Nat) (rw : Bool) (ob : Ob) : frzV fz B d (rw, ob) = (mkV rw (B + d) ob, ob) \/ ∃ e c n el, rw = true /\ ob = .row e c n el /\ frzV fz B d (rw, ob) = (.sl c n el, .dead) := by
 unfold frzV
 split
 ·rename_i e c n el heq
  cases heq
  split
  ·exact .inr ⟨_, _, _, _, rfl, rfl, rfl⟩
  ·exact .inl rfl
 ·rename_i heq
  cases heq
  exact .inl rfl
theorem expo_sound {O O' : Nat -> Prop} {objs : List Ob} (hob : Obs w O ρ objs) (hO : ∀ b, b < w.heap.size -> O' b -> O b) (hfree : ∀ id b, getO objs id ≠ .dead -> (ρ id).block = some b -> b < w.heap.size /\ ¬ O' b) : ∀ (d : Nat),
  (∀ (x x' : A) (v : Value), R w O x ρ v -> expo objs d x = some x' -> R w O' x' virg v) /\ (∀ (l l' : List A) (vs : List Value), RL w O l ρ vs -> mapOpt (expo objs d) l = some l' -> RL w O' l' virg vs)
 | 0 => ⟨fun x x' v _ h => by simp [expo] at h, fun l l' vs hr h => by
   cases l with
   | nil => simp [mapOpt] at h; subst h; simpa only [RL] using hr
   | cons a l => simp [mapOpt, expo] at h⟩
 | d + 1 => by
  obtain ⟨_, ih2⟩ := expo_sound hob hO hfree d
  have hL : Later w w O O' virg virg := ⟨Nat.le_refl _, fun _ _ _ => rfl, hO, fun _ => .inl rfl⟩
  have H : ∀ (x x' : A) (v : Value), R w O x ρ v -> expo objs (d + 1) x = some x' -> R w O' x' virg v := by
   intro x x' v hr he
   cases x with
   | own id =>
    simp only [expo] at he
    split at he
    ·rename_i e c n el hrow
     simp only [Option.some.injEq] at he; subst he
     rcases hob id with hd | hob'
     ·rw [hrow] at hd; cases hd
     ·rw [hrow] at hob'
      obtain ⟨rv, xs, hρ, hown, hxs, hel⟩ := hob'
      simp only [R, hρ] at hr ⊢
      obtain ⟨rfl, _⟩ := hr
      rcases Nat.eq_zero_or_pos n with hn | hn
      ·subst hn
       rcases hown.2 with ⟨_, s, rfl⟩ | ⟨g, cap, cur, rfl, _, h1, h2, _⟩
       ·exact ⟨_, _, rfl, Nat.le_refl _, Nat.zero_le _, fun h => by simp at h⟩
       ·exact ⟨_, _, rfl, h1, h2, fun h => by simp at h⟩
      ·obtain ⟨g, cap, rfl, h1, h2, hcell⟩ := ownsRow_cell hown hn
       refine ⟨_, _, rfl, h1, h2, fun hp => ⟨_, rfl, ?_, fun i hi j hj => ?_⟩⟩
       ·exact hfree id g (by rw [hrow]; intro h; cases h) (by rw [hρ]; rfl)
       ·obtain ⟨u, hu, hru⟩ := hel i hi j hj
        refine ⟨u, ?_, hxs u (List.mem_of_getElem? hu), R.later _ virg virg u hL hru⟩
        rw [add_at, Nat.zero_add]
        exact hcell _ _ hu
    ·cases he
   | ptr id off =>
    simp only [expo] at he
    split at he
    ·rename_i cells hcells
     split at he
     ·rename_i cs hcs
      simp only [Option.some.injEq] at he; subst he
      rcases hob id with hd | hob'
      ·rw [hcells] at hd; cases hd
      ·rw [hcells] at hob'
       obtain ⟨b, vs, bt, hρ, hg, hrc⟩ := hob'
       have hcl := ih2 cells cs vs hrc hcs
       simp only [R, hρ] at hr ⊢
       subst hr
       refine ⟨_, rfl, fun hp => ⟨hfree id b (by rw [hcells]; intro h; cases h) (by rw [hρ]; rfl), fun j hj => ?_⟩⟩
       have hlt : off + j < vs.length := by rw [hcl.len]; omega
       refine ⟨vs[off + j], ?_, by rw [getA_dropN]; exact hcl.get _ _ (List.getElem?_eq_getElem hlt)⟩
       rw [add_at, cell_of_block hg]
       exact List.getElem?_eq_getElem hlt
     ·cases he
    ·cases he
   | rp id c i off => simp [expo] at he
   | kb b =>
    simp only [expo, Option.some.injEq] at he
    subst he
    simpa only [R] using hr
   | fn f l =>
    simp only [expo] at he
    split at he
    ·rename_i l' hl'
     simp only [Option.some.injEq] at he; subst he
     simp only [R] at hr ⊢
     obtain ⟨vs, rfl, h⟩ := hr
     exact ⟨vs, rfl, ih2 l l' vs h hl'⟩
    ·cases he
   | agg l =>
    simp only [expo] at he
    split at he
    ·rename_i l' hl'
     simp only [Option.some.injEq] at he; subst he
     simp only [R] at hr ⊢
     obtain ⟨vs, rfl, h⟩ := hr
     exact ⟨vs, rfl, ih2 l l' vs h hl'⟩
    ·cases he
   | tup l =>
    simp only [expo] at he
    split at he
    ·rename_i l' hl'
     simp only [Option.some.injEq] at he; subst he
     simp only [R] at hr ⊢
     obtain ⟨vs, rfl, h⟩ := hr
     exact ⟨vs, rfl, ih2 l l' vs h hl'⟩
    ·cases he
   | yld id => simp [expo] at he
   | ap id i => simp [expo] at he
   | bm f id i => simp [expo] at he
   | ov id c lo n =>
    simp only [expo] at he
    split at he
    ·rename_i e c' N el hrow
     split at he
     ·rename_i hcc
      subst hcc
      simp only [Option.some.injEq] at he; subst he
      rcases hob id with hd | hob'
      ·rw [hrow] at hd; cases hd
      ·rw [hrow] at hob'
       obtain ⟨rv, xs, hρ, hown, hxs, hel⟩ := hob'
       simp only [R, hρ] at hr ⊢
       obtain ⟨a, N', cap, a', rfl, hle, rfl, h0, hpos⟩ := hr
       have hN : N' = N /\ N <= cap /\ cap <= maxLen := by
        rcases hown.2 with ⟨h1, s, h2⟩ | ⟨g, cp, cur, h2, _, h3, h4, _⟩
        ·simp only [Value.slice.injEq] at h2; omega
        ·simp only [Value.slice.injEq] at h2; omega
       obtain ⟨rfl, hNc, hcm⟩ := hN
       refine ⟨a', cap - lo, rfl, by omega, by omega, fun hp => ?_⟩
       have hn : 0 < n := Nat.pos_of_ne_zero fun e => by subst e; simp at hp
       obtain ⟨ad, rfl, rfl⟩ := hpos hn
       obtain ⟨g, cp, hv, _, _, hcell⟩ := ownsRow_cell hown (by omega)
       simp only [Value.slice.injEq, Option.some.injEq] at hv
       obtain ⟨rfl, _, rfl⟩ := hv
       refine ⟨_, rfl, ?_, fun i hi j hj => ?_⟩
       ·rw [add_block]; exact hfree id g (by rw [hrow]; intro h; cases h) (by rw [hρ]; rfl)
       ·obtain ⟨u, hu, hru⟩ := hel (lo + i) (by omega) j hj
        refine ⟨u, ?_, hxs u (List.mem_of_getElem? hu), R.later _ virg virg u hL hru⟩
        rw [add_add, add_at, Nat.zero_add]
        have := hcell _ _ hu
        rw [Nat.add_mul] at this
        rw [<- Nat.add_assoc]
        exact this
     ·cases he
    ·rename_i cells hcells
     split at he
     ·rename_i l hint
      split at he
      ·rename_i hcc
       obtain ⟨rfl, hln⟩ := hcc
       simp only [Option.some.injEq] at he; subst he
       rcases hob id with hd | hob'
       ·rw [hcells] at hd; cases hd
       ·rw [hcells] at hob'
        obtain ⟨b, vs, bt, hρ, hg, hrc⟩ := hob'
        have hvs := intsK_R hrc hint
        simp only [R, hρ] at hr ⊢
        obtain ⟨cap, rfl, h1, h2⟩ := hr
        refine ⟨_, cap, rfl, h1, h2, fun hp => ⟨_, rfl, hfree id b (by rw [hcells]; intro h; cases h) (by rw [hρ]; rfl), fun i hi j hj => ?_⟩⟩
        obtain rfl : j = 0 := by omega
        refine ⟨.int (kindOf cells) (l.getD (lo + i) 0), ?_, rfl, rfl⟩
        rw [add_at, cell_of_block hg, hvs, List.getElem?_map]
        have hlt : lo + i < l.length := by omega
        simp [List.getD, hlt]
      ·cases he
     ·cases he
    ·cases he
   | _ =>
    simp only [expo, Option.some.injEq] at he
    subst he
    refine R.later _ virg virg v hL ?_
    first | (simp only [R]; done) | simpa only [R] using hr
  refine ⟨H, ?_⟩
  intro l
  induction l with
  | nil => intro l' vs hr h; simp [mapOpt] at h; subst h; simpa only [RL] using hr
  | cons x l ih =>
   intro l' vs hr h
   simp only [mapOpt] at h
   split at h
   ·rename_i x' m hx hm
    simp only [Option.some.injEq] at h; subst h
    simp only [RL] at hr ⊢
    obtain ⟨v, vs', rfl, h1, h2⟩ := hr
    exact ⟨v, vs', rfl, H x x' v h1 hx, ih m vs' h2 hm⟩
   ·cases h
theorem expo_closed {O : Nat -> Prop} {objs : List Ob} : ∀ (n : Nat), (∀ (x x' : A) (v : Value) (m : Nat), closed n x = true -> expo objs m x = some x' -> R w O x ρ v -> R w O x' virg v) /\
  (∀ (xs xs' : List A) (vs : List Value) (m : Nat), allL (closed n) xs = true -> mapOpt (expo objs m) xs = some xs' -> RL w O xs ρ vs -> RL w O xs' virg vs)
 | 0 => ⟨fun x x' v m h => by simp [closed] at h, fun xs xs' vs m h hm hr => by
   cases xs with
   | nil => simp [mapOpt] at hm; subst hm; simpa only [RL] using hr
   | cons x xs => simp [allL, closed] at h⟩
 | n + 1 => by
  obtain ⟨_, ih2⟩ := expo_closed (O := O) (objs := objs) n
  have H : ∀ (x x' : A) (v : Value) (m : Nat), closed (n + 1) x = true -> expo objs m x = some x' -> R w O x ρ v -> R w O x' virg v := by
   intro x x' v m hc hm hr
   cases m with
   | zero => simp [expo] at hm
   | succ m =>
    cases x with
    | own id => simp [closed] at hc
    | ptr id off => simp [closed] at hc
    | rp id c i off => simp [closed] at hc
    | yld id => simp [closed] at hc
    | ov id c lo n => simp [closed] at hc
    | ap id i => simp [closed] at hc
    | bm f id i => simp [closed] at hc
    | kb b => simp only [expo, Option.some.injEq] at hm; subst hm; simpa only [R] using hr
    | fn f l =>
     simp only [expo] at hm
     split at hm
     ·rename_i l' hl'
      simp at hm; subst hm
      simp only [R] at hr ⊢
      obtain ⟨vs, rfl, h⟩ := hr
      exact ⟨vs, rfl, ih2 l l' vs m hc hl' h⟩
     ·cases hm
    | agg l =>
     simp only [expo] at hm
     split at hm
     ·rename_i l' hl'
      simp at hm; subst hm
      simp only [R] at hr ⊢
      obtain ⟨vs, rfl, h⟩ := hr
      exact ⟨vs, rfl, ih2 l l' vs m hc hl' h⟩
     ·cases hm
    | tup l =>
     simp only [expo] at hm
     split at hm
     ·rename_i l' hl'
      simp at hm; subst hm
      simp only [R] at hr ⊢
      obtain ⟨vs, rfl, h⟩ := hr
      exact ⟨vs, rfl, ih2 l l' vs m hc hl' h⟩
     ·cases hm
    | junk => simp [expo] at hm; subst hm; simp only [R]
    | _ => simp [expo] at hm; subst hm; simpa only [R] using hr
  refine ⟨H, fun xs => ?_⟩
  induction xs with
  | nil => intro xs' vs m _ hm hr; simp [mapOpt] at hm; subst hm; simpa only [RL] using hr
  | cons x xs ihx =>
   intro xs' vs m hc hm hr
   simp only [allL, Bool.and_eq_true] at hc
   simp only [mapOpt] at hm
   split at hm
   ·rename_i y ys hy hys
    simp at hm; subst hm
    simp only [RL] at hr ⊢
    obtain ⟨v, vs', rfl, h1, h2⟩ := hr
    exact ⟨v, vs', rfl, H x y v m hc.1 hy h1, ihx ys vs' m hc.2 hys h2⟩
   ·cases hm
theorem s2bA_sound {E : Env} {o : Oper} {d : Nat} {ob : Ob} (h : Rel w0 X st a w ρ) (hd : getO st.objs d = .virgin) (hsb : isS2B E.P o.op = true) (hs : (s2bA E.P o.op (evA st.tmps)).eval = some ob) :
  ∃ v w', (execOp a.eval o).run E.P w = .ok (.value v) w' /\ (∃ s k c, v = .slice s k c) /\ Rel w0 X ⟨st.tmps, setX st.objs d ob⟩ a w' (upd ρ d (.row v)) /\ Later w w' (Ow X ρ) (Ow X (upd ρ d (.row v))) ρ (upd ρ d (.row v)) /\ (∀ b, rowB v = some b -> b = w.heap.size) /\ GB w w' none := by
 have hev := evA_R h.tmp
 obtain ⟨dst, op, type, pos, after, guard⟩ := o
 simp only at hs hsb
 cases op with
 | convert sT dT x =>
  simp only [isS2B] at hsb
  split at hsb
  ·rename_i e hus hud
   split at hsb
   ·rename_i hue
    simp only [s2bA, hud] at hs
    have hx := hev x
    generalize evA st.tmps x = ax at hs hx
    cases ax with
    | str b =>
     simp only [T.need, T.eval] at hs
     split at hs
     ·rename_i hbd
      simp only [decide_eq_true_eq] at hbd
      simp only [Option.some.injEq] at hs
      subst hs
      simp only [R] at hx
      have hrun := run_bytes_of_string (P := E.P) w sT dT e b hus hud hue
      have hge := grownCap_ge w b.size 0 e
      have hcm : grownCap w b.size 0 e <= maxLen := grownCap_le_maxLen w b.size 0 e (by unfold maxRow at hbd; unfold maxLen; omega)
      have hsz : (bytesRow b (grownCap w b.size 0 e)).size = grownCap w b.size 0 e := by
       simp [bytesRow]
       have : b.data.size = b.size := rfl
       omega
      have htk : (bytesRow b (grownCap w b.size 0 e)).toList.take b.size = byteCells b := by
       have h1 : (byteCells b).length = b.size := byteCells_length b
       simp only [bytesRow, Array.toList_append]
       rw [<- h1]
       have : (Array.map (fun b => Value.int IntKind.u8 (b.toNat : Int)) b.data).toList = byteCells b := by simp [byteCells]
       rw [this]
       exact List.take_left
      have hrow : rowR (w.drew.alloc (.cells (bytesRow b (grownCap w b.size 0 e)) e ((bytesRow b (grownCap w b.size 0 e)).size, (bytesRow b (grownCap w b.size 0 e)).size + 1))) e 1 (.slice (some ⟨w.heap.size, 0, none⟩) b.size (grownCap w b.size 0 e)) b.size (byteCells b) := by
       refine ⟨by rw [byteCells_length, Nat.mul_one], ?_⟩
       cases hcap : grownCap w b.size 0 e with
       | zero =>
        have : b.size = 0 := by omega
        exact .inl ⟨this, _, by rw [this]⟩
       | succ cp =>
        rw [hcap] at hsz htk hge hcm
        exact .inr ⟨w.heap.size, cp, _, rfl, ⟨_, heap_alloc_new w.drew _, .inl (Nat.le_refl _)⟩, hge, hcm, by rw [hsz, Nat.mul_one], by rw [Nat.mul_one]; exact htk⟩
      have hgr : ∀ row, GB w (w.drew.alloc (.cells (bytesRow b (grownCap w b.size 0 e)) e ((bytesRow b (grownCap w b.size 0 e)).size, (bytesRow b (grownCap w b.size 0 e)).size + 1))) row := fun row => ⟨rfl, rfl, rfl, by simp, fun k hk _ => heap_alloc_old w.drew _ k hk, trivial⟩
      have hbl : ∀ q, rowB (.slice (some ⟨w.heap.size, 0, none⟩) b.size (grownCap w b.size 0 e)) = some q -> q = w.heap.size := by
       intro q hq
       unfold rowB at hq
       split at hq
       ·rename_i heq
        simp only [Value.slice.injEq, Option.some.injEq] at heq
        obtain ⟨rfl, _⟩ := heq
        simpa [eq_comm] using hq
       ·cases hq
      have happ := h.append (blk := none) (kill := none) (d := d) (ob := .row e 1 b.size (strEl b)) (fun b hb => by cases hb) (fun id hid => by cases hid) (hgr none) (fun q hq => .inr (hbl q hq)) hd (fun q hq => by rw [hbl q hq]; simp) (fun hL => ⟨_, byteCells b, rfl, hrow, fun u hu => by
       obtain ⟨_, _, rfl⟩ := List.mem_map.1 hu
       rfl, fun i hi j hj => by
        obtain ⟨u, hu, hr⟩ := strEl_R (w := w) (O := Ow X ρ) b i hi j hj
        exact ⟨u, hu, R.later _ virg virg u hL.virg hr⟩⟩)
      refine ⟨_, _, ?_, ⟨_, _, _, rfl⟩, happ.1, happ.2, hbl, hgr none⟩
      simp [execOp, hx, hrun]
     ·cases hs
    | _ => cases hs
   ·cases hsb
  ·cases hsb
 | _ => cases hsb
end
end Go.Sy
namespace Go.Sy
open Go.RowKit
theorem eqKs_iff : ∀ {a b : List Int}, eqKs a b = true ↔ a = b
 | [], [] => by simp [eqKs]
 | [], b :: m => by simp [eqKs]
 | a :: l, [] => by cases l <;> simp [eqKs]
 | [a], [b] => by simp [eqKs]
 | [a], b :: c :: m => by simp [eqKs]
 | a :: c :: l, b :: m => by simp [eqKs, eqKs_iff (a := c :: l) (b := m)]
theorem eqKs_f {a b : List Int} (h : a ≠ b) : eqKs a b = false := by rw [<- Bool.not_eq_true, eqKs_iff]; exact h
theorem lookQ_eval {h : List Int -> Bool} {v : List Int -> A} {q : List Int} {k : Option A -> T A} : ∀ u, (lookQ h v q k u).eval = (k (lookM h v u q)).eval
 | [] => by
  simp only [lookQ, T.eval, lookM]
  cases h q <;> rfl
 | (p, x) :: u => by
  simp only [lookQ, T.eval, lookM]
  cases eqKs q p with
  | true => rfl
  | false => exact lookQ_eval u
section
variable {w0 w w' : World} {X : Nat -> Prop} {st : St} {a : Act} {ρ ρ' : Nat -> Loc} {E : Env} {O : Nat -> Prop}
theorem intsOf_R : ∀ {cs : List A} {q : List Int} {vs : List Value}, intsOf cs = some q -> RL w O cs ρ vs -> vs = q.map (Value.int .i64)
 | [], q, vs, h, hr => by
  simp only [intsOf, Option.some.injEq] at h
  simp only [RL] at hr
  subst h hr; rfl
 | c :: cs, q, vs, h, hr => by
  unfold intsOf at h
  split at h
  ·cases ‹_ = []›
  ·rename_i n l hc
   cases hc
   split at h
   ·rename_i m hm
    simp only [Option.some.injEq] at h
    subst h
    simp only [RL, R] at hr
    obtain ⟨v, vs', rfl, rfl, h2⟩ := hr
    rw [intsOf_R hm h2]; rfl
   ·cases h
  ·cases h
theorem keyA_R {ag : Bool} {x : A} {q : List Int} {v : Value} (h : keyA ag x = some q) (hr : R w O x ρ v) : v = kvOf ag q := by
 unfold keyA at h
 split at h
 ·simp only [Option.some.injEq] at h; subst h
  simp only [R] at hr; subst hr; rfl
 ·simp only [R] at hr
  obtain ⟨vs, rfl, h2⟩ := hr
  rw [intsOf_R h h2]; rfl
 ·cases h
theorem kvOf_inj {ag : Bool} {n : Nat} (h1 : ag = false -> n = 1) {q p : List Int} (hq : q.length = n) (hp : p.length = n) (h : kvOf ag q = kvOf ag p) : q = p := by
 cases ag with
 | true =>
  simp only [kvOf, Value.agg.injEq] at h
  have := congrArg Array.toList h
  simp only [] at this
  exact (List.map_inj_right (fun x y e => by cases e; rfl)).1 this
 | false =>
  have := h1 rfl
  subst this
  match q, p, hq, hp with
  | [x], [y], _, _ => simp only [kvOf, List.headD, Value.int.injEq, true_and] at h; rw [h]
theorem sameBits_ints : ∀ (m : Nat) (l : List Int), (((l.map (Value.int .i64)).zip (l.map (Value.int .i64))).all (fun (x, y) => Instr.sameBits m x y)) = true
 | m, [] => rfl
 | m, a :: l => by simp [Instr.sameBits, sameBits_ints m l]
theorem stays (P : Program) (w : World) (ag : Bool) (q : List Int) : (Instr.keyThatStays (kvOf ag q) (kvOf ag q)).run P w = .ok (kvOf ag q) w := by
 have : Instr.sameBits 10000 (kvOf ag q) (kvOf ag q) = true := by
  cases ag with
  | true =>
   have := sameBits_ints 9999 q
   simp only [kvOf, Instr.sameBits, Bool.and_eq_true, beq_self_eq_true, true_and]
   exact this
  | false => simp [kvOf, Instr.sameBits]
 unfold Instr.keyThatStays
 rw [if_pos this]; rfl
theorem mp_ref (h : Rel w0 X st a w ρ) {id : Nat} {vm : Value} {t : TypeId} {ag : Bool} {n : Nat} {cl : Bool} {u : List (List Int × Option A)} {hh : List Int -> Bool} {vv : List Int -> A} (hm : R w (Ow X ρ) (.yld id) ρ vm) (ho : getO st.objs id = .mp t ag n cl u hh vv) :
  ∃ b es clock, vm = .map (some b) /\ ρ id = .map b /\ w.heap[b]? = some (.map es clock) /\ MapR w (Ow X ρ) ρ ag n (lookM hh vv u) es.toList /\ (cl = true -> ∀ q a, q.length = n -> lookM hh vv u q = some a -> closed 5 a = true) := by
 have hob := h.obj id
 rw [ho] at hob
 obtain ⟨b, es, clock, h1, h2, h3, h4⟩ := hob
 simp only [R, h1] at hm
 exact ⟨b, es, clock, hm, h1, h2, h3, h4⟩
theorem uniq_entry {es : List MapEntry} (hp : es.Pairwise (fun a b => a.key ≠ b.key)) {e f : MapEntry} (he : e ∈ es) (hf : f ∈ es) (hk : e.key = f.key) : e = f := by
 induction hp with
 | nil => cases he
 | cons hx _ ih =>
  rcases List.mem_cons.1 he with h1 | h1 <;> rcases List.mem_cons.1 hf with h2 | h2
  ·rw [h1, h2]
  ·subst h1; exact absurd hk (hx _ h2)
  ·subst h2; exact absurd hk.symm (hx _ h1)
  ·exact ih h1 h2
theorem mp_refO {O : Nat -> Prop} {objs : List Ob} (h : Obs w O ρ objs) {id : Nat} {vm : Value} {t : TypeId} {ag : Bool} {n : Nat} {cl : Bool} {u : List (List Int × Option A)} {hh : List Int -> Bool} {vv : List Int -> A} (hm : R w O (.yld id) ρ vm) (ho : getO objs id = .mp t ag n cl u hh vv) :
  ∃ b es clock, vm = .map (some b) /\ ρ id = .map b /\ w.heap[b]? = some (.map es clock) /\ MapR w O ρ ag n (lookM hh vv u) es.toList /\ (cl = true -> ∀ q a, q.length = n -> lookM hh vv u q = some a -> closed 5 a = true) := by
 have hob := h id
 rw [ho] at hob
 rcases hob with hob | hob
 ·cases hob
 obtain ⟨b, es, clock, h1, h2, h3, h4⟩ := hob
 simp only [R, h1] at hm
 exact ⟨b, es, clock, hm, h1, h2, h3, h4⟩
theorem lookupA_sound (hE : EqOK E) {O : Nat -> Prop} {objs : List Ob} (h : Obs w O ρ objs) {t : TypeId} {m key x : A} {ok : Bool} {vm vk : Value} (hm : R w O m ρ vm) (hk : R w O key ρ vk) (hs : (lookupA E objs t m key ok).eval = some x) :
  ∃ v, (Instr.lookup t vm vk ok).run E.P w = .ok v w /\ R w O x ρ v := by
 unfold lookupA at hs
 split at hs
 case h_2 => cases hs
 rename_i kt et hu
 split at hs
 case h_2 => cases hs
 rename_i i hi
 split at hs
 case h_2 => cases hs
 rename_i z id hz
 split at hs
 case h_2 => cases hs
 rename_i t' ag n cl u hh vv ho
 split at hs
 case h_2 => cases hs
 rename_i q hq
 split at hs
 case isFalse => cases hs
 rename_i hc
 obtain ⟨rfl, hlen, hmp⟩ := hc
 obtain ⟨b, es, clock, rfl, hρ, hg, ⟨hk1, hk2, hk3⟩, hcl⟩ := mp_refO h hm ho
 obtain ⟨k, e, hu2, L⟩ := hE.2 _ _ _ hmp
 rw [hu] at hu2
 simp only [Option.some.injEq, TypeDesc.map.injEq] at hu2
 obtain ⟨rfl, rfl⟩ := hu2
 obtain rfl := keyA_R hq hk
 rw [lookQ_eval] at hs
 have hzv : ∀ w : World, (zeroValue et).run E.P w = .ok z w := fun w => by simp [zeroValue, typeInfo, hi, hz]
 have h3 := hk3 q hlen
 rcases L.find w q es.toList hlen hk1 with ⟨f1, f2⟩ | ⟨j, e0, f1, f2, f3⟩
 ·split at h3
  ·obtain ⟨e, h4, h5, _⟩ := h3
   exact absurd h5 (f2 e h4)
  ·rename_i hn
   rw [hn] at hs
   simp only at hs
   cases ok with
   | true =>
    simp only [T.eval, Option.some.injEq] at hs
    subst hs
    refine ⟨.tuple #[z, .bool false], ?_, ?_⟩
    ·simp [Instr.lookup, run_underlying hu, MapKept.run_getObj_map hg, L.check w _ q hlen, f1, hzv, Result.andThen]
    ·simp only [R, RL]
     exact ⟨[z, .bool false], rfl, z, _, rfl, ofVal_R w _ ρ z, _, _, rfl, rfl, rfl⟩
   | false =>
    simp only [T.eval, Option.some.injEq] at hs
    subst hs
    refine ⟨z, ?_, ofVal_R w _ ρ z⟩
    simp [Instr.lookup, run_underlying hu, MapKept.run_getObj_map hg, L.check w _ q hlen, f1, hzv, Result.andThen]
 ·have hm0 : e0 ∈ es.toList := List.mem_of_getElem? f2
  split at h3
  ·rename_i y hy
   obtain ⟨e, h4, h5, h6⟩ := h3
   obtain rfl : e = e0 := uniq_entry hk2 h4 hm0 (h5.trans f3.symm)
   rw [hy] at hs
   simp only at hs
   cases ok with
   | true =>
    simp only [T.eval, Option.some.injEq] at hs
    subst hs
    refine ⟨.tuple #[e.val, .bool true], ?_, ?_⟩
    ·simp [Instr.lookup, run_underlying hu, MapKept.run_getObj_map hg, L.check w _ q hlen, f1, Result.andThen]
    ·simp only [R, RL]
     exact ⟨[e.val, .bool true], rfl, e.val, _, rfl, h6, _, _, rfl, rfl, rfl⟩
   | false =>
    simp only [T.eval, Option.some.injEq] at hs
    subst hs
    refine ⟨e.val, ?_, h6⟩
    simp [Instr.lookup, run_underlying hu, MapKept.run_getObj_map hg, L.check w _ q hlen, f1, Result.andThen]
  ·exact absurd f3 (h3 e0 hm0)
theorem below_put (h : Bel w0.heap.size w0 w) {D : Nat} (hle : w0.heap.size <= D) (x : Obj) : Bel w0.heap.size w0 (w.putObj D x) :=
 ⟨h.os, h.tape, h.output, by simpa using h.size, fun k hk => (World.putObj_heap_other (by omega)).trans (h.block k hk), h.drawn⟩
theorem Rel.setMap (h : Rel w0 X st a w ρ) {id b : Nat} {es es' : Array MapEntry} {clock clock' : Nat} {t : TypeId} {ag : Bool} {n : Nat} {cl cl' : Bool} {u u' : List (List Int × Option A)} {hh : List Int -> Bool} {vv : List Int -> A} (ho : getO st.objs id = .mp t ag n cl u hh vv) (hρ : ρ id = .map b) (hg : w.heap[b]? = some (.map es clock))
  (hm : MapR w (Ow X ρ) ρ ag n (lookM hh vv u') es'.toList) (hcl : cl' = true -> ∀ q a, q.length = n -> lookM hh vv u' q = some a -> closed 5 a = true) :
  Rel w0 X ⟨st.tmps, setX st.objs id (.mp t ag n cl' u' hh vv)⟩ a (w.putObj b (.map es' clock')) ρ /\ Later w (w.putObj b (.map es' clock')) (Ow X ρ) (Ow X ρ) ρ ρ := by
 have hbl : (ρ id).block = some b := by rw [hρ]; rfl
 have hL : Later w (w.putObj b (.map es' clock')) (Ow X ρ) (Ow X ρ) ρ ρ :=
  ⟨by simp, fun b' _ hn => World.putObj_heap_other (fun e => hn (by subst e; exact .inr ⟨id, hbl⟩)), fun _ _ h => h, fun _ => .inl rfl⟩
 refine ⟨h.next hL (below_put h.kept (h.new b ⟨id, hbl⟩).1 _) (fun i => ?_) h.dis (fun b' hb' => by have := h.new b' hb'; simpa using this), hL⟩
 rw [getO_setX]
 by_cases hid : i = id
 ·subst hid
  rw [if_pos rfl]
  exact ⟨b, es', clock', hρ, World.putObj_heap_same (Array.getElem?_eq_some_iff.1 hg).1, hm.mono fun x v hx => R.later x ρ ρ v hL hx, hcl⟩
 ·rw [if_neg hid]
  exact (h.obj i).later hL fun b' hb' => World.putObj_heap_other (fun e => hid (h.dis i id b (by rw [hb', e]) hbl))
theorem modify_set {α : Type} (f : α -> α) : ∀ (l : List α) (j : Nat) {e : α}, l[j]? = some e -> l.modify j f = l.set j (f e)
 | [], j, e, h => by simp at h
 | x :: l, 0, e, h => by simp at h; subst h; simp
 | x :: l, j + 1, e, h => by simp at h; simp [modify_set f l j h]
theorem set_same {α : Type} : ∀ (l : List α) (j : Nat) {e : α}, l[j]? = some e -> l.set j e = l
 | [], j, e, h => by simp at h
 | x :: l, 0, e, h => by simp at h; subst h; rfl
 | x :: l, j + 1, e, h => by simp at h; simp [set_same l j h]
theorem lookM_put {hh : List Int -> Bool} {vv : List Int -> A} {u : List (List Int × Option A)} {q : List Int} {x : Option A} (p : List Int) : lookM hh vv ((q, x) :: u) p = if p = q then x else lookM hh vv u p := by
 simp only [lookM]
 by_cases h : p = q
 ·rw [if_pos h, eqKs_iff.2 h]
 ·rw [if_neg h, eqKs_f h]
theorem cl_put {cl : Bool} {n : Nat} {hh : List Int -> Bool} {vv : List Int -> A} {u : List (List Int × Option A)} {q : List Int} {x : Option A} (h : cl = true -> ∀ q a, q.length = n -> lookM hh vv u q = some a -> closed 5 a = true) :
  (cl && clO x) = true -> ∀ p a, p.length = n -> lookM hh vv ((q, x) :: u) p = some a -> closed 5 a = true := by
 intro hc p a hp hl
 rw [Bool.and_eq_true] at hc
 rw [lookM_put] at hl
 split at hl
 ·subst hl; exact hc.2
 ·exact h hc.1 p a hp hl
theorem updA_some (hE : EqOK E) (h : Rel w0 X st a w ρ) {t : TypeId} {m key x : A} {r : Nat × Ob} {vm vk vx : Value} (hm : R w (Ow X ρ) m ρ vm) (hk : R w (Ow X ρ) key ρ vk) (hx : R w (Ow X ρ) x ρ vx) (hs : (updA E st.objs t m key (some x)).eval = some r) :
  ∃ w', (Instr.mapUpdate t vm vk vx).run E.P w = .ok () w' /\ Rel w0 X ⟨st.tmps, setX st.objs r.1 r.2⟩ a w' ρ /\ Later w w' (Ow X ρ) (Ow X ρ) ρ ρ := by
 unfold updA at hs
 split at hs
 case h_2 => cases hs
 rename_i id
 split at hs
 case h_2 => cases hs
 rename_i t' ag n cl u hh vv ho
 split at hs
 case h_2 => cases hs
 rename_i q hq
 split at hs
 case isFalse => cases hs
 rename_i hc
 obtain ⟨rfl, hlen, hmp⟩ := hc
 simp only [T.eval, Option.some.injEq] at hs
 subst hs
 obtain ⟨b, es, clock, rfl, hρ, hg, ⟨hk1, hk2, hk3⟩, hcl⟩ := mp_ref h hm ho
 obtain ⟨kt, et, hu, L⟩ := hE.2 _ _ _ hmp
 obtain rfl := keyA_R hq hk
 rcases L.find w q es.toList hlen hk1 with ⟨f1, f2⟩ | ⟨j, e0, f1, f2, f3⟩
 ·obtain ⟨h1, h2⟩ := h.setMap (u' := (q, some x) :: u) (es' := es.push ⟨kvOf ag q, vx, clock⟩) (clock' := clock + 1) ho hρ hg (by
   rw [Array.toList_push]
   refine ⟨fun e he => ?_, ?_, fun p hp => ?_⟩
   ·rcases List.mem_append.1 he with he | he
    ·exact hk1 e he
    ·rw [List.mem_singleton.1 he]; exact ⟨q, hlen, rfl⟩
   ·rw [List.pairwise_append]
    refine ⟨hk2, List.pairwise_singleton _ _, fun e he f hf => ?_⟩
    rw [List.mem_singleton.1 hf]; exact f2 e he
   ·rw [lookM_put]
    by_cases hpq : p = q
    ·rw [if_pos hpq]
     exact ⟨_, List.mem_append.2 (.inr (List.mem_singleton.2 rfl)), by rw [hpq], hx⟩
    ·rw [if_neg hpq]
     have := hk3 p hp
     split at this
     ·rename_i y hy
      obtain ⟨e, h4, h5, h6⟩ := this
      exact ⟨e, List.mem_append.2 (.inl h4), h5, h6⟩
     ·intro e he
      rcases List.mem_append.1 he with he | he
      ·exact this e he
      ·rw [List.mem_singleton.1 he]
       exact fun e2 => hpq (kvOf_inj L.one hp hlen e2.symm)) (cl_put hcl)
  refine ⟨_, ?_, h1, h2⟩
  simp [Instr.mapUpdate, run_underlying hu, MapKept.run_getObj_map hg, L.check w false q hlen, f1, MapKept.run_setObj_map _ hg, Result.andThen, World.putObj]
 ·have hj : es[j]? = some e0 := by simpa using f2
  have hm0 : e0 ∈ es.toList := List.mem_of_getElem? f2
  have hjl : j < es.toList.length := (List.getElem?_eq_some_iff.1 f2).1
  have hset : (es.modify j (fun e' => { e' with key := kvOf ag q, val := vx })).toList = es.toList.set j { e0 with key := kvOf ag q, val := vx } := by
   rw [Array.toList_modify]
   exact modify_set _ _ _ f2
  have hmem : ∀ e, e ∈ es.toList.set j { e0 with key := kvOf ag q, val := vx } ↔ e = { e0 with key := kvOf ag q, val := vx } \/ (e ∈ es.toList /\ e.key ≠ kvOf ag q) := by
   intro e
   constructor
   ·intro he
    obtain ⟨i, hi, rfl⟩ := List.getElem_of_mem he
    rw [List.length_set] at hi
    rw [List.getElem_set]
    split
    ·exact .inl rfl
    ·rename_i hij
     refine .inr ⟨List.getElem_mem _, fun hke => hij ?_⟩
     have e1 : es.toList[i] = e0 := uniq_entry hk2 (List.getElem_mem _) hm0 (hke.trans f3.symm)
     have e2 : es.toList[j] = e0 := (List.getElem?_eq_some_iff.1 f2).2
     have := List.pairwise_iff_getElem.1 hk2
     rcases Nat.lt_trichotomy i j with hlt | heq | hgt
     ·exact absurd (by rw [e1, e2]) (this i j hi hjl hlt)
     ·exact heq.symm
     ·exact absurd (by rw [e1, e2]) (this j i hjl hi hgt)
   ·rintro (rfl | ⟨he, hke⟩)
    ·exact List.mem_set hjl _
    ·obtain ⟨i, hi, rfl⟩ := List.getElem_of_mem he
     have hij : j ≠ i := by
      rintro rfl
      have e2 : es.toList[j] = e0 := (List.getElem?_eq_some_iff.1 f2).2
      exact hke (by rw [e2]; exact f3)
     rw [<- List.getElem_set_ne hij (by rw [List.length_set]; exact hi) (a := { e0 with key := kvOf ag q, val := vx })]
     exact List.getElem_mem _
  obtain ⟨h1, h2⟩ := h.setMap (u' := (q, some x) :: u) (es' := es.modify j (fun e' => { e' with key := kvOf ag q, val := vx })) (clock' := clock) ho hρ hg (by
   rw [hset]
   refine ⟨fun e he => ?_, ?_, fun p hp => ?_⟩
   ·rcases (hmem e).1 he with rfl | ⟨he, _⟩
    ·exact ⟨q, hlen, rfl⟩
    ·exact hk1 e he
   ·have hkeys : (es.toList.set j { e0 with key := kvOf ag q, val := vx }).map (·.key) = es.toList.map (·.key) := by
     rw [List.map_set]
     exact set_same _ _ (by rw [List.getElem?_map, f2]; simp [f3])
    have hp2 : (es.toList.map (·.key)).Pairwise (· ≠ ·) := List.pairwise_map.2 hk2
    rw [<- hkeys] at hp2
    exact List.pairwise_map.1 hp2
   ·rw [lookM_put]
    by_cases hpq : p = q
    ·rw [if_pos hpq]
     exact ⟨_, (hmem _).2 (.inl rfl), by rw [hpq], hx⟩
    ·rw [if_neg hpq]
     have hne : kvOf ag p ≠ kvOf ag q := fun e2 => hpq (kvOf_inj L.one hp hlen e2)
     have := hk3 p hp
     split at this
     ·obtain ⟨e, h4, h5, h6⟩ := this
      exact ⟨e, (hmem e).2 (.inr ⟨h4, by rw [h5]; exact hne⟩), h5, h6⟩
     ·intro e he
      rcases (hmem e).1 he with rfl | ⟨he, _⟩
      ·exact fun e2 => hne e2.symm
      ·exact this e he) (cl_put hcl)
  refine ⟨_, ?_, h1, h2⟩
  simp [Instr.mapUpdate, run_underlying hu, MapKept.run_getObj_map hg, L.check w false q hlen, f1, hj, f3, stays, MapKept.run_setObj_map _ hg, Result.andThen, World.putObj]
theorem updA_none (hE : EqOK E) (h : Rel w0 X st a w ρ) {t tk ty : TypeId} {m key : A} {r : Nat × Ob} {vm vk : Value} (hm : R w (Ow X ρ) m ρ vm) (hk : R w (Ow X ρ) key ρ vk) (hs : (updA E st.objs t m key none).eval = some r) :
  ∃ w', (Builtin.delete_ #[t, tk] ty #[vm, vk]).run E.P w = .ok (.tuple #[]) w' /\ Rel w0 X ⟨st.tmps, setX st.objs r.1 r.2⟩ a w' ρ /\ Later w w' (Ow X ρ) (Ow X ρ) ρ ρ := by
 unfold updA at hs
 split at hs
 case h_2 => cases hs
 rename_i id
 split at hs
 case h_2 => cases hs
 rename_i t' ag n cl u hh vv ho
 split at hs
 case h_2 => cases hs
 rename_i q hq
 split at hs
 case isFalse => cases hs
 rename_i hc
 obtain ⟨rfl, hlen, hmp⟩ := hc
 simp only [T.eval, Option.some.injEq] at hs
 subst hs
 obtain ⟨b, es, clock, rfl, hρ, hg, ⟨hk1, hk2, hk3⟩, hcl⟩ := mp_ref h hm ho
 obtain ⟨kt, et, hu, L⟩ := hE.2 _ _ _ hmp
 obtain rfl := keyA_R hq hk
 rcases L.find w q es.toList hlen hk1 with ⟨f1, f2⟩ | ⟨j, e0, f1, f2, f3⟩
 ·obtain ⟨h1, h2⟩ := h.setMap (u' := (q, none) :: u) (es' := es) (clock' := clock) ho hρ hg (by
   refine ⟨hk1, hk2, fun p hp => ?_⟩
   rw [lookM_put]
   by_cases hpq : p = q
   ·rw [if_pos hpq, hpq]; exact f2
   ·rw [if_neg hpq]; exact hk3 p hp) (cl_put hcl)
  refine ⟨_, ?_, h1, h2⟩
  simp [Builtin.delete_, run_underlying hu, MapKept.run_getObj_map hg, L.check w _ q hlen, f1, MapKept.run_setObj_map _ hg, Result.andThen, World.putObj]
 ·have hm0 : e0 ∈ es.toList := List.mem_of_getElem? f2
  have hjl : j < es.toList.length := (List.getElem?_eq_some_iff.1 f2).1
  have hjs : j < es.size := by simpa using hjl
  have hsub : (es.eraseIdxIfInBounds j).toList = es.toList.eraseIdx j := by
   unfold Array.eraseIdxIfInBounds
   rw [dif_pos hjs]
   simp
  have hmem : ∀ e, e ∈ es.toList.eraseIdx j ↔ e ∈ es.toList /\ e.key ≠ kvOf ag q := by
   intro e
   have e2 : es.toList[j] = e0 := (List.getElem?_eq_some_iff.1 f2).2
   have hpw := List.pairwise_iff_getElem.1 hk2
   rw [List.mem_eraseIdx_iff_getElem]
   constructor
   ·rintro ⟨i, hil, hij, rfl⟩
    refine ⟨List.getElem_mem _, fun hke => ?_⟩
    rcases Nat.lt_or_gt_of_ne hij with hlt | hgt
    ·exact hpw i j hil hjl hlt (by rw [e2, hke, f3])
    ·exact hpw j i hjl hil hgt (by rw [e2, hke, f3])
   ·rintro ⟨he, hke⟩
    obtain ⟨i, hi, rfl⟩ := List.getElem_of_mem he
    exact ⟨i, hi, by rintro rfl; exact hke (by rw [e2]; exact f3), rfl⟩
  obtain ⟨h1, h2⟩ := h.setMap (u' := (q, none) :: u) (es' := es.eraseIdxIfInBounds j) (clock' := clock) ho hρ hg (by
   rw [hsub]
   refine ⟨fun e he => hk1 e ((hmem e).1 he).1, hk2.sublist (List.eraseIdx_sublist _ _), fun p hp => ?_⟩
   rw [lookM_put]
   by_cases hpq : p = q
   ·rw [if_pos hpq, hpq]
    exact fun e he => ((hmem e).1 he).2
   ·rw [if_neg hpq]
    have hne : kvOf ag p ≠ kvOf ag q := fun e2 => hpq (kvOf_inj L.one hp hlen e2)
    have := hk3 p hp
    split at this
    ·obtain ⟨e, h4, h5, h6⟩ := this
     exact ⟨e, (hmem e).2 ⟨h4, by rw [h5]; exact hne⟩, h5, h6⟩
    ·exact fun e he => this e ((hmem e).1 he).1) (cl_put hcl)
  refine ⟨_, ?_, h1, h2⟩
  simp [Builtin.delete_, run_underlying hu, MapKept.run_getObj_map hg, L.check w _ q hlen, f1, MapKept.run_setObj_map _ hg, Result.andThen, World.putObj]
theorem mkMapA_sound (hE : EqOK E) (h : Rel w0 X st a w ρ) {t : TypeId} {r : Option Operand} {ob : Ob} {d : Nat} (hd : getO st.objs d = .virgin) (hs : mkMapA E t (mapEvO (evA st.tmps) r) = some ob) :
  (Instr.makeMap t (r.map a.eval)).run E.P w = .ok (.map (some w.heap.size)) (w.alloc (.map #[] 0)) /\ Rel w0 X ⟨st.tmps, setX st.objs d ob⟩ a (w.alloc (.map #[] 0)) (upd ρ d (.map w.heap.size)) /\
   Later w (w.alloc (.map #[] 0)) (Ow X ρ) (Ow X (upd ρ d (.map w.heap.size))) ρ (upd ρ d (.map w.heap.size)) := by
 have hev := evA_R h.tmp
 unfold mkMapA at hs
 split at hs
 case h_2 => cases hs
 rename_i ag n hmp
 obtain ⟨kt, et, hu, L⟩ := hE.2 _ _ _ hmp
 have hbl : ∀ b, (Loc.map w.heap.size).block = some b -> b = w.heap.size := fun b hb => by simpa [Loc.block, eq_comm] using hb
 have hob : ObR (w.alloc (.map #[] 0)) (Ow X (upd ρ d (.map w.heap.size))) (upd ρ d (.map w.heap.size)) (.mp t ag n true [] (fun _ => false) (fun _ => .junk)) (.map w.heap.size) :=
  ⟨w.heap.size, #[], 0, rfl, by rw [heap_alloc_new], ⟨fun e he => (by cases he), List.Pairwise.nil, fun q hq e he => (by cases he)⟩, fun _ q a _ h => (by cases h)⟩
 have hrun : ∀ v : Option Value, (∀ x, v = some x -> ∃ k m, x = .int k m) -> (Instr.makeMap t v).run E.P w = .ok (.map (some w.heap.size)) (w.alloc (.map #[] 0)) := by
  intro v hv
  cases v with
  | none => simp [Instr.makeMap]
  | some x =>
   obtain ⟨k, m, rfl⟩ := hv x rfl
   simp [Instr.makeMap, run_underlying hu, asInt, asIntOf, Result.andThen]
 cases r with
 | none =>
  simp only [mapEvO, Option.some.injEq] at hs
  subst hs
  exact ⟨hrun _ (fun x hx => by cases hx), h.make hd hbl hob, laterMake _ (h.virgin hd) hbl⟩
 | some x =>
  simp only [mapEvO] at hs
  split at hs
  ·cases ‹some _ = none›
  ·rename_i k m hx
   simp only [Option.some.injEq] at hs hx
   subst hs
   refine ⟨hrun _ (fun y hy => ?_), h.make hd hbl hob, laterMake _ (h.virgin hd) hbl⟩
   simp only [Option.map_some, Option.some.injEq] at hy
   subst hy
   have := hev x
   rw [hx] at this
   simp only [R] at this
   exact ⟨k, m, this⟩
  ·cases hs
end
end Go.Sy
namespace Go.Sy
open Go.RowKit
def entB (P : Program) (g : FuncId) : Bool :=
 match P.funcs[g]? with
 | some fn => fn.body.isSome && !(fn.name == "runtime.NumGoroutine")
 | none => false
structure FnOK (P : Program) (f : FuncId) (args : List A) (r : A × Option Ob) : Prop where
 ent : entB P f = true
 run : ∀ (w : World) (X : Nat -> Prop) (vs : List Value), (∀ b, X b -> b < w.heap.size) -> RL w X args virg vs ->
  Calls P f vs.toArray w fun e w' => ∃ v l, e = .returned v /\ Bel w.heap.size w w' /\ R w' (fun b => X b \/ l.block = some b) r.1 (upd virg 0 l) v /\
   (match r.2 with | none => l = .virgin | some ob => ObR w' (fun _ => True) virg ob l) /\ (∀ b, l.block = some b -> w.heap.size <= b /\ b < w'.heap.size)
structure FnMu (P : Program) (f : FuncId) (args : List A) (ob : Ob) (post : Ob -> A -> Prop) : Prop where
 ent : entB P f = true
 run : ∀ (w : World) (l : Loc) (vs : List Value), (∀ b, l.block = some b -> b < w.heap.size) -> ObR w (fun b => l.block = some b) virg ob l -> RL w (fun b => l.block = some b) args (upd virg 0 l) vs ->
  Calls P f vs.toArray w fun e w' => ∃ v ob' r, e = .returned v /\ post ob' r /\ Bel 0 w w' /\ (∀ b, b < w.heap.size -> l.block ≠ some b -> w'.heap[b]? = w.heap[b]?) /\ ObR w' (fun _ => True) virg ob' l /\ flat 5 r = true /\ R w' (fun _ => True) r (upd virg 0 l) v
theorem s2bA_row {P : Program} {op : Op} {ev : Operand -> A} {x : Ob} (h : (s2bA P op ev).eval = some x) : ∃ e c n el, x = .row e c n el := by
 unfold s2bA at h
 repeat' split at h
 all_goals first
  | (simp only [T.need, T.eval] at h; split at h <;> first | (simp only [Option.some.injEq] at h; exact ⟨_, _, _, _, h.symm⟩) | cases h)
  | (simp only [T.eval] at h; cases h)
  | cases h
def guardO (ops : List Oper) (tmps : List A) (o : Oper) : Option Bool :=
 match o.guard with
 | none => some true
 | some (j, want) => match guardA ops tmps j with
  | .known b => some (b == want)
  | .free b _ => some (b == want)
  | .no => some false
  | .bad => none
def putT (tmps : List A) (dst : Option Tmp) (v : A) : List A :=
 match dst with
 | some d => setL tmps d v
 | none => tmps
def Sem1 (E : Env) (B : Nat) (o : Oper) (tmps : List A) (objs : List Ob) (v : A) (ob : Option Ob) : Prop :=
 match o.op with
 | .call ⟨.value f, args, _⟩ => ∃ g vals cl r d, callP objs (evA tmps f) (mapEv (evA tmps) args.toList) = some (g, vals, cl) /\ FnOK E.P g vals r /\ o.dst = some d /\ callFin B d cl r = some (v, ob)
 | op => match isMake op with
  | true => ∃ d rw x, o.dst = some d /\ (semO E op (evA tmps)).eval = some (rw, x) /\ v = (frzV E.frz B d (rw, x)).1 /\ ob = some (frzV E.frz B d (rw, x)).2
  | false => match isS2B E.P op with
   | true => ∃ d x, o.dst = some d /\ (s2bA E.P op (evA tmps)).eval = some x /\ v = (frzV E.frz B d (true, x)).1 /\ ob = some (frzV E.frz B d (true, x)).2
   | false => (semV E objs op (evA tmps)).eval = some v /\ ob = none
def Sem2 (E : Env) (B : Nat) (o : Oper) (st st' : St) : Prop :=
 match o.op with
 | .store t a x => ∃ r, (storeA E.P st.objs t (evA st.tmps a) (evA st.tmps x)).eval = some r /\ st' = ⟨putT st.tmps o.dst (.tup []), setX st.objs r.1 r.2⟩
 | .call ⟨.builtin .clear, ⟨[x]⟩, ⟨[t]⟩⟩ => ∃ r, (clearA E.P st.objs t (evA st.tmps x)).eval = some r /\ st' = ⟨putT st.tmps o.dst (.tup []), setX st.objs r.1 r.2⟩
 | .call ⟨.builtin .copy, ⟨[x, y]⟩, ⟨[t, t']⟩⟩ => ∃ r, (copyA E.P st.objs t t' (evA st.tmps x) (evA st.tmps y)).eval = some r /\ st' = ⟨putT st.tmps o.dst (.int .i64 (r.2.2 : Nat)), setX st.objs r.1 r.2.1⟩
 | .call ⟨.builtin .append, ⟨[x, y]⟩, ⟨[t, t']⟩⟩ => ∃ r d, o.dst = some d /\ (appendA E.P st.objs t t' (evA st.tmps x) (evA st.tmps y)).eval = some r /\ getO (killO st.objs r.1) (B + d) = .virgin /\
   st' = ⟨setL st.tmps d (.own (B + d)), setX (killO st.objs r.1) (B + d) r.2⟩
 | .call ⟨.builtin .delete, ⟨[m, q]⟩, ⟨[t, _]⟩⟩ => ∃ r, (updA E st.objs t (evA st.tmps m) (evA st.tmps q) none).eval = some r /\ st' = ⟨putT st.tmps o.dst (.tup []), setX st.objs r.1 r.2⟩
 | .mapUpdate t m q x => ∃ r, (updA E st.objs t (evA st.tmps m) (evA st.tmps q) (some (evA st.tmps x))).eval = some r /\ st' = ⟨putT st.tmps o.dst (.tup []), setX st.objs r.1 r.2⟩
 | .insert t m q x => ∃ r, (updA E st.objs t (evA st.tmps m) (evA st.tmps q) (some (evA st.tmps x))).eval = some r /\ st' = ⟨putT st.tmps o.dst (.tup []), setX st.objs r.1 r.2⟩
 | .makeMap t r => ∃ ob d, o.dst = some d /\ mkMapA E t (mapEvO (evA st.tmps) r) = some ob /\ getO st.objs (B + d) = .virgin /\ st' = ⟨setL st.tmps d (.yld (B + d)), setX st.objs (B + d) ob⟩
 | _ => False
def Step (E : Env) (B : Nat) (F : List Nat) (ops : List Oper) (o : Oper) (st st' : St) : Prop :=
 match guardO ops st.tmps o with
 | none => False
 | some false => st' = ⟨putT st.tmps o.dst (.tup []), st.objs⟩
 | some true => match cls o.op with
  | 2 => freshOK B F ops st.tmps o = true /\ Sem2 E B o st st'
  | _ => slOK F ops st.tmps o = true /\ ∃ v ob, Sem1 E B o st.tmps (maskO (foM B F o) st.objs) v ob /\ (match ob with
   | none => st' = ⟨putT st.tmps o.dst v, st.objs⟩
   | some x => ∃ d, o.dst = some d /\ getO st.objs (B + d) = .virgin /\ st' = ⟨setL st.tmps d v, setX st.objs (B + d) x⟩)
section
variable {w0 w w' : World} {X : Nat -> Prop} {st st' : St} {a : Act} {ρ ρ' : Nat -> Loc} {E : Env} {B : Nat} {F : List Nat}
theorem getO_mask : ∀ (F : List Nat) (objs : List Ob) (id : Nat), getO (maskO F objs) id = getO objs id \/ getO (maskO F objs) id = .dead
 | [], objs, id => .inl rfl
 | d :: F, objs, id => by
  simp only [maskO, getO_setX]
  split
  ·exact .inr rfl
  ·exact getO_mask F objs id
theorem Rel.obs (h : Rel w0 X st a w ρ) (F : List Nat) : Obs w (Ow X ρ) ρ (maskO F st.objs) := by
 intro id
 rcases getO_mask F st.objs id with e | e
 ·rw [e]; exact .inr (h.obj id)
 ·exact .inl e
theorem Rel.put' (h : Rel w0 X st a w ρ) (dst : Option Tmp) {x : A} {v : Value} (hr : R w (Ow X ρ) x ρ v) : Rel w0 X ⟨putT st.tmps dst x, st.objs⟩ (a.put dst v) w ρ := by
 have := h.put dst hr
 cases dst <;> exact this
theorem yielded_of {ops : Array Oper} {j : Nat} (h : Rel w0 X st a w ρ) :
  match guardA ops.toList st.tmps j with
  | .known b => yielded ops a.tmps j = some b
  | .free b _ => yielded ops a.tmps j = some b
  | .no => yielded ops a.tmps j = none
  | .bad => True := by
 have hdrop : ∀ o rest, dropN j ops.toList = o :: rest -> ops[j]? = some o := by
  intro o rest hd
  have : ∀ (l : List Oper) (j : Nat) (o : Oper) (rest : List Oper), dropN j l = o :: rest -> l[j]? = some o := by
   intro l
   induction l with
   | nil => intro j o rest h; cases j <;> simp [dropN] at h
   | cons x l ih =>
    intro j o rest h
    cases j with
    | zero => simp [dropN] at h; simp [h.1]
    | succ j => simp only [dropN] at h; simpa using ih j o rest h
  simpa using this ops.toList j o rest hd
 have hcell : ∀ d v, a.tmps.getD d undef = v -> v ≠ undef -> a.tmps[d]? = some v := by
  intro d v hv hne
  rw [Array.getD_eq_getD_getElem?] at hv
  cases hg : a.tmps[d]? with
  | none => rw [hg] at hv; exact absurd hv.symm hne
  | some u => rw [hg] at hv; simp at hv; rw [hv]
 cases hd : dropN j ops.toList with
 | nil => simp only [guardA, hd]
 | cons o rest =>
  have ho := hdrop o rest hd
  cases hdst : o.dst with
  | none => simp only [guardA, hd, hdst]
  | some d =>
   have ht := h.tmp d
   simp only [guardA, hd, hdst]
   generalize getA st.tmps d = x at ht
   cases x with
   | kb b =>
    simp only [R] at ht ⊢
    have := hcell d _ ht (by simp [undef])
    simp [yielded, ho, hdst, this]
   | bool b =>
    simp only [R] at ht ⊢
    have := hcell d _ ht (by simp [undef])
    simp [yielded, ho, hdst, this]
   | tup l =>
    cases l with
    | cons y l => trivial
    | nil =>
     simp only [R, RL] at ht ⊢
     obtain ⟨vs, hv, rfl⟩ := ht
     have hu : a.tmps.getD d undef = undef := hv
     simp only [yielded, ho, hdst, Option.bind_some]
     cases hg : a.tmps[d]? with
     | none => rfl
     | some u =>
      rw [Array.getD_eq_getD_getElem?, hg] at hu
      simp at hu
      rw [hu]; rfl
   | _ => trivial
theorem wanted_of {ops : Array Oper} {o : Oper} {b : Bool} (h : Rel w0 X st a w ρ) (hg : guardO ops.toList st.tmps o = some b) : Region.wanted o (yielded ops a.tmps) = b := by
 unfold guardO at hg
 unfold Region.wanted
 split at hg
 ·rename_i hn; simp at hg; subst hg; rw [hn]
 ·rename_i j want hs
  rw [hs]
  have hy := yielded_of (ops := ops) (j := j) h
  simp only
  split at hg
  ·rename_i q hq; rw [hq] at hy; simp only at hy; simp at hg; subst hg; rw [hy]; rfl
  ·rename_i q d hq; rw [hq] at hy; simp only at hy; simp at hg; subst hg; rw [hy]; rfl
  ·rename_i hq; rw [hq] at hy; simp only at hy; simp at hg; subst hg; rw [hy]; rfl
  ·cases hg
theorem callFin_none {B d : Nat} {cl : Bool} {r : A × Option Ob} {v : A} {ob : Option Ob} (h : callFin B d cl r = some (v, ob)) : (flat 5 r.1 = true \/ cl = true) /\ v = ren 0 (B + d) 6 r.1 /\ ob = r.2 := by
 unfold callFin at h
 split at h
 ·rename_i hb
  simp only [Option.some.injEq, Prod.mk.injEq] at h
  obtain ⟨rfl, rfl⟩ := h
  simp only [Bool.or_eq_true] at hb
  exact ⟨hb, rfl, rfl⟩
 ·cases h
theorem ren_sound {w' : World} {O : Nat -> Prop} {l : Loc} {ρ' : Nat -> Loc} {d : Nat} (hd : ρ' d = l) : ∀ (n : Nat),
  (∀ (x : A) (v : Value), R w' O x (upd virg 0 l) v -> R w' O (ren 0 d n x) ρ' v) /\ (∀ (xs : List A) (vs : List Value), RL w' O xs (upd virg 0 l) vs -> RL w' O (renL (ren 0 d n) xs) ρ' vs)
 | 0 => ⟨fun x v _ => by simp [ren, R], fun xs => by
   induction xs with
   | nil => intro vs h; simpa only [renL, RL] using h
   | cons x xs ih =>
    intro vs h
    simp only [RL] at h
    obtain ⟨v, vs', rfl, _, h2⟩ := h
    simp only [renL, RL]
    exact ⟨v, vs', rfl, by simp [ren, R], ih vs' h2⟩⟩
 | n + 1 => by
  obtain ⟨_, ih2⟩ := ren_sound (w' := w') (O := O) hd n
  have H : ∀ (x : A) (v : Value), R w' O x (upd virg 0 l) v -> R w' O (ren 0 d (n + 1) x) ρ' v := by
   intro x v h
   cases x with
   | own j =>
    simp only [ren]
    split
    ·rename_i hj
     subst hj
     simp only [R, upd_same, hd] at h ⊢
     exact h
    ·simp only [R]
   | ptr id off => simp only [ren, R]
   | rp id c i off => simp only [ren, R]
   | yld id => simp only [ren, R]
   | ov id c lo n => simp only [ren, R]
   | ap id i => simp only [ren, R]
   | bm f id i => simp only [ren, R]
   | fn f xs =>
    simp only [ren, R] at h ⊢
    obtain ⟨vs, rfl, h⟩ := h
    exact ⟨vs, rfl, ih2 xs vs h⟩
   | agg xs =>
    simp only [ren, R] at h ⊢
    obtain ⟨vs, rfl, h⟩ := h
    exact ⟨vs, rfl, ih2 xs vs h⟩
   | tup xs =>
    simp only [ren, R] at h ⊢
    obtain ⟨vs, rfl, h⟩ := h
    exact ⟨vs, rfl, ih2 xs vs h⟩
   | junk => simp only [ren, R]
   | _ => simpa only [ren, R] using h
  refine ⟨H, fun xs => ?_⟩
  induction xs with
  | nil => intro vs h; simpa only [renL, RL] using h
  | cons x xs ih =>
   intro vs h
   simp only [RL] at h
   obtain ⟨v, vs', rfl, h1, h2⟩ := h
   simp only [renL, RL]
   exact ⟨v, vs', rfl, H x v h1, ih vs' h2⟩
theorem flat_sound {w' : World} {O O' : Nat -> Prop} {ρ' : Nat -> Loc} : ∀ (n : Nat),
  (∀ (x : A) (v : Value), flat n x = true -> R w' O x ρ' v -> R w' O' x ρ' v) /\ (∀ (xs : List A) (vs : List Value), allL (flat n) xs = true -> RL w' O xs ρ' vs -> RL w' O' xs ρ' vs)
 | 0 => ⟨fun x v h => by simp [flat] at h, fun xs vs h hr => by
   cases xs with
   | nil => simpa only [RL] using hr
   | cons x xs => simp [allL, flat] at h⟩
 | n + 1 => by
  obtain ⟨_, ih2⟩ := flat_sound (w' := w') (O := O) (O' := O') (ρ' := ρ') n
  have H : ∀ (x : A) (v : Value), flat (n + 1) x = true -> R w' O x ρ' v -> R w' O' x ρ' v := by
   intro x v hf h
   cases x with
   | sl c m el => simp [flat] at hf
   | ip c el => simp [flat] at hf
   | ptr id off => simp [flat] at hf
   | rp id c i off => simp [flat] at hf
   | yld id => simp [flat] at hf
   | ov id c lo n => simp [flat] at hf
   | ap id i => simp [flat] at hf
   | bm f id i => simp [flat] at hf
   | own id => simpa only [R] using h
   | fn f xs =>
    simp only [R] at h ⊢
    obtain ⟨vs, rfl, h⟩ := h
    exact ⟨vs, rfl, ih2 xs vs hf h⟩
   | agg xs =>
    simp only [R] at h ⊢
    obtain ⟨vs, rfl, h⟩ := h
    exact ⟨vs, rfl, ih2 xs vs hf h⟩
   | tup xs =>
    simp only [R] at h ⊢
    obtain ⟨vs, rfl, h⟩ := h
    exact ⟨vs, rfl, ih2 xs vs hf h⟩
   | junk => simp only [R]
   | _ => simpa only [R] using h
  refine ⟨H, fun xs => ?_⟩
  induction xs with
  | nil => intro vs _ h; simpa only [RL] using h
  | cons x xs ih =>
   intro vs hf h
   simp only [allL, Bool.and_eq_true] at hf
   simp only [RL] at h ⊢
   obtain ⟨v, vs', rfl, h1, h2⟩ := h
   exact ⟨v, vs', rfl, H x v hf.1 h1, ih vs' hf.2 h2⟩
theorem run_callFunc {P : Program} {g : FuncId} (h : entB P g = true) (args : Array Value) : (callFunc g args).run P w = .ok (.enter g args) w := by
 unfold entB at h
 split at h
 ·rename_i fn hf
  simp only [Bool.and_eq_true, Bool.not_eq_true'] at h
  have h1 : fn.body.isNone = false := by cases hb : fn.body <;> simp_all
  simp only [callFunc, Sem.run_bind, run_program, Result.andThen_ok, hf, h.2, h1, if_false, Bool.false_eq_true, Sem.run_pure]
 ·cases h
def fw (ro : Option Nat) : Fence := { Fence.wide with round := ro }
theorem callsIn_fw {ro : Option Nat} {n : Nat} {P : Program} {f : FuncId} {args : Array Value} {w : World} {R : Ending -> World -> Prop} : CallsIn (fw ro) n P f args w R ↔ Calls P f args w R := callsIn_wide (n := n)
theorem put_defers (a : Act) (dst : Option Tmp) (v : Value) : (a.put dst v).defers = a.defers := by cases dst <;> rfl
theorem Step.sound {ops : Array Oper} {o : Oper} (hE : EqOK E) (h : Rel w0 X st a w ρ) (hs : Step E B F ops.toList o st st') {K : Act -> World -> Prop} {Q : Exit -> Act -> World -> Prop} {ro : Option Nat} {n : Nat}
  (hK' : ∀ a' w' ρ', Rel w0 X st' a' w' ρ' -> Later w w' (Ow X ρ) (Ow X ρ') ρ ρ' -> a'.defers = a.defers -> K a' w') :
  if Region.wanted o (yielded ops a.tmps) then o.wpIn (fw ro) n E.P a w K Q else (∀ f, o.about E.P w a.eval = some f -> (fw ro).fn f) /\ K (a.put o.dst undef) w := by
 have hK : ∀ v w' ρ', Rel w0 X st' (a.put o.dst v) w' ρ' -> Later w w' (Ow X ρ) (Ow X ρ') ρ ρ' -> K (a.put o.dst v) w' := fun v w' ρ' h1 h2 => hK' _ w' ρ' h1 h2 (put_defers _ _ _)
 unfold Step at hs
 have hev := evA_R h.tmp
 split at hs
 ·exact hs.elim
 ·rename_i hg
  rw [wanted_of h hg, if_neg (by simp)]
  subst hs
  exact ⟨fun _ _ => trivial, hK _ _ ρ (h.put' o.dst (by simp only [R, RL]; exact ⟨[], rfl, rfl⟩)) ⟨Nat.le_refl _, fun _ _ _ => rfl, fun _ _ h => h, fun _ => .inl rfl⟩⟩
 ·rename_i hg
  rw [wanted_of h hg, if_pos rfl]
  refine ⟨fun _ _ => trivial, ?_⟩
  split at hs
  ·
   replace hs := hs.2
   unfold Sem2 at hs
   split at hs
   ·rename_i t x y hop
    obtain ⟨r, hr, rfl⟩ := hs
    obtain ⟨w', hrun, hrel, hL⟩ := storeA_sound h (hev x) (hev y) hr
    have hx : (execOp a.eval o).run E.P w = .ok .skip w' := by simp [execOp, hop, hrun]
    rw [Oper.semAt_eq _ _ _ (by rw [hop]; intro c hc; cases hc), hx]
    exact hK _ _ ρ (hrel.put' o.dst (by simp only [R, RL]; exact ⟨[], rfl, rfl⟩)) hL
   ·rename_i x t hop
    obtain ⟨r, hr, rfl⟩ := hs
    obtain ⟨w', hrun, hrel, hL⟩ := clearA_sound (ty := o.type) h (hev x) hr
    have hx : (execOp a.eval o).run E.P w = .ok (.value (.tuple #[])) w' := by simp [execOp, hop, resolve, invoke, builtin, hrun]
    rw [Oper.semAt_eq _ _ _ (by rw [hop]; intro c hc; cases hc), hx]
    exact hK _ _ ρ (hrel.put' o.dst (by simp only [R, RL]; exact ⟨[], rfl, rfl⟩)) hL
   ·rename_i x y t t' hop
    obtain ⟨⟨r1, r2, r3⟩, hr, rfl⟩ := hs
    obtain ⟨w', hrun, hrel, hL⟩ := copyA_sound (ty := o.type) h (hev x) (hev y) hr
    have hx : (execOp a.eval o).run E.P w = .ok (.value (goInt (r3 : Nat))) w' := by simp [execOp, hop, resolve, invoke, builtin, hrun]
    rw [Oper.semAt_eq _ _ _ (by rw [hop]; intro c hc; cases hc), hx]
    exact hK _ _ ρ (hrel.put' o.dst (by simp only [R]; rfl)) hL
   ·rename_i x y t t' hop
    obtain ⟨r, d, hd, hr, hv, rfl⟩ := hs
    obtain ⟨kill, ob⟩ := r
    obtain ⟨v', w', hrun, hsl, hrel, hL⟩ := appendA_sound (ty := o.type) h (hev x) (hev y) hr hv
    have hx : (execOp a.eval o).run E.P w = .ok (.value v') w' := by simp [execOp, hop, resolve, invoke, builtin, hrun]
    rw [Oper.semAt_eq _ _ _ (by rw [hop]; intro c hc; cases hc), hx]
    refine hK _ _ (upd (killL ρ kill) (B + d) (.row v')) ?_ hL
    rw [hd]
    exact hrel.put' (some d) (x := .own (B + d)) (by simp only [R, upd_same]; exact ⟨trivial, hsl⟩)
   ·rename_i m q t tk hop
    obtain ⟨r, hr, rfl⟩ := hs
    obtain ⟨w', hrun, hrel, hL⟩ := updA_none (tk := tk) (ty := o.type) hE h (hev m) (hev q) hr
    have hx : (execOp a.eval o).run E.P w = .ok (.value (.tuple #[])) w' := by simp [execOp, hop, resolve, invoke, builtin, hrun]
    rw [Oper.semAt_eq _ _ _ (by rw [hop]; intro c hc; cases hc), hx]
    exact hK _ _ ρ (hrel.put' o.dst (by simp only [R, RL]; exact ⟨[], rfl, rfl⟩)) hL
   ·rename_i t m q x hop
    obtain ⟨r, hr, rfl⟩ := hs
    obtain ⟨w', hrun, hrel, hL⟩ := updA_some hE h (hev m) (hev q) (hev x) hr
    have hx : (execOp a.eval o).run E.P w = .ok .skip w' := by simp [execOp, hop, hrun]
    rw [Oper.semAt_eq _ _ _ (by rw [hop]; intro c hc; cases hc), hx]
    exact hK _ _ ρ (hrel.put' o.dst (by simp only [R, RL]; exact ⟨[], rfl, rfl⟩)) hL
   ·rename_i t m q x hop
    obtain ⟨r, hr, rfl⟩ := hs
    obtain ⟨w', hrun, hrel, hL⟩ := updA_some hE h (hev m) (hev q) (hev x) hr
    have hx : (execOp a.eval o).run E.P w = .ok .skip w' := by simp [execOp, hop, hrun]
    rw [Oper.semAt_eq _ _ _ (by rw [hop]; intro c hc; cases hc), hx]
    exact hK _ _ ρ (hrel.put' o.dst (by simp only [R, RL]; exact ⟨[], rfl, rfl⟩)) hL
   ·rename_i t r hop
    obtain ⟨ob, d, hd, hr, hv, rfl⟩ := hs
    obtain ⟨hrun, hrel, hL⟩ := mkMapA_sound hE h hv hr
    have hx : (execOp a.eval o).run E.P w = .ok (.value (.map (some w.heap.size))) (w.alloc (.map #[] 0)) := by simp [execOp, hop, hrun]
    rw [Oper.semAt_eq _ _ _ (by rw [hop]; intro c hc; cases hc), hx]
    refine hK _ _ (upd ρ (B + d) (.map w.heap.size)) ?_ hL
    rw [hd]
    exact hrel.put' (some d) (x := .yld (B + d)) (by simp only [R, upd_same])
   ·exact hs.elim
  ·obtain ⟨_, v, ob, hsem, hst⟩ := hs
   unfold Sem1 at hsem
   split at hsem
   ·
    rename_i f args ts hop
    obtain ⟨g, vals, cl, r, d, hcp, ⟨hent, hfn⟩, hd, hfin⟩ := hsem
    obtain ⟨hfl, rfl, rfl⟩ := callFin_none hfin
    unfold callP at hcp
    split at hcp
    ·rename_i g' caps hfv
     split at hcp
     ·rename_i vals' hvals
      simp only [Option.some.injEq, Prod.mk.injEq] at hcp
      obtain ⟨rfl, rfl, rfl⟩ := hcp
      have hf := hev f
      rw [hfv] at hf
      simp only [R] at hf
      obtain ⟨cvs, hfe, hcaps⟩ := hf
      have hall := RL.append (mapEv_RL hev args.toList) hcaps
      have hx : (execOp a.eval o).run E.P w = .ok (.enter g' (args.toList.map a.eval ++ cvs).toArray) w := by
       simp only [execOp, hop, resolve, hfe, Deferred.ofValue, Sem.run_bind, Sem.run_pure, Result.andThen_ok, invoke]
       rw [run_callFunc hent]
       congr 2
       simp
      rw [Oper.semAt_eq _ _ _ (by rw [hop]; intro c hc; cases hc), hx]
      refine And.intro (fun h => (by cases h)) ?_
      rw [callsIn_fw]
      -- what the callee must not hand back
      have hargs : ∃ Y : Nat -> Prop, (∀ b, Y b -> b < w.heap.size) /\ RL w Y vals' virg (args.toList.map a.eval ++ cvs) /\ (flat 5 r.1 = true \/ ∀ b, Ow X ρ b -> Y b) := by
       rcases hfl with hfl | hcl
       ·refine ⟨fun _ => False, fun b h => h.elim, ?_, .inl hfl⟩
        exact (expo_sound (h.obs (foM B F o)) (fun _ _ h => h.elim) (fun id b _ hb => ⟨(h.new b ⟨id, hb⟩).2, fun h => h⟩) 5).2 _ _ _ hall hvals
       ·refine ⟨Ow X ρ, fun b hb => ?_, ?_, .inr fun _ h => h⟩
        ·rcases hb with hb | hb
         ·exact Nat.lt_of_lt_of_le (h.old b hb) h.size
         ·exact (h.new b hb).2
        ·exact (expo_closed 5).2 _ _ _ 5 hcl hvals hall
      obtain ⟨Y, hY, hrl, hYf⟩ := hargs
      refine (hfn w Y _ hY hrl).mono ?_
      rintro e w' ⟨rv, l, rfl, hb, hr, hob, hnew⟩
      simp only
      suffices hh : Rel w0 X st' (a.put o.dst rv) w' (match r.2 with | none => ρ | some _ => upd ρ (B + d) l) /\ Later w w' (Ow X ρ) (Ow X (match r.2 with | none => ρ | some _ => upd ρ (B + d) l)) ρ (match r.2 with | none => ρ | some _ => upd ρ (B + d) l) from hK _ _ _ hh.1 hh.2
      have hsame : ∀ b, b < w.heap.size -> w'.heap[b]? = w.heap[b]? := fun b hb' => hb.block b hb'
      cases hr2 : r.2 with
      | none =>
       rw [hr2] at hst hob
       simp only at hst hob ⊢
       subst hst
       subst hob
       have hL : Later w w' (Ow X ρ) (Ow X ρ) ρ ρ := ⟨hb.size, fun b hb' _ => hsame b hb', fun _ _ h => h, fun _ => .inl rfl⟩
       have hrel : Rel w0 X ⟨st.tmps, st.objs⟩ a w' ρ := h.next hL (h.kept.trans (hb.mono h.size)) (fun id => (h.obj id).later hL fun b hb' => hsame b (h.new b ⟨id, hb'⟩).2) h.dis (fun b hb' => ⟨(h.new b hb').1, Nat.lt_of_lt_of_le (h.new b hb').2 hb.size⟩)
       refine ⟨?_, hL⟩
       rw [hd]
       refine hrel.put' (some d) ?_
       have h0 : upd virg 0 Loc.virgin = virg := by funext i; simp [upd, virg]
       rw [h0] at hr
       -- no object: nothing is named
       have hren : R w' (Ow X ρ) (ren 0 (B + d) 6 r.1) virg rv := by
        have h1 : R w' (Ow X ρ) r.1 virg rv := by
         rcases hYf with hf | hYf
         ·exact (flat_sound 5).1 _ _ hf hr
         ·exact R.later _ virg virg rv ⟨Nat.le_refl _, fun _ _ _ => rfl, fun b _ ho => .inl (hYf b ho), fun _ => .inl rfl⟩ hr
        have := (ren_sound (w' := w') (O := Ow X ρ) (l := .virgin) (ρ' := virg) (d := B + d) rfl 6).1 r.1 rv (by rw [h0]; exact h1)
        exact this
       exact R.later _ virg ρ rv ⟨Nat.le_refl _, fun _ _ _ => rfl, fun _ _ h => h, fun _ => .inr (.inl rfl)⟩ hren
      | some ob =>
       rw [hr2] at hst hob
       simp only at hst hob ⊢
       obtain ⟨d', hd', hvirg, hst⟩ := hst
       rw [hd] at hd'
       cases hd'
       subst hst
       have hvd := h.virgin hvirg
       have hL : Later w w' (Ow X ρ) (Ow X (upd ρ (B + d) l)) ρ (upd ρ (B + d) l) := by
        refine ⟨hb.size, fun b hb' _ => hsame b hb', fun b hb' ho => ?_, fun id => ?_⟩
        ·rcases ho with ho | ho
         ·exact .inl ho
         ·rcases owned_upd ho with ho | ho
          ·exact .inr ho
          ·have := (hnew b ho).1; omega
        ·by_cases hid : id = B + d
         ·subst hid; exact .inr (.inl hvd)
         ·exact .inl (upd_ne _ _ _ hid)
       have hO : ∀ b, Ow X (upd ρ (B + d) l) b -> Ow X ρ b \/ l.block = some b := by
        rintro b (ho | ho)
        ·exact .inl (.inl ho)
        ·rcases owned_upd ho with ho | ho
         ·exact .inl (.inr ho)
         ·exact .inr ho
       have hrel : Rel w0 X ⟨st.tmps, setX st.objs (B + d) ob⟩ a w' (upd ρ (B + d) l) := by
        refine h.next hL (h.kept.trans (hb.mono h.size)) (fun id => ?_) (fun i j b hi hj => ?_) (fun b hb' => ?_)
        ·rw [getO_setX]
         by_cases hid : id = B + d
         ·subst hid
          rw [if_pos rfl, upd_same]
          exact ObR.later (ρ := virg) ⟨Nat.le_refl _, fun _ _ hn => (hn trivial).elim, fun _ _ _ => trivial, fun _ => .inr (.inl rfl)⟩ (fun _ _ => rfl) hob
         ·rw [if_neg hid, upd_ne _ _ _ hid]
          exact (h.obj id).later hL fun b hb' => hsame b (h.new b ⟨id, hb'⟩).2
        ·by_cases hid : i = B + d <;> by_cases hjd : j = B + d
         ·rw [hid, hjd]
         ·subst hid
          rw [upd_same] at hi; rw [upd_ne _ _ _ hjd] at hj
          have := (h.new b ⟨j, hj⟩).2
          have := (hnew b hi).1
          omega
         ·subst hjd
          rw [upd_same] at hj; rw [upd_ne _ _ _ hid] at hi
          have := (h.new b ⟨i, hi⟩).2
          have := (hnew b hj).1
          omega
         ·rw [upd_ne _ _ _ hid] at hi; rw [upd_ne _ _ _ hjd] at hj
          exact h.dis i j b hi hj
        ·rcases owned_upd hb' with hb' | hb'
         ·exact ⟨(h.new b hb').1, Nat.lt_of_lt_of_le (h.new b hb').2 hb.size⟩
         ·have := hnew b hb'
          exact ⟨Nat.le_trans h.size this.1, this.2⟩
       have hput := hrel.put' (some d) (x := ren 0 (B + d) 6 r.1) (v := rv) (by
        have h1 : R w' (Ow X (upd ρ (B + d) l)) r.1 (upd virg 0 l) rv := by
         rcases hYf with hf | hYf
         ·exact (flat_sound 5).1 _ _ hf hr
         ·refine R.later _ _ _ rv ⟨Nat.le_refl _, fun _ _ _ => rfl, fun b _ ho => ?_, fun _ => .inl rfl⟩ hr
          rcases hO b ho with ho | ho
          ·exact .inl (hYf b ho)
          ·exact .inr ho
        exact (ren_sound (ρ' := upd ρ (B + d) l) (upd_same _ _ _) 6).1 r.1 rv h1)
       rw [hd]
       exact ⟨hput, hL⟩
     ·cases hcp
    ·cases hcp
   ·rename_i hnc
    split at hsem
    ·rename_i hmk
     obtain ⟨d, rw_, x, hd, hso, rfl, rfl⟩ := hsem
     simp only at hst
     obtain ⟨d', hd', hvirg, rfl⟩ := hst
     rw [hd] at hd'; cases hd'
     obtain ⟨v, l, obj, hrun, hbl, hob, hr⟩ := semO_sound h hvirg hso
     rw [Oper.semAt_eq _ _ _ (by intro c hc; rw [hc] at hmk; cases hmk), hrun]
     rcases frzV_cases E.frz B d rw_ x with hz | ⟨e, c, n, el, rfl, rfl, hz⟩
     ·rw [hz] at hK
      refine hK _ _ (upd ρ (B + d) l) ?_ (laterMake _ (h.virgin hvirg) hbl)
      rw [hd]
      exact (h.make hvirg hbl hob).put' (some d) hr
     ·rw [hz] at hK
      have hbl' : ∀ b, Loc.dead.block = some b -> b = w.heap.size := fun b hb => by cases hb
      refine hK _ _ (upd ρ (B + d) .dead) ?_ (laterMake _ (h.virgin hvirg) hbl')
      rw [hd]
      refine (h.make (ob := .dead) hvirg hbl' rfl).put' (some d) ?_
      have hob2 := hob
      obtain ⟨v', xs, hl, _⟩ := hob2
      subst hl
      simp only [mkV, R, upd_same] at hr
      obtain ⟨rfl, _⟩ := hr
      refine row_sl hob rfl (fun b hb ho => ?_) (fun b hb => ?_)
      ·rcases ho with ho | ⟨id, ho⟩
       ·exact .inl ho
       ·by_cases hid : id = B + d
        ·subst hid; rw [upd_same] at ho; cases ho
        ·rw [upd_ne _ _ _ hid] at ho
         exact .inr ⟨id, by rw [upd_ne _ _ _ hid]; exact ho⟩
      ·have hb' := hbl b hb
       subst hb'
       refine ⟨by simp, ?_⟩
       rintro (ho | ⟨id, ho⟩)
       ·have := h.old _ ho
        have := h.kept.size
        omega
       ·by_cases hid : id = B + d
        ·subst hid; rw [upd_same] at ho; cases ho
        ·rw [upd_ne _ _ _ hid] at ho
         have := (h.new _ ⟨id, ho⟩).2
         omega
    ·split at hsem
     ·rename_i hmk hsb
      obtain ⟨d, x, hd, hso, rfl, rfl⟩ := hsem
      simp only at hst
      obtain ⟨d', hd', hvirg, rfl⟩ := hst
      rw [hd] at hd'; cases hd'
      obtain ⟨v, w', hrun, hsl, hrel, hL, hbl, hgr⟩ := s2bA_sound h hvirg hsb hso
      rw [Oper.semAt_eq _ _ _ (by intro c hc; rw [hc] at hsb; cases hsb), hrun]
      rcases frzV_cases E.frz B d true x with hz | ⟨e, c, n, el, _, rfl, hz⟩
      ·rw [hz] at hK
       obtain ⟨e, c, n, el, rfl⟩ := s2bA_row hso
       refine hK _ _ (upd ρ (B + d) (.row v)) ?_ hL
       rw [hd]
       exact hrel.put' (some d) (x := .own (B + d)) (by simp only [R, upd_same]; exact ⟨trivial, hsl⟩)
      ·rw [hz] at hK
       have hob := hrel.obj (B + d)
       simp only [getO_setX, if_true, upd_same] at hob
       have hLd : Later w w' (Ow X ρ) (Ow X (upd ρ (B + d) .dead)) ρ (upd ρ (B + d) .dead) :=
        ⟨hL.size, hL.same, fun b hb ho => hL.own b hb (by
         rcases ho with ho | ⟨id, ho⟩
         ·exact .inl ho
         ·by_cases hid : id = B + d
          ·subst hid; rw [upd_same] at ho; cases ho
          ·rw [upd_ne _ _ _ hid] at ho
           exact .inr ⟨id, by rw [upd_ne _ _ _ hid]; exact ho⟩), fun id => by
         by_cases hid : id = B + d
         ·subst hid; exact .inr (.inr (upd_same _ _ _))
         ·exact .inl (upd_ne _ _ _ hid)⟩
       refine hK _ _ (upd ρ (B + d) .dead) ?_ hLd
       rw [hd]
       have hrel2 : Rel w0 X ⟨st.tmps, setX st.objs (B + d) .dead⟩ a w' (upd ρ (B + d) .dead) := by
        refine h.next hLd hrel.kept (fun id => ?_) (fun i j b hi hj => ?_) (fun b hb => ?_)
        ·rw [getO_setX]
         by_cases hid : id = B + d
         ·subst hid; rw [if_pos rfl, upd_same]; rfl
         ·rw [if_neg hid, upd_ne _ _ _ hid]
          exact (h.obj id).later hLd fun b hb => hgr.block b (h.new b ⟨id, hb⟩).2 (by simp)
        ·by_cases hid : i = B + d
         ·subst hid; rw [upd_same] at hi; cases hi
         ·by_cases hjd : j = B + d
          ·subst hjd; rw [upd_same] at hj; cases hj
          ·rw [upd_ne _ _ _ hid] at hi; rw [upd_ne _ _ _ hjd] at hj
           exact h.dis i j b hi hj
        ·obtain ⟨id, ho⟩ := hb
         by_cases hid : id = B + d
         ·subst hid; rw [upd_same] at ho; cases ho
         ·rw [upd_ne _ _ _ hid] at ho
          have := h.new b ⟨id, ho⟩
          exact ⟨this.1, Nat.lt_of_lt_of_le this.2 hL.size⟩
       refine hrel2.put' (some d) ?_
       refine row_sl hob rfl (fun b hb ho => ?_) (fun b hb => ?_)
       ·rcases ho with ho | ⟨id, ho⟩
        ·exact .inl ho
        ·by_cases hid : id = B + d
         ·subst hid; rw [upd_same] at ho; cases ho
         ·rw [upd_ne _ _ _ hid] at ho
          exact .inr ⟨id, by rw [upd_ne _ _ _ hid]; exact ho⟩
       ·have hb' := hbl b hb
        subst hb'
        have hnew := hrel.new w.heap.size ⟨B + d, by rw [upd_same]; exact hb⟩
        refine ⟨hnew.2, ?_⟩
        rintro (ho | ⟨id, ho⟩)
        ·have := h.old _ ho
         have := h.kept.size
         omega
        ·by_cases hid : id = B + d
         ·subst hid; rw [upd_same] at ho; cases ho
         ·rw [upd_ne _ _ _ hid] at ho
          have := (h.new _ ⟨id, ho⟩).2
          omega
     obtain ⟨hv, rfl⟩ := hsem
     simp only at hst
     subst hst
     obtain ⟨v', hrun, hr⟩ : ∃ v', (execOp a.eval o).run E.P w = .ok (.value v') w /\ R w (Ow X ρ) v ρ v' := by
      by_cases hlk : ∃ t m q ok, o.op = .lookup t m q ok
      ·obtain ⟨t, m, q, ok, hop⟩ := hlk
       rw [hop] at hv
       obtain ⟨v', hrun, hrv⟩ := lookupA_sound hE (h.obs (foM B F o)) (hev m) (hev q) hv
       exact ⟨v', by simp [execOp, hop, hrun], hrv⟩
      ·exact semV_sound hE hev (h.obs (foM B F o)) (fun t m q ok e => hlk ⟨t, m, q, ok, e⟩) hv
     rw [Oper.semAt_eq _ _ _ (by intro c hc; rw [hc] at hv; simp [semV, T.eval] at hv), hrun]
     exact hK _ _ ρ (h.put' o.dst hr) ⟨Nat.le_refl _, fun _ _ _ => rfl, fun _ _ h => h, fun _ => .inl rfl⟩
end
end Go.Sy
namespace Go.Sy
open Go.RowKit
def RunI (E : Env) (B : Nat) (F : List Nat) (ops : Array Oper) : List Nat -> St -> St -> Prop
 | [], st, st' => st' = st
 | i :: l, st, st' => ∃ o s1, ops[i]? = some o /\ Step E B F ops.toList o st s1 /\ RunI E B F ops l s1 st'
theorem RunI.append {E : Env} {B : Nat} {F : List Nat} {ops : Array Oper} : ∀ {l m : List Nat} {st st' : St}, RunI E B F ops (l ++ m) st st' ↔ ∃ s1, RunI E B F ops l st s1 /\ RunI E B F ops m s1 st'
 | [], m, st, st' => by simp [RunI]
 | i :: l, m, st, st' => by
  simp only [List.cons_append, RunI]
  constructor
  ·rintro ⟨o, s1, h1, h2, h3⟩
   obtain ⟨s2, h4, h5⟩ := RunI.append.1 h3
   exact ⟨s2, ⟨o, s1, h1, h2, h4⟩, h5⟩
  ·rintro ⟨s2, ⟨o, s1, h1, h2, h4⟩, h5⟩
   exact ⟨o, s1, h1, h2, RunI.append.2 ⟨s2, h4, h5⟩⟩
theorem Later.refl (w : World) (O : Nat -> Prop) (ρ : Nat -> Loc) : Later w w O O ρ ρ := ⟨Nat.le_refl _, fun _ _ _ => rfl, fun _ _ h => h, fun _ => .inl rfl⟩
theorem Later.trans {w w1 w2 : World} {O O1 O2 : Nat -> Prop} {ρ ρ1 ρ2 : Nat -> Loc} (h : Later w w1 O O1 ρ ρ1) (k : Later w1 w2 O1 O2 ρ1 ρ2) : Later w w2 O O2 ρ ρ2 := by
 refine ⟨Nat.le_trans h.size k.size, fun b hb hn => ?_, fun b hb ho => ?_, fun id => ?_⟩
 ·have h1 : ¬ O1 b := fun ho => hn (h.own b hb ho)
  exact (k.same b (Nat.lt_of_lt_of_le hb h.size) h1).trans (h.same b hb hn)
 ·exact h.own b hb (k.own b (Nat.lt_of_lt_of_le hb h.size) ho)
 ·rcases h.loc id with e | e | e
  ·rcases k.loc id with e' | e' | e'
   ·exact .inl (e'.trans e)
   ·exact .inr (.inl (e.symm.trans e'))
   ·exact .inr (.inr e')
  ·exact .inr (.inl e)
  ·rcases k.loc id with e' | e' | e'
   ·exact .inr (.inr (e'.trans e))
   ·rw [e] at e'; cases e'
   ·exact .inr (.inr e')
section
variable {w0 : World} {X : Nat -> Prop} {E : Env} {B : Nat}
theorem RunI.sound {F : List Nat} {ops : Array Oper} (hE : EqOK E) {Q : Exit -> Act -> World -> Prop} {ro : Option Nat} {n : Nat} : ∀ (l : List Nat) (st st' : St) (a : Act) (w : World) (ρ : Nat -> Loc), RunI E B F ops l st st' -> Rel w0 X st a w ρ ->
  (∀ a' w' ρ', Rel w0 X st' a' w' ρ' -> Later w w' (Ow X ρ) (Ow X ρ') ρ ρ' -> a'.defers = a.defers -> Q .normal a' w') -> wpOpsIn (fw ro) n E.P ops Q l a w
 | [], st, st', a, w, ρ, hr, h, hq => by
  simp only [RunI] at hr; subst hr
  exact hq a w ρ h (Later.refl _ _ _) rfl
 | i :: l, st, st', a, w, ρ, hr, h, hq => by
  simp only [RunI] at hr
  obtain ⟨o, s1, ho, hs, hr⟩ := hr
  simp only [wpOpsIn, ho]
  exact Step.sound hE h hs fun a' w' ρ' h' hL hd => RunI.sound hE l s1 st' a' w' ρ' hr h' fun a'' w'' ρ'' h'' hL' hd' => hq a'' w'' ρ'' h'' (hL.trans hL') (hd'.trans hd)
theorem RunI.soundK {F : List Nat} {ops : Array Oper} (hE : EqOK E) {Q : Exit -> Act -> World -> Prop} {ro : Option Nat} {n : Nat} {m : List Nat} : ∀ (l : List Nat) (st st' : St) (a : Act) (w : World) (ρ : Nat -> Loc), RunI E B F ops l st st' -> Rel w0 X st a w ρ ->
  (∀ a' w' ρ', Rel w0 X st' a' w' ρ' -> Later w w' (Ow X ρ) (Ow X ρ') ρ ρ' -> a'.defers = a.defers -> wpOpsIn (fw ro) n E.P ops Q m a' w') -> wpOpsIn (fw ro) n E.P ops Q (l ++ m) a w
 | [], st, st', a, w, ρ, hr, h, hq => by
  simp only [RunI] at hr; subst hr
  exact hq a w ρ h (Later.refl _ _ _) rfl
 | i :: l, st, st', a, w, ρ, hr, h, hq => by
  simp only [RunI] at hr
  obtain ⟨o, s1, ho, hs, hr⟩ := hr
  simp only [List.cons_append, wpOpsIn, ho]
  exact Step.sound hE h hs fun a' w' ρ' h' hL hd => RunI.soundK hE l s1 st' a' w' ρ' hr h' fun a'' w'' ρ'' h'' hL' hd' => hq a'' w'' ρ'' h'' (hL.trans hL') (hd'.trans hd)
theorem laterDrew (w : World) (O : Nat -> Prop) (ρ : Nat -> Loc) : Later w { w with drawn := w.drawn + 1 } O O ρ ρ := ⟨Nat.le_refl _, fun _ _ _ => rfl, fun _ _ h => h, fun _ => .inl rfl⟩
theorem Rel.drew {st : St} {a : Act} {w : World} {ρ : Nat -> Loc} (h : Rel w0 X st a w ρ) : Rel w0 X st a { w with drawn := w.drawn + 1 } ρ :=
 h.next (laterDrew w _ ρ) ⟨h.kept.os, h.kept.tape, h.kept.output, h.kept.size, h.kept.block, trivial⟩ (fun id => (h.obj id).later (laterDrew w _ ρ) fun _ _ => rfl) h.dis h.new
end
inductive OSat (K : List (Nat × Bool) -> St -> Prop) (C : List (Nat × Bool) -> St -> Option Tmp -> A -> List A -> Prop) : OT -> Prop where
 | more {kn st} (h : K kn st) : OSat K C (.more kn st)
 | ite {b t e} (h : b = true -> OSat K C t) (h' : b = false -> OSat K C e) : OSat K C (.ite b t e)
 | call {kn st dst f args} (h : C kn st dst f args) : OSat K C (.call kn st dst f args)
theorem OSat.ite_inv {K C} {b : Bool} {t e : OT} (h : OSat K C (.ite b t e)) : OSat K C (match b with | true => t | false => e) := by
 cases h with
 | ite h h' => cases b <;> simp_all
theorem T.go_sat {K C} {α : Type} : ∀ {t : T α} {k : α -> OT}, OSat K C (t.go k) -> ∃ x, t.eval = some x /\ OSat K C (k x)
 | .ret a, k, h => ⟨a, rfl, h⟩
 | .ite b t e, k, h => by
  have := OSat.ite_inv h
  cases b
  ·obtain ⟨x, h1, h2⟩ := T.go_sat this; exact ⟨x, h1, h2⟩
  ·obtain ⟨x, h1, h2⟩ := T.go_sat this; exact ⟨x, h1, h2⟩
 | .fail, k, h => by cases h
theorem setK_eq {α : Type} : ∀ (l : List α) (n : Nat) (v : α) (k : List α -> OT), setK l n v k = k (setL l n v)
 | [], n, v, k => by simp [setK, setL]
 | a :: l, 0, v, k => by simp [setK, setL]
 | a :: l, n + 1, v, k => by simp [setK, setL, setK_eq l n v]
theorem forceL_eq : ∀ (l : List A) (k : List A -> OT), forceL l k = k l
 | [], k => rfl
 | a :: l, k => by
  simp only [forceL, forceL_eq l]
  cases a <;> first | rfl | (rename_i b; cases b <;> rfl)
theorem forceA_eq (a : A) (k : A -> OT) : forceA a k = k a := by
 cases a <;> simp only [forceA, forceL_eq]
 ·rename_i b; cases b <;> rfl
 ·rename_i off; cases off <;> rfl
 ·rename_i off; cases off <;> rfl
theorem forceO_eq (a : Ob) (k : Ob -> OT) : forceO a k = k a := by
 cases a <;> simp only [forceO, forceL_eq]
 rename_i t ag n cl u h v; cases cl <;> rfl
theorem setA_eq (l : List A) (n : Nat) (v : A) (k : List A -> OT) : setA l n v k = k (setL l n v) := by rw [setA, forceA_eq, setK_eq]
theorem setXK_eq : ∀ (l : List Ob) (n : Nat) (v : Ob) (k : List Ob -> OT), setXK l n v k = k (setX l n v)
 | [], 0, v, k => by simp [setXK, setX]
 | [], n + 1, v, k => by simp [setXK, setX, setXK_eq [] n v]
 | a :: l, 0, v, k => by simp [setXK, setX]
 | a :: l, n + 1, v, k => by simp [setXK, setX, setXK_eq l n v]
theorem setO_eq (l : List Ob) (n : Nat) (v : Ob) (k : List Ob -> OT) : setO l n v k = k (setX l n v) := by rw [setO, forceO_eq, setXK_eq]
theorem putK_eq (st : St) (dst : Option Tmp) (v : A) (k : St -> OT) : putK st dst v k = k ⟨putT st.tmps dst v, st.objs⟩ := by
 obtain ⟨ts, os⟩ := st
 cases dst with
 | none => rfl
 | some d => rw [putK]; exact setA_eq _ _ _ _
section
variable {E : Env} {B : Nat} {F : List Nat} {K : List (Nat × Bool) -> St -> Prop} {C : List (Nat × Bool) -> St -> Option Tmp -> A -> List A -> Prop}
def KnOK (kn : List (Nat × Bool)) (tmps : List A) : Prop := ∀ d v, lookK kn d = some v -> getA tmps d = .bool v
theorem eraseC_eq : ∀ (kn : List (Nat × Bool)) (dst : Option Nat) (k : List (Nat × Bool) -> OT), eraseC kn dst k = k (eraseK kn dst)
 | [], none, k => rfl
 | [], some _, k => rfl
 | (d, v) :: l, none, k => rfl
 | (d, v) :: l, some n, k => by
  simp only [eraseC, eraseK, eraseC_eq l]
  split <;> rfl
theorem KnOK.erase {kn : List (Nat × Bool)} {tmps : List A} (h : KnOK kn tmps) (dst : Option Nat) (x : A) : KnOK (eraseK kn dst) (putT tmps dst x) := by
 cases dst with
 | none => simpa [eraseK, putT] using h
 | some n =>
  intro d v hd
  have key : ∀ (kn : List (Nat × Bool)), lookK (eraseK kn (some n)) d = some v -> d ≠ n /\ lookK kn d = some v := by
   intro kn
   induction kn with
   | nil => intro h; simp [eraseK, lookK] at h
   | cons p l ih =>
    intro h
    obtain ⟨q, u⟩ := p
    simp only [eraseK] at h
    split at h
    ·rename_i hq
     obtain ⟨h1, h2⟩ := ih h
     refine ⟨h1, ?_⟩
     simp only [lookK]
     rw [if_neg (by omega)]
     exact h2
    ·rename_i hq
     simp only [lookK] at h ⊢
     split at h
     ·rename_i hdq
      subst hdq
      exact ⟨hq, by rw [if_pos rfl]; exact h⟩
     ·rename_i hdq
      obtain ⟨h1, h2⟩ := ih h
      exact ⟨h1, by rw [if_neg hdq]; exact h2⟩
  obtain ⟨h1, h2⟩ := key kn hd
  simp only [putT, getA_setL]
  rw [if_neg (by simp [h1])]
  exact h d v h2
theorem KnOK.cons {kn : List (Nat × Bool)} {tmps : List A} (h : KnOK kn tmps) {d : Nat} {v : Bool} (hd : getA tmps d = .bool v) : KnOK ((d, v) :: kn) tmps := by
 intro n u hn
 simp only [lookK] at hn
 split at hn
 ·rename_i he; subst he; simp at hn; subst hn; exact hd
 ·exact h n u hn
def ExecP (E : Env) (B : Nat) (F : List Nat) (o : Oper) (st st' : St) : Prop :=
 match cls o.op with
 | 2 => Sem2 E B o st st'
 | _ => ∃ v ob, Sem1 E B o st.tmps (maskO (foM B F o) st.objs) v ob /\ (match ob with
  | none => st' = ⟨putT st.tmps o.dst v, st.objs⟩
  | some x => ∃ d, o.dst = some d /\ getO st.objs (B + d) = .virgin /\ st' = ⟨setL st.tmps d v, setX st.objs (B + d) x⟩)
theorem makeK_sat {st : St} {d : Nat} {v : A} {ob : Ob} {k : St -> OT} (h : OSat K C (makeK B st d v ob k)) : getO st.objs (B + d) = .virgin /\ OSat K C (k ⟨setL st.tmps d v, setX st.objs (B + d) ob⟩) := by
 obtain ⟨ts, os⟩ := st
 unfold makeK at h
 simp only at h
 split at h
 ·rename_i hv
  rw [setO_eq, setA_eq] at h
  exact ⟨hv, h⟩
 ·cases h
theorem semV_cls2 {objs : List Ob} {op : Op} {ev : Operand -> A} (h : cls op = 2) : semV E objs op ev = .fail := by
 cases op <;> simp only [cls] at h <;> first | (cases h; done) | rfl | skip
 ·rename_i c
  obtain ⟨callee, ⟨args⟩, ⟨ts⟩⟩ := c
  cases callee with
  | value f => simp at h
  | invoke r m => simp at h
  | builtin b => cases b <;> simp at h <;> rfl
theorem Sem1_make {o : Oper} {tmps : List A} {objs : List Ob} {d : Nat} {rw_ : Bool} {ob : Ob} (hm : isMake o.op = true) (hd : o.dst = some d) (hs : (semO E o.op (evA tmps)).eval = some (rw_, ob)) :
  Sem1 E B o tmps objs (frzV E.frz B d (rw_, ob)).1 (some (frzV E.frz B d (rw_, ob)).2) := by
 obtain ⟨dst, op, type, pos, after, guard⟩ := o
 cases op <;> simp [isMake] at hm <;> exact ⟨d, rw_, ob, hd, hs, rfl, rfl⟩
theorem Sem1_val {o : Oper} {tmps : List A} {objs : List Ob} {v : A} (h3 : ∀ (f : Operand) (args : Array Operand) (ts : Array TypeId), o.op = .call { callee := .value f, args := args, argTypes := ts } -> False)
  (hm : isMake o.op = false) (hsb : isS2B E.P o.op = false) (hv : (semV E objs o.op (evA tmps)).eval = some v) : Sem1 E B o tmps objs v none := by
 obtain ⟨dst, op, type, pos, after, guard⟩ := o
 cases op <;> simp [isMake] at hm <;> first | exact ⟨hv, rfl⟩ | skip
 case convert s d x =>
  simp only at hsb
  unfold Sem1
  simp only [isMake, hsb]
  exact ⟨hv, trivial⟩
 rename_i c
 obtain ⟨callee, args, ts⟩ := c
 cases callee with
 | value f => exact (h3 _ _ _ rfl).elim
 | invoke r m => exact ⟨hv, rfl⟩
 | builtin b => exact ⟨hv, rfl⟩
theorem Sem1_s2b {o : Oper} {tmps : List A} {objs : List Ob} {d : Nat} {ob : Ob} (hsb : isS2B E.P o.op = true) (hd : o.dst = some d) (hs : (s2bA E.P o.op (evA tmps)).eval = some ob) :
  Sem1 E B o tmps objs (frzV E.frz B d (true, ob)).1 (some (frzV E.frz B d (true, ob)).2) := by
 obtain ⟨dst, op, type, pos, after, guard⟩ := o
 cases op with
 | convert s t x =>
  simp only at hsb
  unfold Sem1
  simp only [isMake, hsb]
  exact ⟨d, ob, hd, hs, rfl, rfl⟩
 | _ => cases hsb
theorem endK_sat {kn : List (Nat × Bool)} {st : St} {dst : Option Tmp} (h : OSat K C (endK kn dst st)) : K (eraseK kn dst) st := by
 unfold endK at h
 rw [eraseC_eq] at h
 cases h; assumption
def CallAt (o : Oper) (ts : List A) (f : A) (args : List A) : Prop := ∃ c as tys, o.op = .call ⟨.value c, as, tys⟩ /\ f = evA ts c /\ args = mapEv (evA ts) as.toList
theorem execK_sat {st : St} {kn : List (Nat × Bool)} {o : Oper} (hk : KnOK kn st.tmps) (h : OSat K C (execK E B F st kn o)) :
  (∃ st', ExecP E B F o st st' /\ (∃ x, st'.tmps = putT st.tmps o.dst x) /\ K (eraseK kn o.dst) st') \/ (∃ f args, CallAt o st.tmps f args /\ C kn st o.dst f args) := by
 obtain ⟨dst, op, type, pos, after, guard⟩ := o
 obtain ⟨ts, os⟩ := st
 unfold execK at h
 simp only at h hk ⊢
 split at h
 ·rename_i t a x
  obtain ⟨r, hr, h⟩ := T.go_sat h
  rw [setO_eq, putK_eq] at h
  exact .inl ⟨_, by simp only [ExecP, cls, Sem2]; exact ⟨r, hr, rfl⟩, ⟨_, rfl⟩, endK_sat h⟩
 ·rename_i x t
  obtain ⟨r, hr, h⟩ := T.go_sat h
  rw [setO_eq, putK_eq] at h
  exact .inl ⟨_, by simp only [ExecP, cls, Sem2]; exact ⟨r, hr, rfl⟩, ⟨_, rfl⟩, endK_sat h⟩
 ·rename_i x y t t'
  obtain ⟨r, hr, h⟩ := T.go_sat h
  rw [setO_eq, putK_eq] at h
  exact .inl ⟨_, by simp only [ExecP, cls, Sem2]; exact ⟨r, hr, rfl⟩, ⟨_, rfl⟩, endK_sat h⟩
 ·rename_i x y t t'
  split at h
  ·rename_i d
   obtain ⟨r, hr, h⟩ := T.go_sat h
   obtain ⟨kill, ob⟩ := r
   cases kill with
   | none =>
    obtain ⟨hv, h⟩ := makeK_sat h
    exact .inl ⟨_, by simp only [ExecP, cls, Sem2]; exact ⟨_, d, rfl, hr, hv, rfl⟩, ⟨_, rfl⟩, endK_sat h⟩
   | some id =>
    simp only at h
    rw [setO_eq] at h
    obtain ⟨hv, h⟩ := makeK_sat h
    exact .inl ⟨_, by simp only [ExecP, cls, Sem2]; exact ⟨_, d, rfl, hr, hv, rfl⟩, ⟨_, rfl⟩, endK_sat h⟩
  ·cases h
 ·rename_i m q t tk
  obtain ⟨r, hr, h⟩ := T.go_sat h
  rw [setO_eq, putK_eq] at h
  exact .inl ⟨_, by simp only [ExecP, cls, Sem2]; exact ⟨r, hr, rfl⟩, ⟨_, rfl⟩, endK_sat h⟩
 ·rename_i t r
  split at h
  ·rename_i d
   split at h
   ·rename_i ob hr
    obtain ⟨hv, h⟩ := makeK_sat h
    exact .inl ⟨_, by simp only [ExecP, cls, Sem2]; exact ⟨_, d, rfl, hr, hv, rfl⟩, ⟨_, rfl⟩, endK_sat h⟩
   ·cases h
  ·cases h
 ·rename_i t m q x
  obtain ⟨r, hr, h⟩ := T.go_sat h
  rw [setO_eq, putK_eq] at h
  exact .inl ⟨_, by simp only [ExecP, cls, Sem2]; exact ⟨r, hr, rfl⟩, ⟨_, rfl⟩, endK_sat h⟩
 ·rename_i t m q x
  obtain ⟨r, hr, h⟩ := T.go_sat h
  rw [setO_eq, putK_eq] at h
  exact .inl ⟨_, by simp only [ExecP, cls, Sem2]; exact ⟨r, hr, rfl⟩, ⟨_, rfl⟩, endK_sat h⟩
 ·rename_i f args ts
  cases h with
  | call h => exact .inr ⟨_, _, ⟨_, _, _, rfl, rfl, rfl⟩, h⟩
 ·rename_i c a b
  have key : ∀ v, (semV E (maskO (foM B F ⟨dst, .pick (.tmp c) a b, type, pos, after, guard⟩) os) (.pick (.tmp c) a b) (evA ts)).eval = some v -> OSat K C (putK ⟨ts, os⟩ dst v (endK kn dst)) ->
    ∃ st', ExecP E B F ⟨dst, .pick (.tmp c) a b, type, pos, after, guard⟩ ⟨ts, os⟩ st' /\ (∃ x, st'.tmps = putT ts dst x) /\ K (eraseK kn dst) st' := by
   intro v hv h
   rw [putK_eq] at h
   exact ⟨_, by simp only [ExecP, cls]; exact ⟨v, none, ⟨hv, rfl⟩, rfl⟩, ⟨_, rfl⟩, endK_sat h⟩
  left
  split at h
  ·rename_i hl
   exact key _ (by simp only [semV, evA, hk c true hl, T.eval]) h
  ·rename_i hl
   exact key _ (by simp only [semV, evA, hk c false hl, T.eval]) h
  ·obtain ⟨v, hv, h⟩ := T.go_sat h
   exact key v hv h
 ·rename_i h1 h1' h2 g1 g2 g3 g4 g5 h3 h4
  left
  cases hm : isMake op with
  | true =>
   rw [hm] at h
   simp only at h
   split at h
   ·rename_i d
    obtain ⟨⟨rw_, ob⟩, hso, h⟩ := T.go_sat h
    rw [forceO_eq] at h
    obtain ⟨hv, h⟩ := makeK_sat h
    refine ⟨_, ?_, ⟨_, rfl⟩, endK_sat h⟩
    unfold ExecP
    have hc : cls op = 1 := by cases op <;> simp [isMake] at hm <;> rfl
    simp only [hc]
    exact ⟨_, some (frzV E.frz B d (rw_, ob)).2, Sem1_make (o := ⟨some d, op, type, pos, after, guard⟩) hm rfl hso, d, rfl, hv, rfl⟩
   ·cases h
  | false =>
   rw [hm] at h
   simp only at h
   cases hsb : isS2B E.P op with
   | true =>
    rw [hsb] at h
    simp only at h
    split at h
    ·rename_i d
     obtain ⟨ob, hso, h⟩ := T.go_sat h
     obtain ⟨hv, h⟩ := makeK_sat h
     refine ⟨_, ?_, ⟨_, rfl⟩, endK_sat h⟩
     unfold ExecP
     have hc : cls op = 1 := by cases op <;> first | rfl | cases hsb
     simp only [hc]
     exact ⟨_, some (frzV E.frz B d (true, ob)).2, Sem1_s2b (o := ⟨some d, op, type, pos, after, guard⟩) hsb rfl hso, d, rfl, hv, rfl⟩
    ·cases h
   | false =>
   rw [hsb] at h
   simp only at h
   obtain ⟨v, hv, h⟩ := T.go_sat h
   rw [putK_eq] at h
   refine ⟨_, ?_, ⟨_, rfl⟩, endK_sat h⟩
   unfold ExecP
   simp only
   split
   ·rename_i hc
    rw [semV_cls2 hc] at hv
    cases hv
   ·exact ⟨v, none, Sem1_val (o := ⟨dst, op, type, pos, after, guard⟩) h3 hm hsb hv, rfl⟩
theorem guardK_sat {b want : Bool} {x y : OT} (h : OSat K C (guardK b want x y)) : ((b == want) = true /\ OSat K C x) \/ ((b == want) = false /\ OSat K C y) := by
 cases b <;> cases want <;> first | exact .inl ⟨rfl, h⟩ | exact .inr ⟨rfl, h⟩
theorem execF_sat {ops : List Oper} {st : St} {kn : List (Nat × Bool)} {o : Oper} (h : OSat K C (execF E B F ops st kn o)) : freshOK B F ops st.tmps o = true /\ slOK F ops st.tmps o = true /\ OSat K C (execK E B F st kn o) := by
 obtain ⟨ts, os⟩ := st
 unfold execF at h
 simp only at h
 split at h
 ·rename_i hf
  split at h
  ·rename_i hs; exact ⟨hf, hs, h⟩
  ·cases h
 ·cases h
theorem stepK_sat {ops : List Oper} {st : St} {kn : List (Nat × Bool)} {o : Oper} (hk : KnOK kn st.tmps) (h : OSat K C (stepK E B F ops st kn o)) :
  (∃ st' kn', Step E B F ops o st st' /\ KnOK kn' st'.tmps /\ K kn' st') \/ (∃ kn' f args, guardO ops st.tmps o = some true /\ KnOK kn' st.tmps /\ CallAt o st.tmps f args /\ C kn' st o.dst f args) := by
 have ex1 : ∀ kn, KnOK kn st.tmps -> guardO ops st.tmps o = some true -> OSat K C (execF E B F ops st kn o) ->
   (∃ st' kn', Step E B F ops o st st' /\ KnOK kn' st'.tmps /\ K kn' st') \/ (∃ kn' f args, guardO ops st.tmps o = some true /\ KnOK kn' st.tmps /\ CallAt o st.tmps f args /\ C kn' st o.dst f args) := by
  intro kn hk hg h
  obtain ⟨hfr, hsl, h⟩ := execF_sat h
  rcases execK_sat hk h with ⟨st', h1, ⟨x, hx⟩, h2⟩ | ⟨f, args, h1, h2⟩
  ·refine .inl ⟨st', _, ?_, ?_, h2⟩
   ·unfold Step; rw [hg]
    unfold ExecP at h1
    simp only
    split
    ·rename_i hc
     rw [hc] at h1
     exact ⟨hfr, h1⟩
    ·rename_i hc
     split at h1
     ·rename_i hc'; exact (hc hc').elim
     ·exact ⟨hsl, h1⟩
   ·rw [hx]; exact hk.erase _ _
  ·exact .inr ⟨kn, f, args, hg, hk, h1, h2⟩
 have ex0 : ∀ kn, KnOK kn st.tmps -> guardO ops st.tmps o = some false -> OSat K C (putK st o.dst (.tup []) (endK kn o.dst)) ->
   (∃ st' kn', Step E B F ops o st st' /\ KnOK kn' st'.tmps /\ K kn' st') \/ (∃ kn' f args, guardO ops st.tmps o = some true /\ KnOK kn' st.tmps /\ CallAt o st.tmps f args /\ C kn' st o.dst f args) := by
  intro kn hk hg h
  rw [putK_eq] at h
  refine .inl ⟨_, _, ?_, hk.erase _ _, endK_sat h⟩
  unfold Step; rw [hg]
 obtain ⟨ts, os⟩ := st
 unfold stepK at h
 simp only at h
 split at h
 ·rename_i hg
  exact ex1 kn hk (by simp [guardO, hg]) h
 ·rename_i j want hg
  have both : ∀ (b : Bool) kn, KnOK kn ts -> guardO ops ts o = some (b == want) ->
    OSat K C (guardK b want (execF E B F ops ⟨ts, os⟩ kn o) (putK ⟨ts, os⟩ o.dst (.tup []) (endK kn o.dst))) ->
    (∃ st' kn', Step E B F ops o ⟨ts, os⟩ st' /\ KnOK kn' st'.tmps /\ K kn' st') \/ (∃ kn' f args, guardO ops ts o = some true /\ KnOK kn' ts /\ CallAt o ts f args /\ C kn' ⟨ts, os⟩ o.dst f args) := by
   intro b kn hk hgo h
   rcases guardK_sat h with ⟨e, h⟩ | ⟨e, h⟩
   ·exact ex1 kn hk (by rw [hgo, e]) h
   ·exact ex0 kn hk (by rw [hgo, e]) h
  split at h
  ·rename_i b d hga
   have hd : getA ts d = .bool b := by
    unfold guardA at hga
    split at hga
    ·split at hga
     ·split at hga <;> simp at hga
      obtain ⟨rfl, rfl⟩ := hga
      assumption
     ·cases hga
    ·cases hga
   split at h
   ·rename_i v hl
    have hv := hk d v hl
    rw [hd] at hv
    cases hv
    exact both b kn hk (by simp [guardO, hg, hga]) h
   ·have := OSat.ite_inv h
    cases b with
    | true => exact both true _ (hk.cons hd) (by simp [guardO, hg, hga]) this
    | false => exact both false _ (hk.cons hd) (by simp [guardO, hg, hga]) this
  ·rename_i b hga
   exact both b kn hk (by simp [guardO, hg, hga]) h
  ·rename_i hga
   exact ex0 kn hk (by simp [guardO, hg, hga]) h
  ·cases h
end
end Go.Sy
