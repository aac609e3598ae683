import Derived.Test.YtggjngbighkdgaaGreatE02
set_option linter.unusedSimpArgs false
set_option linter.unusedSectionVars false
set_option linter.unusedVariables false
namespace Go.Sy
section
variable {E : Env} {B : Nat} {F : List Nat}
theorem setL_comm {α : Type} : ∀ (l : List α) (i j : Nat) (x y : α), i ≠ j -> setL (setL l i x) j y = setL (setL l j y) i x
 | [], i, j, x, y, h => rfl
 | a :: l, 0, 0, x, y, h => (h rfl).elim
 | a :: l, 0, j + 1, x, y, h => rfl
 | a :: l, i + 1, 0, x, y, h => rfl
 | a :: l, i + 1, j + 1, x, y, h => by simp only [setL]; rw [setL_comm l i j x y (by omega)]
theorem setX_setX : ∀ (l : List Ob) (i : Nat) (x y : Ob), setX (setX l i x) i y = setX l i y
 | [], 0, x, y => rfl
 | [], i + 1, x, y => by simp only [setX]; rw [setX_setX [] i x y]
 | a :: l, 0, x, y => rfl
 | a :: l, i + 1, x, y => by simp only [setX]; rw [setX_setX l i x y]
theorem setX_comm : ∀ (l : List Ob) (i j : Nat) (x y : Ob), i ≠ j -> setX (setX l i x) j y = setX (setX l j y) i x
 | [], 0, 0, x, y, h => (h rfl).elim
 | [], 0, j + 1, x, y, h => rfl
 | [], i + 1, 0, x, y, h => rfl
 | [], i + 1, j + 1, x, y, h => by simp only [setX]; rw [setX_comm [] i j x y (by omega)]
 | a :: l, 0, 0, x, y, h => (h rfl).elim
 | a :: l, 0, j + 1, x, y, h => rfl
 | a :: l, i + 1, 0, x, y, h => rfl
 | a :: l, i + 1, j + 1, x, y, h => by simp only [setX]; rw [setX_comm l i j x y (by omega)]
theorem mask_set : ∀ (F : List Nat) (os : List Ob) (d : Nat) (x : Ob), d ∈ F -> maskO F (setX os d x) = maskO F os
 | [], os, d, x, h => by cases h
 | f :: F, os, d, x, h => by
  simp only [maskO]
  by_cases hf : d ∈ F
  ·rw [mask_set F os d x hf]
  ·have hd : d = f := by
    rcases List.mem_cons.1 h with h | h
    ·exact h
    ·exact (hf h).elim
   subst hd
   have key : ∀ (F : List Nat) (os : List Ob), d ∉ F -> setX (maskO F (setX os d x)) d .dead = setX (maskO F os) d .dead := by
    intro F
    induction F with
    | nil => intro os _; simp only [maskO, setX_setX]
    | cons g F ih =>
     intro os hn
     simp only [maskO]
     have hg : g ≠ d := fun e => hn (by rw [e]; exact List.mem_cons_self)
     rw [setX_comm _ g d _ _ hg, ih os (fun h => hn (List.mem_cons_of_mem _ h)), setX_comm _ d g _ _ (Ne.symm hg)]
   exact key F os hf
theorem mem_tmpsOf : ∀ {l : List Operand} {t : Nat}, Operand.tmp t ∈ l -> t ∈ tmpsOf l
 | x :: l, t, h => by
  rcases List.mem_cons.1 h with h | h
  ·subst h; exact List.mem_cons_self
  ·have := mem_tmpsOf h
   cases x <;> simp only [tmpsOf] <;> first | exact this | exact List.mem_cons_of_mem _ this
theorem evA_congr {ts ts' : List A} {l : List Operand} (h : ∀ t ∈ tmpsOf l, getA ts t = getA ts' t) {x : Operand} (hx : x ∈ l) : evA ts x = evA ts' x := by
 cases x with
 | tmp t => exact h t (mem_tmpsOf hx)
 | _ => rfl
theorem mapEv_congr {ev ev' : Operand -> A} : ∀ {l : List Operand}, (∀ x ∈ l, ev x = ev' x) -> mapEv ev l = mapEv ev' l
 | [], _ => rfl
 | x :: l, h => by simp only [mapEv]; rw [h x List.mem_cons_self, mapEv_congr fun y hy => h y (List.mem_cons_of_mem _ hy)]
theorem mapEvP_congr {ev ev' : Operand -> A} : ∀ {l : List (Nat × Operand)}, (∀ x ∈ l.map (·.2), ev x = ev' x) -> mapEvP ev l = mapEvP ev' l
 | [], _ => rfl
 | (i, x) :: l, h => by simp only [mapEvP]; rw [h x (by simp), mapEvP_congr fun y hy => h y (by simp only [List.map_cons]; exact List.mem_cons_of_mem _ hy)]
theorem mapEvO_congr {ev ev' : Operand -> A} {x : Option Operand} (h : ∀ y, x = some y -> ev y = ev' y) : mapEvO ev x = mapEvO ev' x := by
 cases x with
 | none => rfl
 | some x => simp only [mapEvO]; rw [h x rfl]
theorem semV_congr {objs : List Ob} {op : Op} {ev ev' : Operand -> A} (h : ∀ x ∈ op.operands.toList, ev x = ev' x) : semV E objs op ev = semV E objs op ev' := by
 cases op with
 | lookup t m q ok => simp only [semV]; rw [h m (by simp [Op.operands]), h q (by simp [Op.operands])]
 | move x => simp only [semV]; rw [h x (by simp [Op.operands])]
 | assign x => simp only [semV]; rw [h x (by simp [Op.operands])]
 | pick c a b => simp only [semV]; rw [h c (by simp [Op.operands]), h a (by simp [Op.operands]), h b (by simp [Op.operands])]
 | build t parts => simp only [semV]; rw [mapEvP_congr (ev' := ev') fun x hx => h x (by simpa [Op.operands] using hx)]
 | load t a => simp only [semV]; rw [h a (by simp [Op.operands])]
 | binOp op t x y yt => simp only [semV]; rw [h x (by simp [Op.operands]), h y (by simp [Op.operands])]
 | unOp op t x => simp only [semV]; rw [h x (by simp [Op.operands])]
 | convert s d x => simp only [semV]; rw [h x (by simp [Op.operands])]
 | makeFunc fn first caps =>
  cases fn with
  | func f =>
   obtain ⟨first⟩ := first
   cases first with
   | nil => simp only [semV]; rw [mapEv_congr (ev' := ev') fun x hx => h x (by simpa [Op.operands] using hx)]
   | cons x l =>
    cases l with
    | cons y l => rfl
    | nil =>
     obtain ⟨caps⟩ := caps
     cases caps with
     | cons y l => rfl
     | nil => simp only [semV]; rw [h x (by simp [Op.operands])]
  | _ => rfl
 | slice t x lo hi mx =>
  cases mx with
  | none =>
   simp only [semV]
   rw [h x (by simp [Op.operands]), mapEvO_congr (ev' := ev') fun y hy => h y (by subst hy; simp [Op.operands]), mapEvO_congr (ev' := ev') (x := hi) fun y hy => h y (by subst hy; simp [Op.operands])]
  | some m =>
   cases lo with
   | some l => rfl
   | none =>
    cases hi with
    | none => rfl
    | some hh => simp only [semV]; rw [h x (by simp [Op.operands]), h hh (by simp [Op.operands]), h m (by simp [Op.operands])]
 | fieldAddr s x f => simp only [semV]; rw [h x (by simp [Op.operands])]
 | indexAddr t x i => simp only [semV]; rw [h x (by simp [Op.operands]), h i (by simp [Op.operands])]
 | index t x i => simp only [semV]; rw [h x (by simp [Op.operands]), h i (by simp [Op.operands])]
 | field t x f => simp only [semV]; rw [h x (by simp [Op.operands])]
 | extract x i => simp only [semV]; rw [h x (by simp [Op.operands])]
 | nilCheck x => simp only [semV]; rw [h x (by simp [Op.operands])]
 | call c =>
  obtain ⟨callee, ⟨args⟩, ⟨ts⟩⟩ := c
  cases callee with
  | value f => rfl
  | invoke r m => rfl
  | builtin b =>
   have hl : ∀ x ∈ args, ev x = ev' x := fun x hx => h x (by simp [Op.operands, Call.operands, hx])
   cases b with
   | len =>
    match args, ts, hl with
    | [x], [t], hl => simp only [semV]; rw [hl x (by simp)]
    | [], _, _ => rfl
    | _ :: _ :: _, _, _ => rfl
    | [_], [], _ => rfl
    | [_], _ :: _ :: _, _ => rfl
   | min => simp only [semV]; rw [mapEv_congr hl]
   | max => simp only [semV]; rw [mapEv_congr hl]
   | _ => rfl
 | _ => rfl
theorem semV_cls0 {objs objs' : List Ob} {op : Op} {ev : Operand -> A} (h : cls op = 0) : semV E objs op ev = semV E objs' op ev := by
 cases op with
 | call c =>
  obtain ⟨callee, args, ts⟩ := c
  cases callee with
  | value f => simp [cls] at h
  | invoke r m => simp [cls] at h
  | builtin b => cases b <;> simp [cls] at h
 | makeFunc fn first caps =>
  obtain ⟨first⟩ := first
  obtain ⟨caps⟩ := caps
  cases fn <;> rcases first with _ | ⟨x, _ | ⟨y, first⟩⟩ <;> cases caps <;> rfl
 | slice t x lo hi mx => simp [cls] at h
 | convert s d x => simp [cls] at h
 | load t a => simp [cls] at h
 | lookup t m q ok => simp [cls] at h
 | indexAddr t x i => simp [cls] at h
 | _ => rfl
theorem semO_congr {op : Op} {ev ev' : Operand -> A} (h : ∀ x ∈ op.operands.toList, ev x = ev' x) : semO E op ev = semO E op ev' := by
 cases op with
 | box t x => simp only [semO]; rw [h x (by simp [Op.operands])]
 | buildSlice t len parts =>
  cases len with
  | zero => rfl
  | succ len => simp only [semO]; rw [mapEvP_congr (ev' := ev') fun x hx => h x (by simpa [Op.operands] using hx)]
 | makeSlice t l c => simp only [semO]; rw [h l (by simp [Op.operands]), h c (by simp [Op.operands])]
 | _ => rfl
theorem Sem1_congr {o : Oper} {ts ts' : List A} {mo : List Ob} {v : A} {ob : Option Ob} (h : ∀ t ∈ tmpsOf o.op.operands.toList, getA ts t = getA ts' t) (hs : Sem1 E B o ts mo v ob) : Sem1 E B o ts' mo v ob := by
 have hev : ∀ x ∈ o.op.operands.toList, evA ts x = evA ts' x := fun x hx => evA_congr h hx
 have hV := semV_congr (E := E) (objs := mo) hev
 have hO := semO_congr (E := E) hev
 obtain ⟨dst, op, type, pos, after, guard⟩ := o
 simp only at hev hV hO
 cases op with
 | call c =>
  obtain ⟨callee, args, tys⟩ := c
  cases callee with
  | value f =>
   obtain ⟨g, vals, cl, r, d, h1, h2⟩ := hs
   refine ⟨g, vals, cl, r, d, ?_, h2⟩
   have hf : evA ts f = evA ts' f := hev f (by simp [Op.operands, Call.operands])
   have ha : mapEv (evA ts) args.toList = mapEv (evA ts') args.toList := mapEv_congr fun x hx => hev x (by simp [Op.operands, Call.operands]; exact .inr (by simpa using hx))
   rw [<- hf, <- ha]
   exact h1
  | invoke r m => exact ⟨hV ▸ hs.1, hs.2⟩
  | builtin b => exact ⟨hV ▸ hs.1, hs.2⟩
 | box t x => obtain ⟨d, rw_, x, h1, h2, h3⟩ := hs; exact ⟨d, rw_, x, h1, hO ▸ h2, h3⟩
 | alloc t => obtain ⟨d, rw_, x, h1, h2, h3⟩ := hs; exact ⟨d, rw_, x, h1, hO ▸ h2, h3⟩
 | buildSlice t len parts => obtain ⟨d, rw_, x, h1, h2, h3⟩ := hs; exact ⟨d, rw_, x, h1, hO ▸ h2, h3⟩
 | makeSlice t l c => obtain ⟨d, rw_, x, h1, h2, h3⟩ := hs; exact ⟨d, rw_, x, h1, hO ▸ h2, h3⟩
 | convert s t x =>
  unfold Sem1 at hs ⊢
  simp only [isMake] at hs ⊢
  cases hsb : isS2B E.P (.convert s t x) with
  | true =>
   rw [hsb] at hs
   simp only at hs ⊢
   obtain ⟨d, r, h1, h2, h3⟩ := hs
   refine ⟨d, r, h1, ?_, h3⟩
   simp only [s2bA] at h2 ⊢
   rw [<- hev x (by simp [Op.operands])]; exact h2
  | false =>
   rw [hsb] at hs
   simp only at hs ⊢
   exact ⟨hV ▸ hs.1, hs.2⟩
 | _ => exact ⟨hV ▸ hs.1, hs.2⟩
theorem Sem1_cls0 {o : Oper} {ts : List A} {mo mo' : List Ob} {v : A} {ob : Option Ob} (h : cls o.op = 0) (hs : Sem1 E B o ts mo v ob) : Sem1 E B o ts mo' v ob /\ ob = none := by
 have hV := semV_cls0 (E := E) (objs := mo) (objs' := mo') (ev := evA ts) h
 obtain ⟨dst, op, type, pos, after, guard⟩ := o
 simp only at h hV
 cases op with
 | call c =>
  obtain ⟨callee, args, tys⟩ := c
  cases callee with
  | value f => simp [cls] at h
  | invoke r m => simp [cls] at h
  | builtin b => exact ⟨⟨hV ▸ hs.1, hs.2⟩, hs.2⟩
 | box t x => simp [cls] at h
 | alloc t => simp [cls] at h
 | buildSlice t len parts => simp [cls] at h
 | makeSlice t l c => simp [cls] at h
 | convert s d x => simp [cls] at h
 | _ => exact ⟨⟨hV ▸ hs.1, hs.2⟩, hs.2⟩
theorem Sem1_made {o : Oper} {ts : List A} {mo : List Ob} {v : A} {x : Ob} (hs : Sem1 E B o ts mo v (some x)) : cls o.op = 1 := by
 obtain ⟨dst, op, type, pos, after, guard⟩ := o
 cases op with
 | call c =>
  obtain ⟨callee, args, tys⟩ := c
  cases callee with
  | value f => rfl
  | invoke r m => cases hs.2
  | builtin b => cases hs.2
 | box t x => rfl
 | alloc t => rfl
 | buildSlice t len parts => rfl
 | makeSlice t l c => rfl
 | convert s d x => rfl
 | _ => cases hs.2
def S2 (E : Env) (B : Nat) (o : Oper) (ts : List A) (os : List Ob) (y : A) (os' : List Ob) : Prop :=
 match o.op with
 | .store t a x => ∃ r, (storeA E.P os t (evA ts a) (evA ts x)).eval = some r /\ y = .tup [] /\ os' = setX os r.1 r.2
 | .call ⟨.builtin .clear, ⟨[x]⟩, ⟨[t]⟩⟩ => ∃ r, (clearA E.P os t (evA ts x)).eval = some r /\ y = .tup [] /\ os' = setX os r.1 r.2
 | .call ⟨.builtin .copy, ⟨[x, z]⟩, ⟨[t, t']⟩⟩ => ∃ r, (copyA E.P os t t' (evA ts x) (evA ts z)).eval = some r /\ y = .int .i64 (r.2.2 : Nat) /\ os' = setX os r.1 r.2.1
 | .call ⟨.builtin .append, ⟨[x, z]⟩, ⟨[t, t']⟩⟩ => ∃ r d, o.dst = some d /\ (appendA E.P os t t' (evA ts x) (evA ts z)).eval = some r /\ getO (killO os r.1) (B + d) = .virgin /\ y = .own (B + d) /\ os' = setX (killO os r.1) (B + d) r.2
 | .call ⟨.builtin .delete, ⟨[m, q]⟩, ⟨[t, _]⟩⟩ => ∃ r, (updA E os t (evA ts m) (evA ts q) none).eval = some r /\ y = .tup [] /\ os' = setX os r.1 r.2
 | .mapUpdate t m q x => ∃ r, (updA E os t (evA ts m) (evA ts q) (some (evA ts x))).eval = some r /\ y = .tup [] /\ os' = setX os r.1 r.2
 | .insert t m q x => ∃ r, (updA E os t (evA ts m) (evA ts q) (some (evA ts x))).eval = some r /\ y = .tup [] /\ os' = setX os r.1 r.2
 | .makeMap t r => ∃ ob d, o.dst = some d /\ mkMapA E t (mapEvO (evA ts) r) = some ob /\ getO os (B + d) = .virgin /\ y = .yld (B + d) /\ os' = setX os (B + d) ob
 | _ => False
theorem Sem2_iff {o : Oper} {st st' : St} : Sem2 E B o st st' ↔ ∃ y os', S2 E B o st.tmps st.objs y os' /\ st' = ⟨putT st.tmps o.dst y, os'⟩ := by
 obtain ⟨dst, op, type, pos, after, guard⟩ := o
 simp only [Sem2, S2]
 split
 ·constructor
  ·rintro ⟨r, h, rfl⟩; exact ⟨_, _, ⟨r, h, rfl, rfl⟩, rfl⟩
  ·rintro ⟨y, os', ⟨r, h, rfl, rfl⟩, rfl⟩; exact ⟨r, h, rfl⟩
 ·constructor
  ·rintro ⟨r, h, rfl⟩; exact ⟨_, _, ⟨r, h, rfl, rfl⟩, rfl⟩
  ·rintro ⟨y, os', ⟨r, h, rfl, rfl⟩, rfl⟩; exact ⟨r, h, rfl⟩
 ·constructor
  ·rintro ⟨r, h, rfl⟩; exact ⟨_, _, ⟨r, h, rfl, rfl⟩, rfl⟩
  ·rintro ⟨y, os', ⟨r, h, rfl, rfl⟩, rfl⟩; exact ⟨r, h, rfl⟩
 ·constructor
  ·rintro ⟨r, d, rfl, h3, h4, rfl⟩; exact ⟨_, _, ⟨r, d, rfl, h3, h4, rfl, rfl⟩, rfl⟩
  ·rintro ⟨y, os', ⟨r, d, rfl, h3, h4, rfl, rfl⟩, rfl⟩; exact ⟨r, d, rfl, h3, h4, rfl⟩
 ·constructor
  ·rintro ⟨r, h, rfl⟩; exact ⟨_, _, ⟨r, h, rfl, rfl⟩, rfl⟩
  ·rintro ⟨y, os', ⟨r, h, rfl, rfl⟩, rfl⟩; exact ⟨r, h, rfl⟩
 ·constructor
  ·rintro ⟨r, h, rfl⟩; exact ⟨_, _, ⟨r, h, rfl, rfl⟩, rfl⟩
  ·rintro ⟨y, os', ⟨r, h, rfl, rfl⟩, rfl⟩; exact ⟨r, h, rfl⟩
 ·constructor
  ·rintro ⟨r, h, rfl⟩; exact ⟨_, _, ⟨r, h, rfl, rfl⟩, rfl⟩
  ·rintro ⟨y, os', ⟨r, h, rfl, rfl⟩, rfl⟩; exact ⟨r, h, rfl⟩
 ·constructor
  ·rintro ⟨ob, d, rfl, h3, h4, rfl⟩; exact ⟨_, _, ⟨ob, d, rfl, h3, h4, rfl, rfl⟩, rfl⟩
  ·rintro ⟨y, os', ⟨ob, d, rfl, h3, h4, rfl, rfl⟩, rfl⟩; exact ⟨ob, d, rfl, h3, h4, rfl⟩
 ·rename_i h1 h1' h1c h2 g1 g2 g3 g5
  constructor
  ·intro h; exact h.elim
  ·rintro ⟨_, _, h, _⟩
   split at h
   ·exact h1 _ _ _ rfl
   ·exact h1' _ _ rfl
   ·exact h1c _ _ _ _ rfl
   ·exact h2 _ _ _ _ rfl
   ·exact g1 _ _ _ _ rfl
   ·exact g2 _ _ _ _ rfl
   ·exact g3 _ _ _ _ rfl
   ·exact g5 _ _ rfl
   ·exact h.elim
theorem S2_congr {o : Oper} {ts ts' : List A} {os os' : List Ob} {y : A} (h : ∀ t ∈ tmpsOf o.op.operands.toList, getA ts t = getA ts' t) (hs : S2 E B o ts os y os') : S2 E B o ts' os y os' := by
 have hev : ∀ x ∈ o.op.operands.toList, evA ts x = evA ts' x := fun x hx => evA_congr h hx
 unfold S2 at hs ⊢
 split at hs
 ·rename_i t a x hop
  rw [hop] at hev
  rw [<- hev a (by simp [Op.operands]), <- hev x (by simp [Op.operands])]
  exact hs
 ·rename_i x t hop
  rw [hop] at hev
  rw [<- hev x (by simp [Op.operands, Call.operands])]
  exact hs
 ·rename_i x z t t' hop
  rw [hop] at hev
  rw [<- hev x (by simp [Op.operands, Call.operands]), <- hev z (by simp [Op.operands, Call.operands])]
  exact hs
 ·rename_i x z t t' hop
  rw [hop] at hev
  rw [<- hev x (by simp [Op.operands, Call.operands]), <- hev z (by simp [Op.operands, Call.operands])]
  exact hs
 ·rename_i m q t tk hop
  rw [hop] at hev
  rw [<- hev m (by simp [Op.operands, Call.operands]), <- hev q (by simp [Op.operands, Call.operands])]
  exact hs
 ·rename_i t m q x hop
  rw [hop] at hev
  rw [<- hev m (by simp [Op.operands]), <- hev q (by simp [Op.operands]), <- hev x (by simp [Op.operands])]
  exact hs
 ·rename_i t m q x hop
  rw [hop] at hev
  rw [<- hev m (by simp [Op.operands]), <- hev q (by simp [Op.operands]), <- hev x (by simp [Op.operands])]
  exact hs
 ·rename_i t r hop
  rw [hop] at hev
  rw [<- mapEvO_congr (fun y hy => hev y (by subst hy; simp [Op.operands]))]
  exact hs
 ·exact hs.elim
theorem guardO_congr {ops : List Oper} {o : Oper} {ts ts' : List A} (h : ∀ t ∈ readsOf ops o, getA ts t = getA ts' t) : guardO ops ts o = guardO ops ts' o := by
 unfold guardO
 split
 ·rfl
 ·rename_i j want hg
  have : guardA ops ts j = guardA ops ts' j := by
   unfold guardA
   cases hd : dropN j ops with
   | nil => rfl
   | cons g rest =>
    cases hdst : g.dst with
    | none => simp only [hdst]
    | some d =>
     have hm : d ∈ readsOf ops o := by
      unfold readsOf
      rw [hg]
      simp only [hd, hdst]
      simp
     simp only [hdst, h d hm]
  rw [this]
def Gen (E : Env) (B : Nat) (F : List Nat) (ops : List Oper) (o : Oper) (ts : List A) (mo : List Ob) (v : A) (ob : Option Ob) : Prop :=
 (guardO ops ts o = some false /\ v = .tup [] /\ ob = none) \/ (guardO ops ts o = some true /\ slOK F ops ts o = true /\ Sem1 E B o ts mo v ob)
def Put (B : Nat) (o : Oper) (st : St) (v : A) (ob : Option Ob) (st' : St) : Prop :=
 match ob with
 | none => st' = ⟨putT st.tmps o.dst v, st.objs⟩
 | some x => ∃ d, o.dst = some d /\ getO st.objs (B + d) = .virgin /\ st' = ⟨setL st.tmps d v, setX st.objs (B + d) x⟩
theorem memB_f {B : Nat} : ∀ {ts : List Nat} {d : Nat}, d ∉ ts -> memB B ts (B + d) = false
 | [], d, _ => rfl
 | t :: ts, d, h => by
  simp only [List.mem_cons, not_or] at h
  simp only [memB, Bool.or_eq_false_iff]
  refine ⟨?_, memB_f h.2⟩
  rw [<- Bool.not_eq_true, Nat.beq_eq]
  omega
theorem mem_delF {B : Nat} {ts : List Nat} {d : Nat} (hd : d ∉ ts) : ∀ {F : List Nat}, B + d ∈ F -> B + d ∈ delF B F ts
 | [], h => by cases h
 | s :: F, h => by
  unfold delF
  rcases List.mem_cons.1 h with rfl | h
  ·rw [memB_f hd]; exact List.mem_cons_self ..
  ·split
   ·exact mem_delF hd h
   ·exact List.mem_cons_of_mem _ (mem_delF hd h)
theorem mem_foM {B : Nat} {F : List Nat} {ops : List Oper} {o : Oper} {d : Nat} (h : B + d ∈ F) (hd : d ∉ readsOf ops o) : B + d ∈ foM B F o := by
 unfold foM
 cases F with
 | nil => cases h
 | cons s F => exact mem_delF (fun e => hd (by unfold readsOf; exact List.mem_append_left _ e)) h
theorem Step_iff1 {ops : List Oper} {o : Oper} {st st' : St} (hc : cls o.op ≠ 2) : Step E B F ops o st st' ↔ ∃ v ob, Gen E B F ops o st.tmps (maskO (foM B F o) st.objs) v ob /\ Put B o st v ob st' := by
 unfold Step
 cases hg : guardO ops st.tmps o with
 | none =>
  constructor
  ·intro h; exact h.elim
  ·rintro ⟨v, ob, h | h, _⟩ <;> rw [hg] at h <;> cases h.1
 | some b =>
  cases b with
  | false =>
   constructor
   ·intro h; exact ⟨_, none, .inl ⟨hg, rfl, rfl⟩, h⟩
   ·rintro ⟨v, ob, h | h, hp⟩
    ·obtain ⟨_, rfl, rfl⟩ := h; exact hp
    ·rw [hg] at h; cases h.1
  | true =>
   simp only
   constructor
   ·rintro ⟨h0, v, ob, h1, h2⟩; exact ⟨v, ob, .inr ⟨hg, h0, h1⟩, h2⟩
   ·rintro ⟨v, ob, h | h, hp⟩
    ·rw [hg] at h; cases h.1
    ·exact ⟨h.2.1, v, ob, h.2.2, hp⟩
theorem Step_iff2 {ops : List Oper} {o : Oper} {st st' : St} (hc : cls o.op = 2) : Step E B F ops o st st' ↔
  ∃ y os', ((guardO ops st.tmps o = some false /\ y = .tup [] /\ os' = st.objs) \/ (guardO ops st.tmps o = some true /\ freshOK B F ops st.tmps o = true /\ S2 E B o st.tmps st.objs y os')) /\ st' = ⟨putT st.tmps o.dst y, os'⟩ := by
 unfold Step
 cases hg : guardO ops st.tmps o with
 | none =>
  constructor
  ·intro h; exact h.elim
  ·rintro ⟨v, ob, h | h, _⟩ <;> cases h.1
 | some b =>
  cases b with
  | false =>
   constructor
   ·intro h; exact ⟨_, _, .inl ⟨rfl, rfl, rfl⟩, h⟩
   ·rintro ⟨v, ob, h | h, hp⟩
    ·obtain ⟨_, rfl, rfl⟩ := h; exact hp
    ·cases h.1
  | true =>
   simp only [hc, Sem2_iff]
   constructor
   ·rintro ⟨hf, y, os', h1, h2⟩; exact ⟨y, os', .inr ⟨trivial, hf, h1⟩, h2⟩
   ·rintro ⟨y, os', h | h, hp⟩
    ·cases h.1
    ·exact ⟨h.2.1, y, os', h.2.2, hp⟩
theorem freshSt_some {ops : List Oper} {o : Oper} {t : Nat} (h : freshSt ops o = some t) : (∃ ty x, o.op = .store ty (.tmp t) x) /\ freshT ops t = true := by
 unfold freshSt at h
 split at h
 ·rename_i ty u x hop
  split at h
  ·rename_i hf
   cases h
   exact ⟨⟨ty, x, hop⟩, hf⟩
  ·cases h
 ·cases h
theorem freshT_mem : ∀ {ops : List Oper} {t : Nat}, freshT ops t = true -> ∃ o ∈ ops, o.dst = some t /\ cls o.op = 1
 | o :: l, t, h => by
  simp only [freshT, Bool.or_eq_true] at h
  rcases h with h | h
  ·refine ⟨o, List.mem_cons_self .., ?_⟩
   split at h
   ·rename_i d hd
    simp only [Bool.and_eq_true] at h
    obtain ⟨h1, h2⟩ := h
    have := Nat.eq_of_beq_eq_true h1
    subst this
    refine ⟨hd, ?_⟩
    revert h2
    cases o.op <;> simp [isAlloc, cls]
   ·cases h
  ·obtain ⟨o', h1, h2⟩ := freshT_mem h
   exact ⟨o', List.mem_cons_of_mem _ h1, h2⟩
theorem freshOK0_congr {ops : List Oper} {o : Oper} {ts ts' : List A} (h : ∀ t ∈ readsOf ops o, getA ts t = getA ts' t) : freshOK0 B F ops ts o = freshOK0 B F ops ts' o := by
 unfold freshOK0
 split
 ·rfl
 ·cases hf : freshSt ops o with
  | none => rfl
  | some t =>
   obtain ⟨⟨ty, x, hop⟩, _⟩ := freshSt_some hf
   have : t ∈ readsOf ops o := by
    unfold readsOf
    rw [hop]
    simp [Op.operands, tmpsOf]
   simp only [h t this]
theorem stOK_congr {ops : List Oper} {o : Oper} {ts ts' : List A} (h : ∀ t ∈ readsOf ops o, getA ts t = getA ts' t) : stOK F ops ts o = stOK F ops ts' o := by
 unfold stOK
 split
 ·rfl
 ·split
  ·rename_i t b x hop
   have e : evA ts b = evA ts' b := evA_congr (l := o.op.operands.toList) (ts := ts) (ts' := ts') (fun t ht => h t (by unfold readsOf; exact List.mem_append_left _ ht)) (x := b) (by rw [hop]; simp [Op.operands])
   unfold stM
   cases hr : rootA ops b with
   | none => rfl
   | some q => simp only; rw [e, h q (by unfold readsOf rootsOf; rw [hop]; simp only [hr]; exact List.mem_append_right _ (List.mem_append_right _ List.mem_cons_self))]
  ·rfl
theorem bldOK_congr {ops : List Oper} {o : Oper} {ts ts' : List A} (h : ∀ t ∈ readsOf ops o, getA ts t = getA ts' t) : bldOK F ops ts o = bldOK F ops ts' o := by
 unfold bldOK
 split
 ·rfl
 ·split
  ·rename_i t b x hop
   have e : evA ts b = evA ts' b := evA_congr (l := o.op.operands.toList) (ts := ts) (ts' := ts') (fun t ht => h t (by unfold readsOf; exact List.mem_append_left _ ht)) (x := b) (by rw [hop]; simp [Op.operands])
   rw [e]
  ·rfl
theorem freshOK_congr {ops : List Oper} {o : Oper} {ts ts' : List A} (h : ∀ t ∈ readsOf ops o, getA ts t = getA ts' t) : freshOK B F ops ts o = freshOK B F ops ts' o := by
 unfold freshOK; rw [freshOK0_congr h, stOK_congr h, bldOK_congr h]
theorem freshOK_0 {ops : List Oper} {o : Oper} {ts : List A} (h : freshOK B F ops ts o = true) : freshOK0 B F ops ts o = true := by
 unfold freshOK at h; rw [Bool.and_eq_true, Bool.and_eq_true] at h; exact h.1.1
theorem freshOK_st {ops : List Oper} {o : Oper} {ts : List A} (h : freshOK B F ops ts o = true) : stOK F ops ts o = true := by
 unfold freshOK at h; rw [Bool.and_eq_true, Bool.and_eq_true] at h; exact h.1.2
theorem freshOK_bld {ops : List Oper} {o : Oper} {ts : List A} (h : freshOK B F ops ts o = true) : bldOK F ops ts o = true := by
 unfold freshOK at h; rw [Bool.and_eq_true] at h; exact h.2
theorem storeA_ptr {P : Program} {os os' : List Ob} {ty : TypeId} {id off : Nat} {x : A} {r : Nat × Ob} (h : (storeA P os ty (.ptr id off) x).eval = some r) : r.1 = id /\ (getO os' id = getO os id -> (storeA P os' ty (.ptr id off) x).eval = some r) := by
 unfold storeA at h ⊢
 split at h
 ·rename_i s cs hs hcs
  split at h
  ·rename_i hc
   simp only at h
   split at h
   ·rename_i cells hcell
    split at h
    ·rename_i cells' hset
     simp only [T.eval, Option.some.injEq] at h
     subst h
     refine ⟨rfl, fun e => ?_⟩
     simp only [if_pos hc, e, hcell, hset, T.eval]
    ·cases h
   ·cases h
  ·cases h
 ·cases h
theorem S2_fresh {ops : List Oper} {o : Oper} {ts : List A} {os os' : List Ob} {y : A} {t : Nat} (hne : F ≠ []) (hf : freshSt ops o = some t) (hok : freshOK B F ops ts o = true) (hs : S2 E B o ts os y os') :
  y = .tup [] /\ ∃ x, os' = setX os (B + t) x /\ ∀ os1, getO os1 (B + t) = getO os (B + t) -> S2 E B o ts os1 (.tup []) (setX os1 (B + t) x) := by
 obtain ⟨⟨ty, x, hop⟩, _⟩ := freshSt_some hf
 replace hok := freshOK_0 hok
 unfold freshOK0 at hok
 split at hok
 ·exact (hne rfl).elim
 ·rw [hf] at hok
  simp only at hok
  split at hok
  ·rename_i id off hid
   have e := Nat.eq_of_beq_eq_true hok
   subst e
   unfold S2 at hs
   rw [hop] at hs
   simp only at hs
   obtain ⟨r, h1, rfl, rfl⟩ := hs
   simp only [evA] at h1
   rw [hid] at h1
   refine ⟨rfl, r.2, by rw [(storeA_ptr (os' := os) h1).1], fun os1 he => ?_⟩
   unfold S2
   rw [hop]
   simp only
   refine ⟨r, ?_, trivial, by rw [(storeA_ptr (os' := os) h1).1]⟩
   simp only [evA]
   rw [hid]
   exact (storeA_ptr h1).2 he
  ·cases hok
theorem allQ_congr {f g : Nat -> Bool} : ∀ {l : List Nat}, (∀ q ∈ l, f q = g q) -> allQ f l = allQ g l
 | [], _ => rfl
 | q :: l, h => by simp only [allQ]; rw [h q List.mem_cons_self, allQ_congr fun p hp => h p (List.mem_cons_of_mem _ hp)]
theorem allQ_mem {f : Nat -> Bool} : ∀ {l : List Nat} {q : Nat}, allQ f l = true -> q ∈ l -> f q = true
 | p :: l, q, h, hq => by
  simp only [allQ, Bool.and_eq_true] at h
  rcases List.mem_cons.1 hq with rfl | hq
  ·exact h.1
  ·exact allQ_mem h.2 hq
theorem mem_qsOf {ops : List Oper} {o c : Oper} {q : Nat} (l : List Oper) (hc : c ∈ l) (hp : pairM ops o c = some q) : q ∈ qsOf ops o l := by
 induction l with
 | nil => cases hc
 | cons a l ih =>
  show q ∈ (match pairM ops o a with | some q => q :: qsOf ops o l | none => qsOf ops o l)
  rcases List.mem_cons.1 hc with e | hc
  ·rw [<- e, hp]; exact List.mem_cons_self
  ·cases pairM ops o a with
   | none => exact ih hc
   | some p => exact List.mem_cons_of_mem _ (ih hc)
theorem slOK_congr {ops : List Oper} {o : Oper} {ts ts' : List A} (h : ∀ t ∈ readsOf ops o, getA ts t = getA ts' t) : slOK F ops ts o = slOK F ops ts' o := by
 have hev : ∀ x ∈ o.op.operands.toList, evA ts x = evA ts' x := fun x hx => evA_congr (fun t ht => h t (by unfold readsOf; exact List.mem_append_left _ ht)) hx
 unfold slOK
 cases F with
 | nil => rfl
 | cons a F =>
  simp only
  cases hop : o.op with
  | slice t x lo hi mx =>
   simp only
   rw [hev x (by rw [hop]; simp [Op.operands])]
  | load t x =>
   simp only
   have e : evA ts x = evA ts' x := hev x (by rw [hop]; simp [Op.operands])
   have e2 : ldM ops ts o x = ldM ops ts' o x := by
    unfold ldM
    rw [e]
    refine allQ_congr fun q hq => ?_
    rw [h q (by unfold readsOf rootsOf; rw [hop]; exact List.mem_append_right _ (List.mem_append_right _ hq))]
   rw [e, e2]
  | _ => rfl
theorem Gen_congr {ops : List Oper} {o : Oper} {ts ts' : List A} {mo : List Ob} {v : A} {ob : Option Ob} (h : ∀ t ∈ readsOf ops o, getA ts t = getA ts' t) (hg : Gen E B F ops o ts mo v ob) : Gen E B F ops o ts' mo v ob := by
 have hgo := guardO_congr (ops := ops) (o := o) h
 rcases hg with ⟨h1, h2⟩ | ⟨h1, h0, h2⟩
 ·exact .inl ⟨hgo ▸ h1, h2⟩
 ·exact .inr ⟨hgo ▸ h1, (slOK_congr h) ▸ h0, Sem1_congr (fun t ht => h t (by unfold readsOf; exact List.mem_append_left _ ht)) h2⟩
theorem getA_putT {ts : List A} {dst : Option Nat} {x : A} {t : Nat} (h : dst ≠ some t) : getA (putT ts dst x) t = getA ts t := by
 cases dst with
 | none => rfl
 | some d =>
  simp only [putT, getA_setL]
  rw [if_neg]
  rintro ⟨rfl, _⟩
  exact h rfl
theorem putT_comm {ts : List A} {d d' : Option Nat} {x y : A} (h : ∀ n, d = some n -> d' ≠ some n) : putT (putT ts d x) d' y = putT (putT ts d' y) d x := by
 cases d with
 | none => rfl
 | some d =>
  cases d' with
  | none => rfl
  | some d' =>
   simp only [putT]
   exact setL_comm _ _ _ _ _ (fun e => h d rfl (by rw [e]))
theorem Put_other {o : Oper} {ts : List A} {os : List Ob} {v : A} {ob : Option Ob} {st' : St} {t : Nat} {x : Ob} (hd : ∀ d, o.dst = some d -> d ≠ t) (h : Put B o ⟨ts, setX os (B + t) x⟩ v ob st') :
  ∃ st1, Put B o ⟨ts, os⟩ v ob st1 /\ st1.tmps = putT ts o.dst v /\ getO st1.objs (B + t) = getO os (B + t) /\ st' = ⟨putT ts o.dst v, setX st1.objs (B + t) x⟩ := by
 cases ob with
 | none =>
  simp only [Put] at h
  subst h
  exact ⟨_, rfl, rfl, rfl, rfl⟩
 | some y =>
  obtain ⟨d, h1, h2, h3⟩ := h
  have hne := hd d h1
  have hb : B + t ≠ B + d := fun e => hne (Nat.add_left_cancel e).symm
  simp only [getO_setX] at h2
  rw [if_neg (fun e => hb e.symm)] at h2
  refine ⟨_, ⟨d, h1, h2, rfl⟩, by rw [h1]; rfl, ?_, ?_⟩
  ·simp only [getO_setX]
   rw [if_neg hb]
  ·rw [h3, h1]
   simp only [putT]
   rw [setX_comm _ _ _ _ _ hb]
theorem Put_back {o : Oper} {ts : List A} {os : List Ob} {v : A} {ob : Option Ob} {st1 : St} {t : Nat} {x : Ob} (hd : ∀ d, o.dst = some d -> d ≠ t) (h : Put B o ⟨ts, os⟩ v ob st1) :
  st1.tmps = putT ts o.dst v /\ getO st1.objs (B + t) = getO os (B + t) /\ ∀ ts', Put B o ⟨ts', setX os (B + t) x⟩ v ob ⟨putT ts' o.dst v, setX st1.objs (B + t) x⟩ := by
 cases ob with
 | none =>
  simp only [Put] at h
  subst h
  exact ⟨rfl, rfl, fun ts' => rfl⟩
 | some y =>
  obtain ⟨d, h1, h2, h3⟩ := h
  have hne := hd d h1
  have hb : B + t ≠ B + d := fun e => hne (Nat.add_left_cancel e).symm
  subst h3
  refine ⟨by rw [h1]; rfl, ?_, fun ts' => ⟨d, h1, ?_, ?_⟩⟩
  ·simp only [getO_setX]
   rw [if_neg hb]
  ·simp only [getO_setX]
   rw [if_neg (fun e => hb e.symm)]
   exact h2
  ·rw [h1]
   simp only [putT]
   rw [setX_comm _ _ _ _ _ hb]
theorem Put_tmps {o : Oper} {ts ts' : List A} {os : List Ob} {v : A} {ob : Option Ob} {st1 : St} (h : Put B o ⟨ts, os⟩ v ob st1) : st1.tmps = putT ts o.dst v /\ Put B o ⟨ts', os⟩ v ob ⟨putT ts' o.dst v, st1.objs⟩ := by
 cases ob with
 | none =>
  simp only [Put] at h
  subst h
  exact ⟨rfl, rfl⟩
 | some y =>
  obtain ⟨d, h1, h2, h3⟩ := h
  subst h3
  exact ⟨by rw [h1]; rfl, d, h1, h2, by rw [h1]; rfl⟩
theorem swapF {ops : List Oper} {h x : Oper} {st s1 s2 : St} (hi : indepF ops h x = true) (hF : ∀ o : Oper, o ∈ ops -> cls o.op = 1 -> ∀ d, o.dst = some d -> B + d ∈ F)
  (rx : ∀ d, h.dst = some d -> d ∉ readsOf ops x /\ x.dst ≠ some d) (rh : ∀ d, x.dst = some d -> d ∉ readsOf ops h)
  (h1 : Step E B F ops h st s1) (h2 : Step E B F ops x s1 s2) : ∃ s1', Step E B F ops x st s1' /\ Step E B F ops h s1' s2 := by
 have ax : ∀ (ts : List A) (v : A), ∀ t ∈ readsOf ops x, getA (putT ts h.dst v) t = getA ts t := fun ts v t ht => getA_putT (fun e => (rx t e).1 ht)
 have ah : ∀ (ts : List A) (v : A), ∀ t ∈ readsOf ops h, getA (putT ts x.dst v) t = getA ts t := fun ts v t ht => getA_putT (fun e => rh t e ht)
 have hne : ∀ n, h.dst = some n -> x.dst ≠ some n := fun n hn => (rx n hn).2
 have tail : ∀ (o : Oper), ∀ t ∈ tmpsOf o.op.operands.toList, t ∈ readsOf ops o := fun o t ht => by unfold readsOf; exact List.mem_append_left _ ht
 have site : ∀ {o : Oper} {t : Nat}, freshSt ops o = some t -> B + t ∈ F /\ t ∈ readsOf ops o := by
  intro o t hf
  obtain ⟨⟨ty, z, hop⟩, hft⟩ := freshSt_some hf
  obtain ⟨o', hm, hd, hc⟩ := freshT_mem hft
  exact ⟨hF o' hm hc t hd, tail o t (by rw [hop]; simp [Op.operands, tmpsOf])⟩
 unfold indepF at hi
 split at hi
 ·
  rename_i ch cx
  split at hi
  ·rename_i t hf
   simp only [Bool.not_eq_true', List.contains_eq_mem, decide_eq_false_iff_not] at hi
   obtain ⟨hs, hr⟩ := site hf
   have hFne : F ≠ [] := by rintro rfl; cases hs
   rw [Step_iff2 ch] at h1
   obtain ⟨y, os', hy, rfl⟩ := h1
   rw [Step_iff1 (by omega)] at h2
   obtain ⟨v, ob, hg, hp⟩ := h2
   have hdx : ∀ d, x.dst = some d -> d ≠ t := by rintro d hd rfl; exact rh d hd hr
   have hg' := Gen_congr (E := E) (ts' := st.tmps) (ax st.tmps y) hg
   have eg : ∀ v, guardO ops (putT st.tmps x.dst v) h = guardO ops st.tmps h := fun v => guardO_congr (ah st.tmps v)
   rcases hy with ⟨g1, rfl, rfl⟩ | ⟨g1, g2, g3⟩
   ·obtain ⟨e1, e2⟩ := Put_tmps (ts' := st.tmps) hp
    refine ⟨_, (Step_iff1 (by omega)).2 ⟨v, ob, hg', e2⟩, (Step_iff2 ch).2 ⟨.tup [], _, .inl ⟨(eg v).trans g1, rfl, rfl⟩, ?_⟩⟩
    simp only
    rw [<- putT_comm hne, <- e1]
   ·obtain ⟨rfl, z, rfl, hz⟩ := S2_fresh hFne hf g2 g3
    rw [mask_set (foM B F x) st.objs (B + t) z (mem_foM hs hi)] at hg'
    obtain ⟨st1, e1, e2, e3, rfl⟩ := Put_other hdx hp
    obtain ⟨e4, e5⟩ := Put_tmps (ts' := st.tmps) e1
    refine ⟨_, (Step_iff1 (by omega)).2 ⟨v, ob, hg', e5⟩, (Step_iff2 ch).2 ⟨.tup [], setX st1.objs (B + t) z, .inr ⟨(eg v).trans g1, ?_, ?_⟩, ?_⟩⟩
    ·rw [<- g2]; exact freshOK_congr (ah st.tmps v)
    ·exact S2_congr (fun u hu => (ah st.tmps v u (tail h u hu)).symm) (hz _ e3)
    ·simp only
     rw [putT_comm hne]
  ·cases hi
 ·
  rename_i ch cx
  split at hi
  ·rename_i t hf
   simp only [Bool.not_eq_true', List.contains_eq_mem, decide_eq_false_iff_not] at hi
   obtain ⟨hs, hr⟩ := site hf
   have hFne : F ≠ [] := by rintro rfl; cases hs
   rw [Step_iff1 (by omega)] at h1
   obtain ⟨v, ob, hg, hp⟩ := h1
   have hdh : ∀ d, h.dst = some d -> d ≠ t := by rintro d hd rfl; exact (rx d hd).1 hr
   rw [Step_iff2 cx] at h2
   obtain ⟨y, os', hy, rfl⟩ := h2
   obtain ⟨e1, _⟩ := Put_tmps (ts' := st.tmps) hp
   have eg : guardO ops s1.tmps x = guardO ops st.tmps x := by rw [e1]; exact guardO_congr (ax st.tmps v)
   rcases hy with ⟨g1, rfl, rfl⟩ | ⟨g1, g2, g3⟩
   ·obtain ⟨_, e2⟩ := Put_tmps (ts' := putT st.tmps x.dst (.tup [])) hp
    refine ⟨_, (Step_iff2 cx).2 ⟨.tup [], _, .inl ⟨eg ▸ g1, rfl, rfl⟩, rfl⟩, (Step_iff1 (by omega)).2 ⟨v, ob, Gen_congr (fun u hu => (ah st.tmps _ u hu).symm) hg, ?_⟩⟩
    rw [e1, putT_comm hne]
    exact e2
   ·have g2' : freshOK B F ops st.tmps x = true := by rw [<- g2, e1]; exact (freshOK_congr (ax st.tmps v)).symm
    have g3' : S2 E B x st.tmps s1.objs y os' := S2_congr (fun u hu => by rw [e1]; exact ax st.tmps v u (tail x u hu)) g3
    obtain ⟨rfl, z, rfl, hz⟩ := S2_fresh hFne hf g2' g3'
    obtain ⟨_, e3, e4⟩ := Put_back (x := z) hdh hp
    refine ⟨_, (Step_iff2 cx).2 ⟨.tup [], setX st.objs (B + t) z, .inr ⟨eg ▸ g1, g2', hz _ e3.symm⟩, rfl⟩, (Step_iff1 (by omega)).2 ⟨v, ob, ?_, ?_⟩⟩
    ·simp only
     rw [mask_set (foM B F h) st.objs (B + t) z (mem_foM hs hi)]
     exact Gen_congr (fun u hu => (ah st.tmps _ u hu).symm) hg
    ·rw [e1, putT_comm hne]
     exact e4 _
  ·cases hi
 ·
  rename_i ch cx
  split at hi
  ·rename_i t u hft hfu
   simp only [bne_iff_ne, ne_eq] at hi
   obtain ⟨hs, hr⟩ := site hft
   obtain ⟨hs', hr'⟩ := site hfu
   have hFne : F ≠ [] := by rintro rfl; cases hs
   have hb : B + t ≠ B + u := fun e => hi (Nat.add_left_cancel e)
   rw [Step_iff2 ch] at h1
   obtain ⟨y, os', hy, rfl⟩ := h1
   rw [Step_iff2 cx] at h2
   obtain ⟨y2, os2, hy2, rfl⟩ := h2
   simp only at hy2
   have egx : guardO ops (putT st.tmps h.dst y) x = guardO ops st.tmps x := guardO_congr (ax st.tmps y)
   have egh : guardO ops (putT st.tmps x.dst y2) h = guardO ops st.tmps h := guardO_congr (ah st.tmps y2)
   have efx : freshOK B F ops (putT st.tmps h.dst y) x = freshOK B F ops st.tmps x := freshOK_congr (ax st.tmps y)
   have efh : freshOK B F ops (putT st.tmps x.dst y2) h = freshOK B F ops st.tmps h := freshOK_congr (ah st.tmps y2)
   have cgx : ∀ {os os' y'}, S2 E B x (putT st.tmps h.dst y) os y' os' -> S2 E B x st.tmps os y' os' := fun hh => S2_congr (fun u hu => ax st.tmps y u (tail x u hu)) hh
   have cgh : ∀ {os os' y'}, S2 E B h st.tmps os y' os' -> S2 E B h (putT st.tmps x.dst y2) os y' os' := fun hh => S2_congr (fun u hu => (ah st.tmps y2 u (tail h u hu)).symm) hh
   rw [egx, efx] at hy2
   rcases hy with ⟨g1, rfl, rfl⟩ | ⟨g1, g2, g3⟩
   ·refine ⟨⟨putT st.tmps x.dst y2, os2⟩, (Step_iff2 cx).2 ⟨y2, os2, ?_, rfl⟩, (Step_iff2 ch).2 ⟨.tup [], os2, .inl ⟨egh.trans g1, rfl, rfl⟩, by simp only; rw [putT_comm hne]⟩⟩
    rcases hy2 with k | ⟨k1, k2, k3⟩
    ·exact .inl k
    ·exact .inr ⟨k1, k2, cgx k3⟩
   ·obtain ⟨rfl, z, rfl, hz⟩ := S2_fresh hFne hft g2 g3
    rcases hy2 with ⟨k1, rfl, rfl⟩ | ⟨k1, k2, k3⟩
    ·exact ⟨_, (Step_iff2 cx).2 ⟨.tup [], st.objs, .inl ⟨k1, rfl, rfl⟩, rfl⟩, (Step_iff2 ch).2 ⟨.tup [], _, .inr ⟨egh.trans g1, efh.trans g2, cgh g3⟩, by simp only; rw [putT_comm hne]⟩⟩
    ·obtain ⟨rfl, z2, rfl, hz2⟩ := S2_fresh hFne hfu k2 (cgx k3)
     have q1 := hz2 st.objs (by rw [getO_setX, if_neg (fun e => hb e.symm)])
     have q2 := hz (setX st.objs (B + u) z2) (by rw [getO_setX, if_neg hb])
     exact ⟨_, (Step_iff2 cx).2 ⟨.tup [], _, .inr ⟨k1, k2, q1⟩, rfl⟩, (Step_iff2 ch).2 ⟨.tup [], _, .inr ⟨egh.trans g1, efh.trans g2, cgh q2⟩, by simp only; rw [putT_comm hne, setX_comm _ _ _ _ _ hb]⟩⟩
  ·cases hi
 ·cases hi
theorem isSlW_some {ops : List Oper} {o : Oper} (h : isSlW ops o = true) : (∃ t x lo hi mx, o.op = .slice t x lo hi mx) /\ watchS ops o = true /\ ∃ d, o.dst = some d := by
 unfold isSlW at h
 split at h
 ·rename_i t x lo hi mx hop
  refine ⟨⟨t, x, lo, hi, mx, hop⟩, h, ?_⟩
  unfold watchS at h
  split at h
  ·rename_i d hd; exact ⟨d, hd⟩
  ·cases h
 ·cases h
theorem sliceA_imm {P : Program} {mo mo' : List Ob} {t : TypeId} {a : A} {lo hi : Option A} (h : immA a = true) : sliceA P mo t a lo hi = sliceA P mo' t a lo hi := by
 unfold sliceA
 generalize P.underlying t = u
 cases u with
 | none => cases a <;> rfl
 | some d => cases d <;> cases a <;> first | rfl | (simp [immA] at h)
theorem Sem1_slice {ops : List Oper} {o : Oper} {ts : List A} {mo mo' : List Ob} {v : A} {ob : Option Ob} (hF : F ≠ []) (h : isSlW ops o = true) (hs : slOK F ops ts o = true) (h1 : Sem1 E B o ts mo v ob) : Sem1 E B o ts mo' v ob /\ ob = none := by
 obtain ⟨⟨t, x, lo, hi, mx, hop⟩, hw, _⟩ := isSlW_some h
 have himm : immA (evA ts x) = true := by
  unfold slOK at hs
  split at hs
  ·exact (hF rfl).elim
  ·rw [hop, hw] at hs
   exact hs
 unfold Sem1 at h1 ⊢
 rw [hop] at h1 ⊢
 simp only [isMake, isS2B] at h1 ⊢
 refine ⟨⟨?_, h1.2⟩, h1.2⟩
 have : semV E mo (.slice t x lo hi mx) (evA ts) = semV E mo' (.slice t x lo hi mx) (evA ts) := by
  generalize hx : evA ts x = a at himm
  cases mx with
  | none =>
   simp only [semV, hx]
   exact sliceA_imm himm
  | some m =>
   cases lo with
   | none => cases hi <;> rfl
   | some l => cases hi <;> rfl
 rw [<- this]; exact h1.1
theorem swapS {ops : List Oper} {h x : Oper} {st s1 s2 : St} (hi : indepS ops h x = true) (hF : ∀ o : Oper, (o = h \/ o = x) -> cls o.op = 1 -> ∀ d, o.dst = some d -> B + d ∈ F)
  (rx : ∀ d, h.dst = some d -> d ∉ readsOf ops x /\ x.dst ≠ some d) (rh : ∀ d, x.dst = some d -> d ∉ readsOf ops h)
  (h1 : Step E B F ops h st s1) (h2 : Step E B F ops x s1 s2) : ∃ s1', Step E B F ops x st s1' /\ Step E B F ops h s1' s2 := by
 have ax : ∀ (ts : List A) (v : A), ∀ t ∈ readsOf ops x, getA (putT ts h.dst v) t = getA ts t := fun ts v t ht => getA_putT (fun e => (rx t e).1 ht)
 have ah : ∀ (ts : List A) (v : A), ∀ t ∈ readsOf ops h, getA (putT ts x.dst v) t = getA ts t := fun ts v t ht => getA_putT (fun e => rh t e ht)
 have hne : ∀ n, h.dst = some n -> x.dst ≠ some n := fun n hn => (rx n hn).2
 have tail : ∀ (o : Oper), ∀ t ∈ tmpsOf o.op.operands.toList, t ∈ readsOf ops o := fun o t ht => by unfold readsOf; exact List.mem_append_left _ ht
 unfold indepS at hi
 split at hi
 ·rename_i ch cx
  obtain ⟨_, _, d, hd⟩ := isSlW_some hi
  have hFne : F ≠ [] := by rintro rfl; cases hF x (.inr rfl) cx d hd
  rw [Step_iff2 ch] at h1
  obtain ⟨y, os', hy, rfl⟩ := h1
  rw [Step_iff1 (by omega)] at h2
  obtain ⟨v, ob, hg, hp⟩ := h2
  have hg' := Gen_congr (E := E) (ts' := st.tmps) (ax st.tmps y) hg
  have hob : ob = none /\ Gen E B F ops x st.tmps (maskO (foM B F x) st.objs) v none := by
   rcases hg' with ⟨h1, h2, h3⟩ | ⟨h1, h0, h2⟩
   ·exact ⟨h3, .inl ⟨h1, h2, rfl⟩⟩
   ·obtain ⟨h3, h4⟩ := Sem1_slice (mo' := maskO (foM B F x) st.objs) hFne hi h0 h2
    subst h4
    exact ⟨rfl, .inr ⟨h1, h0, h3⟩⟩
  obtain ⟨rfl, hg''⟩ := hob
  simp only [Put] at hp
  subst hp
  refine ⟨⟨putT st.tmps x.dst v, st.objs⟩, (Step_iff1 (by omega)).2 ⟨v, none, hg'', rfl⟩, (Step_iff2 ch).2 ⟨y, os', ?_, ?_⟩⟩
  ·have e := guardO_congr (ops := ops) (o := h) (ts := putT st.tmps x.dst v) (ts' := st.tmps) (ah st.tmps v)
   rcases hy with ⟨h1, h2⟩ | ⟨h1, h2⟩
   ·exact .inl ⟨e.trans h1, h2⟩
   ·exact .inr ⟨e.trans h1, (freshOK_congr (ah st.tmps v)).trans h2.1, S2_congr (fun t ht => (ah st.tmps v t (tail h t ht)).symm) h2.2⟩
  ·simp only; rw [putT_comm hne]
 ·rename_i ch cx
  obtain ⟨_, _, d, hd⟩ := isSlW_some hi
  have hFne : F ≠ [] := by rintro rfl; cases hF h (.inl rfl) ch d hd
  rw [Step_iff1 (show cls h.op ≠ 2 by omega)] at h1
  obtain ⟨v, ob, hg, hp⟩ := h1
  have hob : ob = none /\ ∀ mo, Gen E B F ops h st.tmps mo v none := by
   rcases hg with ⟨h1, h2, h3⟩ | ⟨h1, h0, h2⟩
   ·exact ⟨h3, fun mo => .inl ⟨h1, h2, rfl⟩⟩
   ·have := (Sem1_slice (mo' := []) hFne hi h0 h2).2
    subst this
    exact ⟨rfl, fun mo => .inr ⟨h1, h0, (Sem1_slice (mo' := mo) hFne hi h0 h2).1⟩⟩
  obtain ⟨rfl, hg'⟩ := hob
  simp only [Put] at hp
  subst hp
  rw [Step_iff2 cx] at h2
  obtain ⟨y, os', hy, rfl⟩ := h2
  refine ⟨⟨putT st.tmps x.dst y, os'⟩, (Step_iff2 cx).2 ⟨y, os', ?_, rfl⟩, (Step_iff1 (show cls h.op ≠ 2 by omega)).2 ⟨v, none, ?_, ?_⟩⟩
  ·have e := guardO_congr (ops := ops) (o := x) (ts := putT st.tmps h.dst v) (ts' := st.tmps) (ax st.tmps v)
   rcases hy with ⟨h1, h2⟩ | ⟨h1, h2⟩
   ·exact .inl ⟨e ▸ h1, h2⟩
   ·exact .inr ⟨e ▸ h1, (freshOK_congr (ax st.tmps v)).symm.trans h2.1, S2_congr (fun t ht => ax st.tmps v t (tail x t ht)) h2.2⟩
  ·exact Gen_congr (fun t ht => (ah st.tmps y t ht).symm) (hg' _)
  ·simp only [Put]; rw [putT_comm hne]
 ·cases hi
theorem isLdW_some {ops : List Oper} {o : Oper} (h : isLdW ops o = true) : (∃ t x, o.op = .load t x) /\ watchL ops o = true /\ ∃ d, o.dst = some d := by
 unfold isLdW at h
 split at h
 ·rename_i t x hop
  refine ⟨⟨t, x, hop⟩, h, ?_⟩
  unfold watchL at h
  split at h
  ·rename_i d hd; exact ⟨d, hd⟩
  ·cases h
 ·cases h
theorem getO_mask_eq : ∀ (F : List Nat) {a b : List Ob} {id : Nat}, getO a id = getO b id -> getO (maskO F a) id = getO (maskO F b) id
 | [], a, b, id, h => h
 | d :: F, a, b, id, h => by
  simp only [maskO, getO_setX]
  split
  ·rfl
  ·exact getO_mask_eq F h
theorem T_eval_ite {α : Type} {b : Bool} {t e : T α} {r : α} (h : (T.ite b t e).eval = some r) : t.eval = some r \/ e.eval = some r := by
 cases b
 ·exact .inr h
 ·exact .inl h
theorem appendA_rows {P : Program} {os : List Ob} {t t' : TypeId} {x y : A} {r : Option Nat × Ob} (h : (appendA P os t t' x y).eval = some r) : (∃ e c n el, r.2 = .row e c n el) /\ ∀ id, r.1 = some id -> ∃ e c n el, getO os id = .row e c n el := by
 unfold appendA at h
 split at h
 ·cases h
 split at h
 ·split at h
  ·split at h
   ·split at h
    ·split at h
     ·rw [litN_eq] at h
      unfold T.need at h
      rcases T_eval_ite h with h | h
      ·simp only [T.eval, Option.some.injEq] at h; subst h; exact ⟨⟨_, _, _, _, rfl⟩, fun id hid => by cases hid⟩
      ·cases h
     ·split at h
      ·rename_i hg
       split at h
       ·rw [litN_eq] at h
        unfold T.need at h
        rcases T_eval_ite h with h | h
        ·simp only [T.eval, Option.some.injEq] at h; subst h
         exact ⟨⟨_, _, _, _, rfl⟩, fun id hid => by cases hid; exact ⟨_, _, _, _, hg⟩⟩
        ·cases h
       ·cases h
      ·cases h
     ·cases h
    ·cases h
   ·cases h
  ·cases h
 ·cases h
theorem S2_app {o : Oper} {ts : List A} {os os' : List Ob} {y : A} (hap : isApp o.op = true) (hs : S2 E B o ts os y os') (id : Nat) : (∀ cells, getO os id = .box cells -> getO os' id = .box cells) /\ (∀ cells, getO os' id = .box cells -> getO os id = .box cells) := by
 unfold S2 at hs
 split at hs
 ·rename_i hop; rw [hop] at hap; cases hap
 ·rename_i hop; rw [hop] at hap; cases hap
 ·rename_i hop; rw [hop] at hap; cases hap
 ·obtain ⟨r, d, hd, h1, h2, _, rfl⟩ := hs
  obtain ⟨⟨e, c, n, el, hr⟩, hk⟩ := appendA_rows h1
  have hkill : ∀ i, (∃ cells, getO os i = .box cells) -> getO (killO os r.1) i = getO os i := by
   rintro i ⟨cells, hc⟩
   cases hr1 : r.1 with
   | none => rfl
   | some j =>
    simp only [killO, getO_setX]
    split
    ·rename_i hij
     obtain ⟨_, _, _, _, h3⟩ := hk j hr1
     rw [hij, h3] at hc; cases hc
    ·rfl
  constructor
  ·intro cells hc
   rw [getO_setX]
   split
   ·rename_i hid
    have := hkill id ⟨cells, hc⟩
    rw [hid, h2] at this
    rw [<- hid, hc] at this
    cases this
   ·rw [hkill id ⟨cells, hc⟩]; exact hc
  ·intro cells hc
   rw [getO_setX] at hc
   split at hc
   ·rw [hr] at hc; cases hc
   ·cases hr1 : r.1 with
    | none => rw [hr1] at hc; exact hc
    | some j =>
     rw [hr1] at hc
     simp only [killO, getO_setX] at hc
     split at hc
     ·cases hc
     ·exact hc
 ·rename_i hop; rw [hop] at hap; cases hap
 ·rename_i hop; rw [hop] at hap; cases hap
 ·rename_i hop; rw [hop] at hap; cases hap
 ·rename_i hop; rw [hop] at hap; cases hap
 ·exact hs.elim
theorem loadA_box {P : Program} {mo mo' : List Ob} {t : TypeId} {a : A} {v : A} (h : ldA a = true) (hb : ∀ id off, a = .ptr id off -> ∀ cells, getO mo id = .box cells -> getO mo' id = .box cells) (hv : (loadA P mo t a).eval = some v) : (loadA P mo' t a).eval = some v := by
 unfold loadA at hv ⊢
 generalize isAggT P t = u at hv ⊢
 generalize sizeT P t = z at hv ⊢
 cases u with
 | none => cases hv
 | some ag =>
  cases z with
  | none => cases hv
  | some s =>
   cases a with
   | ptr id off =>
    simp only at hv ⊢
    cases hg : getO mo id with
    | box cells => rw [hg] at hv; rw [hb id off rfl cells hg]; exact hv
    | virgin => rw [hg] at hv; cases hv
    | dead => rw [hg] at hv; cases hv
    | row _ _ _ _ => rw [hg] at hv; cases hv
    | lp _ _ _ _ _ _ => rw [hg] at hv; cases hv
    | mp _ _ _ _ _ _ _ => rw [hg] at hv; cases hv
   | ip c el => exact hv
   | _ => cases h
theorem Sem1_load {ops : List Oper} {o : Oper} {ts : List A} {os os' : List Ob} {G : List Nat} {v : A} {ob : Option Ob} (hF : F ≠ []) (h : isLdW ops o = true) (hs : slOK F ops ts o = true) (hb : ∀ id cells, getO os id = .box cells -> getO os' id = .box cells) (h1 : Sem1 E B o ts (maskO G os) v ob) : Sem1 E B o ts (maskO G os') v ob /\ ob = none := by
 obtain ⟨⟨t, x, hop⟩, hw, _⟩ := isLdW_some h
 have himm : ldA (evA ts x) = true := by
  unfold slOK at hs
  split at hs
  ·exact (hF rfl).elim
  ·rw [hop, hw] at hs
   simp only [Bool.and_eq_true] at hs
   replace hs := hs.1
   split at hs
   ·rename_i h; exact h
   ·cases hs
 unfold Sem1 at h1 ⊢
 rw [hop] at h1 ⊢
 simp only [isMake, isS2B] at h1 ⊢
 refine ⟨⟨?_, h1.2⟩, h1.2⟩
 simp only [semV] at h1 ⊢
 refine loadA_box himm (fun id off _ cells hc => ?_) h1.1
 rcases getO_mask G os id with e | e
 ·rw [e] at hc
  have h2 := hb id cells hc
  have := getO_mask_eq G (a := os) (b := os') (id := id) (hc.trans h2.symm)
  rw [<- this, e]; exact hc
 ·rw [e] at hc; cases hc
theorem swapL {ops : List Oper} {h x : Oper} {st s1 s2 : St} (hi : indepL ops h x = true) (hF : ∀ o : Oper, (o = h \/ o = x) -> cls o.op = 1 -> ∀ d, o.dst = some d -> B + d ∈ F)
  (rx : ∀ d, h.dst = some d -> d ∉ readsOf ops x /\ x.dst ≠ some d) (rh : ∀ d, x.dst = some d -> d ∉ readsOf ops h)
  (h1 : Step E B F ops h st s1) (h2 : Step E B F ops x s1 s2) : ∃ s1', Step E B F ops x st s1' /\ Step E B F ops h s1' s2 := by
 have ax : ∀ (ts : List A) (v : A), ∀ t ∈ readsOf ops x, getA (putT ts h.dst v) t = getA ts t := fun ts v t ht => getA_putT (fun e => (rx t e).1 ht)
 have ah : ∀ (ts : List A) (v : A), ∀ t ∈ readsOf ops h, getA (putT ts x.dst v) t = getA ts t := fun ts v t ht => getA_putT (fun e => rh t e ht)
 have hne : ∀ n, h.dst = some n -> x.dst ≠ some n := fun n hn => (rx n hn).2
 have tail : ∀ (o : Oper), ∀ t ∈ tmpsOf o.op.operands.toList, t ∈ readsOf ops o := fun o t ht => by unfold readsOf; exact List.mem_append_left _ ht
 unfold indepL at hi
 split at hi
 ·rename_i ch cx
  rw [Bool.and_eq_true] at hi
  obtain ⟨hap, hi⟩ := hi
  obtain ⟨_, _, d, hd⟩ := isLdW_some hi
  have hFne : F ≠ [] := by rintro rfl; cases hF x (.inr rfl) cx d hd
  rw [Step_iff2 ch] at h1
  obtain ⟨y, os', hy, rfl⟩ := h1
  rw [Step_iff1 (by omega)] at h2
  obtain ⟨v, ob, hg, hp⟩ := h2
  have hg' := Gen_congr (E := E) (ts' := st.tmps) (ax st.tmps y) hg
  have hbx : ∀ id cells, getO os' id = .box cells -> getO st.objs id = .box cells := by
   rcases hy with ⟨_, _, rfl⟩ | ⟨_, _, h2⟩
   ·exact fun _ _ h => h
   ·exact fun id => (S2_app hap h2 id).2
  have hob : ob = none /\ Gen E B F ops x st.tmps (maskO (foM B F x) st.objs) v none := by
   rcases hg' with ⟨h1, h2, h3⟩ | ⟨h1, h0, h2⟩
   ·exact ⟨h3, .inl ⟨h1, h2, rfl⟩⟩
   ·obtain ⟨h3, h4⟩ := Sem1_load (os' := st.objs) hFne hi h0 hbx h2
    subst h4
    exact ⟨rfl, .inr ⟨h1, h0, h3⟩⟩
  obtain ⟨rfl, hg''⟩ := hob
  simp only [Put] at hp
  subst hp
  refine ⟨⟨putT st.tmps x.dst v, st.objs⟩, (Step_iff1 (by omega)).2 ⟨v, none, hg'', rfl⟩, (Step_iff2 ch).2 ⟨y, os', ?_, ?_⟩⟩
  ·have e := guardO_congr (ops := ops) (o := h) (ts := putT st.tmps x.dst v) (ts' := st.tmps) (ah st.tmps v)
   rcases hy with ⟨h1, h2⟩ | ⟨h1, h2⟩
   ·exact .inl ⟨e.trans h1, h2⟩
   ·exact .inr ⟨e.trans h1, (freshOK_congr (ah st.tmps v)).trans h2.1, S2_congr (fun t ht => (ah st.tmps v t (tail h t ht)).symm) h2.2⟩
  ·simp only; rw [putT_comm hne]
 ·rename_i ch cx
  rw [Bool.and_eq_true] at hi
  obtain ⟨hap, hi⟩ := hi
  obtain ⟨_, _, d, hd⟩ := isLdW_some hi
  have hFne : F ≠ [] := by rintro rfl; cases hF h (.inl rfl) ch d hd
  rw [Step_iff1 (show cls h.op ≠ 2 by omega)] at h1
  obtain ⟨v, ob, hg, hp⟩ := h1
  have hobn : ob = none := by
   rcases hg with ⟨h1, h2, h3⟩ | ⟨h1, h0, h2⟩
   ·exact h3
   ·exact (Sem1_load (os' := st.objs) hFne hi h0 (fun _ _ h => h) h2).2
  subst hobn
  simp only [Put] at hp
  subst hp
  rw [Step_iff2 cx] at h2
  obtain ⟨y, os', hy, rfl⟩ := h2
  simp only at hy
  have hbx : ∀ id cells, getO st.objs id = .box cells -> getO os' id = .box cells := by
   rcases hy with ⟨_, _, rfl⟩ | ⟨_, _, h2⟩
   ·exact fun _ _ h => h
   ·exact fun id => (S2_app hap h2 id).1
  have hg' : Gen E B F ops h st.tmps (maskO (foM B F h) os') v none := by
   rcases hg with ⟨h1, h2, h3⟩ | ⟨h1, h0, h2⟩
   ·exact .inl ⟨h1, h2, rfl⟩
   ·exact .inr ⟨h1, h0, (Sem1_load (os' := os') hFne hi h0 hbx h2).1⟩
  refine ⟨⟨putT st.tmps x.dst y, os'⟩, (Step_iff2 cx).2 ⟨y, os', ?_, rfl⟩, (Step_iff1 (show cls h.op ≠ 2 by omega)).2 ⟨v, none, ?_, ?_⟩⟩
  ·have e := guardO_congr (ops := ops) (o := x) (ts := putT st.tmps h.dst v) (ts' := st.tmps) (ax st.tmps v)
   rcases hy with ⟨h1, h2⟩ | ⟨h1, h2⟩
   ·exact .inl ⟨e ▸ h1, h2⟩
   ·exact .inr ⟨e ▸ h1, (freshOK_congr (ax st.tmps v)).symm.trans h2.1, S2_congr (fun t ht => ax st.tmps v t (tail x t ht)) h2.2⟩
  ·exact Gen_congr (fun t ht => (ah st.tmps y t ht).symm) hg'
  ·simp only [Put]; rw [putT_comm hne]
 ·cases hi
def addrO : A -> Option Nat
 | .ptr i _ => some i
 | .rp i _ _ _ => some i
 | .ap i _ => some i
 | _ => none
theorem loadA_congr {P : Program} {mo mo' : List Ob} {t : TypeId} {a : A} (h : ∀ i, addrO a = some i -> getO mo i = getO mo' i) : loadA P mo t a = loadA P mo' t a := by
 unfold loadA
 cases isAggT P t with
 | none => rfl
 | some ag =>
  cases sizeT P t with
  | none => rfl
  | some s =>
   cases a with
   | ptr i off => simp only [h i rfl]
   | rp i c k off => simp only [h i rfl]
   | ap i k => simp only [h i rfl]
   | _ => rfl
theorem loadA_rp {P : Program} {mo : List Ob} {t : TypeId} {i c k off : Nat} {v : A} (h : (loadA P mo t (.rp i c k off)).eval = some v) : ∃ e c n el, getO mo i = .row e c n el := by
 unfold loadA at h
 split at h
 ·simp only at h
  split at h
  ·rename_i hr; exact ⟨_, _, _, _, hr⟩
  ·cases h
 ·cases h
theorem loadA_bx {P : Program} {mo : List Ob} {t : TypeId} {a : A} {i : Nat} {v : A} (ha : (∃ off, a = .ptr i off) \/ (∃ k, a = .ap i k)) (h : (loadA P mo t a).eval = some v) : ∃ cells, getO mo i = .box cells := by
 unfold loadA at h
 split at h
 ·rcases ha with ⟨off, rfl⟩ | ⟨k, rfl⟩
  ·simp only at h
   split at h
   ·rename_i hr; exact ⟨_, hr⟩
   ·cases h
  ·simp only at h
   split at h
   ·rename_i hr; exact ⟨_, hr⟩
   ·cases h
 ·cases h
theorem storeA_at {P : Program} {os : List Ob} {t : TypeId} {a x : A} {r : Nat × Ob} (h : (storeA P os t a x).eval = some r) :
  (((∃ off, a = .ptr r.1 off) \/ (∃ k, a = .ap r.1 k)) /\ (∃ c, getO os r.1 = .box c) /\ ∃ c, r.2 = .box c) \/ ((∃ c k off, a = .rp r.1 c k off) /\ (∃ e c n el, getO os r.1 = .row e c n el) /\ ∃ e c n el, r.2 = .row e c n el) := by
 unfold storeA at h
 split at h
 ·split at h
  ·cases a with
   | ptr id off =>
    simp only at h
    split at h
    ·rename_i hg
     split at h
     ·simp only [T.eval, Option.some.injEq] at h
      subst h
      exact .inl ⟨.inl ⟨_, rfl⟩, ⟨_, hg⟩, _, rfl⟩
     ·cases h
    ·cases h
   | ap id k =>
    simp only at h
    split at h
    ·rename_i hg
     split at h
     ·split at h
      ·simp only [T.need, T.eval] at h
       split at h
       ·simp only [Option.some.injEq] at h
        subst h
        exact .inl ⟨.inr ⟨_, rfl⟩, ⟨_, hg⟩, _, rfl⟩
       ·cases h
      ·cases h
     ·cases h
    ·cases h
   | rp id c k off =>
    simp only at h
    split at h
    ·rename_i hg
     split at h
     ·rw [litN_eq] at h
      simp only [T.need, T.eval] at h
      split at h
      ·simp only [Option.some.injEq] at h
       subst h
       exact .inr ⟨⟨_, _, _, rfl⟩, ⟨_, _, _, _, hg⟩, _, _, _, _, rfl⟩
      ·cases h
     ·cases h
    ·cases h
   | _ => cases h
  ·cases h
 ·cases h
theorem pairM_some {ops : List Oper} {o c : Oper} {q : Nat} (h : pairM ops o c = some q) : (∃ t a, o.op = .load t a) /\ ∃ t b x, c.op = .store t b x /\ rootA ops b = some q := by
 unfold pairM at h
 split at h
 ·rename_i t a t' b x h1 h2
  refine ⟨⟨t, a, h1⟩, t', b, x, h2, ?_⟩
  split at h
  ·rename_i q' hq
   split at h
   ·split at h
    ·cases h
    ·cases h; exact hq
   ·split at h
    ·cases h; exact hq
    ·cases h
  ·cases h
 ·cases h
theorem pairM_alike {ops : List Oper} {o c c' : Oper} {q : Nat} (h : pairM ops o c = some q) {t t' : TypeId} {b b' x x' : Operand} (hc : c.op = .store t b x) (hc' : c'.op = .store t' b' x') (hr : rootA ops b' = rootA ops b) : pairM ops o c' = some q := by
 unfold pairM at h ⊢
 rw [hc] at h
 rw [hc']
 cases ho : o.op with
 | load ty a => rw [ho] at h; simp only at h ⊢; rw [hr]; exact h
 | _ => rw [ho] at h; cases h
theorem sep_ne {la sa gq : A} (h1 : sepB la gq = true) (h2 : sameR sa gq = true) {os os' : List Ob} {P : Program} {ty ty' : TypeId} {y v : A} {r : Nat × Ob} (hs : (storeA P os ty sa y).eval = some r) (ho : os' = setX os r.1 r.2) {m : List Ob} {G : List Nat} (hm : m = os \/ m = os') (hl : (loadA P (maskO G m) ty' la).eval = some v) : ∀ i, addrO la = some i -> i ≠ r.1 := by
 have key := storeA_at hs
 have hobj : (∃ c, getO m r.1 = .box c) /\ ((∃ off, sa = .ptr r.1 off) \/ (∃ k, sa = .ap r.1 k)) \/ (∃ e c n el, getO m r.1 = .row e c n el) /\ (∃ c k off, sa = .rp r.1 c k off) := by
  rcases key with ⟨k1, ⟨c, k2⟩, ⟨c', k3⟩⟩ | ⟨k1, ⟨e, c, n, el, k2⟩, ⟨e', c', n', el', k3⟩⟩
  ·left
   refine ⟨?_, k1⟩
   rcases hm with rfl | rfl
   ·exact ⟨c, k2⟩
   ·exact ⟨c', by rw [ho, getO_setX, if_pos rfl]; exact k3⟩
  ·right
   refine ⟨?_, k1⟩
   rcases hm with rfl | rfl
   ·exact ⟨e, c, n, el, k2⟩
   ·exact ⟨e', c', n', el', by rw [ho, getO_setX, if_pos rfl]; exact k3⟩
 have hmask : ∀ i ob, getO (maskO G m) i = ob -> ob ≠ .dead -> getO m i = ob := by
  intro i ob h hne
  rcases getO_mask G m i with e | e
  ·rw [<- e]; exact h
  ·rw [e] at h; exact (hne h.symm).elim
 intro i hi
 rintro rfl
 rcases hobj with ⟨⟨c, hc⟩, hsa⟩ | ⟨⟨e, c, n, el, hc⟩, c', k', off', hsa⟩
 ·cases la with
  | ptr j off =>
   simp only [addrO, Option.some.injEq] at hi
   subst hi
   rcases hsa with ⟨o2, rfl⟩ | ⟨k2, rfl⟩
   ·cases gq with
    | ptr q o3 => simp only [sepB, sameR, Bool.not_eq_true'] at h1 h2; rw [h2] at h1; cases h1
    | _ => cases h2
   ·cases gq <;> cases h2
  | ap j k =>
   simp only [addrO, Option.some.injEq] at hi
   subst hi
   rcases hsa with ⟨o2, rfl⟩ | ⟨k2, rfl⟩
   ·cases gq with
    | ptr q o3 => simp only [sepB, sameR, Bool.not_eq_true'] at h1 h2; rw [h2] at h1; cases h1
    | _ => cases h2
   ·cases gq <;> cases h2
  | rp j c2 k off =>
   simp only [addrO, Option.some.injEq] at hi
   subst hi
   obtain ⟨e, c3, n, el, hg⟩ := loadA_rp hl
   have := hmask _ _ hg (by intro h; cases h)
   rw [hc] at this; cases this
  | _ => cases hi
 ·subst hsa
  cases la with
  | ptr j off =>
   simp only [addrO, Option.some.injEq] at hi
   subst hi
   obtain ⟨cells, hg⟩ := loadA_bx (.inl ⟨_, rfl⟩) hl
   have := hmask _ _ hg (by intro h; cases h)
   rw [hc] at this; cases this
  | ap j k =>
   simp only [addrO, Option.some.injEq] at hi
   subst hi
   obtain ⟨cells, hg⟩ := loadA_bx (.inr ⟨_, rfl⟩) hl
   have := hmask _ _ hg (by intro h; cases h)
   rw [hc] at this; cases this
  | rp j c2 k off =>
   cases gq <;> first | (cases h1; done) | (cases h2; done)
  | _ => cases hi
theorem any_store {ops : List Oper} {b0 : Oper} (h : ops.any (fun o => match o.op, b0.op with | .store _ x _, .store _ y _ => rootA ops x == rootA ops y | _, _ => false) = true) : ∃ o ∈ ops, ∃ t x z t' y z', o.op = .store t x z /\ b0.op = .store t' y z' /\ rootA ops x = rootA ops y := by
 rw [List.any_eq_true] at h
 obtain ⟨o, ho, h⟩ := h
 split at h
 ·rename_i t x z t' y z' h1 h2
  exact ⟨o, ho, t, x, z, t', y, z', h1, h2, by simpa using h⟩
 ·cases h
theorem ld_sep {ops : List Oper} {o c : Oper} {ts : List A} {q : Nat} {t : TypeId} {a : Operand} (hF : F ≠ []) (ho : o.op = .load t a) (hs : slOK F ops ts o = true) (hp : pairM ops o c = some q) (hany : ops.any (fun o => match o.op, c.op with | .store _ x _, .store _ y _ => rootA ops x == rootA ops y | _, _ => false) = true) : sepB (evA ts a) (getA ts q) = true := by
 obtain ⟨o', ho', t1, x1, z1, t2, y2, z2, e1, e2, e3⟩ := any_store hany
 have hp' := pairM_alike hp e2 e1 e3
 have hq := mem_qsOf ops ho' hp'
 unfold slOK at hs
 split at hs
 ·exact (hF rfl).elim
 ·rw [ho] at hs
  simp only [Bool.and_eq_true] at hs
  exact allQ_mem (f := fun q => sepB (evA ts a) (getA ts q)) hs.2 hq
theorem st_same {ops : List Oper} {c : Oper} {ts : List A} {q : Nat} {t : TypeId} {b x : Operand} (hF : F ≠ []) (hc : c.op = .store t b x) (hr : rootA ops b = some q) (hs : stOK F ops ts c = true) : sameR (evA ts b) (getA ts q) = true := by
 unfold stOK at hs
 split at hs
 ·exact (hF rfl).elim
 ·rw [hc] at hs
  simp only [stM, hr] at hs
  exact hs
theorem swapM {ops : List Oper} {h x : Oper} {st s1 s2 : St} (hi : indepM ops h x = true) (hF : ∀ o : Oper, (o = h \/ o = x) -> cls o.op = 1 -> ∀ d, o.dst = some d -> B + d ∈ F)
  (rx : ∀ d, h.dst = some d -> d ∉ readsOf ops x /\ x.dst ≠ some d) (rh : ∀ d, x.dst = some d -> d ∉ readsOf ops h)
  (h1 : Step E B F ops h st s1) (h2 : Step E B F ops x s1 s2) : ∃ s1', Step E B F ops x st s1' /\ Step E B F ops h s1' s2 := by
 have ax : ∀ (ts : List A) (v : A), ∀ t ∈ readsOf ops x, getA (putT ts h.dst v) t = getA ts t := fun ts v t ht => getA_putT (fun e => (rx t e).1 ht)
 have ah : ∀ (ts : List A) (v : A), ∀ t ∈ readsOf ops h, getA (putT ts x.dst v) t = getA ts t := fun ts v t ht => getA_putT (fun e => rh t e ht)
 have hne : ∀ n, h.dst = some n -> x.dst ≠ some n := fun n hn => (rx n hn).2
 have tail : ∀ (o : Oper), ∀ t ∈ tmpsOf o.op.operands.toList, t ∈ readsOf ops o := fun o t ht => by unfold readsOf; exact List.mem_append_left _ ht
 unfold indepM at hi
 split at hi
 ·rename_i ch cx
  rw [Bool.and_eq_true, Bool.and_eq_true] at hi
  obtain ⟨⟨hd0, hp0⟩, hany⟩ := hi
  obtain ⟨d, hd⟩ := Option.isSome_iff_exists.1 hd0
  obtain ⟨q, hp⟩ := Option.isSome_iff_exists.1 hp0
  obtain ⟨⟨lt, la, hlo⟩, stt, sb, sx, hst, hroot⟩ := pairM_some hp
  have hFne : F ≠ [] := by rintro rfl; cases hF x (.inr rfl) cx d hd
  rw [Step_iff2 ch] at h1
  obtain ⟨y, os', hy, rfl⟩ := h1
  rw [Step_iff1 (by omega)] at h2
  obtain ⟨v, ob, hg, hp2⟩ := h2
  have hg' := Gen_congr (E := E) (ts' := st.tmps) (ax st.tmps y) hg
  have hob : ob = none /\ Gen E B F ops x st.tmps (maskO (foM B F x) st.objs) v none := by
   rcases hg' with ⟨g1, g2, g3⟩ | ⟨g1, g0, g2⟩
   ·exact ⟨g3, .inl ⟨g1, g2, rfl⟩⟩
   ·have hload : (loadA E.P (maskO (foM B F x) os') lt (evA st.tmps la)).eval = some v /\ ob = none := by
     unfold Sem1 at g2; rw [hlo] at g2; simpa only [isMake, isS2B, semV] using g2
    refine ⟨hload.2, .inr ⟨g1, g0, ?_⟩⟩
    have hsem : (loadA E.P (maskO (foM B F x) st.objs) lt (evA st.tmps la)).eval = some v := by
     rcases hy with ⟨_, _, rfl⟩ | ⟨_, hfr, hs2⟩
     ·exact hload.1
     ·unfold S2 at hs2
      rw [hst] at hs2
      obtain ⟨r, hr, _, ho⟩ := hs2
      have hsep := ld_sep hFne hlo g0 hp hany
      have hsame := st_same hFne hst hroot (freshOK_st hfr)
      have hn := sep_ne hsep hsame hr ho (.inr rfl) hload.1
      rw [<- hload.1]
      congr 1
      refine loadA_congr fun i hii => getO_mask_eq _ ?_
      rw [ho, getO_setX, if_neg (hn i hii)]
    unfold Sem1; rw [hlo]; simp only [isMake, isS2B, semV]; exact ⟨hsem, trivial⟩
  obtain ⟨rfl, hg''⟩ := hob
  simp only [Put] at hp2
  subst hp2
  refine ⟨⟨putT st.tmps x.dst v, st.objs⟩, (Step_iff1 (by omega)).2 ⟨v, none, hg'', rfl⟩, (Step_iff2 ch).2 ⟨y, os', ?_, ?_⟩⟩
  ·have e := guardO_congr (ops := ops) (o := h) (ts := putT st.tmps x.dst v) (ts' := st.tmps) (ah st.tmps v)
   rcases hy with ⟨h1, h2⟩ | ⟨h1, h2⟩
   ·exact .inl ⟨e.trans h1, h2⟩
   ·exact .inr ⟨e.trans h1, (freshOK_congr (ah st.tmps v)).trans h2.1, S2_congr (fun t ht => (ah st.tmps v t (tail h t ht)).symm) h2.2⟩
  ·simp only; rw [putT_comm hne]
 ·rename_i ch cx
  rw [Bool.and_eq_true, Bool.and_eq_true] at hi
  obtain ⟨⟨hd0, hp0⟩, hany⟩ := hi
  obtain ⟨d, hd⟩ := Option.isSome_iff_exists.1 hd0
  obtain ⟨q, hp⟩ := Option.isSome_iff_exists.1 hp0
  obtain ⟨⟨lt, la, hlo⟩, stt, sb, sx, hst, hroot⟩ := pairM_some hp
  have hFne : F ≠ [] := by rintro rfl; cases hF h (.inl rfl) ch d hd
  rw [Step_iff1 (show cls h.op ≠ 2 by omega)] at h1
  obtain ⟨v, ob, hg, hp2⟩ := h1
  have hobn : ob = none := by
   rcases hg with ⟨_, _, g3⟩ | ⟨_, _, g2⟩
   ·exact g3
   ·unfold Sem1 at g2; rw [hlo] at g2; exact g2.2
  subst hobn
  simp only [Put] at hp2
  subst hp2
  rw [Step_iff2 cx] at h2
  obtain ⟨y, os', hy, rfl⟩ := h2
  simp only at hy
  have hg' : Gen E B F ops h st.tmps (maskO (foM B F h) os') v none := by
   rcases hg with ⟨g1, g2, g3⟩ | ⟨g1, g0, g2⟩
   ·exact .inl ⟨g1, g2, rfl⟩
   ·refine .inr ⟨g1, g0, ?_⟩
    have hload : (loadA E.P (maskO (foM B F h) st.objs) lt (evA st.tmps la)).eval = some v := by
     unfold Sem1 at g2; rw [hlo] at g2; exact g2.1
    have hsem : (loadA E.P (maskO (foM B F h) os') lt (evA st.tmps la)).eval = some v := by
     rcases hy with ⟨_, _, rfl⟩ | ⟨_, hfr, hs2⟩
     ·exact hload
     ·unfold S2 at hs2
      rw [hst] at hs2
      obtain ⟨r, hr, _, ho⟩ := hs2
      have hsep := ld_sep hFne hlo g0 hp hany
      have hfr' : freshOK B F ops st.tmps x = true := (freshOK_congr (ax st.tmps v)).symm.trans hfr
      have hsame := st_same hFne hst hroot (freshOK_st hfr')
      have esb : evA (putT st.tmps h.dst v) sb = evA st.tmps sb := evA_congr (l := x.op.operands.toList) (fun t ht => ax st.tmps v t (tail x t ht)) (by rw [hst]; simp [Op.operands])
      rw [esb] at hr
      have hn := sep_ne hsep hsame hr ho (.inl rfl) hload
      rw [<- hload]
      congr 1
      refine (loadA_congr fun i hii => getO_mask_eq _ ?_).symm
      rw [ho, getO_setX, if_neg (hn i hii)]
    unfold Sem1; rw [hlo]; simp only [isMake, isS2B, semV]; exact ⟨hsem, trivial⟩
  refine ⟨⟨putT st.tmps x.dst y, os'⟩, (Step_iff2 cx).2 ⟨y, os', ?_, rfl⟩, (Step_iff1 (show cls h.op ≠ 2 by omega)).2 ⟨v, none, ?_, ?_⟩⟩
  ·have e := guardO_congr (ops := ops) (o := x) (ts := putT st.tmps h.dst v) (ts' := st.tmps) (ax st.tmps v)
   rcases hy with ⟨h1, h2⟩ | ⟨h1, h2⟩
   ·exact .inl ⟨e ▸ h1, h2⟩
   ·exact .inr ⟨e ▸ h1, (freshOK_congr (ax st.tmps v)).symm.trans h2.1, S2_congr (fun t ht => ax st.tmps v t (tail x t ht)) h2.2⟩
  ·exact Gen_congr (fun t ht => (ah st.tmps y t ht).symm) hg'
  ·simp only [Put]; rw [putT_comm hne]
 ·cases hi
def shp : Ob -> Option (Option (TypeId × Nat × Nat))
 | .row e c n _ => some (some (e, c, n))
 | .box _ => some none
 | _ => none
theorem storeA_shp {P : Program} {os : List Ob} {t : TypeId} {a x : A} {r : Nat × Ob} (h : (storeA P os t a x).eval = some r) : shp (getO os r.1) = shp r.2 := by
 unfold storeA at h
 split at h
 ·split at h
  ·cases a with
   | ptr id off =>
    simp only at h
    split at h
    ·rename_i hg
     split at h
     ·simp only [T.eval, Option.some.injEq] at h
      subst h
      simp only [hg]; rfl
     ·cases h
    ·cases h
   | ap id k =>
    simp only at h
    split at h
    ·rename_i hg
     split at h
     ·split at h
      ·simp only [T.need, T.eval] at h
       split at h
       ·simp only [Option.some.injEq] at h
        subst h
        simp only [hg]; rfl
       ·cases h
      ·cases h
     ·cases h
    ·cases h
   | rp id c k off =>
    simp only at h
    split at h
    ·rename_i hg
     split at h
     ·rename_i hc
      rw [litN_eq] at h
      simp only [T.need, T.eval] at h
      split at h
      ·simp only [Option.some.injEq] at h
       subst h
       simp only [hg, shp]; rw [hc.1]
      ·cases h
     ·cases h
    ·cases h
   | _ => cases h
  ·cases h
 ·cases h
theorem mask_shp (G : List Nat) {os os' : List Ob} (h : ∀ i, shp (getO os i) = shp (getO os' i)) (i : Nat) : shp (getO (maskO G os) i) = shp (getO (maskO G os') i) := by
 induction G with
 | nil => exact h i
 | cons d G ih =>
  simp only [maskO, getO_setX]
  split
  ·rfl
  ·exact ih
theorem indexAddrA_shp {P : Program} {m m' : List Ob} (h : ∀ i, shp (getO m i) = shp (getO m' i)) (t : TypeId) (y i : A) : indexAddrA P m t y i = indexAddrA P m' t y i := by
 unfold indexAddrA
 cases i with
 | int k n =>
  simp only
  split
  ·rename_i e _
   cases y with
   | own id =>
    cases sizeT P e with
    | none => rfl
    | some s =>
     have hid := h id
     simp only
     cases h1 : getO m id <;> cases h2 : getO m' id <;> rw [h1, h2] at hid <;> simp only [shp, Option.some.injEq, Prod.mk.injEq, reduceCtorEq] at hid <;> try rfl
     obtain ⟨rfl, rfl, rfl⟩ := hid
     rfl
   | ov id c lo k =>
    cases sizeT P e with
    | none => rfl
    | some s =>
     have hid := h id
     simp only
     cases h1 : getO m id <;> cases h2 : getO m' id <;> rw [h1, h2] at hid <;> simp only [shp, Option.some.injEq, Prod.mk.injEq, reduceCtorEq] at hid <;> rfl
   | _ => cases sizeT P e <;> rfl
  ·rfl
  ·rfl
 | _ => rfl
theorem isIdx_some {o : Oper} (h : isIdx o = true) : ∃ t x i, o.op = .indexAddr t x i := by
 unfold isIdx at h
 split at h
 ·rename_i t x i hop; exact ⟨t, x, i, hop⟩
 ·cases h
theorem S2_shp {o : Oper} {ts : List A} {os os' : List Ob} {y : A} (ho : isSto o = true) (h : S2 E B o ts os y os') : ∀ i, shp (getO os' i) = shp (getO os i) := by
 unfold isSto at ho
 split at ho
 ·rename_i t a x hop
  unfold S2 at h
  rw [hop] at h
  obtain ⟨r, hr, _, rfl⟩ := h
  intro i
  rw [getO_setX]
  split
  ·rename_i e; rw [e]; exact (storeA_shp hr).symm
  ·rfl
 ·cases ho
theorem swapN {ops : List Oper} {h x : Oper} {st s1 s2 : St} (hi : indepN h x = true)
  (rx : ∀ d, h.dst = some d -> d ∉ readsOf ops x /\ x.dst ≠ some d) (rh : ∀ d, x.dst = some d -> d ∉ readsOf ops h)
  (h1 : Step E B F ops h st s1) (h2 : Step E B F ops x s1 s2) : ∃ s1', Step E B F ops x st s1' /\ Step E B F ops h s1' s2 := by
 have ax : ∀ (ts : List A) (v : A), ∀ t ∈ readsOf ops x, getA (putT ts h.dst v) t = getA ts t := fun ts v t ht => getA_putT (fun e => (rx t e).1 ht)
 have ah : ∀ (ts : List A) (v : A), ∀ t ∈ readsOf ops h, getA (putT ts x.dst v) t = getA ts t := fun ts v t ht => getA_putT (fun e => rh t e ht)
 have hne : ∀ n, h.dst = some n -> x.dst ≠ some n := fun n hn => (rx n hn).2
 have tail : ∀ (o : Oper), ∀ t ∈ tmpsOf o.op.operands.toList, t ∈ readsOf ops o := fun o t ht => by unfold readsOf; exact List.mem_append_left _ ht
 have key : ∀ {o : Oper} {ts : List A} {os os' : List Ob} {v : A} {ob : Option Ob}, isIdx o = true -> (∀ i, shp (getO os' i) = shp (getO os i)) -> Gen E B F ops o ts (maskO (foM B F o) os) v ob -> ob = none /\ Gen E B F ops o ts (maskO (foM B F o) os') v none := by
  intro o ts os os' v ob ho hs hg
  obtain ⟨t, y, i, hop⟩ := isIdx_some ho
  rcases hg with ⟨g1, g2, g3⟩ | ⟨g1, g0, g2⟩
  ·exact ⟨g3, .inl ⟨g1, g2, rfl⟩⟩
  ·unfold Sem1 at g2
   rw [hop] at g2
   simp only [isMake, isS2B, semV] at g2
   refine ⟨g2.2, .inr ⟨g1, g0, ?_⟩⟩
   unfold Sem1
   rw [hop]
   simp only [isMake, isS2B, semV]
   rw [indexAddrA_shp (m' := maskO (foM B F o) os) (mask_shp _ hs)]
   exact ⟨g2.1, trivial⟩
 unfold indepN at hi
 split at hi
 ·rename_i ch cx
  rw [Bool.and_eq_true] at hi
  obtain ⟨hst, hix⟩ := hi
  rw [Step_iff2 ch] at h1
  obtain ⟨y, os', hy, rfl⟩ := h1
  rw [Step_iff1 (by omega)] at h2
  obtain ⟨v, ob, hg, hp2⟩ := h2
  have hg' := Gen_congr (E := E) (ts' := st.tmps) (ax st.tmps y) hg
  have hsh : ∀ i, shp (getO os' i) = shp (getO st.objs i) := by
   rcases hy with ⟨_, _, rfl⟩ | ⟨_, _, hs2⟩
   ·exact fun _ => rfl
   ·exact S2_shp hst hs2
  obtain ⟨rfl, hg''⟩ := key hix (fun i => (hsh i).symm) hg'
  simp only [Put] at hp2
  subst hp2
  refine ⟨⟨putT st.tmps x.dst v, st.objs⟩, (Step_iff1 (by omega)).2 ⟨v, none, hg'', rfl⟩, (Step_iff2 ch).2 ⟨y, os', ?_, ?_⟩⟩
  ·have e := guardO_congr (ops := ops) (o := h) (ts := putT st.tmps x.dst v) (ts' := st.tmps) (ah st.tmps v)
   rcases hy with ⟨h1, h2⟩ | ⟨h1, h2⟩
   ·exact .inl ⟨e.trans h1, h2⟩
   ·exact .inr ⟨e.trans h1, (freshOK_congr (ah st.tmps v)).trans h2.1, S2_congr (fun t ht => (ah st.tmps v t (tail h t ht)).symm) h2.2⟩
  ·simp only; rw [putT_comm hne]
 ·rename_i ch cx
  rw [Bool.and_eq_true] at hi
  obtain ⟨hst, hix⟩ := hi
  rw [Step_iff1 (show cls h.op ≠ 2 by omega)] at h1
  obtain ⟨v, ob, hg, hp2⟩ := h1
  obtain ⟨rfl, _⟩ := key hix (fun _ => rfl) hg
  simp only [Put] at hp2
  subst hp2
  rw [Step_iff2 cx] at h2
  obtain ⟨y, os', hy, rfl⟩ := h2
  simp only at hy
  have hsh : ∀ i, shp (getO os' i) = shp (getO st.objs i) := by
   rcases hy with ⟨_, _, rfl⟩ | ⟨_, _, hs2⟩
   ·exact fun _ => rfl
   ·exact S2_shp hst hs2
  have hg' := (key hix hsh hg).2
  refine ⟨⟨putT st.tmps x.dst y, os'⟩, (Step_iff2 cx).2 ⟨y, os', ?_, rfl⟩, (Step_iff1 (show cls h.op ≠ 2 by omega)).2 ⟨v, none, ?_, ?_⟩⟩
  ·have e := guardO_congr (ops := ops) (o := x) (ts := putT st.tmps h.dst v) (ts' := st.tmps) (ax st.tmps v)
   rcases hy with ⟨h1, h2⟩ | ⟨h1, h2⟩
   ·exact .inl ⟨e ▸ h1, h2⟩
   ·exact .inr ⟨e ▸ h1, (freshOK_congr (ax st.tmps v)).symm.trans h2.1, S2_congr (fun t ht => ax st.tmps v t (tail x t ht)) h2.2⟩
  ·exact Gen_congr (fun t ht => (ah st.tmps y t ht).symm) hg'
  ·simp only [Put]; rw [putT_comm hne]
 ·cases hi
theorem inF_mem : ∀ {F : List Nat} {i : Nat}, i ∈ F -> inF F i = true
 | j :: F, i, h => by
  simp only [inF, Bool.or_eq_true]
  rcases List.mem_cons.1 h with rfl | h
  ·exact .inl (Nat.beq_refl _)
  ·exact .inr (inF_mem h)
theorem storeA_congr {P : Program} {os os' : List Ob} {t : TypeId} {a x : A} (h : ∀ i, addrO a = some i -> getO os i = getO os' i) : storeA P os t a x = storeA P os' t a x := by
 unfold storeA
 cases a with
 | ptr i off => simp only [h i rfl]
 | rp i c k off => simp only [h i rfl]
 | ap i k => simp only [h i rfl]
 | _ => rfl
theorem storeA_addr {P : Program} {os : List Ob} {t : TypeId} {a x : A} {r : Nat × Ob} (h : (storeA P os t a x).eval = some r) : addrO a = some r.1 /\ r.2 ≠ .virgin := by
 rcases storeA_at h with ⟨ha | ha, _, c, hc⟩ | ⟨ha, _, e, c, n, el, hc⟩
 ·obtain ⟨off, rfl⟩ := ha; exact ⟨rfl, by rw [hc]; intro q; cases q⟩
 ·obtain ⟨off, rfl⟩ := ha; exact ⟨rfl, by rw [hc]; intro q; cases q⟩
 ·obtain ⟨c1, k, off, rfl⟩ := ha; exact ⟨rfl, by rw [hc]; intro q; cases q⟩
theorem isStR_some {ops : List Oper} {o : Oper} (h : isStR ops o = true) : ∃ t b x, o.op = .store t b x /\ (rootA ops b).isSome = true := by
 unfold isStR at h
 split at h
 ·rename_i t b x hop; exact ⟨t, b, x, hop, h⟩
 ·cases h
theorem isBld_some {o : Oper} (h : isBld o = true) : ∃ t n ps, o.op = .buildSlice t n ps := by
 unfold isBld at h
 split at h
 ·rename_i hop; exact ⟨_, _, _, hop⟩
 ·cases h
theorem Gen_bld {ops : List Oper} {o : Oper} {ts : List A} {mo mo' : List Ob} {v : A} {ob : Option Ob} (h : isBld o = true) (hg : Gen E B F ops o ts mo v ob) : Gen E B F ops o ts mo' v ob := by
 obtain ⟨t, n, ps, hop⟩ := isBld_some h
 rcases hg with hg | ⟨g1, g2, g3⟩
 ·exact .inl hg
 ·refine .inr ⟨g1, g2, ?_⟩
  unfold Sem1 at g3 ⊢
  rw [hop] at g3 ⊢
  exact g3
theorem swapB {ops : List Oper} {h x : Oper} {st s1 s2 : St} (hi : indepB ops h x = true) (hF : ∀ o : Oper, (o = h \/ o = x) -> cls o.op = 1 -> ∀ d, o.dst = some d -> B + d ∈ F)
  (rx : ∀ d, h.dst = some d -> d ∉ readsOf ops x /\ x.dst ≠ some d) (rh : ∀ d, x.dst = some d -> d ∉ readsOf ops h)
  (h1 : Step E B F ops h st s1) (h2 : Step E B F ops x s1 s2) : ∃ s1', Step E B F ops x st s1' /\ Step E B F ops h s1' s2 := by
 have ax : ∀ (ts : List A) (v : A), ∀ t ∈ readsOf ops x, getA (putT ts h.dst v) t = getA ts t := fun ts v t ht => getA_putT (fun e => (rx t e).1 ht)
 have ah : ∀ (ts : List A) (v : A), ∀ t ∈ readsOf ops h, getA (putT ts x.dst v) t = getA ts t := fun ts v t ht => getA_putT (fun e => rh t e ht)
 have hne : ∀ n, h.dst = some n -> x.dst ≠ some n := fun n hn => (rx n hn).2
 have tail : ∀ (o : Oper), ∀ t ∈ tmpsOf o.op.operands.toList, t ∈ readsOf ops o := fun o t ht => by unfold readsOf; exact List.mem_append_left _ ht
 unfold indepB at hi
 split at hi
 ·
  rename_i ch cx
  rw [Bool.and_eq_true] at hi
  obtain ⟨hst, hbl⟩ := hi
  obtain ⟨ty, b, z, hop, _⟩ := isStR_some hst
  rw [Step_iff2 ch] at h1
  obtain ⟨y, os', hy, rfl⟩ := h1
  rw [Step_iff1 (by omega)] at h2
  obtain ⟨v, ob, hg, hp⟩ := h2
  have hg' : Gen E B F ops x st.tmps (maskO (foM B F x) st.objs) v ob := Gen_bld hbl (Gen_congr (E := E) (ts' := st.tmps) (ax st.tmps y) hg)
  have eg : ∀ v, guardO ops (putT st.tmps x.dst v) h = guardO ops st.tmps h := fun v => guardO_congr (ah st.tmps v)
  rcases hy with ⟨g1, rfl, rfl⟩ | ⟨g1, g2, g3⟩
  ·obtain ⟨e1, e2⟩ := Put_tmps (ts' := st.tmps) hp
   refine ⟨_, (Step_iff1 (by omega)).2 ⟨v, ob, hg', e2⟩, (Step_iff2 ch).2 ⟨.tup [], _, .inl ⟨(eg v).trans g1, rfl, rfl⟩, ?_⟩⟩
   simp only
   rw [<- putT_comm hne, <- e1]
  ·have g3' := g3
   unfold S2 at g3'
   rw [hop] at g3'
   obtain ⟨r, hr, rfl, rfl⟩ := g3'
   obtain ⟨ha, hnv⟩ := storeA_addr hr
   have fin : ∀ objs1 : List Ob, getO objs1 r.1 = getO st.objs r.1 -> Step E B F ops h ⟨putT st.tmps x.dst v, objs1⟩ ⟨putT (putT st.tmps x.dst v) h.dst (.tup []), setX objs1 r.1 r.2⟩ := by
    intro objs1 ho
    refine (Step_iff2 ch).2 ⟨.tup [], setX objs1 r.1 r.2, .inr ⟨(eg v).trans g1, ?_, S2_congr (fun u hu => (ah st.tmps v u (tail h u hu)).symm) ?_⟩, rfl⟩
    ·rw [<- g2]; exact freshOK_congr (ah st.tmps v)
    ·unfold S2
     rw [hop]
     refine ⟨r, ?_, rfl, rfl⟩
     rw [<- hr]
     refine congrArg T.eval (storeA_congr fun i hi => ?_)
     rw [ha] at hi
     cases hi
     exact ho
   cases ob with
   | none =>
    simp only [Put] at hp
    subst hp
    refine ⟨⟨putT st.tmps x.dst v, st.objs⟩, (Step_iff1 (by omega)).2 ⟨v, none, hg', rfl⟩, ?_⟩
    rw [putT_comm hne]
    exact fin _ rfl
   | some w =>
    obtain ⟨d, hd, hv, rfl⟩ := hp
    simp only [getO_setX] at hv
    have hrd : r.1 ≠ B + d := by
     intro e
     rw [if_pos e.symm] at hv
     exact hnv hv
    rw [if_neg (fun e => hrd e.symm)] at hv
    refine ⟨⟨setL st.tmps d v, setX st.objs (B + d) w⟩, (Step_iff1 (by omega)).2 ⟨v, some w, hg', d, hd, hv, rfl⟩, ?_⟩
    have hf := fin (setX st.objs (B + d) w) (by rw [getO_setX, if_neg hrd])
    have e1 := putT_comm (ts := st.tmps) (x := .tup []) (y := v) hne
    rw [hd] at hf e1
    have e4 : (⟨putT (putT st.tmps (some d) v) h.dst (.tup []), setX (setX st.objs (B + d) w) r.1 r.2⟩ : St) = ⟨setL (putT st.tmps h.dst (.tup [])) d v, setX (setX st.objs r.1 r.2) (B + d) w⟩ := by
     rw [setX_comm _ r.1 (B + d) _ _ hrd]
     exact congrArg (fun z => St.mk z _) e1.symm
    rw [e4] at hf
    exact hf
 ·
  rename_i ch cx
  rw [Bool.and_eq_true] at hi
  obtain ⟨hst, hbl⟩ := hi
  obtain ⟨ty, b, z, hop, hro⟩ := isStR_some hst
  rw [Step_iff1 (by omega)] at h1
  obtain ⟨v, ob, hg, hp⟩ := h1
  rw [Step_iff2 cx] at h2
  obtain ⟨y, os', hy, rfl⟩ := h2
  obtain ⟨e1, _⟩ := Put_tmps (ts' := st.tmps) hp
  have eg : guardO ops s1.tmps x = guardO ops st.tmps x := by rw [e1]; exact guardO_congr (ax st.tmps v)
  rcases hy with ⟨g1, rfl, rfl⟩ | ⟨g1, g2, g3⟩
  ·obtain ⟨_, e2⟩ := Put_tmps (ts' := putT st.tmps x.dst (.tup [])) hp
   refine ⟨_, (Step_iff2 cx).2 ⟨.tup [], _, .inl ⟨eg ▸ g1, rfl, rfl⟩, rfl⟩, (Step_iff1 (by omega)).2 ⟨v, ob, Gen_congr (fun u hu => (ah st.tmps _ u hu).symm) hg, ?_⟩⟩
   rw [e1, putT_comm hne]
   exact e2
  ·have g2' : freshOK B F ops st.tmps x = true := by rw [<- g2, e1]; exact (freshOK_congr (ax st.tmps v)).symm
   have g3' : S2 E B x st.tmps s1.objs y os' := S2_congr (fun u hu => by rw [e1]; exact ax st.tmps v u (tail x u hu)) g3
   unfold S2 at g3'
   rw [hop] at g3'
   obtain ⟨r, hr, rfl, rfl⟩ := g3'
   obtain ⟨ha, hnv⟩ := storeA_addr hr
   have mkS : ∀ objs0 : List Ob, getO objs0 r.1 = getO s1.objs r.1 -> objs0 = st.objs -> Step E B F ops x st ⟨putT st.tmps x.dst (.tup []), setX st.objs r.1 r.2⟩ := by
    intro objs0 ho hs
    refine (Step_iff2 cx).2 ⟨.tup [], setX st.objs r.1 r.2, .inr ⟨eg ▸ g1, g2', ?_⟩, rfl⟩
    unfold S2
    rw [hop]
    refine ⟨r, ?_, rfl, rfl⟩
    rw [<- hr]
    refine congrArg T.eval (storeA_congr fun i hi => ?_)
    rw [ha] at hi
    cases hi
    rw [<- hs]; exact ho
   cases ob with
   | none =>
    simp only [Put] at hp
    subst hp
    refine ⟨_, mkS st.objs rfl rfl, (Step_iff1 (by omega)).2 ⟨v, none, Gen_bld hbl (Gen_congr (fun u hu => (ah st.tmps (.tup []) u hu).symm) hg), ?_⟩⟩
    simp only [Put]
    rw [putT_comm hne]
   | some w =>
    obtain ⟨d, hd, hv, rfl⟩ := hp
    have hdF := hF h (.inl rfl) ch d hd
    have hb := freshOK_bld g2'
    have hrd : r.1 ≠ B + d := by
     intro e
     unfold bldOK at hb
     cases hFc : F with
     | nil => rw [hFc] at hdF; cases hdF
     | cons f0 F0 =>
      rw [hFc] at hb
      simp only [hop] at hb
      cases hq : rootA ops b with
      | none => rw [hq] at hro; cases hro
      | some q =>
       rw [hq] at hb
       simp only at hb
       have hin := inF_mem hdF
       rw [hFc, <- e] at hin
       revert hb ha
       cases evA st.tmps b with
       | ptr i off => intro ha hb; cases ha; simp only [notF, Bool.not_eq_true'] at hb; rw [hb] at hin; cases hin
       | rp i c k off => intro ha hb; cases ha; simp only [notF, Bool.not_eq_true'] at hb; rw [hb] at hin; cases hin
       | ap i k => intro ha hb; cases ha; simp only [notF, Bool.not_eq_true'] at hb; rw [hb] at hin; cases hin
       | _ => intro ha; cases ha
    refine ⟨_, mkS st.objs (by simp only [getO_setX]; rw [if_neg hrd]) rfl, (Step_iff1 (by omega)).2 ⟨v, some w, Gen_bld hbl (Gen_congr (fun u hu => (ah st.tmps (.tup []) u hu).symm) hg), d, hd, ?_, ?_⟩⟩
    ·simp only [getO_setX]
     rw [if_neg (fun e => hrd e.symm)]
     exact hv
    ·have e3 := putT_comm (ts := st.tmps) (x := v) (y := .tup []) hne
     rw [hd] at e3
     simp only [putT] at e3 ⊢
     rw [setX_comm _ (B + d) r.1 _ _ (fun e => hrd e.symm)]
     exact congrArg (fun z => St.mk z _) e3
 ·cases hi
theorem swap {ops : List Oper} {h x : Oper} {st s1 s2 : St} (hi : indep ops h x = true) (hF' : ∀ o : Oper, o ∈ ops -> cls o.op = 1 -> ∀ d, o.dst = some d -> B + d ∈ F) (hF : ∀ o : Oper, (o = h \/ o = x) -> cls o.op = 1 -> ∀ d, o.dst = some d -> B + d ∈ F)
  (h1 : Step E B F ops h st s1) (h2 : Step E B F ops x s1 s2) : ∃ s1', Step E B F ops x st s1' /\ Step E B F ops h s1' s2 := by
 unfold indep at hi
 rw [Bool.and_eq_true, Bool.and_eq_true, Bool.or_eq_true] at hi
 obtain ⟨⟨hdh, hdx⟩, hi⟩ := hi
 have rx : ∀ d, h.dst = some d -> d ∉ readsOf ops x /\ x.dst ≠ some d := by
  intro d hd
  rw [hd] at hdh
  simp only [Bool.and_eq_true, Bool.not_eq_true', bne_iff_ne, ne_eq, List.contains_eq_mem, decide_eq_false_iff_not] at hdh
  exact hdh
 have rh : ∀ d, x.dst = some d -> d ∉ readsOf ops h := by
  intro d hd
  rw [hd] at hdx
  simpa using hdx
 rcases hi with hi | hi
 case inr =>
  rw [Bool.or_eq_true, Bool.or_eq_true, Bool.or_eq_true, Bool.or_eq_true, Bool.or_eq_true] at hi
  rcases hi with hi | hi | hi | hi | hi | hi
  ·exact swapF hi hF' rx rh h1 h2
  ·exact swapS hi hF rx rh h1 h2
  ·exact swapL hi hF rx rh h1 h2
  ·exact swapM hi hF rx rh h1 h2
  ·exact swapN hi rx rh h1 h2
  ·exact swapB hi hF rx rh h1 h2
 simp only [Bool.and_eq_true, Bool.not_eq_true', decide_eq_true_eq] at hi
 obtain ⟨⟨⟨hcl, hc22⟩, hc12⟩, hc21⟩ := hi
 have ax : ∀ (ts : List A) (v : A), ∀ t ∈ readsOf ops x, getA (putT ts h.dst v) t = getA ts t := fun ts v t ht => getA_putT (fun e => (rx t e).1 ht)
 have ah : ∀ (ts : List A) (v : A), ∀ t ∈ readsOf ops h, getA (putT ts x.dst v) t = getA ts t := fun ts v t ht => getA_putT (fun e => rh t e ht)
 have hne : ∀ n, h.dst = some n -> x.dst ≠ some n := fun n hn => (rx n hn).2
 have tail : ∀ (o : Oper), ∀ t ∈ tmpsOf o.op.operands.toList, t ∈ readsOf ops o := fun o t ht => by unfold readsOf; exact List.mem_append_left _ ht
 by_cases ch : cls h.op = 2
 ·have cx : cls x.op = 0 := by
   have : cls x.op ≠ 2 := by rintro e; rw [ch, e] at hc22; simp at hc22
   have : cls x.op ≠ 1 := by rintro e; rw [ch, e] at hc21; simp at hc21
   omega
  rw [Step_iff2 ch] at h1
  obtain ⟨y, os', hy, rfl⟩ := h1
  rw [Step_iff1 (by omega)] at h2
  obtain ⟨v, ob, hg, hp⟩ := h2
  have hg' := Gen_congr (E := E) (ts' := st.tmps) (ax st.tmps y) hg
  have hob : ob = none /\ Gen E B F ops x st.tmps (maskO (foM B F x) st.objs) v none := by
   rcases hg' with ⟨h1, h2, h3⟩ | ⟨h1, h0, h2⟩
   ·exact ⟨h3, .inl ⟨h1, h2, rfl⟩⟩
   ·obtain ⟨h3, h4⟩ := Sem1_cls0 (mo' := maskO (foM B F x) st.objs) cx h2
    subst h4
    exact ⟨rfl, .inr ⟨h1, h0, h3⟩⟩
  obtain ⟨rfl, hg''⟩ := hob
  simp only [Put] at hp
  subst hp
  refine ⟨⟨putT st.tmps x.dst v, st.objs⟩, (Step_iff1 (by omega)).2 ⟨v, none, hg'', rfl⟩, (Step_iff2 ch).2 ⟨y, os', ?_, ?_⟩⟩
  ·have e := guardO_congr (ops := ops) (o := h) (ts := putT st.tmps x.dst v) (ts' := st.tmps) (ah st.tmps v)
   rcases hy with ⟨h1, h2⟩ | ⟨h1, h2⟩
   ·exact .inl ⟨e.trans h1, h2⟩
   ·exact .inr ⟨e.trans h1, (freshOK_congr (ah st.tmps v)).trans h2.1, S2_congr (fun t ht => (ah st.tmps v t (tail h t ht)).symm) h2.2⟩
  ·simp only; rw [putT_comm hne]
 ·by_cases cx : cls x.op = 2
  ·have c0 : cls h.op = 0 := by
    have : cls h.op ≠ 1 := by rintro e; rw [cx, e] at hc12; simp at hc12
    omega
   rw [Step_iff1 ch] at h1
   obtain ⟨v, ob, hg, hp⟩ := h1
   have hob : ob = none /\ ∀ mo, Gen E B F ops h st.tmps mo v none := by
    rcases hg with ⟨h1, h2, h3⟩ | ⟨h1, h0, h2⟩
    ·exact ⟨h3, fun mo => .inl ⟨h1, h2, rfl⟩⟩
    ·have := (Sem1_cls0 (mo' := []) c0 h2).2
     subst this
     exact ⟨rfl, fun mo => .inr ⟨h1, h0, (Sem1_cls0 (mo' := mo) c0 h2).1⟩⟩
   obtain ⟨rfl, hg'⟩ := hob
   simp only [Put] at hp
   subst hp
   rw [Step_iff2 cx] at h2
   obtain ⟨y, os', hy, rfl⟩ := h2
   refine ⟨⟨putT st.tmps x.dst y, os'⟩, (Step_iff2 cx).2 ⟨y, os', ?_, rfl⟩, (Step_iff1 ch).2 ⟨v, none, ?_, ?_⟩⟩
   ·have e := guardO_congr (ops := ops) (o := x) (ts := putT st.tmps h.dst v) (ts' := st.tmps) (ax st.tmps v)
    rcases hy with ⟨h1, h2⟩ | ⟨h1, h2⟩
    ·exact .inl ⟨e ▸ h1, h2⟩
    ·exact .inr ⟨e ▸ h1, (freshOK_congr (ax st.tmps v)).symm.trans h2.1, S2_congr (fun t ht => ax st.tmps v t (tail x t ht)) h2.2⟩
   ·exact Gen_congr (fun t ht => (ah st.tmps y t ht).symm) (hg' _)
   ·simp only [Put]; rw [putT_comm hne]
  ·rw [Step_iff1 ch] at h1
   rw [Step_iff1 cx] at h2
   obtain ⟨v, ob, hg, hp⟩ := h1
   obtain ⟨u, ob', hg2, hp2⟩ := h2
   have mk : ∀ {o : Oper} {ts : List A} {mo : List Ob} {v : A} {x : Ob}, Gen E B F ops o ts mo v (some x) -> cls o.op = 1 := by
    rintro o ts mo v x (⟨_, _, h⟩ | ⟨_, _, h⟩)
    ·cases h
    ·exact Sem1_made h
   cases ob with
   | none =>
    simp only [Put] at hp
    subst hp
    simp only at hg2 hp2
    have hg2' := Gen_congr (E := E) (ts' := st.tmps) (ax st.tmps v) hg2
    cases ob' with
    | none =>
     simp only [Put] at hp2
     subst hp2
     refine ⟨⟨putT st.tmps x.dst u, st.objs⟩, (Step_iff1 cx).2 ⟨u, none, hg2', rfl⟩, (Step_iff1 ch).2 ⟨v, none, Gen_congr (fun t ht => (ah st.tmps u t ht).symm) hg, ?_⟩⟩
     simp only [Put]; rw [putT_comm hne]
    | some ox =>
     obtain ⟨d, hd, hv, rfl⟩ := hp2
     have hdF := hF x (.inr rfl) (mk hg2) d hd
     refine ⟨⟨setL st.tmps d u, setX st.objs (B + d) ox⟩, (Step_iff1 cx).2 ⟨u, some ox, hg2', d, hd, hv, rfl⟩, (Step_iff1 ch).2 ⟨v, none, ?_, ?_⟩⟩
     ·simp only
      rw [mask_set (foM B F h) st.objs (B + d) ox (mem_foM hdF (rh d hd))]
      refine Gen_congr (fun t ht => ?_) hg
      have := ah st.tmps u t ht
      rw [hd] at this
      exact this.symm
     ·simp only [Put]
      have := putT_comm (ts := st.tmps) (x := v) (y := u) hne
      rw [hd] at this
      simp only [putT] at this ⊢
      rw [this]
   | some oh =>
    obtain ⟨d, hd, hv, rfl⟩ := hp
    have hdF := hF h (.inl rfl) (mk hg) d hd
    simp only at hg2 hp2
    rw [mask_set (foM B F x) st.objs (B + d) oh (mem_foM hdF (rx d hd).1)] at hg2
    have hg2' : Gen E B F ops x st.tmps (maskO (foM B F x) st.objs) u ob' := by
     refine Gen_congr (fun t ht => ?_) hg2
     have := ax st.tmps v t ht
     rw [hd] at this
     exact this
    have hne' : x.dst ≠ some d := hne d hd
    cases ob' with
    | none =>
     simp only [Put] at hp2
     subst hp2
     refine ⟨⟨putT st.tmps x.dst u, st.objs⟩, (Step_iff1 cx).2 ⟨u, none, hg2', rfl⟩, (Step_iff1 ch).2 ⟨v, some oh, Gen_congr (fun t ht => (ah st.tmps u t ht).symm) hg, d, hd, hv, ?_⟩⟩
     have := putT_comm (ts := st.tmps) (x := v) (y := u) hne
     rw [hd] at this
     simp only [putT] at this ⊢
     rw [this]
    | some ox =>
     obtain ⟨d', hd', hv', rfl⟩ := hp2
     have hdd : d' ≠ d := fun e => hne' (by rw [hd', e])
     have hdF' := hF x (.inr rfl) (mk hg2) d' hd'
     simp only [getO_setX] at hv'
     rw [if_neg (fun e => hdd (Nat.add_left_cancel e))] at hv'
     refine ⟨⟨setL st.tmps d' u, setX st.objs (B + d') ox⟩, (Step_iff1 cx).2 ⟨u, some ox, hg2', d', hd', hv', rfl⟩, (Step_iff1 ch).2 ⟨v, some oh, ?_, d, hd, ?_, ?_⟩⟩
     ·simp only
      rw [mask_set (foM B F h) st.objs (B + d') ox (mem_foM hdF' (rh d' hd'))]
      refine Gen_congr (fun t ht => ?_) hg
      have := ah st.tmps u t ht
      rw [hd'] at this
      exact this.symm
     ·simp only [getO_setX]
      rw [if_neg (fun e => hdd (Nat.add_left_cancel e).symm)]
      exact hv
     ·simp only
      rw [setL_comm _ d d' _ _ (Ne.symm hdd), setX_comm _ (B + d) (B + d') _ _ (fun e => hdd (Nat.add_left_cancel e).symm)]
end
end Go.Sy
namespace Go.Sy
open Region (binds)
def rdy (m : Region.Mode) (ops : Array Oper) (listed : Array Bool) : List Nat :=
 (List.range ops.size).filter fun i => !listed.getD i true && ((ops[i]?).map (·.after.all fun e => !binds m e || listed.getD e.on false)).getD false
def Chain (m : Region.Mode) (ops : Array Oper) : Array Bool -> List Nat -> Prop
 | _, [] => True
 | listed, i :: l => i ∈ rdy m ops listed /\ Chain m ops (listed.setIfInBounds i true) l
def setAll : Array Bool -> List Nat -> Array Bool
 | listed, [] => listed
 | listed, i :: l => setAll (listed.setIfInBounds i true) l
theorem go_spec (m : Region.Mode) (ops : Array Oper) : ∀ (fuel t : Nat) (listed : Array Bool) (acc : List Nat),
  ∃ l, Region.linearise.go m ops fuel t listed acc = acc.reverse ++ l /\ Chain m ops listed l /\ (l.length = fuel \/ rdy m ops (setAll listed l) = [])
 | 0, t, listed, acc => ⟨[], by simp [Region.linearise.go], trivial, .inl rfl⟩
 | fuel + 1, t, listed, acc => by
  unfold Region.linearise.go
  simp only
  split
  ·rename_i i hi
   obtain ⟨l, h1, h2, h3⟩ := go_spec m ops fuel (t / (rdy m ops listed).length) (listed.setIfInBounds i true) (i :: acc)
   refine ⟨i :: l, ?_, ⟨List.mem_of_getElem? hi, h2⟩, ?_⟩
   ·refine Eq.trans h1 ?_
    simp
   ·rcases h3 with h3 | h3
    ·exact .inl (by simp [h3])
    ·exact .inr h3
  ·rename_i hn
   refine ⟨[], by simp, trivial, .inr ?_⟩
   change (rdy m ops listed)[t % (rdy m ops listed).length]? = none at hn
   rcases Nat.eq_zero_or_pos (rdy m ops listed).length with h0 | h0
   ·exact List.eq_nil_of_length_eq_zero h0
   ·rw [List.getElem?_eq_getElem (Nat.mod_lt _ h0)] at hn; cases hn
section
variable {m : Region.Mode} {ops : Array Oper}
theorem mem_rdy {listed : Array Bool} {i : Nat} (h : i ∈ rdy m ops listed) : i < ops.size /\ listed.getD i true = false /\ ∀ o, ops[i]? = some o -> ∀ e ∈ o.after, binds m e = true -> listed.getD e.on false = true := by
 unfold rdy at h
 simp only [List.mem_filter, List.mem_range, Bool.and_eq_true, Bool.not_eq_true'] at h
 obtain ⟨h1, h2, h3⟩ := h
 refine ⟨h1, h2, fun o ho e he hb => ?_⟩
 rw [ho] at h3
 simp only [Option.map_some, Option.getD_some, Array.all_eq_true_iff_forall_mem, Bool.or_eq_true, Bool.not_eq_true'] at h3
 rcases h3 e he with h | h
 ·rw [hb] at h; cases h
 ·exact h
theorem rdy_mem {listed : Array Bool} {i : Nat} {o : Oper} (ho : ops[i]? = some o) (h2 : listed.getD i true = false) (h3 : ∀ e ∈ o.after, binds m e = true -> listed.getD e.on false = true) : i ∈ rdy m ops listed := by
 unfold rdy
 simp only [List.mem_filter, List.mem_range, Bool.and_eq_true, Bool.not_eq_true']
 refine ⟨?_, h2, ?_⟩
 ·rcases Nat.lt_or_ge i ops.size with h | h
  ·exact h
  ·rw [Array.getElem?_eq_none h] at ho; cases ho
 ·rw [ho]
  simp only [Option.map_some, Option.getD_some, Array.all_eq_true_iff_forall_mem, Bool.or_eq_true, Bool.not_eq_true']
  intro e he
  cases hb : binds m e with
  | false => exact .inl rfl
  | true => exact .inr (h3 e he hb)
theorem setAll_size : ∀ (l : List Nat) (listed : Array Bool), (setAll listed l).size = listed.size
 | [], listed => rfl
 | i :: l, listed => by rw [setAll, setAll_size l]; simp
theorem setAll_get : ∀ (l : List Nat) (listed : Array Bool) (j : Nat), (setAll listed l).getD j false = true ↔ (listed.getD j false = true \/ (j ∈ l /\ j < listed.size))
 | [], listed, j => by simp [setAll]
 | i :: l, listed, j => by
  rw [setAll, setAll_get l]
  simp only [Array.size_setIfInBounds, List.mem_cons]
  by_cases hij : i = j
  ·subst hij
   by_cases hlt : i < listed.size
   ·simp [Array.getD, hlt]
   ·simp [Array.getD, hlt]
  ·have : (listed.setIfInBounds i true).getD j false = listed.getD j false := by
    simp [Array.getD_eq_getD_getElem?, Array.getElem?_setIfInBounds_ne hij]
   rw [this]
   constructor
   ·rintro (h | h)
    ·exact .inl h
    ·exact .inr ⟨.inr h.1, h.2⟩
   ·rintro (h | ⟨h | h, h'⟩)
    ·exact .inl h
    ·exact (hij h.symm).elim
    ·exact .inr ⟨h, h'⟩
theorem getD_tf {listed : Array Bool} {i : Nat} (h : listed.getD i true = false) : listed.getD i false = false /\ i < listed.size := by
 rw [Array.getD_eq_getD_getElem?] at h ⊢
 cases hg : listed[i]? with
 | none => rw [hg] at h; simp at h
 | some b =>
  rw [hg] at h
  refine ⟨by simpa using h, ?_⟩
  rcases Nat.lt_or_ge i listed.size with h' | h'
  ·exact h'
  ·rw [Array.getElem?_eq_none h'] at hg; cases hg
theorem Chain.pos : ∀ {p : List Nat} {i : Nat} {q : List Nat} {listed : Array Bool}, Chain m ops listed (p ++ i :: q) -> i ∈ rdy m ops (setAll listed p)
 | [], i, q, listed, h => h.1
 | j :: p, i, q, listed, h => by
  have h2 : Chain m ops (listed.setIfInBounds j true) (p ++ i :: q) := h.2
  exact Chain.pos (p := p) h2
theorem Chain.nodup : ∀ (l : List Nat) (listed : Array Bool), Chain m ops listed l -> (∀ x ∈ l, listed.getD x true = false) /\ l.Nodup
 | [], listed, _ => ⟨(fun x hx => by cases hx), List.nodup_nil⟩
 | i :: l, listed, h => by
  obtain ⟨h1, h2⟩ := h
  obtain ⟨_, h3, _⟩ := mem_rdy h1
  obtain ⟨h4, h5⟩ := Chain.nodup l _ h2
  have hi := (getD_tf h3).2
  have hne : ∀ x ∈ l, x ≠ i := by
   rintro x hx rfl
   have := h4 x hx
   simp [Array.getD, hi] at this
  refine ⟨fun x hx => ?_, List.nodup_cons.2 ⟨fun h => hne i h rfl, h5⟩⟩
  rcases List.mem_cons.1 hx with rfl | hx
  ·exact h3
  ·have := h4 x hx
   rwa [Array.getD_eq_getD_getElem?, Array.getElem?_setIfInBounds_ne (Ne.symm (hne x hx)), <- Array.getD_eq_getD_getElem?] at this
theorem Chain.facts {n : Nat} {l : List Nat} (h : Chain m ops (Array.replicate n false) l) (hn : n = ops.size) :
  l.Nodup /\ (∀ i ∈ l, i < ops.size) /\ ∀ p i q, l = p ++ i :: q -> ∀ o, ops[i]? = some o -> ∀ e ∈ o.after, binds m e = true -> e.on ∈ p := by
 have hrep : ∀ j, (Array.replicate n false).getD j false = false := by
  intro j; simp [Array.getD_eq_getD_getElem?, Array.getElem?_replicate]; split <;> rfl
 have A1 : ∀ p i q, l = p ++ i :: q -> i < ops.size /\ i ∉ p /\ ∀ o, ops[i]? = some o -> ∀ e ∈ o.after, binds m e = true -> e.on ∈ p := by
  intro p i q hl
  rw [hl] at h
  obtain ⟨h1, h2, h3⟩ := mem_rdy h.pos
  refine ⟨h1, fun hp => ?_, fun o ho e he hb => ?_⟩
  ·have := (getD_tf h2).1
   have h4 : (setAll (Array.replicate n false) p).getD i false = true := (setAll_get p _ i).2 (.inr ⟨hp, by simp; omega⟩)
   rw [this] at h4; cases h4
  ·rcases (setAll_get p _ _).1 (h3 o ho e he hb) with h5 | h5
   ·rw [hrep] at h5; cases h5
   ·exact h5.1
 refine ⟨(Chain.nodup _ _ h).2, fun i hi => ?_, fun p i q hl => (A1 p i q hl).2.2⟩
 obtain ⟨p, q, hl⟩ := List.append_of_mem hi
 exact (A1 p i q hl).1
def Ord (m : Region.Mode) (ops : Array Oper) (ord : List Nat) : Prop := (∀ i, i ∈ ord ↔ i < ops.size) /\ ∀ p i q, ord = p ++ i :: q -> ∀ o, ops[i]? = some o -> ∀ e ∈ o.after, binds m e = true -> e.on ∈ p
theorem first_unlisted {ok : Nat -> Prop} : ∀ (l : List Nat) (i : Nat), i ∈ l -> ¬ ok i -> ∃ p j q, l = p ++ j :: q /\ ¬ ok j /\ ∀ x ∈ p, ok x
 | a :: l, i, hi, hn => by
  by_cases ha : ok a
  ·rcases List.mem_cons.1 hi with rfl | hi
   ·exact (hn ha).elim
   ·obtain ⟨p, j, q, h1, h2, h3⟩ := first_unlisted l i hi hn
    refine ⟨a :: p, j, q, by rw [h1]; rfl, h2, fun x hx => ?_⟩
    rcases List.mem_cons.1 hx with rfl | hx
    ·exact ha
    ·exact h3 x hx
  ·exact ⟨[], a, l, rfl, ha, fun x hx => by cases hx⟩
theorem complete {n : Nat} {ord l : List Nat} (hn : n = ops.size) (ho : Ord m ops ord) (hc : Chain m ops (Array.replicate n false) l) (hl : l.length = n \/ rdy m ops (setAll (Array.replicate n false) l) = []) : ∀ i, i < ops.size -> i ∈ l := by
 obtain ⟨hnd, hlt, _⟩ := hc.facts hn
 rcases hl with hl | hl
 ·intro i hi
  -- n different numbers below n are all of them
  apply Classical.byContradiction
  intro hni
  have hsub : (i :: l).Nodup := List.nodup_cons.2 ⟨hni, hnd⟩
  have hle : (i :: l).length <= (List.range ops.size).length := by
   have : ∀ (a b : List Nat), a.Nodup -> (∀ x ∈ a, x ∈ b) -> a.length <= b.length := by
    intro a
    induction a with
    | nil => intro b _ _; simp
    | cons x a ih =>
     intro b hnd hsub
     have hx := hsub x List.mem_cons_self
     obtain ⟨p, q, rfl⟩ := List.append_of_mem hx
     have h1 := ih (p ++ q) (List.nodup_cons.1 hnd).2 (fun y hy => by
      have := hsub y (List.mem_cons_of_mem _ hy)
      simp only [List.mem_append, List.mem_cons] at this ⊢
      rcases this with h | h | h
      ·exact .inl h
      ·subst h; exact ((List.nodup_cons.1 hnd).1 hy).elim
      ·exact .inr h)
     simp only [List.length_append, List.length_cons] at h1 ⊢
     omega
   refine this _ _ hsub fun x hx => ?_
   rcases List.mem_cons.1 hx with rfl | hx
   ·simpa using hi
   ·simpa using hlt x hx
  simp at hle
  omega
 ·intro i hi
  apply Classical.byContradiction
  intro hni
  obtain ⟨p, j, q, h1, h2, h3⟩ := first_unlisted (ok := fun x => x ∈ l \/ ¬ x < ops.size) ord i ((ho.1 i).2 hi) (by rintro (h | h); exact hni h; exact h hi)
  have hj : j < ops.size := Classical.byContradiction fun h => h2 (.inr h)
  have hjl : j ∉ l := fun h => h2 (.inl h)
  have hoj : ops[j]? = some ops[j] := Array.getElem?_eq_getElem hj
  have hsz : (setAll (Array.replicate n false) l).size = ops.size := by rw [setAll_size]; simp [hn]
  have : j ∈ rdy m ops (setAll (Array.replicate n false) l) := by
   refine rdy_mem hoj ?_ fun e he hb => ?_
   ·have hf : (setAll (Array.replicate n false) l).getD j false ≠ true := by
     intro h
     rcases (setAll_get l _ j).1 h with h | h
     ·simp [Array.getD_eq_getD_getElem?, Array.getElem?_replicate] at h
      split at h <;> simp at h
     ·exact hjl h.1
    have hg : (setAll (Array.replicate n false) l)[j]? = some (setAll (Array.replicate n false) l)[j] := Array.getElem?_eq_getElem (by omega)
    rw [Array.getD_eq_getD_getElem?, hg] at hf ⊢
    simpa using hf
   ·have hp := ho.2 p j q h1 _ hoj e he hb
    rcases h3 _ hp with h | h
    ·exact (setAll_get l _ _).2 (.inr ⟨h, by
      have := hlt _ h
      simp; omega⟩)
    ·exact (h ((ho.1 _).1 (by rw [h1]; exact List.mem_append_left _ hp))).elim
  rw [hl] at this
  cases this
theorem ord_gc (h : (Region.linearise .gc ops 0).length = ops.size) : Ord .gc ops (Region.linearise .gc ops 0) := by
 unfold Region.linearise at h ⊢
 obtain ⟨l, h1, h2, _⟩ := go_spec .gc ops ops.size 0 (Array.replicate ops.size false) []
 rw [h1] at h ⊢
 simp only [List.reverse_nil, List.nil_append] at h ⊢
 obtain ⟨hnd, hlt, hp⟩ := h2.facts rfl
 refine ⟨fun i => ⟨hlt i, fun hi => ?_⟩, hp⟩
 -- as many as there are
 apply Classical.byContradiction
 intro hni
 have hsub : (i :: l).Nodup := List.nodup_cons.2 ⟨hni, hnd⟩
 have : ∀ (a b : List Nat), a.Nodup -> (∀ x ∈ a, x ∈ b) -> a.length <= b.length := by
  intro a
  induction a with
  | nil => intro b _ _; simp
  | cons x a ih =>
   intro b hnd hsub
   have hx := hsub x List.mem_cons_self
   obtain ⟨p, q, rfl⟩ := List.append_of_mem hx
   have h1 := ih (p ++ q) (List.nodup_cons.1 hnd).2 (fun y hy => by
    have := hsub y (List.mem_cons_of_mem _ hy)
    simp only [List.mem_append, List.mem_cons] at this ⊢
    rcases this with h | h | h
    ·exact .inl h
    ·subst h; exact ((List.nodup_cons.1 hnd).1 hy).elim
    ·exact .inr h)
   simp only [List.length_append, List.length_cons] at h1 ⊢
   omega
 have hle := this (i :: l) (List.range ops.size) hsub fun x hx => by
  rcases List.mem_cons.1 hx with rfl | hx
  ·simpa using hi
  ·simpa using hlt x hx
 simp at hle
 omega
theorem binds_any {m : Region.Mode} {e : Edge} (h : binds .any e = true) : binds m e = true := by
 unfold binds at h ⊢
 split at h <;> first | rfl | (simp at h)
theorem range_split {n i : Nat} {p q : List Nat} (h : List.range n = p ++ i :: q) : p = List.range i := by
 have hl : p.length < n := by have := congrArg List.length h; simp at this; omega
 have hi : i = p.length := by
  have h1 : (List.range n)[p.length]? = some i := by rw [h]; simp
  rw [List.getElem?_range hl] at h1
  simpa using h1.symm
 have h2 : p = (List.range n).take p.length := by rw [h]; simp
 rw [h2, List.take_range, <- hi, Nat.min_eq_left (by omega)]
theorem ord_text (h : ∀ i o, ops[i]? = some o -> ∀ e ∈ o.after, binds .text e = true -> e.on < i) (hm : ∀ e, binds m e = true -> binds .text e = true) : Ord m ops (List.range ops.size) := by
 refine ⟨fun i => List.mem_range, fun p i q hl o ho e he hb => ?_⟩
 rw [range_split hl]
 exact List.mem_range.2 (h i o ho e he (hm e hb))
theorem schedule_facts (hT : ∀ i o, ops[i]? = some o -> ∀ e ∈ o.after, binds .text e = true -> e.on < i) (hG : (Region.linearise .gc ops 0).length = ops.size) (mixed : Bool) (t : Nat) :
  (Region.schedule mixed ops t).Nodup /\ (∀ i, i ∈ Region.schedule mixed ops t ↔ i < ops.size) /\
  ∀ p i q, Region.schedule mixed ops t = p ++ i :: q -> ∀ o, ops[i]? = some o -> ∀ e ∈ o.after, binds .any e = true -> e.on ∈ p := by
 have key : ∀ m t, (∃ ord, Ord m ops ord) -> (Region.linearise m ops t).Nodup /\ (∀ i, i ∈ Region.linearise m ops t ↔ i < ops.size) /\
   ∀ p i q, Region.linearise m ops t = p ++ i :: q -> ∀ o, ops[i]? = some o -> ∀ e ∈ o.after, binds .any e = true -> e.on ∈ p := by
  rintro m t ⟨ord, ho⟩
  unfold Region.linearise
  obtain ⟨l, h1, h2, h3⟩ := go_spec m ops ops.size t (Array.replicate ops.size false) []
  rw [h1]
  simp only [List.reverse_nil, List.nil_append]
  obtain ⟨hnd, hlt, hp⟩ := h2.facts rfl
  exact ⟨hnd, fun i => ⟨hlt i, complete rfl ho h2 h3 i⟩, fun p i q hl o ho e he hb => hp p i q hl o ho e he (binds_any hb)⟩
 unfold Region.schedule
 split
 ·exact key .any t ⟨_, ord_text hT fun e he => binds_any he⟩
 ·split
  ·exact key .text _ ⟨_, ord_text hT fun e he => he⟩
  ·exact key .gc _ ⟨_, ord_gc hG⟩
end
def ancF (o : Oper) (acc : List (List Nat)) : List Nat := o.after.toList.flatMap fun e => if binds .any e then e.on :: (acc[e.on]?).getD [] else []
theorem ancs_spec : ∀ (rest : List Oper) (acc : List (List Nat)), (ancs rest acc).take acc.length = acc /\ ∀ k o, rest[k]? = some o -> (ancs rest acc)[acc.length + k]? = some (ancF o ((ancs rest acc).take (acc.length + k)))
 | [], acc => ⟨by simp [ancs], fun k o h => by simp at h⟩
 | r :: rest, acc => by
  obtain ⟨h1, h2⟩ := ancs_spec rest (acc ++ [ancF r acc])
  have e : ancs (r :: rest) acc = ancs rest (acc ++ [ancF r acc]) := rfl
  rw [e]
  simp only [List.length_append, List.length_cons, List.length_nil, Nat.zero_add] at h1 h2
  have h0 : (ancs rest (acc ++ [ancF r acc])).take acc.length = acc := by
   have := congrArg (List.take acc.length) h1
   rw [List.take_take, Nat.min_eq_left (by omega)] at this
   rw [this]; simp
  refine ⟨h0, fun k o hk => ?_⟩
  cases k with
  | zero =>
   simp at hk; subst hk
   have h3 : ((ancs rest (acc ++ [ancF r acc])).take (acc.length + 1))[acc.length]? = some (ancF r acc) := by rw [h1]; simp
   rw [List.getElem?_take_of_lt (by omega)] at h3
   rw [Nat.add_zero, h3, h0]
  | succ k =>
   have := h2 k o (by simpa using hk)
   rwa [show acc.length + 1 + k = acc.length + (k + 1) by omega] at this
section
variable {E : Env} {B : Nat} {F : List Nat} {ops : Array Oper}
theorem anc_before {l : List Nat} (hT : ∀ i o, ops[i]? = some o -> ∀ e ∈ o.after, binds .text e = true -> e.on < i) (hl : ∀ p i q, l = p ++ i :: q -> ∀ o, ops[i]? = some o -> ∀ e ∈ o.after, binds .any e = true -> e.on ∈ p) :
  ∀ (i : Nat) (j : Nat), j ∈ ((ancs ops.toList [])[i]?).getD [] -> ∀ p q, l = p ++ i :: q -> j ∈ p := by
 intro i
 induction i using Nat.strongRecOn with
 | _ i ih =>
  intro j hj p q hpq
  cases ho : ops[i]? with
  | none =>
   exfalso
   have hlen : (ancs ops.toList []).length <= ops.size := by
    have : ∀ (r : List Oper) (a : List (List Nat)), (ancs r a).length = a.length + r.length := by
     intro r
     induction r with
     | nil => intro a; simp [ancs]
     | cons x r ih => intro a; rw [ancs, ih]; simp; omega
    rw [this]; simp
   have : ops.size <= i := by
    rcases Nat.lt_or_ge i ops.size with h | h
    ·rw [Array.getElem?_eq_getElem h] at ho; cases ho
    ·exact h
   rw [List.getElem?_eq_none (by omega)] at hj
   simp at hj
  | some o =>
   have hs := (ancs_spec ops.toList []).2 i o (by simpa using ho)
   simp only [List.length_nil, Nat.zero_add] at hs
   rw [hs] at hj
   simp only [Option.getD_some, ancF, List.mem_flatMap] at hj
   obtain ⟨e, he, hj⟩ := hj
   have he' : e ∈ o.after := by simpa using he
   split at hj
   ·rename_i hb
    have hlt := hT i o ho e he' (binds_any hb)
    have hon := hl p i q hpq o ho e he' hb
    rcases List.mem_cons.1 hj with rfl | hj
    ·exact hon
    ·rw [List.getElem?_take_of_lt hlt] at hj
     obtain ⟨p1, p2, hp⟩ := List.append_of_mem hon
     have := ih e.on hlt j hj p1 (p2 ++ i :: q) (by rw [hpq, hp]; simp)
     rw [hp]
     exact List.mem_append_left _ this
   ·cases hj
theorem move_back {h : Nat} {oh : Oper} (ho : ops[h]? = some oh) (hA : ∀ o : Oper, o ∈ ops.toList -> cls o.op = 1 -> ∀ d, o.dst = some d -> B + d ∈ F) : ∀ (p : List Nat) {st s1 s2 : St}, (∀ x ∈ p, ∃ ox, ops[x]? = some ox /\ indep ops.toList oh ox = true) -> (∀ o : Oper, cls o.op = 1 -> (o = oh \/ ∃ x ∈ p, ops[x]? = some o) -> ∀ d, o.dst = some d -> B + d ∈ F) ->
  Step E B F ops.toList oh st s1 -> RunI E B F ops p s1 s2 -> ∃ s1', RunI E B F ops p st s1' /\ Step E B F ops.toList oh s1' s2
 | [], st, s1, s2, _, _, h1, h2 => by simp only [RunI] at h2; subst h2; exact ⟨st, rfl, h1⟩
 | x :: p, st, s1, s2, hi, hF, h1, h2 => by
  obtain ⟨ox, hx, hind⟩ := hi x List.mem_cons_self
  obtain ⟨ox', t1, hx', h3, h4⟩ := h2
  rw [hx] at hx'; cases hx'
  obtain ⟨t0, h5, h6⟩ := swap hind hA (fun o ho hc => hF o hc (by
   rcases ho with rfl | rfl
   ·exact .inl rfl
   ·exact .inr ⟨x, List.mem_cons_self, hx⟩)) h1 h3
  obtain ⟨s1', h7, h8⟩ := move_back ho hA p (fun y hy => hi y (List.mem_cons_of_mem _ hy)) (fun o hc hy => hF o hc (by
   rcases hy with rfl | ⟨y, hy, h⟩
   ·exact .inl rfl
   ·exact .inr ⟨y, List.mem_cons_of_mem _ hy, h⟩)) h6 h4
  exact ⟨s1', ⟨ox, t0, hx, h5, h7⟩, h8⟩
theorem reorder (hF : ∀ o : Oper, cls o.op = 1 -> (∃ x : Nat, ops[x]? = some o) -> ∀ d, o.dst = some d -> B + d ∈ F)
  (hP : ∀ (i j : Nat) (oi oj : Oper), i < j -> ops[i]? = some oi -> ops[j]? = some oj -> i ∈ ((ancs ops.toList [])[j]?).getD [] \/ indep ops.toList oi oj = true) : ∀ (rem l : List Nat) {st st' : St}, rem.Pairwise (· < ·) -> l.Nodup -> (∀ i, i ∈ l ↔ i ∈ rem) ->
  (∀ p i q, l = p ++ i :: q -> ∀ j ∈ ((ancs ops.toList [])[i]?).getD [], j ∉ q) -> RunI E B F ops rem st st' -> RunI E B F ops l st st'
 | [], l, st, st', _, _, hm, _, hr => by
  cases l with
  | nil => exact hr
  | cons x l => have := (hm x).1 List.mem_cons_self; cases this
 | h :: rem, l, st, st', hs, hnd, hm, ha, hr => by
  obtain ⟨oh, s1, ho, h1, h2⟩ := hr
  obtain ⟨p, q, rfl⟩ := List.append_of_mem ((hm h).2 List.mem_cons_self)
  have hnd' := hnd
  rw [List.nodup_append] at hnd
  obtain ⟨hp, hq, hpq⟩ := hnd
  rw [List.nodup_cons] at hq
  have hhp : h ∉ p := fun hh => hpq h hh h List.mem_cons_self rfl
  have hs' := List.pairwise_cons.1 hs
  have hmem : ∀ i, i ∈ p ++ q ↔ i ∈ rem := by
   intro i
   have := hm i
   simp only [List.mem_append, List.mem_cons] at this ⊢
   constructor
   ·intro hi
    have h3 : i ≠ h := by
     rintro rfl
     rcases hi with hi | hi
     ·exact hhp hi
     ·exact hq.1 hi
    rcases this.1 (by rcases hi with hi | hi; exact .inl hi; exact .inr (.inr hi)) with h4 | h4
    ·exact (h3 h4).elim
    ·exact h4
   ·intro hi
    rcases this.2 (.inr hi) with h4 | h4 | h4
    ·exact .inl h4
    ·subst h4; exact (Nat.lt_irrefl _ (hs'.1 _ hi)).elim
    ·exact .inr h4
  have ih := reorder hF hP rem (p ++ q) hs'.2 (by
   rw [List.nodup_append]
   exact ⟨hp, hq.2, fun a ha b hb => hpq a ha b (List.mem_cons_of_mem _ hb)⟩) hmem (by
   intro p' i q' hl j hj hjq
   -- where i stands in the whole
   rcases List.append_eq_append_iff.1 hl with ⟨r, h3, h4⟩ | ⟨r, h3, h4⟩
   ·
    refine ha (p ++ h :: r) i q' (by rw [h4]; simp) j hj hjq
   ·
    cases r with
    | nil =>
     simp at h3 h4
     refine ha (p ++ [h]) i q' (by rw [<- h4]; simp) j hj hjq
    | cons y r =>
     simp only [List.cons_append, List.cons.injEq] at h4
     obtain ⟨rfl, rfl⟩ := h4
     refine ha p' i (r ++ h :: q) (by rw [h3]; simp) j hj ?_
     simp only [List.mem_append, List.mem_cons] at hjq ⊢
     rcases hjq with hh | hh
     ·exact .inl hh
     ·exact .inr (.inr hh)) h2
  rw [RunI.append] at ih
  obtain ⟨s2, h3, h4⟩ := ih
  obtain ⟨s1', h5, h6⟩ := move_back ho (fun o hm hc => hF o hc (by
   obtain ⟨x, hx⟩ := List.getElem?_of_mem hm
   exact ⟨x, by simpa using hx⟩)) p (fun x hx => by
   have hxl : x ∈ h :: rem := (hm x).1 (List.mem_append_left _ hx)
   have hlt : h < x := by
    rcases List.mem_cons.1 hxl with rfl | hh
    ·exact (hhp hx).elim
    ·exact hs'.1 x hh
   cases hox : ops[x]? with
   | none =>
    exfalso
    have : ∀ (l : List Nat) (s t : St), RunI E B F ops l s t -> ∀ y ∈ l, ops[y]? ≠ none := by
     intro l
     induction l with
     | nil => intro s t _ y hy; cases hy
     | cons z l ihl =>
      rintro s t ⟨o, s1, hz, _, hr⟩ y hy
      rcases List.mem_cons.1 hy with rfl | hy
      ·rw [hz]; simp
      ·exact ihl s1 t hr y hy
    exact this p s1 s2 h3 x hx hox
   | some ox =>
    refine ⟨ox, rfl, ?_⟩
    rcases hP h x oh ox hlt ho hox with hh | hh
    ·exfalso
     obtain ⟨p1, p2, hp12⟩ := List.append_of_mem hx
     refine ha p1 x (p2 ++ h :: q) (by rw [hp12]; simp) h hh (by simp)
    ·exact hh) (fun o hc hy => hF o hc (by
     rcases hy with rfl | ⟨y, _, h⟩
     ·exact ⟨_, ho⟩
     ·exact ⟨y, h⟩)) h1 h3
  rw [RunI.append]
  exact ⟨s1', h5, oh, s2, ho, h6, h4⟩
theorem mem_sites (l : List Oper) (o : Oper) (d : Nat) (h : o ∈ l) (hc : cls o.op = 1) (hd : o.dst = some d) : B + d ∈ sitesOf B l := by
 induction l with
 | nil => cases h
 | cons x l ih =>
  rw [sitesOf]
  by_cases hx : o = x
  ·subst hx
   rw [if_pos hc, hd]
   exact List.mem_cons_self
  ·have h' : o ∈ l := by
    rcases List.mem_cons.1 h with e | h'
    ·exact (hx e).elim
    ·exact h'
   by_cases h1 : cls x.op = 1
   ·rw [if_pos h1]
    cases x.dst with
    | none => exact ih h'
    | some d => exact List.mem_cons_of_mem _ (ih h')
   ·rw [if_neg h1]; exact ih h'
theorem mem_ded : ∀ (l acc : List Nat) (x : Nat), x ∈ ded l acc -> x ∈ l \/ x ∈ acc
 | [], acc, x, h => .inr h
 | y :: l, acc, x, h => by
  rcases mem_ded l _ x h with h | h
  ·exact .inl (List.mem_cons_of_mem _ h)
  ·split at h
   ·exact .inr h
   ·rcases List.mem_cons.1 h with rfl | h
    ·exact .inl (List.mem_cons_self ..)
    ·exact .inr h
theorem ancsD_sub : ∀ (rest : List Oper) (a b : List (List Nat)), a.length = b.length -> (∀ (i x : Nat), x ∈ (a[i]?).getD [] -> x ∈ (b[i]?).getD []) -> ∀ (i x : Nat), x ∈ ((ancsD rest a)[i]?).getD [] -> x ∈ ((ancs rest b)[i]?).getD []
 | [], a, b, _, h => h
 | o :: rest, a, b, hl, h => by
  refine ancsD_sub rest _ _ (by simp [hl]) fun i x hx => ?_
  rw [List.getElem?_append] at hx ⊢
  rw [<- hl]
  split at hx
  ·rename_i hi
   rw [if_pos hi]
   exact h i x hx
  ·rename_i hi
   rw [if_neg hi]
   cases hk : i - a.length with
   | zero =>
    rw [hk] at hx
    simp only [List.getElem?_cons_zero, Option.getD_some] at hx ⊢
    rcases mem_ded _ _ _ hx with hx | hx
    ·rw [List.mem_flatMap] at hx ⊢
     obtain ⟨e, he, hx⟩ := hx
     refine ⟨e, he, ?_⟩
     split at hx
     ·rename_i hb
      rw [if_pos hb]
      rcases List.mem_cons.1 hx with rfl | hx
      ·exact List.mem_cons_self ..
      ·exact List.mem_cons_of_mem _ (h _ _ hx)
     ·cases hx
    ·cases hx
   | succ k => rw [hk] at hx; simp at hx
theorem tail_list : ∀ (d k : Nat) (l : List Nat), l.Nodup -> (∀ i, i ∈ l ↔ i < k + d) -> (∀ j, k <= j -> j < k + d -> ∀ p q, l = p ++ j :: q -> ∀ i, i < j -> i ∈ p) -> ∃ p, l = p ++ List.range' k d
 | 0, k, l, _, _, _ => ⟨l, by simp⟩
 | d + 1, k, l, hn, hm, ht => by
  obtain ⟨p, q, hl⟩ := List.append_of_mem ((hm (k + d)).2 (by omega))
  have hb := ht (k + d) (by omega) (by omega) p q hl
  have hn' := hn
  rw [hl, List.nodup_append] at hn
  obtain ⟨hp, hq, hpq⟩ := hn
  have hq0 : q = [] := by
   cases q with
   | nil => rfl
   | cons x q =>
    exfalso
    have hx : x < k + (d + 1) := (hm x).1 (by rw [hl]; simp)
    have hne : x ≠ k + d := by
     rintro rfl
     simp at hq
    exact hpq x (hb x (by omega)) x (by simp) rfl
  subst hq0
  obtain ⟨p', hp'⟩ := tail_list d k p hp (fun i => by
   have := hm i
   rw [hl] at this
   simp only [List.mem_append, List.mem_singleton] at this
   constructor
   ·intro hi
    have h1 := this.1 (.inl hi)
    have h2 : i ≠ k + d := by rintro rfl; exact hpq _ hi _ (by simp) rfl
    omega
   ·intro hi
    exact hb i hi) (fun j h1 h2 p1 q1 hl1 => ht j h1 (by omega) p1 (q1 ++ [k + d]) (by rw [hl, hl1]; simp))
  refine ⟨p', ?_⟩
  rw [hl, hp', List.range'_concat]
  simp
theorem chk_facts (h : chkD ops = true) : (∀ i o, ops[i]? = some o -> ∀ e ∈ o.after, binds .text e = true -> e.on < i) /\ (Region.linearise .gc ops 0).length = ops.size /\
  ∀ (i j : Nat) (oi oj : Oper), i < j -> ops[i]? = some oi -> ops[j]? = some oj -> i ∈ ((ancs ops.toList [])[j]?).getD [] \/ indep ops.toList oi oj = true := by
 unfold chkD at h
 simp only [Bool.and_eq_true] at h
 obtain ⟨⟨h1, h2⟩, h3⟩ := h
 refine ⟨?_, by simpa using h3, ?_⟩
 ·intro i o ho e he hb
  have hi : i < ops.size := by
   rcases Nat.lt_or_ge i ops.size with h | h
   ·exact h
   ·rw [Array.getElem?_eq_none h] at ho; cases ho
  rw [List.all_eq_true] at h2
  have := h2 i (List.mem_range.2 hi)
  rw [ho] at this
  simp only [Option.map_some, Option.getD_some, Array.all_eq_true_iff_forall_mem, Bool.or_eq_true, decide_eq_true_eq, Bool.not_eq_true'] at this
  rcases this e he with h | h
  ·exact h
  ·rw [hb] at h; cases h
 ·intro i j oi oj hij hoi hoj
  unfold chkPairs at h1
  rw [List.all_eq_true] at h1
  have hj : j < ops.size := by
   rcases Nat.lt_or_ge j ops.size with h | h
   ·exact h
   ·rw [Array.getElem?_eq_none h] at hoj; cases hoj
  have := h1 j (List.mem_range.2 (by simpa using hj))
  rw [List.all_eq_true] at this
  have := this i (List.mem_range.2 hij)
  simp only [Bool.or_eq_true] at this
  rcases this with hh | hh
  ·left; exact ancsD_sub ops.toList [] [] rfl (fun _ _ h => h) j i (by simpa using hh)
  ·right
   have e1 : ops.toList[i]? = some oi := by simpa using hoi
   have e2 : ops.toList[j]? = some oj := by simpa using hoj
   rw [e1, e2] at hh
   exact hh
theorem orders_tail (h : chkD ops = true) {k : Nat} (hk : k <= ops.size) (ht : tailB ops k = true) (mixed : Bool) (t : Nat) : ∃ p, Region.schedule mixed ops t = p ++ List.range' k (ops.size - k) /\
  ∀ st st', RunI E B (sitesOf B ops.toList) ops (List.range k) st st' -> RunI E B (sitesOf B ops.toList) ops p st st' := by
 obtain ⟨hT, hG, hP⟩ := chk_facts h
 obtain ⟨hnd, hmem, hpre⟩ := schedule_facts hT hG mixed t
 have hb : ∀ (i : Nat) (j : Nat), j ∈ ((ancs ops.toList [])[i]?).getD [] -> ∀ p q, Region.schedule mixed ops t = p ++ i :: q -> j ∈ p := fun i j hj p q hl => anc_before hT hpre i j hj p q hl
 obtain ⟨p, hp⟩ := tail_list (ops.size - k) k _ hnd (fun i => by rw [hmem]; omega) (fun j h1 h2 p q hl i hi => by
  unfold tailB at ht
  simp only [List.all_eq_true, List.mem_range, Bool.or_eq_true] at ht
  rcases ht j (by omega) with h3 | h3
  ·rw [Nat.blt_eq] at h3; omega
  ·have h4 := h3 i hi
   exact hb j i (ancsD_sub ops.toList [] [] rfl (fun _ _ h => h) j i (by simpa using h4)) p q hl)
 refine ⟨p, hp, fun st st' hr => ?_⟩
 rw [hp, List.nodup_append] at hnd
 obtain ⟨hpn, _, hpq⟩ := hnd
 refine reorder ?_ hP (List.range k) p List.pairwise_lt_range hpn ?_ ?_ hr
 ·rintro o hc ⟨x, hx⟩ d hd
  exact mem_sites _ o d (by simpa using Array.mem_of_getElem? hx) hc hd
 ·intro i
  have := hmem i
  rw [hp] at this
  simp only [List.mem_append, List.mem_range'_1] at this
  rw [List.mem_range]
  constructor
  ·intro hi
   have h1 := this.1 (.inl hi)
   rcases Nat.lt_or_ge i k with h2 | h2
   ·exact h2
   ·exact (hpq i hi i (by rw [List.mem_range'_1]; omega) rfl).elim
  ·intro hi
   rcases this.2 (by omega) with h1 | h1
   ·exact h1
   ·omega
 ·intro p1 i q hl j hj hjq
  have h1 := hb i j hj p1 (q ++ List.range' k (ops.size - k)) (by rw [hp, hl]; simp)
  rw [hl, List.nodup_append] at hpn
  exact hpn.2.2 j h1 j (List.mem_cons_of_mem _ hjq) rfl
theorem tailB_end {k : Nat} (h : ops.size <= k) : tailB ops k = true := by
 unfold tailB
 simp only [List.all_eq_true, List.mem_range, Bool.or_eq_true]
 intro j hj
 exact .inl (by rw [Nat.blt_eq]; omega)
end
end Go.Sy
