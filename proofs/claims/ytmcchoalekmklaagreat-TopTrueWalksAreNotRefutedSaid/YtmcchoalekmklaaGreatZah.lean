/-
  Contracts of functions, proved by going through their code. No conditions.
-/
import Derived.Test.YtmcchoalekmklaaGreatZag
set_option linter.unusedVariables false
set_option linter.unusedSimpArgs false
namespace Go.Pg
open Go Go.RowKit
section
variable {H H' : Nat → Option AO}
theorem rowAt_mono (h : Ext H H') {id : Nat} {r : Row} (hr : rowAt H id = some r) : rowAt H' id = some r := by
  have := h id _ (rowAt_eq hr)
  unfold rowAt; rw [this]
theorem rdPtr_mono (h : Ext H H') {p : AV} {x : List AV × Nat} (hr : rdPtr H p = some x) : rdPtr H' p = some x := by
  cases p <;> simp only [rdPtr] at hr ⊢ <;> try exact hr
  split at hr
  · rename_i r hrow; rw [rowAt_mono h hrow]; exact hr
  · cases hr
theorem loadA_mono (h : Ext H H') {T : TypeId → Option Ty} {t : TypeId} {p x : AV} (hr : loadA T H t p = some x) : loadA T H' t p = some x := by
  unfold loadA at hr ⊢
  split at hr
  · rename_i h1 h2; rw [h1, rdPtr_mono h h2]; exact hr
  · cases hr
theorem indexAddrA_mono (h : Ext H H') {T : TypeId → Option Ty} {t : TypeId} {p i x : AV} (hr : indexAddrA T H t p i = some x) : indexAddrA T H' t p i = some x := by
  cases p <;> try exact hr
  rename_i id off n
  cases hrow : rowAt H id with
  | none =>
    exfalso
    simp only [indexAddrA, hrow] at hr
    repeat' split at hr
    all_goals first | (cases hr; done) | (simp [offA] at hr; done)
  | some r =>
    simp only [indexAddrA, hrow] at hr
    simp only [indexAddrA, rowAt_mono h hrow]
    exact hr
theorem sliceA_mono (h : Ext H H') {T : TypeId → Option Ty} {t : TypeId} {p x : AV} {lo hi : Option AV} (hr : sliceA T H t p lo hi = some x) : sliceA T H' t p lo hi = some x := by
  by_cases hp : ∃ id off n, p = .ref id off n
  · obtain ⟨id, off, n, rfl⟩ := hp
    cases hT : T t with
    | none => simp [sliceA, hT] at hr
    | some y =>
      obtain ⟨sz, bs, z, d⟩ := y
      cases d <;> simp only [sliceA, hT] at hr ⊢ <;> try (cases hr; done)
      cases hrow : rowAt H id with
      | none => simp [hrow] at hr
      | some r =>
        simp only [hrow] at hr
        simp only [rowAt_mono h hrow]
        exact hr
  · unfold sliceA at hr ⊢
    split at hr <;> simp_all
theorem lookupA_mono (h : Ext H H') {T : TypeId → Option Ty} {eqT : TypeId → Bool} {t : TypeId} {p i x : AV} {ok : Bool} (hr : lookupA T eqT H t p i ok = some x) : lookupA T eqT H' t p i ok = some x := by
  unfold lookupA at hr ⊢
  split at hr
  · split at hr
    · rename_i h1 h2 h3
      simp only [h1, h2, h _ _ h3]
      exact hr
    · cases hr
  · exact hr
  · cases hr
theorem evsA_congr {ev ev' : Operand → AV} : ∀ {l : List Operand}, (∀ x ∈ l, ev x = ev' x) → evsA l ev = evsA l ev'
  | [], _ => rfl
  | x :: l, h => by simp only [evsA]; rw [h x (by simp), evsA_congr (fun y hy => h y (by simp [hy]))]
theorem listA_congr {ev ev' : Operand → AV} : ∀ {l : List (Nat × Operand)}, (∀ x ∈ l.map (·.2), ev x = ev' x) → listA l ev = listA l ev'
  | [], _ => rfl
  | x :: l, h => by simp only [listA]; rw [h x.2 (by simp), listA_congr (fun y hy => h y (by simp only [List.map_cons, List.mem_cons]; exact .inr hy))]
theorem map_some_mono {α β : Type} {f : α → β} {x y : Option α} {z : β} (h : ∀ a, x = some a → y = some a) (hx : x.map f = some z) : y.map f = some z := by
  simp only [Option.map_eq_some_iff] at hx ⊢
  obtain ⟨a, h1, h2⟩ := hx
  exact ⟨a, h a h1, h2⟩
theorem stepA_mono {T : TypeId → Option Ty} {eqT : TypeId → Bool} {ev ev' : Operand → AV} {key : Nat} {op : Op} {res : AV × Option Row} (hH : Ext H H') (hev : ∀ x ∈ op.operands, ev x = ev' x)
    (h : stepA T eqT H ev key op = some res) : stepA T eqT H' ev' key op = some res := by
  cases op
  case slice t x lo hi mx =>
    cases mx
    · simp only [stepA] at h ⊢
      rw [← hev x (by simp [Op.operands])]
      have e1 : lo.map ev' = lo.map ev := by
        cases lo with
        | none => rfl
        | some u => rw [Option.map_some, Option.map_some, hev u (by simp [Op.operands])]
      have e2 : hi.map ev' = hi.map ev := by
        cases hi with
        | none => rfl
        | some u => rw [Option.map_some, Option.map_some, hev u (by simp [Op.operands])]
      rw [e1, e2]
      exact map_some_mono (fun _ h => sliceA_mono hH h) h
    · simp [stepA] at h
  case makeFunc f first cs =>
    cases f <;> simp only [stepA] at h ⊢ <;> try (cases h; done)
    rw [← evsA_congr (ev := ev) (ev' := ev') (l := cs.toList) (fun y hy => hev y (by simp only [Op.operands, Array.mem_append]; exact .inr (by simpa using hy))),
      ← evsA_congr (ev := ev) (ev' := ev') (l := first.toList) (fun y hy => hev y (by simp only [Op.operands, Array.mem_append]; exact .inl (by simpa using hy)))]
    exact h
  case call c =>
    obtain ⟨callee, args, tys⟩ := c
    have hargs : evsA args.toList ev = evsA args.toList ev' := evsA_congr (fun y hy => hev y (by simp only [Op.operands, Call.operands, Array.mem_append]; exact .inr (by simpa using hy)))
    cases callee <;> simp only [stepA] at h ⊢ <;> try (cases h; done)
    rename_i b
    cases b <;> simp only at h ⊢ <;> try (cases h; done)
    · split at h
      · rename_i x t h1 h2
        rw [h1] at hargs
        simp only [evsA] at hargs
        injection hargs with hargs
        simp only [h1, h2, ← hargs]; exact h
      · cases h
    all_goals (rw [← hargs]; exact h)
  case build t ps =>
    simp only [stepA] at h ⊢
    rw [← listA_congr (ev := ev) (ev' := ev') (l := ps.toList) (fun y hy => hev y (by simpa [Op.operands] using hy))]; exact h
  case buildSlice t n ps =>
    simp only [stepA] at h ⊢
    rw [← listA_congr (ev := ev) (ev' := ev') (l := ps.toList) (fun y hy => hev y (by simpa [Op.operands] using hy))]; exact h
  case pick c x y =>
    simp only [stepA] at h ⊢
    rw [← hev c (by simp [Op.operands]), ← hev x (by simp [Op.operands]), ← hev y (by simp [Op.operands])]; exact h
  case load t x =>
    simp only [stepA] at h ⊢
    rw [← hev x (by simp [Op.operands])]
    exact map_some_mono (fun _ h => loadA_mono hH h) h
  case indexAddr t x i =>
    simp only [stepA] at h ⊢
    rw [← hev x (by simp [Op.operands]), ← hev i (by simp [Op.operands])]
    exact map_some_mono (fun _ h => indexAddrA_mono hH h) h
  case lookup t x i ok =>
    simp only [stepA] at h ⊢
    rw [← hev x (by simp [Op.operands]), ← hev i (by simp [Op.operands])]
    exact map_some_mono (fun _ h => lookupA_mono hH h) h
  case makeSlice t x i =>
    simp only [stepA] at h ⊢
    rw [← hev x (by simp [Op.operands]), ← hev i (by simp [Op.operands])]; exact h
  case binOp op t x y yt =>
    simp only [stepA] at h ⊢
    rw [← hev x (by simp [Op.operands]), ← hev y (by simp [Op.operands])]; exact h
  case index t x y =>
    simp only [stepA] at h ⊢
    rw [← hev x (by simp [Op.operands]), ← hev y (by simp [Op.operands])]; exact h
  all_goals first
    | (simp only [stepA] at h ⊢; exact h)
    | (simp only [stepA] at h ⊢; rename_i x; rw [← hev x (by simp [Op.operands])]; exact h)
    | (simp only [stepA] at h ⊢; rename_i x _; rw [← hev x (by simp [Op.operands])]; exact h)
    | (simp only [stepA] at h ⊢; rename_i x _ _; rw [← hev x (by simp [Op.operands])]; exact h)
    | (simp [stepA] at h; done)
mutual
theorem viewA_mono (h : Ext H H') : ∀ (c c' : AV), viewA H c = some c' → viewA H' c = some c'
  | .junk, c', hc => hc
  | .v x, c', hc => by
    unfold viewA at hc ⊢
    split at hc <;> try contradiction
    · rename_i he; injection he with he
    · exact hc
  | .agg cs, c', hc => by
    simp only [viewA, Option.map_eq_some_iff] at hc ⊢
    obtain ⟨ds, h1, h2⟩ := hc
    exact ⟨ds, viewL_mono h cs ds h1, h2⟩
  | .tup cs, c', hc => by
    simp only [viewA, Option.map_eq_some_iff] at hc ⊢
    obtain ⟨ds, h1, h2⟩ := hc
    exact ⟨ds, viewL_mono h cs ds h1, h2⟩
  | .clo f cs, c', hc => by
    simp only [viewA, Option.map_eq_some_iff] at hc ⊢
    obtain ⟨ds, h1, h2⟩ := hc
    exact ⟨ds, viewL_mono h cs ds h1, h2⟩
  | .bnd f cs, c', hc => by
    simp only [viewA, Option.map_eq_some_iff] at hc ⊢
    obtain ⟨ds, h1, h2⟩ := hc
    exact ⟨ds, viewL_mono h cs ds h1, h2⟩
  | .lst es, c', hc => hc
  | .iptr e j, c', hc => hc
  | .ref id off n, c', hc => by
    simp only [viewA] at hc ⊢
    split at hc
    · rename_i r hr; rw [rowAt_mono h hr]; exact hc
    · cases hc
  | .ptr id i j tag, c', hc => by
    simp only [viewA] at hc ⊢
    split at hc
    · rename_i r hr; rw [rowAt_mono h hr]; exact hc
    · cases hc
  | .map id, c', hc => by simp [viewA] at hc
  | .lmap a b c, c', hc => hc
theorem viewL_mono (h : Ext H H') : ∀ (cs ds : List AV), viewL H cs = some ds → viewL H' cs = some ds
  | [], ds, hc => hc
  | c :: cs, ds, hc => by
    simp only [viewL] at hc ⊢
    split at hc
    · rename_i d ds' h1 h2
      rw [viewA_mono h c d h1, viewL_mono h cs ds' h2]; exact hc
    · cases hc
end
end
theorem ev_congr {s s' : St} {ops : Array Oper} {o : Oper} (h : ∀ t ∈ o.looksAt ops, s.tm t = s'.tm t) : ∀ x ∈ o.op.operands, s.ev x = s'.ev x := by
  intro x hx
  cases x with
  | tmp t => exact h t (List.mem_append_left _ (List.mem_filterMap.2 ⟨.tmp t, by simpa using hx, rfl⟩))
  | _ => rfl
theorem one_guard {C : Cx} {N : Nat} {ops : Array Oper} {o : Oper} {s s' : St} {j t : Nat} {want : Bool} (hg : o.guard = some (j, want)) (ht : (ops[j]?).bind (·.dst) = some t) (hb : s.tm t = .v (.bool want)) (h : One C N ops { o with guard := none } s s') : One C N ops o s s' := by
  intro S0 w0 a w K Q hE hs hK
  have := h S0 w0 a w K Q hE hs hK
  obtain ⟨σ, hσ⟩ := hs
  have hy := yielded_of (ops := ops) hσ ht hb
  rw [if_pos (by simp [Region.wanted])] at this
  rw [if_pos (by simp [Region.wanted, hg, hy])]
  exact this
theorem one_skip {C : Cx} {N : Nat} {ops : Array Oper} {o : Oper} {s : St} {j t d : Nat} {want : Bool} (hg : o.guard = some (j, want)) (ht : (ops[j]?).bind (·.dst) = some t) (hb : s.tm t = .v (.bool (!want))) (hd : o.dst = some d) (hN : d < N) : One C N ops o s ⟨upd s.tm d (.v undef), s.H, s.nx⟩ := by
  intro S0 w0 a w K Q hE hs hK
  obtain ⟨σ, hσ⟩ := hs
  have hy := yielded_of (ops := ops) hσ ht hb
  rw [if_neg (by simp [Region.wanted, hg, hy])]
  rw [hd]
  refine hK _ _ ⟨σ, ?_⟩
  exact hσ.put hN (s' := { s with tm := upd s.tm d (.v undef) }) (r := .v undef) hσ.inv hσ.nx (hσ.inv.le_heap (fun _ _ => rfl)) (Below.refl _ _) rfl rfl
theorem one_skipU {C : Cx} {N : Nat} {ops : Array Oper} {o : Oper} {s : St} {j t d : Nat} {want : Bool} (hg : o.guard = some (j, want)) (ht : (ops[j]?).bind (·.dst) = some t) (hb : s.tm t = .v undef) (hd : o.dst = some d) (hN : d < N) : One C N ops o s ⟨upd s.tm d (.v undef), s.H, s.nx⟩ := by
  intro S0 w0 a w K Q hE hs hK
  obtain ⟨σ, hσ⟩ := hs
  have hy := yielded_undef (ops := ops) hσ ht hb
  rw [if_neg (by simp [Region.wanted, hg, hy])]
  rw [hd]
  refine hK _ _ ⟨σ, ?_⟩
  exact hσ.put hN (s' := { s with tm := upd s.tm d (.v undef) }) (r := .v undef) hσ.inv hσ.nx (hσ.inv.le_heap (fun _ _ => rfl)) (Below.refl _ _) rfl rfl
theorem looks_guard {ops : Array Oper} {o : Oper} {j t : Nat} {want : Bool} (hg : o.guard = some (j, want)) (ht : (ops[j]?).bind (·.dst) = some t) : t ∈ o.looksAt ops := by
  unfold Oper.looksAt
  rw [hg]
  simp only [ht]
  exact List.mem_append_right _ (by simp)
theorem looks_sub {ops : Array Oper} {o : Oper} {t : Nat} (h : t ∈ ({ o with guard := none } : Oper).looksAt ops) : t ∈ o.looksAt ops := by
  unfold Oper.looksAt at h ⊢
  rcases List.mem_append.1 h with h | h
  · exact List.mem_append_left _ h
  · cases h
section
variable {C : Cx} {N : Nat} {ops : Array Oper} {H0 : Nat → Option AO} {b : Nat} {tg mk av : List Nat} {Fin : St → Prop} {s : St} {i : Nat} {rest : List Oper}
variable {op : Op} {ty : TypeId} {ps : String} {af : Array Edge} {d j t : Nat} {want bb : Bool}
theorem stepA_put {T : TypeId → Option Ty} {eqT : TypeId → Bool} {H : Nat → Option AO} {ev : Operand → AV} {k1 k2 : Nat} {op : Op} {r : AV} (h : stepA T eqT H ev k1 op = some (r, none)) : stepA T eqT H ev k2 op = some (r, none) := by
  cases op <;> try exact h
  case call c => obtain ⟨callee, args, tys⟩ := c; cases callee <;> try exact h
                 rename_i b; cases b <;> exact h
  case slice t x lo hi mx => cases mx <;> exact h
  case makeFunc f first cs => cases f <;> exact h
  all_goals (simp only [stepA] at h)
  all_goals (repeat' split at h)
  all_goals (try cases h)
  all_goals (simp only [Option.map_eq_some_iff] at h; obtain ⟨_, _, h⟩ := h; cases h)
theorem D.step (hC : C.OK) (hN : d < N) (hi : i ∉ tg ∧ i ∉ mk) {r : AV} (h : stepA C.T C.eqT H0 s.ev 0 op = some (r, none)) (k : DW C N ops H0 b tg mk av Fin (i + 1) rest (s.put d r none)) :
    DW C N ops H0 b tg mk av Fin i (⟨some d, op, ty, ps, af, none⟩ :: rest) s := by
  refine ⟨r, s.put d r none, rfl, ?_, k⟩
  rw [if_neg hi.1, if_neg hi.2]
  refine ⟨none, rfl, rfl, .inl rfl, fun s' hx _ ht => one_of_AWL (AWL.step (d := d) (r := r) (nr := none) hC rfl rfl hN ?_ (AWL.nil ⟨rfl, rfl⟩))⟩
  exact stepA_put (stepA_mono hx (fun x hx => (ev_congr ht x hx).symm) h)
theorem D.stepm (hC : C.OK) (hN : d < N) (hi : i ∉ tg ∧ i ∈ mk) {r : AV} (h : stepA C.T C.eqT (mask av H0) s.ev 0 op = some (r, none)) (k : DW C N ops H0 b tg mk av Fin (i + 1) rest (s.put d r none)) :
    DW C N ops H0 b tg mk av Fin i (⟨some d, op, ty, ps, af, none⟩ :: rest) s := by
  refine ⟨r, s.put d r none, rfl, ?_, k⟩
  rw [if_neg hi.1, if_pos hi.2]
  refine ⟨none, rfl, rfl, .inl rfl, fun s' hx _ ht => one_of_AWL (AWL.step (d := d) (r := r) (nr := none) hC rfl rfl hN ?_ (AWL.nil ⟨rfl, rfl⟩))⟩
  exact stepA_put (stepA_mono hx (fun x hx => (ev_congr ht x hx).symm) h)
theorem D.stept (hC : C.OK) (hN : d < N) (hi : i ∈ tg) {r : AV} (h : stepA C.T C.eqT s.H s.ev 0 op = some (r, none)) (k : DW C N ops H0 b tg mk av Fin (i + 1) rest (s.put d r none)) :
    DW C N ops H0 b tg mk av Fin i (⟨some d, op, ty, ps, af, none⟩ :: rest) s := by
  refine ⟨r, s.put d r none, rfl, ?_, k⟩
  rw [if_pos hi]
  refine ⟨fun s' h1 h2 ht => one_of_AWL (AWL.step (d := d) (r := r) (nr := none) hC rfl rfl hN ?_ (AWL.nil ⟨rfl, ?_⟩)), .inr fun id x _ hx => hx⟩
  · have := stepA_put (k2 := s'.nx) (stepA_mono (H' := s'.H) (fun id x hx => by rw [h1]; exact hx) (fun x hx => (ev_congr ht x hx).symm) h)
    exact this
  · show St.mk _ _ _ = _
    rw [show putH s'.H s'.nx none = s'.H from rfl, h1, h2]; rfl
theorem one_alloc (hC : C.OK) (hN : d < N) {s' : St} {key : Nat} {r : AV} {row : Row} (h : stepA C.T C.eqT s'.H s'.ev key op = some (r, some row)) (hH : s'.H key = none) (hn : key < s'.nx) :
    One C N ops ⟨some d, op, ty, ps, af, none⟩ s' ⟨upd s'.tm d r, updH s'.H key (.row row), s'.nx⟩ := by
  rintro S0 w0 a w K Q hE ⟨σ, hσ⟩ hK
  obtain ⟨v, w', σ', h1, h2, h3, h4, h5⟩ := stepA_sound (o := ⟨some d, op, ty, ps, af, none⟩) hC.T hC.eqT hσ.inv hσ.size hH (fun x => hσ.ev x) h
  rw [if_pos (by simp [Region.wanted])]
  refine Oper.wpIn_of_wp C.hF (stepA_nodefer h) ?_
  simp only [Oper.wp, Oper.upon, h1]
  refine hK _ _ ⟨σ', hσ.put hN (s' := ⟨upd s'.tm d r, updH s'.H key (.row row), s'.nx⟩) h4 (fun id hid => ?_) h3 h2 h5 rfl⟩
  show updH s'.H key _ id = none
  simp only [updH]
  rw [if_neg (by have : s'.nx ≤ id := hid; omega)]
  exact hσ.nx id hid
theorem D.alloc (hC : C.OK) (hN : d < N) (hi : i ∉ tg ∧ i ∉ mk) {r : AV} {row : Row} (h : stepA C.T C.eqT H0 s.ev (b + i) op = some (r, some row)) (hH : H0 (b + i) = none) (hn : b + i < s.nx)
    (k : DW C N ops H0 b tg mk av Fin (i + 1) rest ⟨upd s.tm d r, updH s.H (b + i) (.row row), s.nx⟩) :
    DW C N ops H0 b tg mk av Fin i (⟨some d, op, ty, ps, af, none⟩ :: rest) s := by
  refine ⟨r, ⟨upd s.tm d r, updH s.H (b + i) (.row row), s.nx⟩, rfl, ?_, k⟩
  rw [if_neg hi.1, if_neg hi.2]
  refine ⟨some row, rfl, rfl, .inr ⟨hi.2, hH, hn⟩, fun s' hx hk ht => ?_⟩
  rcases hk with hk | hk
  · cases hk
  · exact one_alloc hC hN (stepA_mono hx (fun x hx => (ev_congr ht x hx).symm) h) hk.1 hk.2
theorem D.gY (hj : (ops[j]?).bind (·.dst) = some t) (hb : s.tm t = .v (.bool want)) (k : DW C N ops H0 b tg mk av Fin i (⟨some d, op, ty, ps, af, none⟩ :: rest) s) :
    DW C N ops H0 b tg mk av Fin i (⟨some d, op, ty, ps, af, some (j, want)⟩ :: rest) s := by
  obtain ⟨r, s', h1, h2, h3⟩ := k
  have ht := looks_guard (o := ⟨some d, op, ty, ps, af, some (j, want)⟩) rfl hj
  refine ⟨r, s', h1, ?_, h3⟩
  by_cases hi : i ∈ tg
  · rw [if_pos hi] at h2 ⊢
    refine ⟨fun s1 g1 g2 g3 => ?_, h2.2⟩
    exact one_guard rfl hj (by rw [g3 t ht]; exact hb) (h2.1 s1 g1 g2 (fun u hu => g3 u (looks_sub hu)))
  · rw [if_neg hi] at h2 ⊢
    obtain ⟨nr, g1, g2, g3, g4⟩ := h2
    refine ⟨nr, g1, g2, g3, fun s1 e1 e2 e3 => ?_⟩
    exact one_guard rfl hj (by rw [e3 t ht]; exact hb) (g4 s1 e1 e2 (fun u hu => e3 u (looks_sub hu)))
theorem D.gN (hj : (ops[j]?).bind (·.dst) = some t) (hN : d < N) (hi : i ∉ tg) (hb : s.tm t = .v (.bool (!want))) (k : DW C N ops H0 b tg mk av Fin (i + 1) rest (s.put d (.v undef) none)) :
    DW C N ops H0 b tg mk av Fin i (⟨some d, op, ty, ps, af, some (j, want)⟩ :: rest) s := by
  have ht := looks_guard (o := ⟨some d, op, ty, ps, af, some (j, want)⟩) rfl hj
  refine ⟨.v undef, s.put d (.v undef) none, rfl, ?_, k⟩
  rw [if_neg hi]
  exact ⟨none, rfl, rfl, .inl rfl, fun s1 _ _ e3 => one_skip rfl hj (by rw [e3 t ht]; exact hb) rfl hN⟩
theorem D.gU (hj : (ops[j]?).bind (·.dst) = some t) (hN : d < N) (hi : i ∉ tg) (hb : s.tm t = .v undef) (k : DW C N ops H0 b tg mk av Fin (i + 1) rest (s.put d (.v undef) none)) :
    DW C N ops H0 b tg mk av Fin i (⟨some d, op, ty, ps, af, some (j, want)⟩ :: rest) s := by
  have ht := looks_guard (o := ⟨some d, op, ty, ps, af, some (j, want)⟩) rfl hj
  refine ⟨.v undef, s.put d (.v undef) none, rfl, ?_, k⟩
  rw [if_neg hi]
  exact ⟨none, rfl, rfl, .inl rfl, fun s1 _ _ e3 => one_skipU rfl hj (by rw [e3 t ht]; exact hb) rfl hN⟩
theorem D.gS (hj : (ops[j]?).bind (·.dst) = some t) (hN : d < N) (hi : i ∉ tg) (hb : s.tm t = .v (.bool bb)) (k1 : bb = want → DW C N ops H0 b tg mk av Fin i (⟨some d, op, ty, ps, af, none⟩ :: rest) (s.put t (.v (.bool want)) none))
    (k2 : bb = !want → DW C N ops H0 b tg mk av Fin (i + 1) rest ((s.put t (.v (.bool (!want))) none).put d (.v undef) none)) :
    DW C N ops H0 b tg mk av Fin i (⟨some d, op, ty, ps, af, some (j, want)⟩ :: rest) s := by
  by_cases hw : bb = want
  · have := k1 hw
    rw [put_same_tm (by rw [hb, hw])] at this
    exact D.gY hj (by rw [hb, hw]) this
  · have hw' : bb = !want := by cases bb <;> cases want <;> simp_all
    have := k2 hw'
    rw [put_same_tm (t := t) (by rw [hb, hw'])] at this
    exact D.gN hj hN hi (by rw [hb, hw']) this
theorem D.callv (hC : C.OK) (hN : d < N) (hi : i ∉ tg ∧ i ∉ mk) {fo : Operand} {args : Array Operand} {tys : Array TypeId} {f : FuncId} {caps vs : List AV} {R : AV} (hf : s.ev fo = .clo f caps) (hv : viewL H0 (evsA args.toList s.ev ++ caps) = some vs) (hok : OKv C f vs R)
    (hfl : (flatA R || (idsL (evsA args.toList s.ev ++ caps)).isEmpty) = true) (k : DW C N ops H0 b tg mk av Fin (i + 1) rest (s.put d R none)) :
    DW C N ops H0 b tg mk av Fin i (⟨some d, .call { callee := .value fo, args := args, argTypes := tys }, ty, ps, af, none⟩ :: rest) s := by
  refine ⟨R, s.put d R none, rfl, ?_, k⟩
  rw [if_neg hi.1, if_neg hi.2]
  refine ⟨none, rfl, rfl, .inl rfl, fun s' hx _ ht => ?_⟩
  have hev := ev_congr ht
  have e1 : s'.ev fo = .clo f caps := by rw [hev fo (by simp [Op.operands, Call.operands])]; exact hf
  have e2 : evsA args.toList s'.ev = evsA args.toList s.ev := evsA_congr (fun x hx => hev x (by simp only [Op.operands, Call.operands, Array.mem_append]; exact .inr (by simpa using hx)))
  refine one_of_AWL (W.callv (R := R) hC hN e1 (by rw [e2]; exact viewL_mono hx _ _ hv) hok (AWL.nil ⟨rfl, ?_⟩))
  rw [e2]
  unfold St.back
  have : afterH s'.H (idsL (evsA args.toList s.ev ++ caps)) R = s'.H := by
    cases hq : flatA R <;> simp_all [afterH]
  rw [this]; rfl
theorem D.store (hC : C.OK) (hi : i ∈ tg) {tp : TypeId} {p x : Operand} {id : Nat} {r : Row} (h : storeA C.T s.H tp (s.ev p) (s.ev x) = some (id, r)) (hav : mk = [] ∨ id ∈ av)
    (k : DW C N ops H0 b tg mk av Fin (i + 1) rest { s with H := updH s.H id (.row r) }) : DW C N ops H0 b tg mk av Fin i (⟨none, .store tp p x, ty, ps, af, none⟩ :: rest) s := by
  refine ⟨.junk, { s with H := updH s.H id (.row r) }, rfl, ?_, k⟩
  rw [if_pos hi]
  refine ⟨fun s' h1 h2 ht => ?_, ?_⟩
  · have hev := ev_congr ht
    refine one_of_AWL (W.store (id := id) (r := r) hC (by rw [hev p (by simp [Op.operands]), hev x (by simp [Op.operands]), h1]; exact h) (AWL.nil ⟨rfl, ?_⟩))
    rw [h1, h2]; rfl
  · rcases hav with h | h
    · exact .inl h
    · refine .inr fun id' x hid hx => ?_
      show updH s.H id _ id' = some x
      simp only [updH]
      rw [if_neg (fun e => by rw [e] at hid; exact hid h)]; exact hx
theorem D.nil (h : Fin s) : DW C N ops H0 b tg mk av Fin i [] s := h
end
end Go.Pg

namespace Go.Pg
open Go Go.RowKit
theorem back_H0 (s : St) (d : Nat) (x : Value) (ids : List Nat) : (s.back d (.v x) ids).H = s.H := rfl
theorem idsA_ref (id off n : Nat) : idsA (.ref id off n) = [id] := rfl
theorem idsA_ptr (id i j n : Nat) : idsA (.ptr id i j n) = [id] := rfl
theorem idsA_iptr (e : List AV) (j : Nat) : idsA (.iptr e j) = [] := rfl
theorem idsA_tup (cs : List AV) : idsA (.tup cs) = idsL cs := rfl
theorem idsA_clo (f : FuncId) (cs : List AV) : idsA (.clo f cs) = idsL cs := rfl
theorem view_iptr (H : Nat → Option AO) (e : List AV) (j : Nat) : viewA H (.iptr e j) = some (.iptr e j) := rfl
theorem view_ref (H : Nat → Option AO) (id off n : Nat) : viewA H (.ref id off n) = (match rowAt H id with
    | some r => if r.lo ≤ off + n ∧ off + n ≤ r.es.length ∧ r.es.all pureL = true then some (.lst ((r.es.drop off).take n)) else none
    | none => none) := rfl
theorem view_ptr (H : Nat → Option AO) (id i j tag : Nat) : viewA H (.ptr id i j tag) = (match rowAt H id with
    | some r => if r.lo ≤ tag ∧ i < r.es.length ∧ pureL (r.es.getD i []) = true then some (.iptr (r.es.getD i []) j) else none
    | none => none) := rfl
theorem nxL (a b : Nat) : (a = a + b) = (b = 0) := by rw [eq_iff_iff]; omega
theorem nxR (a b : Nat) : (a + b = a) = (b = 0) := by rw [eq_iff_iff]; omega
theorem nxC (a b c : Nat) : (a + b = a + c) = (b = c) := by rw [eq_iff_iff]; omega
theorem nxA (a : Nat) : a + 1 + 1 = a + 2 := rfl
theorem EVS : 
    ((∀ (s : St) (d : Nat) (r : AV) (nr : Option Row) (t : Nat), (s.put d r nr).tm t = if t = d then r else s.tm t) ∧
    (∀ (s : St) (d : Nat) (r : AV), (s.put d r none).H = s.H) ∧
    (∀ (s : St) (d : Nat) (r : AV) (row : Row), (s.put d r (some row)).H = updH s.H s.nx (.row row)) ∧
    (∀ (s : St) (d : Nat) (r : AV), (s.put d r none).nx = s.nx) ∧
    (∀ (s : St) (d : Nat) (r : AV) (row : Row), (s.put d r (some row)).nx = s.nx + 1) ∧
    (∀ (s : St) (d : Nat) (r : AV) (ids : List Nat) (t : Nat), (s.back d r ids).tm t = if t = d then r else s.tm t) ∧
    (∀ (s : St) (d : Nat) (r : AV) (ids : List Nat), (s.back d r ids).nx = s.nx) ∧
    (∀ (s : St) (d : Nat) (x : Value) (ids : List Nat), (s.back d (.v x) ids).H = s.H) ∧
    (∀ (s : St) (d : Nat) (r : AV) (ids : List Nat), (s.back d r ids).H = afterH s.H ids r) ∧
    (∀ (H : Nat → Option AO) (r : AV), afterH H [] r = H) ∧
    (∀ (f : Nat → AV) (d : Nat) (r : AV) (t : Nat), upd f d r t = if t = d then r else f t) ∧
    (∀ (args : List AV) (t : Nat), (startSt args).tm t = args.getD t .junk) ∧
    (∀ (args : List AV), (startSt args).H = fun _ => none) ∧
    (∀ (args : List AV), (startSt args).nx = 0)) ∧
    ((∀ (H : Nat → Option AO) (i : Nat) (r : Row) (j : Nat), rowAt (updH H i (.row r)) j = if j = i then some r else rowAt H j) ∧
    (∀ (j : Nat), rowAt (fun _ => none) j = none) ∧
    (∀ (s : St) (t : Nat), s.ev (.tmp t) = s.tm t) ∧
    (∀ (s : St) (x : Value), s.ev (.const x) = constA x) ∧
    (∀ (s : St) (f : FuncId), s.ev (.func f) = .clo f []) ∧
    (∀ (k : IntKind) (n : Int), constA (.int k n) = .v (.int k n)) ∧
    (∀ (b : Bool), constA (.bool b) = .v (.bool b)) ∧
    (∀ (b : ByteArray), constA (.string b) = .v (.string b)) ∧
    (constA (.slice none 0 0) = .v (.slice none 0 0))) ∧
    ((∀ (H : Nat → Option AO) (k : IntKind) (n : Int), viewA H (.v (.int k n)) = some (.v (.int k n))) ∧
    (∀ (H : Nat → Option AO) (b : Bool), viewA H (.v (.bool b)) = some (.v (.bool b))) ∧
    (∀ (H : Nat → Option AO) (b : ByteArray), viewA H (.v (.string b)) = some (.v (.string b))) ∧
    (∀ (H : Nat → Option AO), viewA H (.v (.slice none 0 0)) = some (.lst [])) ∧
    (∀ (H : Nat → Option AO) (es : List (List AV)), viewA H (.lst es) = some (.lst es)) ∧
    (∀ (H : Nat → Option AO) (cs : List AV), viewA H (.agg cs) = (viewL H cs).map .agg) ∧
    (∀ (H : Nat → Option AO) (cs : List AV), viewA H (.tup cs) = (viewL H cs).map .tup) ∧
    (∀ (H : Nat → Option AO) (f : FuncId) (cs : List AV), viewA H (.clo f cs) = (viewL H cs).map (.clo f)) ∧
    (∀ (H : Nat → Option AO) (e : List AV) (j : Nat), viewA H (.iptr e j) = some (.iptr e j)) ∧
    (∀ (H : Nat → Option AO), viewL H [] = some []) ∧
    (∀ (H : Nat → Option AO) (c : AV) (cs : List AV), viewL H (c :: cs) = (match viewA H c, viewL H cs with | some d, some ds => some (d :: ds) | _, _ => none))) ∧
    ((∀ (x : Value), idsA (.v x) = []) ∧
    (∀ (es : List (List AV)), idsA (.lst es) = []) ∧
    (∀ (cs : List AV), idsA (.agg cs) = idsL cs) ∧
    (∀ (cs : List AV), idsA (.tup cs) = idsL cs) ∧
    (∀ (f : FuncId) (cs : List AV), idsA (.clo f cs) = idsL cs) ∧
    (∀ (id off n : Nat), idsA (.ref id off n) = [id]) ∧
    (∀ (id i j n : Nat), idsA (.ptr id i j n) = [id]) ∧
    (∀ (e : List AV) (j : Nat), idsA (.iptr e j) = []) ∧
    (idsL [] = []) ∧
    (∀ (c : AV) (cs : List AV), idsL (c :: cs) = idsA c ++ idsL cs)) :=
  ⟨⟨put_tm, put_H0, put_H1, put_nx0, put_nx1, back_tm, back_nx, back_H0, back_H, afterH_nil, upd_at, start_tm, start_H, start_nx⟩,
   ⟨rowAt_upd, rowAt_none, ev_tmp, ev_const, ev_func, constA_int, constA_bool, constA_str, constA_nil⟩,
   ⟨view_v_int, view_v_bool, view_v_str, view_nil, view_lst, view_agg, view_tup, view_clo, view_iptr, viewL_nil, viewL_cons⟩,
   ⟨idsA_v, idsA_lst, idsA_agg, idsA_tup, idsA_clo, idsA_ref, idsA_ptr, idsA_iptr, idsL_nil, idsL_cons⟩⟩
theorem LST : 
    ((∀ (α : Type) (a d : α) (l : List α), (a :: l).getD 0 d = a) ∧ (∀ (α : Type) (a d : α) (l : List α) (n : Nat), (a :: l).getD (n + 1) d = l.getD n d) ∧ (∀ (α : Type) (d : α) (n : Nat), ([] : List α).getD n d = d) ∧
    (∀ (α β : Type) (f : α → β) (a : α), Option.map f (some a) = some (f a)) ∧ (∀ (α β : Type) (f : α → β), Option.map f none = none) ∧
    (∀ (α : Type) (a : α) (l : List α), (a :: l)[0]? = some a) ∧ (∀ (α : Type) (a : α) (l : List α) (n : Nat), (a :: l)[n + 1]? = l[n]?) ∧ (∀ (α : Type) (n : Nat), ([] : List α)[n]? = none)) ∧
    ((∀ (α : Type) (a : α) (l : List α), (a :: l).length = l.length + 1) ∧ (∀ (α : Type), ([] : List α).length = 0) ∧ (∀ (α : Type) (a : α) (l : List α) (n : Nat), (a :: l).drop (n + 1) = l.drop n) ∧ (∀ (α : Type) (l : List α), l.drop 0 = l) ∧
    (∀ (α : Type) (a : α) (l : List α) (n : Nat), (a :: l).take (n + 1) = a :: l.take n) ∧ (∀ (α : Type) (l : List α), l.take 0 = []) ∧ (∀ (α : Type) (n : Nat), ([] : List α).drop n = []) ∧ (∀ (α : Type) (n : Nat), ([] : List α).take n = []) ∧
    (∀ (α : Type) (l : List α), l ++ [] = l) ∧ (∀ (α : Type) (l : List α), [] ++ l = l) ∧ (∀ (α : Type) (a : α) (l m : List α), (a :: l) ++ m = a :: (l ++ m)) ∧
    (∀ (α : Type) (p : α → Bool) (a : α) (l : List α), (a :: l).all p = (p a && l.all p)) ∧ (∀ (α : Type) (p : α → Bool), [].all p = true) ∧
    (∀ (α β : Type) (f : α → β) (a : α) (l : List α), (a :: l).map f = f a :: l.map f) ∧ (∀ (α β : Type) (f : α → β), [].map f = []) ∧
    (∀ (α : Type) (a b : α) (l : List α), (a :: l).set 0 b = b :: l) ∧ (∀ (α : Type) (a b : α) (l : List α) (n : Nat), (a :: l).set (n + 1) b = a :: l.set n b)) :=
  ⟨⟨fun _ _ _ _ => rfl, fun _ _ _ _ _ => rfl, fun _ _ _ => rfl, fun _ _ _ _ => rfl, fun _ _ _ => rfl, fun _ _ _ => rfl, fun _ _ _ _ => rfl, fun _ _ => rfl⟩,
   ⟨fun _ _ _ => rfl, fun _ => rfl, fun _ _ _ _ => rfl, fun _ _ => rfl, fun _ _ _ _ => rfl, fun _ _ => rfl, fun _ n => by cases n <;> rfl, fun _ n => by cases n <;> rfl, fun _ _ => List.append_nil _, fun _ _ => rfl, fun _ _ _ _ => rfl,
    fun _ _ _ _ => rfl, fun _ _ => rfl, fun _ _ _ _ _ => rfl, fun _ _ _ => rfl, fun _ _ _ _ => rfl, fun _ _ _ _ _ => rfl⟩⟩
theorem W.draw {C : Cx} {N : Nat} {Q : Exit → St → Prop} {s : St} {l : List Oper} {id : Nat} (hm : C.P.follows .mixedOrders = true) (hok : drawOK l [] [] = true)
    (h : DW C N l.toArray s.H s.nx [] [] [] (fun s' => Q .normal s') 0 l s) : AW C N (.region id l.toArray true) Q s := AW.draw hm [] [] [] 0 hok h
end Go.Pg

namespace Go.Pg
open Go Go.RowKit
def resV (T : TypeId → Option Ty) (s : St) : ResultVar → Option AV
  | .tmp t => some (s.tm t)
  | .cell a t => loadA T s.H t (s.tm a)
def resVs (T : TypeId → Option Ty) (s : St) : List ResultVar → Option (List AV)
  | [] => some []
  | r :: rs => match resV T s r, resVs T s rs with
    | some x, some xs => some (x :: xs)
    | _, _ => none
def endC (C : Cx) (rs : List ResultVar) (Q : AV → Prop) : Exit → St → Prop
  | .normal, s => ∃ vs, resVs C.T s rs = some vs ∧ ∃ r', viewA s.H (.tup vs) = some r' ∧ Q r'
  | .ret, s => ∃ vs, resVs C.T s rs = some vs ∧ ∃ r', viewA s.H (.tup vs) = some r' ∧ Q r'
  | _, _ => False
section
variable {C : Cx} {Q : AV → Prop}
theorem W.retC {rs : List ResultVar} {s : St} {vs : List AV} {r : AV} (h1 : resVs C.T s rs = some vs) (h2 : viewA s.H (.tup vs) = some r) (hq : Q r) : endC C rs Q .ret s := ⟨vs, h1, r, h2, hq⟩
theorem run_resVs (hC : C.OK) {S0 : Fr} {w0 w : World} {N : Nat} {a : Act} {s : St} {σ : Sg} (hσ : SimG S0 w0 N a w s σ) : ∀ (rs : List ResultVar) (vs : List AV), resVs C.T s rs = some vs →
    ∃ us : List Value, (rs.mapM fun (x : ResultVar) => (match x with | .tmp t => pure (a.tmps.getD t undef) | .cell b t => do loadVar t (← asAddr (a.tmps.getD b undef)) : Sem Value)).run C.P w = .ok us w ∧
      us.length = vs.length ∧ RepL σ w vs (fun i => us[i]?)
  | [], vs, h => by
    simp only [resVs, Option.some.injEq] at h; subst h
    exact ⟨[], by simp, rfl, trivial⟩
  | r :: rs, vs, h => by
    simp only [resVs] at h
    split at h
    · rename_i x xs h1 h2
      injection h with h; subst h
      obtain ⟨us, g1, g2, g3⟩ := run_resVs hC hσ rs xs h2
      have hone : ∃ u, ((match r with | .tmp t => pure (a.tmps.getD t undef) | .cell b t => do loadVar t (← asAddr (a.tmps.getD b undef)) : Sem Value)).run C.P w = .ok u w ∧ Rep σ w x u := by
        cases r with
        | tmp t =>
          simp only [resV, Option.some.injEq] at h1; subst h1
          exact ⟨_, rfl, hσ.tm t⟩
        | cell b t =>
          simp only [resV] at h1
          obtain ⟨v, hv, hr⟩ := loadA_sound (P := C.P) hC.T hσ.inv (hσ.tm b) h1
          refine ⟨v, ?_, hr⟩
          have hp : ∃ ad, a.tmps.getD b undef = .pointer (some ad) := by
            unfold loadA at h1
            split at h1
            · rename_i y e j hy hp
              obtain ⟨b', o, hh, _⟩ := rdPtr_sound hσ.inv (hσ.tm b) hp
              exact ⟨_, hh⟩
            · cases h1
          obtain ⟨ad, hp⟩ := hp
          rw [hp] at hv
          show ((asAddr (a.tmps.getD b undef) >>= fun x => loadVar t x : Sem Value)).run C.P w = .ok v w
          rw [hp]
          simpa [Instr.loadAt, Instr.sureAddr, asAddr] using hv
      obtain ⟨u, hu, hur⟩ := hone
      refine ⟨u :: us, ?_, by simp [g2], ?_⟩
      · simp only [List.mapM_cons, Sem.run_bind, hu, Result.andThen_ok, g1, Sem.run_pure]
      · simp only [RepL]
        exact ⟨⟨u, rfl, hur⟩, g3⟩
    · cases h
theorem OKat.of_bodyC [hW : C.Wide] (hC : C.OK) {f : FuncId} {fn : Func} {c : Code} {args : List AV} {rs : List ResultVar} (hf : C.P.funcs[f]? = some fn) (hb : fn.body = some c) (hn : (fn.name == "runtime.NumGoroutine") = false) (hr : fn.results = rs.toArray) (hl : rs.length ≠ 1)
    (hN : args.length ≤ fn.ntmps) (h : AW C fn.ntmps c (endC C rs Q) (startSt args)) : OKat C f args Q := by
  refine ⟨⟨fn, hf, hn, by rw [hb]; rfl⟩, fun w S vals hE hS hsz hrep => ?_⟩
  refine calls_of_wp hf hb ?_
  have hs := start_sim (N := fn.ntmps) hS hsz hrep hN
  have h2 := h (Fr.of S) w _ w hE hs
  rw [hW.h] at h2
  refine wp_mono (wpIn_wide.1 h2) ?_
  have fin : ∀ a' w' s', Sim (Fr.of S) w fn.ntmps a' w' s' → (∃ vs, resVs C.T s' rs = some vs ∧ ∃ r', viewA s'.H (.tup vs) = some r' ∧ Q r') →
      a'.defers = [] ∧ ∃ v, (results fn a'.tmps).run C.P w' = .ok v w' ∧ (Below w.heap.size w w' ∧ ∃ v2 r, Ending.returned v = .returned v2 ∧ Q r ∧ Rep (pureSg fun b => S b ∨ (w.heap.size ≤ b ∧ b < w'.heap.size)) w' r v2) := by
    rintro a' w' s' ⟨σ, hσ⟩ ⟨vs, hvs, r', hv, hq⟩
    have hview : ∀ (c : AV) (u : Value), viewA s'.H c = some r' → Rep σ w' c u → Rep (pureSg fun b => S b ∨ (w.heap.size ≤ b ∧ b < w'.heap.size)) w' r' u := by
      intro c u hc hu
      refine viewA_sound hσ.inv (fun b hb => ?_) c u r' hc (fun id _ b hb => .inr (hσ.inv.own_lt b id hb)) hu
      have := hσ.inv.S_lt b hb
      rcases this.2 with h | h
      · exact .inl h
      · exact .inr ⟨h, this.1⟩
    obtain ⟨us, g1, g2, g3⟩ := run_resVs hC hσ rs vs hvs
    have hul : us.length = rs.length := by
      have : ∀ (rs : List ResultVar) (vs : List AV), resVs C.T s' rs = some vs → vs.length = rs.length := by
        intro rs
        induction rs with
        | nil => intro vs h; simp only [resVs, Option.some.injEq] at h; subst h; rfl
        | cons r rs ih =>
          intro vs h
          simp only [resVs] at h
          split at h
          · rename_i h1 h2; injection h with h; subst h; simp [ih _ h2]
          · cases h
      rw [g2, this rs vs hvs]
    refine ⟨hσ.d, .tuple us.toArray, ?_, hσ.below, _, r', rfl, hq, ?_⟩
    · simp only [results, hr, Array.mapM_eq_mapM_toList, Sem.run_bind, Sem.run_map, Sem.run_pure]
      refine (congrArg (fun r => (Result.andThen (Result.andThen r fun a w' => Result.ok a.toArray w') fun a w' => Result.ok (if h : a.size = 1 then a[0] else Value.tuple a) w')) g1).trans ?_
      simp [hul, hl]
    · refine hview _ _ hv ?_
      simp only [Rep]
      exact ⟨us.toArray, rfl, by simp [g2], by simpa using g3⟩
  rintro e a' w' ⟨s', hs', hq⟩
  cases e with
  | normal => exact fin a' w' s' hs' hq
  | ret => exact fin a' w' s' hs' hq
  | exit id => exact hq.elim
  | goto l => exact hq.elim
  | panic c => exact hq.elim
  | outgrown => exact hq.elim
end
end Go.Pg
