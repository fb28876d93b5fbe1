/-
  Contracts of functions, proved by going through their code. No conditions.
-/
import Derived.ChangeMaps5
import Derived.LoopNIn
import Derived.Lib.AppendStr
import Derived.RangeFuncIn
import Derived.RangeFuncRecord
import Derived.Test.YtdlflcambboojaaKa
set_option linter.unusedVariables false
set_option linter.unusedSimpArgs false
namespace Go.Pg
open Go Go.RowKit
section
variable {H H' : Nat → Option AO}
theorem rowAt_mono (h : Ext H H') {id : Nat} {r : Row} (hr : rowAt H id = some r) : rowAt H' id = some r := by
  have := h id _ (rowAt_eq hr)
  unfold rowAt; rw [this]
theorem rdPtr_mono (h : Ext H H') {p : AV} {x : List AV × Nat} (hr : rdPtr H p = some x) : rdPtr H' p = some x := by
  cases p <;> simp only [rdPtr] at hr ⊢ <;> try exact hr
  split at hr
  · rename_i r hrow; rw [rowAt_mono h hrow]; exact hr
  · cases hr
theorem loadA_mono (h : Ext H H') {T : TypeId → Option Ty} {t : TypeId} {p x : AV} (hr : loadA T H t p = some x) : loadA T H' t p = some x := by
  unfold loadA at hr ⊢
  split at hr
  · rename_i h1 h2; rw [h1, rdPtr_mono h h2]; exact hr
  · cases hr
theorem indexAddrA_mono (h : Ext H H') {T : TypeId → Option Ty} {t : TypeId} {p i x : AV} (hr : indexAddrA T H t p i = some x) : indexAddrA T H' t p i = some x := by
  cases p <;> try exact hr
  rename_i id off n
  cases hrow : rowAt H id with
  | none =>
    exfalso
    simp only [indexAddrA, hrow] at hr
    repeat' split at hr
    all_goals first | (cases hr; done) | (simp [offA] at hr; done)
  | some r =>
    simp only [indexAddrA, hrow] at hr
    simp only [indexAddrA, rowAt_mono h hrow]
    exact hr
theorem sliceA_mono (h : Ext H H') {T : TypeId → Option Ty} {t : TypeId} {p x : AV} {lo hi : Option AV} (hr : sliceA T H t p lo hi = some x) : sliceA T H' t p lo hi = some x := by
  by_cases hp : ∃ id off n, p = .ref id off n
  · obtain ⟨id, off, n, rfl⟩ := hp
    cases hT : T t with
    | none => simp [sliceA, hT] at hr
    | some y =>
      obtain ⟨sz, bs, z, d⟩ := y
      cases d <;> simp only [sliceA, hT] at hr ⊢ <;> try (cases hr; done)
      cases hrow : rowAt H id with
      | none => simp [hrow] at hr
      | some r =>
        simp only [hrow] at hr
        simp only [rowAt_mono h hrow]
        exact hr
  · unfold sliceA at hr ⊢
    split at hr <;> simp_all
theorem lookupA_mono (h : Ext H H') {T : TypeId → Option Ty} {eqT : TypeId → Bool} {t : TypeId} {p i x : AV} {ok : Bool} (hr : lookupA T eqT H t p i ok = some x) : lookupA T eqT H' t p i ok = some x := by
  unfold lookupA at hr ⊢
  split at hr
  · split at hr
    · rename_i h1 h2 h3
      simp only [h1, h2, h _ _ h3]
      exact hr
    · cases hr
  · exact hr
  · cases hr
theorem evsA_congr {ev ev' : Operand → AV} : ∀ {l : List Operand}, (∀ x ∈ l, ev x = ev' x) → evsA l ev = evsA l ev'
  | [], _ => rfl
  | x :: l, h => by simp only [evsA]; rw [h x (by simp), evsA_congr (fun y hy => h y (by simp [hy]))]
theorem listA_congr {ev ev' : Operand → AV} : ∀ {l : List (Nat × Operand)}, (∀ x ∈ l.map (·.2), ev x = ev' x) → listA l ev = listA l ev'
  | [], _ => rfl
  | x :: l, h => by simp only [listA]; rw [h x.2 (by simp), listA_congr (fun y hy => h y (by simp only [List.map_cons, List.mem_cons]; exact .inr hy))]
theorem map_some_mono {α β : Type} {f : α → β} {x y : Option α} {z : β} (h : ∀ a, x = some a → y = some a) (hx : x.map f = some z) : y.map f = some z := by
  simp only [Option.map_eq_some_iff] at hx ⊢
  obtain ⟨a, h1, h2⟩ := hx
  exact ⟨a, h a h1, h2⟩
theorem stepA_mono {T : TypeId → Option Ty} {eqT : TypeId → Bool} {ev ev' : Operand → AV} {key : Nat} {op : Op} {res : AV × Option Row} (hH : Ext H H') (hev : ∀ x ∈ op.operands, ev x = ev' x)
    (h : stepA T eqT H ev key op = some res) : stepA T eqT H' ev' key op = some res := by
  cases op
  case slice t x lo hi mx =>
    cases mx
    · simp only [stepA] at h ⊢
      rw [← hev x (by simp [Op.operands])]
      have e1 : lo.map ev' = lo.map ev := by
        cases lo with
        | none => rfl
        | some u => rw [Option.map_some, Option.map_some, hev u (by simp [Op.operands])]
      have e2 : hi.map ev' = hi.map ev := by
        cases hi with
        | none => rfl
        | some u => rw [Option.map_some, Option.map_some, hev u (by simp [Op.operands])]
      rw [e1, e2]
      exact map_some_mono (fun _ h => sliceA_mono hH h) h
    · simp [stepA] at h
  case makeFunc f first cs =>
    cases f <;> simp only [stepA] at h ⊢ <;> try (cases h; done)
    rw [← evsA_congr (ev := ev) (ev' := ev') (l := cs.toList) (fun y hy => hev y (by simp only [Op.operands, Array.mem_append]; exact .inr (by simpa using hy)))]
    exact h
  case call c =>
    obtain ⟨callee, args, tys⟩ := c
    have hargs : evsA args.toList ev = evsA args.toList ev' := evsA_congr (fun y hy => hev y (by simp only [Op.operands, Call.operands, Array.mem_append]; exact .inr (by simpa using hy)))
    cases callee <;> simp only [stepA] at h ⊢ <;> try (cases h; done)
    rename_i b
    cases b <;> simp only at h ⊢ <;> try (cases h; done)
    · split at h
      · rename_i x t h1 h2
        rw [h1] at hargs
        simp only [evsA] at hargs
        injection hargs with hargs
        simp only [h1, h2, ← hargs]; exact h
      · cases h
    all_goals (rw [← hargs]; exact h)
  case build t ps =>
    simp only [stepA] at h ⊢
    rw [← listA_congr (ev := ev) (ev' := ev') (l := ps.toList) (fun y hy => hev y (by simpa [Op.operands] using hy))]; exact h
  case buildSlice t n ps =>
    simp only [stepA] at h ⊢
    rw [← listA_congr (ev := ev) (ev' := ev') (l := ps.toList) (fun y hy => hev y (by simpa [Op.operands] using hy))]; exact h
  case pick c x y =>
    simp only [stepA] at h ⊢
    rw [← hev c (by simp [Op.operands]), ← hev x (by simp [Op.operands]), ← hev y (by simp [Op.operands])]; exact h
  case load t x =>
    simp only [stepA] at h ⊢
    rw [← hev x (by simp [Op.operands])]
    exact map_some_mono (fun _ h => loadA_mono hH h) h
  case indexAddr t x i =>
    simp only [stepA] at h ⊢
    rw [← hev x (by simp [Op.operands]), ← hev i (by simp [Op.operands])]
    exact map_some_mono (fun _ h => indexAddrA_mono hH h) h
  case lookup t x i ok =>
    simp only [stepA] at h ⊢
    rw [← hev x (by simp [Op.operands]), ← hev i (by simp [Op.operands])]
    exact map_some_mono (fun _ h => lookupA_mono hH h) h
  case makeSlice t x i =>
    simp only [stepA] at h ⊢
    rw [← hev x (by simp [Op.operands]), ← hev i (by simp [Op.operands])]; exact h
  case binOp op t x y yt =>
    simp only [stepA] at h ⊢
    rw [← hev x (by simp [Op.operands]), ← hev y (by simp [Op.operands])]; exact h
  case index t x y =>
    simp only [stepA] at h ⊢
    rw [← hev x (by simp [Op.operands]), ← hev y (by simp [Op.operands])]; exact h
  all_goals first
    | (simp only [stepA] at h ⊢; exact h)
    | (simp only [stepA] at h ⊢; rename_i x; rw [← hev x (by simp [Op.operands])]; exact h)
    | (simp only [stepA] at h ⊢; rename_i x _; rw [← hev x (by simp [Op.operands])]; exact h)
    | (simp only [stepA] at h ⊢; rename_i x _ _; rw [← hev x (by simp [Op.operands])]; exact h)
    | (simp [stepA] at h; done)
mutual
theorem viewA_mono (h : Ext H H') : ∀ (c c' : AV), viewA H c = some c' → viewA H' c = some c'
  | .junk, c', hc => hc
  | .v x, c', hc => by
    unfold viewA at hc ⊢
    split at hc <;> try contradiction
    · rename_i he; injection he with he
    · exact hc
  | .agg cs, c', hc => by
    simp only [viewA, Option.map_eq_some_iff] at hc ⊢
    obtain ⟨ds, h1, h2⟩ := hc
    exact ⟨ds, viewL_mono h cs ds h1, h2⟩
  | .tup cs, c', hc => by
    simp only [viewA, Option.map_eq_some_iff] at hc ⊢
    obtain ⟨ds, h1, h2⟩ := hc
    exact ⟨ds, viewL_mono h cs ds h1, h2⟩
  | .clo f cs, c', hc => by
    simp only [viewA, Option.map_eq_some_iff] at hc ⊢
    obtain ⟨ds, h1, h2⟩ := hc
    exact ⟨ds, viewL_mono h cs ds h1, h2⟩
  | .lst es, c', hc => hc
  | .iptr e j, c', hc => hc
  | .ref id off n, c', hc => by
    simp only [viewA] at hc ⊢
    split at hc
    · rename_i r hr; rw [rowAt_mono h hr]; exact hc
    · cases hc
  | .ptr id i j tag, c', hc => by
    simp only [viewA] at hc ⊢
    split at hc
    · rename_i r hr; rw [rowAt_mono h hr]; exact hc
    · cases hc
  | .map id, c', hc => by simp [viewA] at hc
  | .lmap a b c, c', hc => hc
theorem viewL_mono (h : Ext H H') : ∀ (cs ds : List AV), viewL H cs = some ds → viewL H' cs = some ds
  | [], ds, hc => hc
  | c :: cs, ds, hc => by
    simp only [viewL] at hc ⊢
    split at hc
    · rename_i d ds' h1 h2
      rw [viewA_mono h c d h1, viewL_mono h cs ds' h2]; exact hc
    · cases hc
end
end
theorem ev_congr {s s' : St} {ops : Array Oper} {o : Oper} (h : ∀ t ∈ o.looksAt ops, s.tm t = s'.tm t) : ∀ x ∈ o.op.operands, s.ev x = s'.ev x := by
  intro x hx
  cases x with
  | tmp t => exact h t (List.mem_append_left _ (List.mem_filterMap.2 ⟨.tmp t, by simpa using hx, rfl⟩))
  | _ => rfl
theorem one_guard {C : Cx} {N : Nat} {ops : Array Oper} {o : Oper} {s s' : St} {j t : Nat} {want : Bool} (hg : o.guard = some (j, want)) (ht : (ops[j]?).bind (·.dst) = some t) (hb : s.tm t = .v (.bool want)) (h : One C N ops { o with guard := none } s s') : One C N ops o s s' := by
  intro S0 w0 a w K Q hE hs hK
  have := h S0 w0 a w K Q hE hs hK
  obtain ⟨σ, hσ⟩ := hs
  have hy := yielded_of (ops := ops) hσ ht hb
  rw [if_pos (by simp [Region.wanted])] at this
  rw [if_pos (by simp [Region.wanted, hg, hy])]
  exact this
theorem one_skip {C : Cx} {N : Nat} {ops : Array Oper} {o : Oper} {s : St} {j t d : Nat} {want : Bool} (hg : o.guard = some (j, want)) (ht : (ops[j]?).bind (·.dst) = some t) (hb : s.tm t = .v (.bool (!want))) (hd : o.dst = some d) (hN : d < N) : One C N ops o s ⟨upd s.tm d (.v undef), s.H, s.nx⟩ := by
  intro S0 w0 a w K Q hE hs hK
  obtain ⟨σ, hσ⟩ := hs
  have hy := yielded_of (ops := ops) hσ ht hb
  rw [if_neg (by simp [Region.wanted, hg, hy])]
  rw [hd]
  refine hK _ _ ⟨σ, ?_⟩
  exact hσ.put hN (s' := { s with tm := upd s.tm d (.v undef) }) (r := .v undef) hσ.inv hσ.nx (hσ.inv.le_heap (fun _ _ => rfl)) (Below.refl _ _) rfl rfl
theorem one_skipU {C : Cx} {N : Nat} {ops : Array Oper} {o : Oper} {s : St} {j t d : Nat} {want : Bool} (hg : o.guard = some (j, want)) (ht : (ops[j]?).bind (·.dst) = some t) (hb : s.tm t = .v undef) (hd : o.dst = some d) (hN : d < N) : One C N ops o s ⟨upd s.tm d (.v undef), s.H, s.nx⟩ := by
  intro S0 w0 a w K Q hE hs hK
  obtain ⟨σ, hσ⟩ := hs
  have hy := yielded_undef (ops := ops) hσ ht hb
  rw [if_neg (by simp [Region.wanted, hg, hy])]
  rw [hd]
  refine hK _ _ ⟨σ, ?_⟩
  exact hσ.put hN (s' := { s with tm := upd s.tm d (.v undef) }) (r := .v undef) hσ.inv hσ.nx (hσ.inv.le_heap (fun _ _ => rfl)) (Below.refl _ _) rfl rfl
theorem looks_guard {ops : Array Oper} {o : Oper} {j t : Nat} {want : Bool} (hg : o.guard = some (j, want)) (ht : (ops[j]?).bind (·.dst) = some t) : t ∈ o.looksAt ops := by
  unfold Oper.looksAt
  rw [hg]
  simp only [ht]
  exact List.mem_append_right _ (by simp)
theorem looks_sub {ops : Array Oper} {o : Oper} {t : Nat} (h : t ∈ ({ o with guard := none } : Oper).looksAt ops) : t ∈ o.looksAt ops := by
  unfold Oper.looksAt at h ⊢
  rcases List.mem_append.1 h with h | h
  · exact List.mem_append_left _ h
  · cases h
section
variable {C : Cx} {N : Nat} {ops : Array Oper} {H0 : Nat → Option AO} {b : Nat} {tg mk av : List Nat} {Fin : St → Prop} {s : St} {i : Nat} {rest : List Oper}
variable {op : Op} {ty : TypeId} {ps : String} {af : Array Edge} {d j t : Nat} {want bb : Bool}
theorem stepA_put {T : TypeId → Option Ty} {eqT : TypeId → Bool} {H : Nat → Option AO} {ev : Operand → AV} {k1 k2 : Nat} {op : Op} {r : AV} (h : stepA T eqT H ev k1 op = some (r, none)) : stepA T eqT H ev k2 op = some (r, none) := by
  cases op <;> try exact h
  case call c => obtain ⟨callee, args, tys⟩ := c; cases callee <;> try exact h
                 rename_i b; cases b <;> exact h
  case slice t x lo hi mx => cases mx <;> exact h
  case makeFunc f first cs => cases f <;> exact h
  all_goals (simp only [stepA] at h)
  all_goals (repeat' split at h)
  all_goals (try cases h)
  all_goals (simp only [Option.map_eq_some_iff] at h; obtain ⟨_, _, h⟩ := h; cases h)
theorem D.step (hC : C.OK) (hN : d < N) (hi : i ∉ tg ∧ i ∉ mk) {r : AV} (h : stepA C.T C.eqT H0 s.ev 0 op = some (r, none)) (k : DW C N ops H0 b tg mk av Fin (i + 1) rest (s.put d r none)) :
    DW C N ops H0 b tg mk av Fin i (⟨some d, op, ty, ps, af, none⟩ :: rest) s := by
  refine ⟨r, s.put d r none, rfl, ?_, k⟩
  rw [if_neg hi.1, if_neg hi.2]
  refine ⟨none, rfl, rfl, .inl rfl, fun s' hx _ ht => one_of_AWL (AWL.step (d := d) (r := r) (nr := none) hC rfl rfl hN ?_ (AWL.nil ⟨rfl, rfl⟩))⟩
  exact stepA_put (stepA_mono hx (fun x hx => (ev_congr ht x hx).symm) h)
theorem D.stepm (hC : C.OK) (hN : d < N) (hi : i ∉ tg ∧ i ∈ mk) {r : AV} (h : stepA C.T C.eqT (mask av H0) s.ev 0 op = some (r, none)) (k : DW C N ops H0 b tg mk av Fin (i + 1) rest (s.put d r none)) :
    DW C N ops H0 b tg mk av Fin i (⟨some d, op, ty, ps, af, none⟩ :: rest) s := by
  refine ⟨r, s.put d r none, rfl, ?_, k⟩
  rw [if_neg hi.1, if_pos hi.2]
  refine ⟨none, rfl, rfl, .inl rfl, fun s' hx _ ht => one_of_AWL (AWL.step (d := d) (r := r) (nr := none) hC rfl rfl hN ?_ (AWL.nil ⟨rfl, rfl⟩))⟩
  exact stepA_put (stepA_mono hx (fun x hx => (ev_congr ht x hx).symm) h)
theorem D.stept (hC : C.OK) (hN : d < N) (hi : i ∈ tg) {r : AV} (h : stepA C.T C.eqT s.H s.ev 0 op = some (r, none)) (k : DW C N ops H0 b tg mk av Fin (i + 1) rest (s.put d r none)) :
    DW C N ops H0 b tg mk av Fin i (⟨some d, op, ty, ps, af, none⟩ :: rest) s := by
  refine ⟨r, s.put d r none, rfl, ?_, k⟩
  rw [if_pos hi]
  refine ⟨fun s' h1 h2 ht => one_of_AWL (AWL.step (d := d) (r := r) (nr := none) hC rfl rfl hN ?_ (AWL.nil ⟨rfl, ?_⟩)), .inr fun id x _ hx => hx⟩
  · have := stepA_put (k2 := s'.nx) (stepA_mono (H' := s'.H) (fun id x hx => by rw [h1]; exact hx) (fun x hx => (ev_congr ht x hx).symm) h)
    exact this
  · show St.mk _ _ _ = _
    rw [show putH s'.H s'.nx none = s'.H from rfl, h1, h2]; rfl
theorem one_alloc (hC : C.OK) (hN : d < N) {s' : St} {key : Nat} {r : AV} {row : Row} (h : stepA C.T C.eqT s'.H s'.ev key op = some (r, some row)) (hH : s'.H key = none) (hn : key < s'.nx) :
    One C N ops ⟨some d, op, ty, ps, af, none⟩ s' ⟨upd s'.tm d r, updH s'.H key (.row row), s'.nx⟩ := by
  rintro S0 w0 a w K Q hE ⟨σ, hσ⟩ hK
  obtain ⟨v, w', σ', h1, h2, h3, h4, h5⟩ := stepA_sound (o := ⟨some d, op, ty, ps, af, none⟩) hC.T hC.eqT hσ.inv hσ.size hH (fun x => hσ.ev x) h
  rw [if_pos (by simp [Region.wanted])]
  refine Oper.wpIn_of_wp C.hF (stepA_nodefer h) ?_
  simp only [Oper.wp, Oper.upon, h1]
  refine hK _ _ ⟨σ', hσ.put hN (s' := ⟨upd s'.tm d r, updH s'.H key (.row row), s'.nx⟩) h4 (fun id hid => ?_) h3 h2 h5 rfl⟩
  show updH s'.H key _ id = none
  simp only [updH]
  rw [if_neg (by have : s'.nx ≤ id := hid; omega)]
  exact hσ.nx id hid
theorem D.alloc (hC : C.OK) (hN : d < N) (hi : i ∉ tg ∧ i ∉ mk) {r : AV} {row : Row} (h : stepA C.T C.eqT H0 s.ev (b + i) op = some (r, some row)) (hH : H0 (b + i) = none) (hn : b + i < s.nx)
    (k : DW C N ops H0 b tg mk av Fin (i + 1) rest ⟨upd s.tm d r, updH s.H (b + i) (.row row), s.nx⟩) :
    DW C N ops H0 b tg mk av Fin i (⟨some d, op, ty, ps, af, none⟩ :: rest) s := by
  refine ⟨r, ⟨upd s.tm d r, updH s.H (b + i) (.row row), s.nx⟩, rfl, ?_, k⟩
  rw [if_neg hi.1, if_neg hi.2]
  refine ⟨some row, rfl, rfl, .inr ⟨hi.2, hH, hn⟩, fun s' hx hk ht => ?_⟩
  rcases hk with hk | hk
  · cases hk
  · exact one_alloc hC hN (stepA_mono hx (fun x hx => (ev_congr ht x hx).symm) h) hk.1 hk.2
theorem D.gY (hj : (ops[j]?).bind (·.dst) = some t) (hb : s.tm t = .v (.bool want)) (k : DW C N ops H0 b tg mk av Fin i (⟨some d, op, ty, ps, af, none⟩ :: rest) s) :
    DW C N ops H0 b tg mk av Fin i (⟨some d, op, ty, ps, af, some (j, want)⟩ :: rest) s := by
  obtain ⟨r, s', h1, h2, h3⟩ := k
  have ht := looks_guard (o := ⟨some d, op, ty, ps, af, some (j, want)⟩) rfl hj
  refine ⟨r, s', h1, ?_, h3⟩
  by_cases hi : i ∈ tg
  · rw [if_pos hi] at h2 ⊢
    refine ⟨fun s1 g1 g2 g3 => ?_, h2.2⟩
    exact one_guard rfl hj (by rw [g3 t ht]; exact hb) (h2.1 s1 g1 g2 (fun u hu => g3 u (looks_sub hu)))
  · rw [if_neg hi] at h2 ⊢
    obtain ⟨nr, g1, g2, g3, g4⟩ := h2
    refine ⟨nr, g1, g2, g3, fun s1 e1 e2 e3 => ?_⟩
    exact one_guard rfl hj (by rw [e3 t ht]; exact hb) (g4 s1 e1 e2 (fun u hu => e3 u (looks_sub hu)))
theorem D.gN (hj : (ops[j]?).bind (·.dst) = some t) (hN : d < N) (hi : i ∉ tg) (hb : s.tm t = .v (.bool (!want))) (k : DW C N ops H0 b tg mk av Fin (i + 1) rest (s.put d (.v undef) none)) :
    DW C N ops H0 b tg mk av Fin i (⟨some d, op, ty, ps, af, some (j, want)⟩ :: rest) s := by
  have ht := looks_guard (o := ⟨some d, op, ty, ps, af, some (j, want)⟩) rfl hj
  refine ⟨.v undef, s.put d (.v undef) none, rfl, ?_, k⟩
  rw [if_neg hi]
  exact ⟨none, rfl, rfl, .inl rfl, fun s1 _ _ e3 => one_skip rfl hj (by rw [e3 t ht]; exact hb) rfl hN⟩
theorem D.gU (hj : (ops[j]?).bind (·.dst) = some t) (hN : d < N) (hi : i ∉ tg) (hb : s.tm t = .v undef) (k : DW C N ops H0 b tg mk av Fin (i + 1) rest (s.put d (.v undef) none)) :
    DW C N ops H0 b tg mk av Fin i (⟨some d, op, ty, ps, af, some (j, want)⟩ :: rest) s := by
  have ht := looks_guard (o := ⟨some d, op, ty, ps, af, some (j, want)⟩) rfl hj
  refine ⟨.v undef, s.put d (.v undef) none, rfl, ?_, k⟩
  rw [if_neg hi]
  exact ⟨none, rfl, rfl, .inl rfl, fun s1 _ _ e3 => one_skipU rfl hj (by rw [e3 t ht]; exact hb) rfl hN⟩
theorem D.gS (hj : (ops[j]?).bind (·.dst) = some t) (hN : d < N) (hi : i ∉ tg) (hb : s.tm t = .v (.bool bb)) (k1 : bb = want → DW C N ops H0 b tg mk av Fin i (⟨some d, op, ty, ps, af, none⟩ :: rest) (s.put t (.v (.bool want)) none))
    (k2 : bb = !want → DW C N ops H0 b tg mk av Fin (i + 1) rest ((s.put t (.v (.bool (!want))) none).put d (.v undef) none)) :
    DW C N ops H0 b tg mk av Fin i (⟨some d, op, ty, ps, af, some (j, want)⟩ :: rest) s := by
  by_cases hw : bb = want
  · have := k1 hw
    rw [put_same_tm (by rw [hb, hw])] at this
    exact D.gY hj (by rw [hb, hw]) this
  · have hw' : bb = !want := by cases bb <;> cases want <;> simp_all
    have := k2 hw'
    rw [put_same_tm (t := t) (by rw [hb, hw'])] at this
    exact D.gN hj hN hi (by rw [hb, hw']) this
theorem D.callv (hC : C.OK) (hN : d < N) (hi : i ∉ tg ∧ i ∉ mk) {fo : Operand} {args : Array Operand} {tys : Array TypeId} {f : FuncId} {caps vs : List AV} {R : AV} (hf : s.ev fo = .clo f caps) (hv : viewL H0 (evsA args.toList s.ev ++ caps) = some vs) (hok : OKv C f vs R)
    (hfl : (flatA R || (idsL (evsA args.toList s.ev ++ caps)).isEmpty) = true) (k : DW C N ops H0 b tg mk av Fin (i + 1) rest (s.put d R none)) :
    DW C N ops H0 b tg mk av Fin i (⟨some d, .call { callee := .value fo, args := args, argTypes := tys }, ty, ps, af, none⟩ :: rest) s := by
  refine ⟨R, s.put d R none, rfl, ?_, k⟩
  rw [if_neg hi.1, if_neg hi.2]
  refine ⟨none, rfl, rfl, .inl rfl, fun s' hx _ ht => ?_⟩
  have hev := ev_congr ht
  have e1 : s'.ev fo = .clo f caps := by rw [hev fo (by simp [Op.operands, Call.operands])]; exact hf
  have e2 : evsA args.toList s'.ev = evsA args.toList s.ev := evsA_congr (fun x hx => hev x (by simp only [Op.operands, Call.operands, Array.mem_append]; exact .inr (by simpa using hx)))
  refine one_of_AWL (W.callv (R := R) hC hN e1 (by rw [e2]; exact viewL_mono hx _ _ hv) hok (AWL.nil ⟨rfl, ?_⟩))
  rw [e2]
  unfold St.back
  have : afterH s'.H (idsL (evsA args.toList s.ev ++ caps)) R = s'.H := by
    cases hq : flatA R <;> simp_all [afterH]
  rw [this]; rfl
theorem D.store (hC : C.OK) (hi : i ∈ tg) {tp : TypeId} {p x : Operand} {id : Nat} {r : Row} (h : storeA C.T s.H tp (s.ev p) (s.ev x) = some (id, r)) (hav : mk = [] ∨ id ∈ av)
    (k : DW C N ops H0 b tg mk av Fin (i + 1) rest { s with H := updH s.H id (.row r) }) : DW C N ops H0 b tg mk av Fin i (⟨none, .store tp p x, ty, ps, af, none⟩ :: rest) s := by
  refine ⟨.junk, { s with H := updH s.H id (.row r) }, rfl, ?_, k⟩
  rw [if_pos hi]
  refine ⟨fun s' h1 h2 ht => ?_, ?_⟩
  · have hev := ev_congr ht
    refine one_of_AWL (W.store (id := id) (r := r) hC (by rw [hev p (by simp [Op.operands]), hev x (by simp [Op.operands]), h1]; exact h) (AWL.nil ⟨rfl, ?_⟩))
    rw [h1, h2]; rfl
  · rcases hav with h | h
    · exact .inl h
    · refine .inr fun id' x hid hx => ?_
      show updH s.H id _ id' = some x
      simp only [updH]
      rw [if_neg (fun e => by rw [e] at hid; exact hid h)]; exact hx
theorem D.nil (h : Fin s) : DW C N ops H0 b tg mk av Fin i [] s := h
end
end Go.Pg

namespace Go.Pg
open Go Go.RowKit
theorem back_H0 (s : St) (d : Nat) (x : Value) (ids : List Nat) : (s.back d (.v x) ids).H = s.H := rfl
theorem idsA_ref (id off n : Nat) : idsA (.ref id off n) = [id] := rfl
theorem idsA_ptr (id i j n : Nat) : idsA (.ptr id i j n) = [id] := rfl
theorem idsA_iptr (e : List AV) (j : Nat) : idsA (.iptr e j) = [] := rfl
theorem idsA_tup (cs : List AV) : idsA (.tup cs) = idsL cs := rfl
theorem idsA_clo (f : FuncId) (cs : List AV) : idsA (.clo f cs) = idsL cs := rfl
theorem view_iptr (H : Nat → Option AO) (e : List AV) (j : Nat) : viewA H (.iptr e j) = some (.iptr e j) := rfl
theorem view_ref (H : Nat → Option AO) (id off n : Nat) : viewA H (.ref id off n) = (match rowAt H id with
    | some r => if r.lo ≤ off + n ∧ off + n ≤ r.es.length ∧ r.es.all pureL = true then some (.lst ((r.es.drop off).take n)) else none
    | none => none) := rfl
theorem view_ptr (H : Nat → Option AO) (id i j tag : Nat) : viewA H (.ptr id i j tag) = (match rowAt H id with
    | some r => if r.lo ≤ tag ∧ i < r.es.length ∧ pureL (r.es.getD i []) = true then some (.iptr (r.es.getD i []) j) else none
    | none => none) := rfl
theorem nxL (a b : Nat) : (a = a + b) = (b = 0) := by rw [eq_iff_iff]; omega
theorem nxR (a b : Nat) : (a + b = a) = (b = 0) := by rw [eq_iff_iff]; omega
theorem nxC (a b c : Nat) : (a + b = a + c) = (b = c) := by rw [eq_iff_iff]; omega
theorem nxA (a : Nat) : a + 1 + 1 = a + 2 := rfl
theorem EVS : 
    ((∀ (s : St) (d : Nat) (r : AV) (nr : Option Row) (t : Nat), (s.put d r nr).tm t = if t = d then r else s.tm t) ∧
    (∀ (s : St) (d : Nat) (r : AV), (s.put d r none).H = s.H) ∧
    (∀ (s : St) (d : Nat) (r : AV) (row : Row), (s.put d r (some row)).H = updH s.H s.nx (.row row)) ∧
    (∀ (s : St) (d : Nat) (r : AV), (s.put d r none).nx = s.nx) ∧
    (∀ (s : St) (d : Nat) (r : AV) (row : Row), (s.put d r (some row)).nx = s.nx + 1) ∧
    (∀ (s : St) (d : Nat) (r : AV) (ids : List Nat) (t : Nat), (s.back d r ids).tm t = if t = d then r else s.tm t) ∧
    (∀ (s : St) (d : Nat) (r : AV) (ids : List Nat), (s.back d r ids).nx = s.nx) ∧
    (∀ (s : St) (d : Nat) (x : Value) (ids : List Nat), (s.back d (.v x) ids).H = s.H) ∧
    (∀ (s : St) (d : Nat) (r : AV) (ids : List Nat), (s.back d r ids).H = afterH s.H ids r) ∧
    (∀ (H : Nat → Option AO) (r : AV), afterH H [] r = H) ∧
    (∀ (f : Nat → AV) (d : Nat) (r : AV) (t : Nat), upd f d r t = if t = d then r else f t) ∧
    (∀ (args : List AV) (t : Nat), (startSt args).tm t = args.getD t .junk) ∧
    (∀ (args : List AV), (startSt args).H = fun _ => none) ∧
    (∀ (args : List AV), (startSt args).nx = 0)) ∧
    ((∀ (H : Nat → Option AO) (i : Nat) (r : Row) (j : Nat), rowAt (updH H i (.row r)) j = if j = i then some r else rowAt H j) ∧
    (∀ (j : Nat), rowAt (fun _ => none) j = none) ∧
    (∀ (s : St) (t : Nat), s.ev (.tmp t) = s.tm t) ∧
    (∀ (s : St) (x : Value), s.ev (.const x) = constA x) ∧
    (∀ (s : St) (f : FuncId), s.ev (.func f) = .clo f []) ∧
    (∀ (k : IntKind) (n : Int), constA (.int k n) = .v (.int k n)) ∧
    (∀ (b : Bool), constA (.bool b) = .v (.bool b)) ∧
    (∀ (b : ByteArray), constA (.string b) = .v (.string b)) ∧
    (constA (.slice none 0 0) = .v (.slice none 0 0))) ∧
    ((∀ (H : Nat → Option AO) (k : IntKind) (n : Int), viewA H (.v (.int k n)) = some (.v (.int k n))) ∧
    (∀ (H : Nat → Option AO) (b : Bool), viewA H (.v (.bool b)) = some (.v (.bool b))) ∧
    (∀ (H : Nat → Option AO) (b : ByteArray), viewA H (.v (.string b)) = some (.v (.string b))) ∧
    (∀ (H : Nat → Option AO), viewA H (.v (.slice none 0 0)) = some (.lst [])) ∧
    (∀ (H : Nat → Option AO) (es : List (List AV)), viewA H (.lst es) = some (.lst es)) ∧
    (∀ (H : Nat → Option AO) (cs : List AV), viewA H (.agg cs) = (viewL H cs).map .agg) ∧
    (∀ (H : Nat → Option AO) (cs : List AV), viewA H (.tup cs) = (viewL H cs).map .tup) ∧
    (∀ (H : Nat → Option AO) (f : FuncId) (cs : List AV), viewA H (.clo f cs) = (viewL H cs).map (.clo f)) ∧
    (∀ (H : Nat → Option AO) (e : List AV) (j : Nat), viewA H (.iptr e j) = some (.iptr e j)) ∧
    (∀ (H : Nat → Option AO), viewL H [] = some []) ∧
    (∀ (H : Nat → Option AO) (c : AV) (cs : List AV), viewL H (c :: cs) = (match viewA H c, viewL H cs with | some d, some ds => some (d :: ds) | _, _ => none))) ∧
    ((∀ (x : Value), idsA (.v x) = []) ∧
    (∀ (es : List (List AV)), idsA (.lst es) = []) ∧
    (∀ (cs : List AV), idsA (.agg cs) = idsL cs) ∧
    (∀ (cs : List AV), idsA (.tup cs) = idsL cs) ∧
    (∀ (f : FuncId) (cs : List AV), idsA (.clo f cs) = idsL cs) ∧
    (∀ (id off n : Nat), idsA (.ref id off n) = [id]) ∧
    (∀ (id i j n : Nat), idsA (.ptr id i j n) = [id]) ∧
    (∀ (e : List AV) (j : Nat), idsA (.iptr e j) = []) ∧
    (idsL [] = []) ∧
    (∀ (c : AV) (cs : List AV), idsL (c :: cs) = idsA c ++ idsL cs)) :=
  ⟨⟨put_tm, put_H0, put_H1, put_nx0, put_nx1, back_tm, back_nx, back_H0, back_H, afterH_nil, upd_at, start_tm, start_H, start_nx⟩,
   ⟨rowAt_upd, rowAt_none, ev_tmp, ev_const, ev_func, constA_int, constA_bool, constA_str, constA_nil⟩,
   ⟨view_v_int, view_v_bool, view_v_str, view_nil, view_lst, view_agg, view_tup, view_clo, view_iptr, viewL_nil, viewL_cons⟩,
   ⟨idsA_v, idsA_lst, idsA_agg, idsA_tup, idsA_clo, idsA_ref, idsA_ptr, idsA_iptr, idsL_nil, idsL_cons⟩⟩
theorem LST : 
    ((∀ (α : Type) (a d : α) (l : List α), (a :: l).getD 0 d = a) ∧ (∀ (α : Type) (a d : α) (l : List α) (n : Nat), (a :: l).getD (n + 1) d = l.getD n d) ∧ (∀ (α : Type) (d : α) (n : Nat), ([] : List α).getD n d = d) ∧
    (∀ (α β : Type) (f : α → β) (a : α), Option.map f (some a) = some (f a)) ∧ (∀ (α β : Type) (f : α → β), Option.map f none = none) ∧
    (∀ (α : Type) (a : α) (l : List α), (a :: l)[0]? = some a) ∧ (∀ (α : Type) (a : α) (l : List α) (n : Nat), (a :: l)[n + 1]? = l[n]?) ∧ (∀ (α : Type) (n : Nat), ([] : List α)[n]? = none)) ∧
    ((∀ (α : Type) (a : α) (l : List α), (a :: l).length = l.length + 1) ∧ (∀ (α : Type), ([] : List α).length = 0) ∧ (∀ (α : Type) (a : α) (l : List α) (n : Nat), (a :: l).drop (n + 1) = l.drop n) ∧ (∀ (α : Type) (l : List α), l.drop 0 = l) ∧
    (∀ (α : Type) (a : α) (l : List α) (n : Nat), (a :: l).take (n + 1) = a :: l.take n) ∧ (∀ (α : Type) (l : List α), l.take 0 = []) ∧ (∀ (α : Type) (n : Nat), ([] : List α).drop n = []) ∧ (∀ (α : Type) (n : Nat), ([] : List α).take n = []) ∧
    (∀ (α : Type) (l : List α), l ++ [] = l) ∧ (∀ (α : Type) (l : List α), [] ++ l = l) ∧ (∀ (α : Type) (a : α) (l m : List α), (a :: l) ++ m = a :: (l ++ m)) ∧
    (∀ (α : Type) (p : α → Bool) (a : α) (l : List α), (a :: l).all p = (p a && l.all p)) ∧ (∀ (α : Type) (p : α → Bool), [].all p = true) ∧
    (∀ (α β : Type) (f : α → β) (a : α) (l : List α), (a :: l).map f = f a :: l.map f) ∧ (∀ (α β : Type) (f : α → β), [].map f = []) ∧
    (∀ (α : Type) (a b : α) (l : List α), (a :: l).set 0 b = b :: l) ∧ (∀ (α : Type) (a b : α) (l : List α) (n : Nat), (a :: l).set (n + 1) b = a :: l.set n b)) :=
  ⟨⟨fun _ _ _ _ => rfl, fun _ _ _ _ _ => rfl, fun _ _ _ => rfl, fun _ _ _ _ => rfl, fun _ _ _ => rfl, fun _ _ _ => rfl, fun _ _ _ _ => rfl, fun _ _ => rfl⟩,
   ⟨fun _ _ _ => rfl, fun _ => rfl, fun _ _ _ _ => rfl, fun _ _ => rfl, fun _ _ _ _ => rfl, fun _ _ => rfl, fun _ n => by cases n <;> rfl, fun _ n => by cases n <;> rfl, fun _ _ => List.append_nil _, fun _ _ => rfl, fun _ _ _ _ => rfl,
    fun _ _ _ _ => rfl, fun _ _ => rfl, fun _ _ _ _ _ => rfl, fun _ _ _ => rfl, fun _ _ _ _ => rfl, fun _ _ _ _ _ => rfl⟩⟩
theorem W.draw {C : Cx} {N : Nat} {Q : Exit → St → Prop} {s : St} {l : List Oper} {id : Nat} (hm : C.P.follows .mixedOrders = true) (hok : drawOK l [] [] = true)
    (h : DW C N l.toArray s.H s.nx [] [] [] (fun s' => Q .normal s') 0 l s) : AW C N (.region id l.toArray true) Q s := AW.draw hm [] [] [] 0 hok h
end Go.Pg

namespace Go.Pg
open Go Go.RowKit
def resV (T : TypeId → Option Ty) (s : St) : ResultVar → Option AV
  | .tmp t => some (s.tm t)
  | .cell a t => loadA T s.H t (s.tm a)
def resVs (T : TypeId → Option Ty) (s : St) : List ResultVar → Option (List AV)
  | [] => some []
  | r :: rs => match resV T s r, resVs T s rs with
    | some x, some xs => some (x :: xs)
    | _, _ => none
def endC (C : Cx) (rs : List ResultVar) (Q : AV → Prop) : Exit → St → Prop
  | .normal, s => ∃ vs, resVs C.T s rs = some vs ∧ ∃ r', viewA s.H (.tup vs) = some r' ∧ Q r'
  | .ret, s => ∃ vs, resVs C.T s rs = some vs ∧ ∃ r', viewA s.H (.tup vs) = some r' ∧ Q r'
  | _, _ => False
section
variable {C : Cx} {Q : AV → Prop}
theorem W.retC {rs : List ResultVar} {s : St} {vs : List AV} {r : AV} (h1 : resVs C.T s rs = some vs) (h2 : viewA s.H (.tup vs) = some r) (hq : Q r) : endC C rs Q .ret s := ⟨vs, h1, r, h2, hq⟩
theorem W.endC' {rs : List ResultVar} {s : St} {vs : List AV} {r : AV} (h1 : resVs C.T s rs = some vs) (h2 : viewA s.H (.tup vs) = some r) (hq : Q r) : endC C rs Q .normal s := ⟨vs, h1, r, h2, hq⟩
theorem run_resVs (hC : C.OK) {S0 : Fr} {w0 w : World} {N : Nat} {a : Act} {s : St} {σ : Sg} (hσ : SimG S0 w0 N a w s σ) : ∀ (rs : List ResultVar) (vs : List AV), resVs C.T s rs = some vs →
    ∃ us : List Value, (rs.mapM fun (x : ResultVar) => (match x with | .tmp t => pure (a.tmps.getD t undef) | .cell b t => do loadVar t (← asAddr (a.tmps.getD b undef)) : Sem Value)).run C.P w = .ok us w ∧
      us.length = vs.length ∧ RepL σ w vs (fun i => us[i]?)
  | [], vs, h => by
    simp only [resVs, Option.some.injEq] at h; subst h
    exact ⟨[], by simp, rfl, trivial⟩
  | r :: rs, vs, h => by
    simp only [resVs] at h
    split at h
    · rename_i x xs h1 h2
      injection h with h; subst h
      obtain ⟨us, g1, g2, g3⟩ := run_resVs hC hσ rs xs h2
      have hone : ∃ u, ((match r with | .tmp t => pure (a.tmps.getD t undef) | .cell b t => do loadVar t (← asAddr (a.tmps.getD b undef)) : Sem Value)).run C.P w = .ok u w ∧ Rep σ w x u := by
        cases r with
        | tmp t =>
          simp only [resV, Option.some.injEq] at h1; subst h1
          exact ⟨_, rfl, hσ.tm t⟩
        | cell b t =>
          simp only [resV] at h1
          obtain ⟨v, hv, hr⟩ := loadA_sound (P := C.P) hC.T hσ.inv (hσ.tm b) h1
          refine ⟨v, ?_, hr⟩
          have hp : ∃ ad, a.tmps.getD b undef = .pointer (some ad) := by
            unfold loadA at h1
            split at h1
            · rename_i y e j hy hp
              obtain ⟨b', o, hh, _⟩ := rdPtr_sound hσ.inv (hσ.tm b) hp
              exact ⟨_, hh⟩
            · cases h1
          obtain ⟨ad, hp⟩ := hp
          rw [hp] at hv
          show ((asAddr (a.tmps.getD b undef) >>= fun x => loadVar t x : Sem Value)).run C.P w = .ok v w
          rw [hp]
          simpa [Instr.loadAt, Instr.sureAddr, asAddr] using hv
      obtain ⟨u, hu, hur⟩ := hone
      refine ⟨u :: us, ?_, by simp [g2], ?_⟩
      · simp only [List.mapM_cons, Sem.run_bind, hu, Result.andThen_ok, g1, Sem.run_pure]
      · simp only [RepL]
        exact ⟨⟨u, rfl, hur⟩, g3⟩
    · cases h
end
end Go.Pg

namespace Go.Pg
open Go Go.RowKit
section
variable {B0 : Nat} {S0 : Fr} {w w' : World} {H : Nat → Option AO} {σ : Sg}
theorem Inv.pushM (hi : Inv B0 S0 w H σ) (sh : KSh) {id : Nat} (hf : H id = none) (hB : B0 ≤ w.heap.size) :
    Le σ (σ.push w.heap.size id 0 0 0) w (w.alloc (.map #[] 0)) ∧ Inv B0 S0 (w.alloc (.map #[] 0)) (updH H id (.mp (.map sh) 0 [])) (σ.push w.heap.size id 0 0 0) := by
  have hle := hi.le_push (n := 0) (k := 0) (cap := 0) hf (.map #[] 0)
  have hS : ¬ σ.S w.heap.size := fun h => by have := (hi.S_lt _ h).1; omega
  have hheap : ∀ b, b < w.heap.size → (w.alloc (.map #[] 0)).heap[b]? = w.heap[b]? := fun b hb => Below.heap_alloc w _ b hb
  refine ⟨hle, fun i => ?_, fun i hn => ?_, fun b h => ⟨by have := (hi.S_lt b h).1; simp; omega, (hi.S_lt b h).2⟩, fun b i h => ?_, fun i r' h => ?_, fun i kt et es h => ?_, S0.mono _ _ _ _ hle hi.fr⟩
  · simp only [Sg.push, updH]
    by_cases e : i = id
    · simp [e]
    · simp [e, hi.al]
  · simp only [updH] at hn
    have e : i ≠ id := fun e => by simp [e] at hn
    rw [if_neg e] at hn
    obtain ⟨h1, h2⟩ := hi.fresh i hn
    refine ⟨by simp only [Sg.push]; rw [if_neg e]; exact h1, fun b hb => ?_⟩
    simp only [Sg.push] at hb
    split at hb
    · injection hb with hb; exact e hb.symm
    · exact h2 b hb
  · simp only [Sg.push] at h
    split at h
    · subst b; exact ⟨hB, by simp⟩
    · have := hi.own_lt b i h; exact ⟨this.1, by simp; omega⟩
  · simp only [updH] at h
    by_cases e : i = id
    · subst e; simp at h
    · rw [if_neg e] at h
      have hr := hi.row i r' h
      have hown : ∀ b, (σ.push w.heap.size id 0 0 0).own b = some i → σ.own b = some i ∧ b ≠ w.heap.size := fun b hb => by
        simp only [Sg.push] at hb
        split at hb
        · injection hb with hb; exact absurd hb.symm e
        · exact ⟨hb, by assumption⟩
      have hx : ∀ b, b ≠ w.heap.size → (σ.push w.heap.size id 0 0 0).ext b = σ.ext b := fun b hb => by simp only [Sg.push]; rw [if_neg hb]
      have hcx : (σ.push w.heap.size id 0 0 0).cur i = σ.cur i := by simp only [Sg.push]; rw [if_neg e]
      have hax : ∀ b, b ≠ w.heap.size → (σ.push w.heap.size id 0 0 0).cap b = σ.cap b := fun b hb => by simp only [Sg.push]; rw [if_neg hb]
      refine ⟨by simp only [Sg.push]; rw [if_neg e]; exact hr.len, by simp only [Sg.push]; rw [if_neg e]; exact hr.k, hr.each, hr.lo, fun b hb => ?_, fun hc => hr.empty (by rw [← hcx]; exact hc), fun b hb => ?_, fun b hb j h1 => ?_⟩
      · rw [hcx] at hb
        obtain ⟨a1, a2, a3, a4, ar, a5, a6⟩ := hr.cur b hb
        have hlt := (hi.own_lt b i a1).2
        exact ⟨by simp only [Sg.push]; rw [if_neg (by omega)]; exact a1, by rw [hx b (by omega)]; exact a2, by rw [hax b (by omega)]; exact a3, by rw [hax b (by omega)]; exact a4, ar, (hheap b hlt).trans a5, by rw [hax b (by omega)]; exact a6⟩
      · obtain ⟨h1, h2⟩ := hown b hb
        rw [hx b h2, hcx]; exact hr.own b h1
      · rw [hcx] at hb
        refine RepL.mono hle _ _ _ (fun m u hu => ?_) (hr.con b hb j h1)
        rw [cell_of_heap (w := w) (hheap b (hi.own_lt b i (hr.cur b hb).1).2)]; exact hu
  · simp only [updH] at h
    by_cases e : i = id
    · subst e
      rw [if_pos rfl] at h; injection h with h; injection h with h1 h2 h3; subst h1; subst h3
      refine ⟨by simp [Sg.push], ⟨w.heap.size, 0, #[], by simp [Sg.push], by simp [Sg.push], ⟨fun _ => hS, fun h => (by cases h)⟩, (MapKept.heap_alloc w _).1, ⟨rfl, fun k hk => by simp at hk⟩, by simp [RepL]⟩, fun b hb => ?_⟩
      simp only [Sg.push] at hb
      split at hb
      · rename_i he; subst he; exact ⟨by simp [Sg.push], by simp [Sg.push]⟩
      · exact absurd hb ((hi.fresh i hf).2 b)
    · rw [if_neg e] at h
      have hm := hi.mp i kt et es h
      obtain ⟨b, clock, xs, a1, a2, a3, a4, a5, a6⟩ := hm.cur
      have hlt := (hi.own_lt b i a2).2
      refine ⟨by simp only [Sg.push]; rw [if_neg e]; exact hm.len, ⟨b, clock, xs, by simp only [Sg.push]; rw [if_neg e]; exact a1, by simp only [Sg.push]; rw [if_neg (by omega)]; exact a2, a3, (hheap b hlt).trans a4, a5, RepL.mono hle _ _ _ (fun _ _ h => h) a6⟩, fun b hb => ?_⟩
      simp only [Sg.push] at hb
      split at hb
      · injection hb with hb; exact absurd hb.symm e
      · rename_i hne
        obtain ⟨h1, h2⟩ := hm.one b hb
        exact ⟨by simp only [Sg.push]; rw [if_neg e]; exact h1, by simp only [Sg.push]; rw [if_neg hne]; exact h2⟩
theorem Inv.remap (hi : Inv B0 S0 w H σ) {id : Nat} {kt kt' : MK} {et : TypeId} {es es' : List (Key × AV)} (hH : H id = some (.mp kt et es)) (hlv : kt.live = true) (hlv' : kt'.live = true) (hat : ∀ b, kt.at (es.map (·.1)) b → kt'.at (es'.map (·.1)) b) {b clock : Nat} {xs : Array MapEntry} (hc : σ.cur id = some b)
    (hb : w'.heap[b]? = some (kt'.obj xs clock)) (hsz : w'.heap.size = w.heap.size) (hother : ∀ k, k ≠ b → w'.heap[k]? = w.heap[k]?) (hk : xs.toList.map (·.key) = es'.map (fun e => e.1.val))
    (hv : RepL σ w (es'.map (·.2)) (fun i => (xs[i]?).map (·.val))) : Le σ σ w w' ∧ Inv B0 S0 w' (updH H id (.mp kt' et es')) σ := by
  have hm := hi.mp id kt et es hH
  obtain ⟨b', clock', xs', a1, a2, a3, a4, a5, a6⟩ := hm.cur
  rw [hc] at a1; injection a1 with a1; subst a1
  have hne : ∀ k i, i ≠ id → σ.own k = some i → k ≠ b := fun k i e hk hkb => by subst hkb; rw [a2] at hk; injection hk with hk; exact e hk.symm
  have hle : Le σ σ w w' := ⟨fun _ h => h, fun k h => hother k (fun e => a3.1 hlv (e ▸ h)), fun _ _ h => ⟨hi.al_of_own h, h, rfl, Nat.le_refl _⟩, fun _ h => h, fun _ _ => .inl ⟨rfl, rfl, fun _ _ => rfl⟩⟩
  refine ⟨hle, fun i => ?_, fun i hn => ?_, fun k h => ?_, fun k i h => ?_, fun i r' h => ?_, fun i kt2 et' es2 h => ?_, S0.mono _ _ _ _ hle hi.fr⟩
  · rw [hi.al]
    unfold updH
    split
    · rename_i e; subst e; simp [hH]
    · rfl
  · refine hi.fresh i ?_
    unfold updH at hn
    split at hn
    · cases hn
    · exact hn
  · rw [hsz]; exact hi.S_lt k h
  · rw [hsz]; exact hi.own_lt k i h
  · unfold updH at h
    split at h
    · cases h
    · rename_i e
      have hr := hi.row i r' h
      refine ⟨hr.len, hr.k, hr.each, hr.lo, fun k hk => ?_, hr.empty, hr.own, fun k hk j h1 => ?_⟩
      · obtain ⟨c1, c2, c3, c4, ar, c5, c6⟩ := hr.cur k hk
        exact ⟨c1, c2, c3, c4, ar, (hother k (hne k i e c1)).trans c5, c6⟩
      · refine RepL.mono hle _ _ _ (fun m u hu => ?_) (hr.con k hk j h1)
        rw [cell_of_heap (w := w) (hother k (hne k i e (hr.cur k hk).1))]; exact hu
  · unfold updH at h
    split at h
    · rename_i e; subst e
      injection h with h; injection h with h1 h2 h3; subst h1; subst h3
      exact ⟨hm.len, ⟨b, clock, xs, hc, a2, ⟨fun _ => a3.1 hlv, fun h => by rw [hlv'] at h; cases h⟩, hb, ⟨hk, hat _ a5.2⟩, RepL.mono hle _ _ _ (fun _ _ h => h) hv⟩, hm.one⟩
    · rename_i e
      have hm2 := hi.mp i kt2 et' es2 h
      obtain ⟨b2, clock2, xs2, c1, c2, c3, c4, c5, c6⟩ := hm2.cur
      exact ⟨hm2.len, ⟨b2, clock2, xs2, c1, c2, c3, (hother b2 (hne b2 i e c2)).trans c4, c5, RepL.mono hle _ _ _ (fun _ _ h => h) c6⟩, hm2.one⟩
end
theorem putM_keys (k : Key) (x : AV) : ∀ es : List (Key × AV), ∀ d ∈ (putM k x es).map (·.1), d = k ∨ d ∈ es.map (·.1)
  | [], d, h => by simp only [putM, List.map_cons, List.map_nil, List.mem_singleton] at h; exact .inl h
  | e :: es, d, h => by
    unfold putM at h
    split at h
    · simp only [List.map_cons, List.mem_cons] at h ⊢
      rcases h with h | h
      · exact .inl h
      · exact .inr (.inr h)
    · simp only [List.map_cons, List.mem_cons] at h ⊢
      rcases h with h | h
      · exact .inr (.inl h)
      · rcases putM_keys k x es d h with h | h
        · exact .inl h
        · exact .inr (.inr h)
def mapUpdA (T : TypeId → Option Ty) (eqT : TypeId → Bool) (H : Nat → Option AO) (t : TypeId) (m k x : AV) : Option (Nat × AO) :=
  match T t, m with
  | some { d := .map kt _, .. }, .map id => match keyA T eqT kt k, H id with
    | some key, some (.mp (.map sh) b es) => if key.sh = sh then some (id, .mp (.map sh) b (putM key x es)) else none
    | _, _ => none
  | _, _ => none
def makeMapA (T : TypeId → Option Ty) (t : TypeId) : Option KSh :=
  match T t with
  | some { d := .map kt _, .. } => shA T kt
  | _ => none
section
variable {C : Cx} {N : Nat} {Q : Exit → St → Prop} {s : St} {ops : Array Oper} {rest : List Oper} {o : Oper}
theorem AWL.makeMap (hC : C.OK) (hg : o.guard = none) {d : Nat} (hd : o.dst = some d) (hN : d < N) {t : TypeId} (ho : o.op = .makeMap t none) (sh : KSh)
    (k : AWL C N ops Q rest { tm := upd s.tm d (.map s.nx), H := updH s.H s.nx (.mp (.map sh) 0 []), nx := s.nx + 1 }) : AWL C N ops Q (o :: rest) s := by
  rintro S0 w0 a w hE ⟨σ, hσ⟩
  obtain ⟨hle, hinv⟩ := hσ.inv.pushM sh (hσ.nx s.nx (Nat.le_refl _)) hσ.size
  refine wpListIn_plain hg fun K hK => Oper.wpIn_of_wp C.hF (fun c e => by rw [ho] at e; cases e) ?_
  have hrun : (execOp a.eval o).run C.P w = .ok (.value (.map (some w.heap.size))) (w.alloc (.map #[] 0)) := by
    simp only [execOp, ho, Option.map_none, Sem.run_bind, run_makeMap, Result.andThen_ok, Sem.run_pure]
  simp only [Oper.wp, hrun, Oper.upon]
  rw [hd]
  refine hK _ _ (k S0 w0 _ _ hE ⟨σ.push w.heap.size s.nx 0 0 0, hσ.put hN (s' := { tm := upd s.tm d (.map s.nx), H := updH s.H s.nx (.mp (.map sh) 0 []), nx := s.nx + 1 }) hinv (fun id hid => ?_) hle ((Below.refl _ _).alloc hσ.size _) ?_ rfl⟩)
  · have hid' : s.nx + 1 ≤ id := hid
    simp only [updH]; rw [if_neg (by omega)]; exact hσ.nx id (by omega)
  · simp only [Rep]; exact ⟨_, rfl, by simp [Sg.push]⟩
theorem keyThatStays_same {P : Program} (k : Key) (w : World) : (Instr.keyThatStays k.val k.val).run P w = .ok k.val w := by
  have h : Instr.sameBits 10000 k.val k.val = true := by
    cases k with
    | str s => simp only [Key.val, Instr.sameBits]; rw [beq_bytes]; simp
    | int n => simp [Key.val, Instr.sameBits]
    | pair a b => simp [Key.val, Instr.sameBits]
  simp [Instr.keyThatStays, h]
theorem AWL.mapUpdate (hC : C.OK) (hg : o.guard = none) (hd : o.dst = none) {t : TypeId} {m kk x : Operand} (ho : o.op = .mapUpdate t m kk x) {id : Nat} {ao : AO} (h : mapUpdA C.T C.eqT s.H t (s.ev m) (s.ev kk) (s.ev x) = some (id, ao))
    (k : AWL C N ops Q rest { s with H := updH s.H id ao }) : AWL C N ops Q (o :: rest) s := by
  rintro S0 w0 a w hE ⟨σ, hσ⟩
  unfold mapUpdA at h
  split at h
  · rename_i sz by_ z kt et id' ht hm
    split at h
    · rename_i key sh kb es hkey hH
      split at h
      · rename_i hsh
        injection h with h; injection h with h1 h2; subst h1; subst h2
        have hmv := hσ.ev m
        rw [hm] at hmv
        obtain ⟨hkv, hko⟩ := keyA_sound hC.T hC.eqT (hσ.ev kk) hkey
        obtain ⟨b, clock, xs, hmb, a1, a2, a3, a4, a5, a5', a6⟩ := map_block hσ.inv hH hmv
        have hu := (hC.T t _ ht).map rfl
        have hobj : (getObj b).run C.P w = .ok (.map xs clock) w := MapKept.run_getObj_map a4
        obtain ⟨f1, f2⟩ := findKey_case hko w a5 (fun d hd => (a5' d hd).trans hsh.symm)
        have key : ∃ (xs' : Array MapEntry) (clock' : Nat), (Instr.mapUpdate t (a.eval m) (a.eval kk) (a.eval x)).run C.P w = .ok () (ChangeMaps.setBlock w b (.map xs' clock')) ∧
            xs'.toList.map (·.key) = (putM key (s.ev x) es).map (fun e => e.1.val) ∧ RepL σ w ((putM key (s.ev x) es).map (·.2)) (fun i => (xs'[i]?).map (·.val)) := by
          rcases keys_case key (s.ev x) xs.toList es 0 a5 with ⟨_, b3, b4⟩ | ⟨j, y, e, _, b3, b4, b5, ⟨d', b6, b6'⟩, b6'', b7, b8, _⟩
          · refine ⟨xs.push ⟨key.val, a.eval x, clock⟩, clock + 1, ?_, by rw [b3]; simp [a5], ?_⟩
            · rw [hmb, hkv]
              simp [Instr.mapUpdate, run_underlying hu, hobj, hko.check, f1 b4, MapKept.run_setObj_map _ a4, ChangeMaps.setBlock]
            · rw [b3, List.map_append]
              have hl : xs.size = (es.map (·.2)).length := by
                have := congrArg List.length a5
                simpa using this
              rw [repL_iff'] at a6 ⊢
              intro i c hc
              rw [List.getElem?_append] at hc
              rw [Array.getElem?_push]
              split at hc
              · rename_i hi
                rw [if_neg (by omega)]; exact a6 i c hc
              · rename_i hi
                have hi0 : i = (es.map (·.2)).length := by
                  have := (List.getElem?_eq_some_iff.1 hc).1
                  simp at this; simp; simp at hi; omega
                subst hi0
                simp only [Nat.sub_self, List.map_cons, List.map_nil, List.getElem?_cons_zero, Option.some.injEq] at hc
                subst hc
                rw [if_pos (by omega)]
                exact ⟨_, rfl, hσ.ev x⟩
          · refine ⟨xs.modify j fun e => { e with key := key.val, val := a.eval x }, clock, ?_, ?_, ?_⟩
            · have hj : xs[j]? = some e := by simpa using b3
              rw [hmb, hkv]
              simp [Instr.mapUpdate, run_underlying hu, hobj, hko.check, f2 j e d' b3 b6 b6' b6'', hj, b5, keyThatStays_same, MapKept.run_setObj_map _ a4, ChangeMaps.setBlock]
            · have hj : xs[j]? = some e := by simpa using b3
              rw [b7, ← a5]
              apply List.ext_getElem?
              intro i
              simp only [List.getElem?_map, Array.getElem?_toList, Array.getElem?_modify]
              split
              · rename_i hi; subst hi; simp [hj, b5]
              · rfl
            · have hj : xs[j]? = some e := by simpa using b3
              rw [b8]
              rw [repL_iff'] at a6 ⊢
              intro i c hc
              rw [List.getElem?_set] at hc
              rw [Array.getElem?_modify]
              split at hc
              · rename_i hi
                subst hi
                split at hc
                · injection hc with hc; subst hc
                  rw [if_pos rfl]
                  exact ⟨_, by rw [hj]; rfl, hσ.ev x⟩
                · cases hc
              · rename_i hi
                rw [if_neg hi]; exact a6 i c hc
        obtain ⟨xs', clock', hrun, hk1, hk2⟩ := key
        have hsame : (ChangeMaps.setBlock w b (.map xs' clock')).heap[b]? = some (.map xs' clock') := ChangeMaps.heap_setBlock_same a4 _
        have hoth : ∀ k, k ≠ b → (ChangeMaps.setBlock w b (.map xs' clock')).heap[k]? = w.heap[k]? := fun k hk => ChangeMaps.heap_setBlock_other a4 _ hk
        have hsz : (ChangeMaps.setBlock w b (.map xs' clock')).heap.size = w.heap.size := by simp [ChangeMaps.setBlock]
        obtain ⟨hle, hinv⟩ := hσ.inv.remap (kt' := .map sh) hH rfl rfl (fun b hb d hd => by
          rcases putM_keys _ _ _ d hd with rfl | hd
          · exact hsh
          · exact hb d hd) a1 hsame hsz hoth hk1 hk2
        refine wpListIn_plain hg fun K hK => Oper.wpIn_of_wp C.hF (fun c e => by rw [ho] at e; cases e) ?_
        have hrun' : (execOp a.eval o).run C.P w = .ok .skip (ChangeMaps.setBlock w b (.map xs' clock')) := by
          simp only [execOp, ho, Sem.run_bind, hrun, Result.andThen_ok, Sem.run_pure]
        simp only [Oper.wp, hrun', Oper.upon, hd]
        refine hK _ _ (k S0 w0 _ _ hE ⟨σ, hinv, fun i' hi' => ?_, fun t' => Rep.mono hle _ _ (hσ.tm t'), hσ.N, hσ.d, hσ.below.trans ⟨rfl, rfl, rfl, by rw [hsz]; exact Nat.le_refl _, fun k' hk' => hoth k' (fun e => ?_)⟩⟩)
        · simp only [updH]
          split
          · rename_i e; subst e; rw [hσ.nx i' hi'] at hH; cases hH
          · exact hσ.nx i' hi'
        · subst e; have := (hσ.inv.own_lt k' id' a2).1; omega
      · cases h
    · cases h
  · cases h
variable {ty : TypeId} {ps : String} {af : Array Edge} {d : Nat}
theorem W.makeMap (hC : C.OK) {t : TypeId} {sh : KSh} (hsh : makeMapA C.T t = some sh) (hN : d < N) (k : AWL C N ops Q rest { tm := upd s.tm d (.map s.nx), H := updH s.H s.nx (.mp (.map sh) 0 []), nx := s.nx + 1 }) :
    AWL C N ops Q (⟨some d, .makeMap t none, ty, ps, af, none⟩ :: rest) s := AWL.makeMap hC rfl rfl hN rfl sh k
theorem W.mapUpdate (hC : C.OK) {t : TypeId} {m kk x : Operand} {id : Nat} {ao : AO} (h : mapUpdA C.T C.eqT s.H t (s.ev m) (s.ev kk) (s.ev x) = some (id, ao)) (k : AWL C N ops Q rest { s with H := updH s.H id ao }) :
    AWL C N ops Q (⟨none, .mapUpdate t m kk x, ty, ps, af, none⟩ :: rest) s := AWL.mapUpdate hC rfl rfl rfl h k
end
end Go.Pg

namespace Go.Pg
open Go Go.RowKit
def OKm (C : Cx) (f : FuncId) (args : List AV) (H : Nat → Option AO) (nx : Nat) (Q : AV → (Nat → Option AO) → Nat → Prop) : Prop :=
  Enters C.P f ∧ ∀ (S0 : Fr) (w0 w : World) (σ : Sg) (vals : Array Value), C.E w0 → Inv w0.heap.size S0 w H σ → (∀ id, nx ≤ id → H id = none) → Below w0.heap.size w0 w → vals.size = args.length → RepL σ w args (fun i => vals[i]?) →
    Calls C.P f vals w fun e w' => ∃ v r σ' H' nx', e = .returned v ∧ Q r H' nx' ∧ Below w0.heap.size w0 w' ∧ Inv w0.heap.size S0 w' H' σ' ∧ (∀ id, nx' ≤ id → H' id = none) ∧ Le σ σ' w w' ∧ Rep σ' w' r v
def bundle : List AV → AV
  | [x] => x
  | xs => .tup xs
def endM (C : Cx) (rs : List ResultVar) (Q : AV → (Nat → Option AO) → Nat → Prop) : Exit → St → Prop
  | .normal, s => ∃ vs, resVs C.T s rs = some vs ∧ Q (bundle vs) s.H s.nx
  | .ret, s => ∃ vs, resVs C.T s rs = some vs ∧ Q (bundle vs) s.H s.nx
  | _, _ => False
def Fr.from (S0 : Fr) (σ : Sg) (w : World) : Fr :=
  ⟨S0.S, fun σ' w' => S0.K σ' w' ∧ Le σ σ' w w', fun _ _ _ _ hle h => ⟨S0.mono _ _ _ _ hle h.1, h.2.trans hle⟩, []⟩
theorem Inv.from {B0 : Nat} {S0 : Fr} {w : World} {H : Nat → Option AO} {σ : Sg} (h : Inv B0 S0 w H σ) : Inv B0 (S0.from σ w) w H σ :=
  ⟨h.al, h.fresh, h.S_lt, h.own_lt, h.row, h.mp, ⟨h.fr, Le.refl _ _ fun _ _ ho => h.al_of_own ho⟩⟩
theorem Inv.unfrom {B0 : Nat} {S0 : Fr} {w w' : World} {H : Nat → Option AO} {σ σ' : Sg} (h : Inv B0 (S0.from σ w) w' H σ') : Inv B0 S0 w' H σ' ∧ Le σ σ' w w' :=
  ⟨⟨h.al, h.fresh, h.S_lt, h.own_lt, h.row, h.mp, h.fr.1⟩, h.fr.2⟩
theorem resVs_len {T : TypeId → Option Ty} {s : St} : ∀ (rs : List ResultVar) (vs : List AV), resVs T s rs = some vs → vs.length = rs.length
  | [], vs, h => by simp only [resVs, Option.some.injEq] at h; subst h; rfl
  | r :: rs, vs, h => by
    simp only [resVs] at h
    split at h
    · rename_i h1 h2; injection h with h; subst h; simp [resVs_len rs _ h2]
    · cases h
section
variable {C : Cx}
theorem run_results_of (hC : C.OK) {S0 : Fr} {w0 w : World} {N : Nat} {a : Act} {s : St} {σ : Sg} (hσ : SimG S0 w0 N a w s σ) {fn : Func} {rs : List ResultVar} {vs : List AV} (hr : fn.results = rs.toArray) (h : resVs C.T s rs = some vs) :
    ∃ v, (results fn a.tmps).run C.P w = .ok v w ∧ Rep σ w (bundle vs) v := by
  obtain ⟨us, g1, g2, g3⟩ := run_resVs hC hσ rs vs h
  have hl := resVs_len rs vs h
  refine ⟨if h : us.toArray.size = 1 then us.toArray[0] else .tuple us.toArray, ?_, ?_⟩
  · simp only [results, hr, Array.mapM_eq_mapM_toList, Sem.run_bind, Sem.run_map, Sem.run_pure]
    exact (congrArg (fun r => (Result.andThen (Result.andThen r fun a w' => Result.ok a.toArray w') fun a w' => Result.ok (if h : a.size = 1 then a[0] else Value.tuple a) w')) g1).trans rfl
  · match vs, us, g2 with
    | [x], [u], _ => simpa [RepL, bundle] using g3
    | [], [], _ => simp only [bundle]; simp [Rep, RepL]
    | x :: y :: vs, u :: v :: us, g2 =>
      have : ¬ ((u :: v :: us).toArray.size = 1) := by simp
      rw [dif_neg this]
      simp only [bundle, Rep]
      exact ⟨_, rfl, by simpa using g2, by simpa using g3⟩
    | [x], u :: v :: us, g2 => simp at g2
    | x :: y :: vs, [u], g2 => simp at g2
theorem OKm.of_body [hW : C.Wide] (hC : C.OK) {f : FuncId} {fn : Func} {c : Code} {args : List AV} {rs : List ResultVar} {H : Nat → Option AO} {nx : Nat} {Q : AV → (Nat → Option AO) → Nat → Prop} (hf : C.P.funcs[f]? = some fn) (hb : fn.body = some c) (hn : (fn.name == "runtime.NumGoroutine") = false)
    (hr : fn.results = rs.toArray) (hN : args.length ≤ fn.ntmps) (h : AW C fn.ntmps c (endM C rs Q) { tm := fun t => args.getD t .junk, H := H, nx := nx }) : OKm C f args H nx Q := by
  refine ⟨⟨fn, hf, hn, by rw [hb]; rfl⟩, fun S0 w0 w σ vals hE hi hnx hbel hsz hrep => ?_⟩
  refine calls_of_wp hf hb ?_
  have hs : Sim (S0.from σ w) w0 fn.ntmps { tmps := vals ++ Array.replicate (fn.ntmps - vals.size) undef, defers := [] } w { tm := fun t => args.getD t .junk, H := H, nx := nx } := by
    refine ⟨σ, hi.from, hnx, fun t => ?_, by simp; omega, rfl, hbel⟩
    show Rep σ w (args.getD t .junk) ((vals ++ Array.replicate (fn.ntmps - vals.size) undef).getD t undef)
    by_cases ht : t < args.length
    · rw [repL_iff] at hrep
      obtain ⟨u, hu, hru⟩ := hrep t ht
      have : (vals ++ Array.replicate (fn.ntmps - vals.size) undef).getD t undef = u := by
        rw [Array.getD_eq_getD_getElem?, Array.getElem?_append_left (by omega), hu]; rfl
      rw [this, List.getD_eq_getElem?_getD, List.getElem?_eq_getElem ht]; exact hru
    · have : args.getD t .junk = .junk := by rw [List.getD_eq_getElem?_getD, List.getElem?_eq_none (by omega)]; rfl
      rw [this]; trivial
  have h2 := h (S0.from σ w) w0 _ w hE hs
  rw [hW.h] at h2
  refine wp_mono (wpIn_wide.1 h2) ?_
  have fin : ∀ a' w' s', Sim (S0.from σ w) w0 fn.ntmps a' w' s' → (∃ vs, resVs C.T s' rs = some vs ∧ Q (bundle vs) s'.H s'.nx) →
      a'.defers = [] ∧ ∃ v, (results fn a'.tmps).run C.P w' = .ok v w' ∧ (∃ v1 r σ' H' nx', Ending.returned v = .returned v1 ∧ Q r H' nx' ∧ Below w0.heap.size w0 w' ∧ Inv w0.heap.size S0 w' H' σ' ∧ (∀ id, nx' ≤ id → H' id = none) ∧ Le σ σ' w w' ∧ Rep σ' w' r v1) := by
    rintro a' w' s' ⟨σ', hσ'⟩ ⟨vs, hvs, hq⟩
    obtain ⟨v, hv, hrv⟩ := run_results_of hC hσ' hr hvs
    obtain ⟨hi', hle⟩ := hσ'.inv.unfrom
    exact ⟨hσ'.d, v, hv, v, _, σ', s'.H, s'.nx, rfl, hq, hσ'.below, hi', hσ'.nx, hle, hrv⟩
  rintro e a' w' ⟨s', hs', hq⟩
  cases e with
  | normal => exact fin a' w' s' hs' hq
  | ret => exact fin a' w' s' hs' hq
  | exit id => exact hq.elim
  | goto l => exact hq.elim
  | panic c => exact hq.elim
  | outgrown => exact hq.elim
theorem OKm.toAt {f : FuncId} {args : List AV} {Q : AV → (Nat → Option AO) → Nat → Prop} {Q' : AV → Prop} (h : OKm C f args (fun _ => none) 0 Q) (hq : ∀ r H nx, Q r H nx → ∃ r', viewA H r = some r' ∧ Q' r') : OKat C f args Q' := by
  refine ⟨h.1, fun w S vals hE hS hsz hrep => ?_⟩
  have hi : Inv w.heap.size (Fr.of S) w (fun _ => none) (pureSg S) :=
    ⟨fun id => by simp [pureSg], fun id _ => ⟨rfl, fun b h => by simp [pureSg] at h⟩, fun b h => ⟨hS b h, .inl h⟩, fun b id h => by simp [pureSg] at h, fun id r h => by simp at h, fun id kt et es h => by simp at h, trivial⟩
  refine (h.2 (Fr.of S) w w (pureSg S) vals hE hi (fun _ _ => rfl) (Below.refl _ _) hsz hrep).mono ?_
  rintro e w' ⟨v, r, σ', H', nx', rfl, hQ, hb, hi', _, _, hr⟩
  obtain ⟨r', hv, hq'⟩ := hq r H' nx' hQ
  refine ⟨hb, v, r', rfl, hq', ?_⟩
  refine viewA_sound hi' (fun b hb => ?_) r v r' hv (fun id _ b hb => .inr (hi'.own_lt b id hb)) hr
  have := hi'.S_lt b hb
  rcases this.2 with h | h
  · exact .inl h
  · exact .inr ⟨h, this.1⟩
theorem OKm.mono {f : FuncId} {args : List AV} {H : Nat → Option AO} {nx : Nat} {Q Q' : AV → (Nat → Option AO) → Nat → Prop} (h : OKm C f args H nx Q) (hq : ∀ r H nx, Q r H nx → Q' r H nx) : OKm C f args H nx Q' :=
  ⟨h.1, fun S0 w0 w σ vals hE hi hnx hbel hsz hrep => (h.2 S0 w0 w σ vals hE hi hnx hbel hsz hrep).mono (fun _ _ ⟨v, r, σ', H', nx', h1, h2, h3⟩ => ⟨v, r, σ', H', nx', h1, hq _ _ _ h2, h3⟩)⟩
variable {N : Nat} {Q : Exit → St → Prop} {s : St} {ops : Array Oper} {rest : List Oper} {o : Oper}
theorem AWL.callm (hC : C.OK) (hg : o.guard = none) {d : Nat} (hd : o.dst = some d) (hN : d < N) {fo : Operand} {args : Array Operand} {tys : Array TypeId} (ho : o.op = .call { callee := .value fo, args := args, argTypes := tys })
    {f : FuncId} {caps : List AV} (hf : s.ev fo = .clo f caps) {Qr : AV → (Nat → Option AO) → Nat → Prop} (hok : OKm C f (evsA args.toList s.ev ++ caps) s.H s.nx Qr)
    (k : ∀ r H' nx', Qr r H' nx' → AWL C N ops Q rest { tm := upd s.tm d r, H := H', nx := nx' }) : AWL C N ops Q (o :: rest) s := by
  rintro S0 w0 a w hE ⟨σ, hσ⟩
  obtain ⟨⟨fn, hfn, hname, hbody⟩, hcall⟩ := hok
  have hfo := hσ.ev fo
  rw [hf] at hfo
  simp only [Rep] at hfo
  obtain ⟨ca, hca, hcs, hcr⟩ := hfo
  have hargs : RepL σ w (evsA args.toList s.ev ++ caps) (fun i => ((args.map a.eval) ++ ca)[i]?) := by
    have h1 := repL_evs (σ := σ) (w := w) (fun x => hσ.ev x) args
    rw [repL_iff'] at h1 hcr ⊢
    intro i c hc
    rw [List.getElem?_append] at hc
    rw [Array.getElem?_append]
    have hl : (evsA args.toList s.ev).length = (args.map a.eval).size := by simp [evsA_map]
    rw [hl] at hc
    split at hc
    · rename_i hi; rw [if_pos hi]; exact h1 i c hc
    · rename_i hi; rw [if_neg hi]; exact hcr _ c hc
  have hsz : ((args.map a.eval) ++ ca).size = (evsA args.toList s.ev ++ caps).length := by simp [evsA_map, hcs]
  have hc := hcall S0 w0 w σ ((args.map a.eval) ++ ca) hE hσ.inv hσ.nx hσ.below hsz hargs
  refine wpListIn_plain hg fun K hK => Oper.wpIn_of_wp C.hF (fun c e => by rw [ho] at e; cases e) ?_
  have hexec : (execOp a.eval o).run C.P w = .ok (.enter f ((args.map a.eval) ++ ca)) w := by
    have hb : (fn.name == "runtime.NumGoroutine") ≠ true := by simp [hname]
    simp only [execOp, ho, resolve, hca, Deferred.ofValue, Sem.run_bind, Sem.run_pure, Result.andThen_ok, invoke, callFunc, run_program, hfn, if_neg hb, hbody, Bool.false_eq_true, if_false]
    simp
  simp only [Oper.wp, hexec, Oper.upon]
  refine hc.mono ?_
  rintro e w' ⟨v, r, σ', H', nx', rfl, hQ, hb, hi', hn', hle, hr⟩
  dsimp only
  rw [hd]
  refine hK _ _ (k r H' nx' hQ S0 w0 _ w' hE ⟨σ', hi', hn', fun t => ?_, by simp [Act.put, hσ.N], hσ.d, hb⟩)
  simp only [Act.put]
  rw [getD_set _ _ _ _ (by rw [hσ.N]; exact hN)]
  show Rep σ' w' (upd s.tm d r t) _
  unfold upd
  split
  · exact hr
  · exact Rep.mono hle _ _ (hσ.tm t)
variable {ty : TypeId} {ps : String} {af : Array Edge} {d : Nat}
theorem W.callm (hC : C.OK) (hN : d < N) {fo : Operand} {args : Array Operand} {tys : Array TypeId} {f : FuncId} {caps : List AV} (hf : s.ev fo = .clo f caps) {Qr : AV → (Nat → Option AO) → Nat → Prop} (hok : OKm C f (evsA args.toList s.ev ++ caps) s.H s.nx Qr)
    (k : ∀ r H' nx', Qr r H' nx' → AWL C N ops Q rest { tm := upd s.tm d r, H := H', nx := nx' }) : AWL C N ops Q (⟨some d, .call { callee := .value fo, args := args, argTypes := tys }, ty, ps, af, none⟩ :: rest) s :=
  AWL.callm hC rfl rfl hN rfl hf hok k
end
end Go.Pg

namespace Go.Pg
open Go Go.RowKit
section
variable {C : Cx} {N : Nat} {Q : Exit → St → Prop} {s : St} {ops : Array Oper} {rest : List Oper} {o : Oper}
theorem AW.adopt {c : Code} (t k : Nat) (e : TypeId) (ht : s.tm t = .v (.slice none 0 0)) (h : AW C N c Q { tm := upd s.tm t (.ref s.nx 0 0), H := updH s.H s.nx (.row { k := k, es := [], ty := e }), nx := s.nx + 1 }) : AW C N c Q s := by
  rintro S0 w0 a w hE ⟨σ, hσ⟩
  obtain ⟨hle, hinv⟩ := hσ.inv.adopt (hσ.nx s.nx (Nat.le_refl _)) { k := k, es := [], ty := e } rfl rfl rfl
  refine h S0 w0 a w hE ⟨σ.adopt s.nx k, hinv, fun id hid => ?_, fun u => ?_, hσ.N, hσ.d, hσ.below⟩
  · have hid' : s.nx + 1 ≤ id := hid
    simp only [updH]; rw [if_neg (by omega)]; exact hσ.nx id (by omega)
  · show Rep _ w (upd s.tm t (.ref s.nx 0 0) u) _
    unfold upd
    split
    · rename_i he
      subst he
      have hr := hσ.tm u
      rw [ht] at hr
      simp only [Rep] at hr
      rw [hr]
      simp only [Rep]
      exact ⟨.inl rfl, none, 0, rfl, Nat.le_refl _, by simp [maxLen], fun h => absurd rfl h, fun _ _ => .inl (by simp [Sg.adopt])⟩
    · exact Rep.mono hle _ _ (hσ.tm u)
theorem AW.fresh {c : Code} (h : (∀ id, s.nx ≤ id → s.H id = none) → AW C N c Q s) : AW C N c Q s := by
  rintro S0 w0 a w hE ⟨σ, hσ⟩
  exact h hσ.nx S0 w0 a w hE ⟨σ, hσ⟩
variable {op : Op} {ty : TypeId} {ps : String} {af : Array Edge} {d j t : Nat} {want bb : Bool}
theorem W.append (hC : C.OK) (hN : d < N) {x1 x2 : Operand} {t e : TypeId} {tt y : Ty} (ht : C.T t = some tt) (hte : tt.d = .slice e) (hy : C.T e = some y) (hk0 : 0 < y.size) {id nx : Nat} {r : Row}
    (hdst : dstA s s.nx (s.ev x1) y e = some (id, r, nx)) {es news : List (List AV)} (hsrc : srcA s.H (s.ev x2) = some es) (hv : viewLL s.H es = some news) (hlen : ∀ e ∈ es, e.length = y.size) (hid : idsLL es = [])
    (hb : (r.es.length + es.length) * y.bytes ≤ 140737488355328) (hm : r.es.length + es.length ≤ 140737488355328)
    (k : AWL C N ops Q rest { tm := upd s.tm d (.ref id 0 (r.es.length + es.length)), H := updH s.H id (.row (appRow r es.length news)), nx := nx }) :
    AWL C N ops Q (⟨some d, .call { callee := .builtin .append, args := #[x1, x2], argTypes := #[t, t] }, ty, ps, af, none⟩ :: rest) s := by
  refine AWL.append hC rfl rfl hN rfl ht hte hy hk0 (.inl rfl) hdst hsrc hlen hv (by rw [hid]; simp) hb hm ?_
  have : frz' s.H (idsLL es) = s.H := by rw [hid]; rfl
  rw [this]; exact k
theorem dstA_congr {s s' : St} (h1 : s'.H = s.H) (h2 : s'.nx = s.nx) (key : Nat) (x : AV) (y : Ty) (e : TypeId) : dstA s' key x y e = dstA s key x y e := by
  unfold dstA; rw [h1, h2]
variable {H0 : Nat → Option AO} {b : Nat} {tg mk av : List Nat} {Fin : St → Prop} {i : Nat}
theorem D.append (hC : C.OK) (hN : d < N) (hi : i ∈ tg) {x1 x2 : Operand} {t e : TypeId} {tt y : Ty} (ht : C.T t = some tt) (hte : tt.d = .slice e) (hy : C.T e = some y) (hk0 : 0 < y.size) {id nx : Nat} {r : Row}
    (hdst : dstA s s.nx (s.ev x1) y e = some (id, r, nx)) {es news : List (List AV)} (hsrc : srcA s.H (s.ev x2) = some es) (hv : viewLL s.H es = some news) (hlen : ∀ e ∈ es, e.length = y.size) (hid : idsLL es = [])
    (hb : (r.es.length + es.length) * y.bytes ≤ 140737488355328) (hm : r.es.length + es.length ≤ 140737488355328) (hav : mk = [] ∨ id ∈ av)
    (k : DW C N ops H0 b tg mk av Fin (i + 1) rest { tm := upd s.tm d (.ref id 0 (r.es.length + es.length)), H := updH s.H id (.row (appRow r es.length news)), nx := nx }) :
    DW C N ops H0 b tg mk av Fin i (⟨some d, .call { callee := .builtin .append, args := #[x1, x2], argTypes := #[t, t] }, ty, ps, af, none⟩ :: rest) s := by
  refine ⟨.ref id 0 (r.es.length + es.length), { tm := upd s.tm d (.ref id 0 (r.es.length + es.length)), H := updH s.H id (.row (appRow r es.length news)), nx := nx }, rfl, ?_, k⟩
  rw [if_pos hi]
  refine ⟨fun s' h1 h2 hl => ?_, ?_⟩
  · have hev := ev_congr hl
    have e1 : s'.ev x1 = s.ev x1 := hev x1 (by simp [Op.operands, Call.operands])
    have e2 : s'.ev x2 = s.ev x2 := hev x2 (by simp [Op.operands, Call.operands])
    refine one_of_AWL (W.append (id := id) (r := r) (nx := nx) (es := es) (news := news) hC hN ht hte hy hk0 (by rw [dstA_congr h1 h2, h2, e1]; exact hdst) (by rw [h1, e2]; exact hsrc) (by rw [h1]; exact hv) hlen hid hb hm (AWL.nil ⟨rfl, ?_⟩))
    rw [h1]; rfl
  · rcases hav with h | h
    · exact .inl h
    · refine .inr fun id' x hid' hx => ?_
      show updH s.H id _ id' = some x
      simp only [updH]
      rw [if_neg (fun e => by rw [e] at hid'; exact hid' h)]; exact hx
theorem D.callm (hC : C.OK) (hN : d < N) (hi : i ∈ tg) {fo : Operand} {args : Array Operand} {tys : Array TypeId} {f : FuncId} {caps : List AV} (hf : s.ev fo = .clo f caps) {R : AV} {H' : Nat → Option AO} {nx' : Nat}
    (hok : OKm C f (evsA args.toList s.ev ++ caps) s.H s.nx (fun r h n => r = R ∧ h = H' ∧ n = nx')) (hav : mk = [] ∨ ∀ id x, id ∉ av → s.H id = some x → H' id = some x)
    (k : DW C N ops H0 b tg mk av Fin (i + 1) rest { tm := upd s.tm d R, H := H', nx := nx' }) :
    DW C N ops H0 b tg mk av Fin i (⟨some d, .call { callee := .value fo, args := args, argTypes := tys }, ty, ps, af, none⟩ :: rest) s := by
  refine ⟨R, { tm := upd s.tm d R, H := H', nx := nx' }, rfl, ?_, k⟩
  rw [if_pos hi]
  refine ⟨fun s' h1 h2 hl => ?_, hav⟩
  have hev := ev_congr hl
  have e1 : s'.ev fo = .clo f caps := by rw [hev fo (by simp [Op.operands, Call.operands])]; exact hf
  have e2 : evsA args.toList s'.ev = evsA args.toList s.ev := evsA_congr (fun x hx => hev x (by simp only [Op.operands, Call.operands, Array.mem_append]; exact .inr (by simpa using hx)))
  refine one_of_AWL (W.callm hC hN e1 (Qr := fun r h n => r = R ∧ h = H' ∧ n = nx') (by rw [e2, h1, h2]; exact hok) ?_)
  rintro r h n ⟨rfl, rfl, rfl⟩
  exact AWL.nil ⟨rfl, rfl⟩
theorem D.mapUpdate (hC : C.OK) (hi : i ∈ tg) {t : TypeId} {m kk x : Operand} {id : Nat} {ao : AO} (h : mapUpdA C.T C.eqT s.H t (s.ev m) (s.ev kk) (s.ev x) = some (id, ao)) (hav : mk = [] ∨ id ∈ av)
    (k : DW C N ops H0 b tg mk av Fin (i + 1) rest { s with H := updH s.H id ao }) : DW C N ops H0 b tg mk av Fin i (⟨none, .mapUpdate t m kk x, ty, ps, af, none⟩ :: rest) s := by
  refine ⟨.junk, { s with H := updH s.H id ao }, rfl, ?_, k⟩
  rw [if_pos hi]
  refine ⟨fun s' h1 h2 ht => ?_, ?_⟩
  · have hev := ev_congr ht
    refine one_of_AWL (W.mapUpdate (id := id) (ao := ao) hC (by rw [hev m (by simp [Op.operands]), hev kk (by simp [Op.operands]), hev x (by simp [Op.operands]), h1]; exact h) (AWL.nil ⟨rfl, ?_⟩))
    rw [h1, h2]; rfl
  · rcases hav with h | h
    · exact .inl h
    · refine .inr fun id' x hid hx => ?_
      show updH s.H id _ id' = some x
      simp only [updH]
      rw [if_neg (fun e => by rw [e] at hid; exact hid h)]; exact hx
theorem D.alloct (hC : C.OK) (hN : d < N) (hi : i ∈ tg) {r : AV} {row : Row} (h : stepA C.T C.eqT s.H s.ev s.nx op = some (r, some row)) (hav : mk = [] ∨ s.nx ∈ av)
    (k : DW C N ops H0 b tg mk av Fin (i + 1) rest ⟨upd s.tm d r, updH s.H s.nx (.row row), s.nx + 1⟩) :
    DW C N ops H0 b tg mk av Fin i (⟨some d, op, ty, ps, af, none⟩ :: rest) s := by
  refine ⟨r, ⟨upd s.tm d r, updH s.H s.nx (.row row), s.nx + 1⟩, rfl, ?_, k⟩
  rw [if_pos hi]
  refine ⟨fun s' h1 h2 ht => ?_, ?_⟩
  · have := stepA_mono (H := s.H) (H' := s'.H) (fun id x hx => by rw [h1]; exact hx) (fun x hx => (ev_congr ht x hx).symm) h
    refine one_of_AWL (AWL.step (d := d) (r := r) (nr := some row) hC rfl rfl hN (by rw [h2]; exact this) (AWL.nil ⟨rfl, ?_⟩))
    show St.mk _ _ _ = _
    rw [show putH s'.H s'.nx (some row) = updH s'.H s'.nx (.row row) from rfl, h1, h2]; rfl
  · rcases hav with h | h
    · exact .inl h
    · refine .inr fun id' x hid hx => ?_
      show updH s.H s.nx _ id' = some x
      simp only [updH]
      rw [if_neg (fun e => by rw [e] at hid; exact hid h)]; exact hx
end
theorem OKat.of_bodyM {C : Cx} [hW : C.Wide] {Q : AV → Prop} (hC : C.OK) {f : FuncId} {fn : Func} {c : Code} {args : List AV} {rs : List ResultVar} (hf : C.P.funcs[f]? = some fn) (hb : fn.body = some c) (hn : (fn.name == "runtime.NumGoroutine") = false)
    (hr : fn.results = rs.toArray) (hN : args.length ≤ fn.ntmps) (h : AW C fn.ntmps c (endM C rs (fun r H _ => ∃ r', viewA H r = some r' ∧ Q r')) (startSt args)) : OKat C f args Q :=
  OKm.toAt (OKm.of_body hC hf hb hn hr hN h) (fun _ _ _ h => h)
theorem W.retM {C : Cx} {Q : AV → Prop} {rs : List ResultVar} {s : St} {vs : List AV} {r : AV} (h1 : resVs C.T s rs = some vs) (h2 : viewA s.H (bundle vs) = some r) (hq : Q r) : endM C rs (fun r H _ => ∃ r', viewA H r = some r' ∧ Q r') .ret s := ⟨vs, h1, r, h2, hq⟩
theorem W.endM' {C : Cx} {Q : AV → Prop} {rs : List ResultVar} {s : St} {vs : List AV} {r : AV} (h1 : resVs C.T s rs = some vs) (h2 : viewA s.H (bundle vs) = some r) (hq : Q r) : endM C rs (fun r H _ => ∃ r', viewA H r = some r' ∧ Q r') .normal s := ⟨vs, h1, r, h2, hq⟩
theorem updH_at (H : Nat → Option AO) (i : Nat) (o : AO) (j : Nat) : updH H i o j = if j = i then some o else H j := rfl
theorem rowAt_updM (H : Nat → Option AO) (i : Nat) (k : MK) (e : TypeId) (es : List (Key × AV)) (j : Nat) : rowAt (updH H i (.mp k e es)) j = if j = i then none else rowAt H j := by
  unfold rowAt updH
  split <;> rename_i h <;> split at h <;> simp_all
theorem viewLL_nil (H : Nat → Option AO) : viewLL H [] = some [] := rfl
theorem viewLL_cons (H : Nat → Option AO) (e : List AV) (es : List (List AV)) : viewLL H (e :: es) = (match viewL H e, viewLL H es with | some d, some ds => some (d :: ds) | _, _ => none) := rfl
theorem idsLL_nil : idsLL [] = [] := rfl
theorem idsLL_cons (e : List AV) (es : List (List AV)) : idsLL (e :: es) = idsL e ++ idsLL es := rfl
theorem viewLL_map {α : Type} (H : Nat → Option AO) (f : α → List AV) (h : ∀ a, viewL H (f a) = some (f a)) : ∀ l : List α, viewLL H (l.map f) = some (l.map f)
  | [] => rfl
  | a :: l => by simp only [List.map_cons, viewLL_cons, h a, viewLL_map H f h l]
theorem idsLL_map {α : Type} (f : α → List AV) (h : ∀ a, idsL (f a) = []) : ∀ l : List α, idsLL (l.map f) = []
  | [] => rfl
  | a :: l => by simp only [List.map_cons, idsLL_cons, h a, idsLL_map f h l, List.append_nil]
end Go.Pg

namespace Go.Pg
open Go Go.RowKit
section
variable {P : Program} {B0 : Nat} {S0 : Fr} {w : World} {H : Nat → Option AO} {σ : Sg}
theorem rowAt_mask (av : List Nat) (H : Nat → Option AO) (j : Nat) : rowAt (mask av H) j = if j ∈ av then none else rowAt H j := by
  unfold rowAt mask
  split <;> rename_i h <;> split at h <;> simp_all
theorem upd_twice (H : Nat → Option AO) (id n : Nat) (a b c : AO) : updH (updH (updH H id a) n b) id c = updH (updH H n b) id c := by
  funext i
  simp only [updH]
  split
  · rfl
  · split
    · rfl
    · rfl
end
section
variable {C : Cx} {N : Nat} {Q : Exit → St → Prop} {s : St} {ops : Array Oper} {rest : List Oper} {o : Oper}
variable {op : Op} {ty : TypeId} {ps : String} {af : Array Edge} {d j t : Nat} {want bb : Bool} {H0 : Nat → Option AO} {b : Nat} {tg mk av : List Nat} {Fin : St → Prop} {i : Nat}
theorem D.callvt (hC : C.OK) (hN : d < N) (hi : i ∈ tg) {fo : Operand} {args : Array Operand} {tys : Array TypeId} {f : FuncId} {caps vs : List AV} {R : AV} (hf : s.ev fo = .clo f caps) (hv : viewL s.H (evsA args.toList s.ev ++ caps) = some vs) (hok : OKv C f vs R)
    (hfl : (flatA R || (idsL (evsA args.toList s.ev ++ caps)).isEmpty) = true) (k : DW C N ops H0 b tg mk av Fin (i + 1) rest (s.put d R none)) :
    DW C N ops H0 b tg mk av Fin i (⟨some d, .call { callee := .value fo, args := args, argTypes := tys }, ty, ps, af, none⟩ :: rest) s := by
  refine ⟨R, s.put d R none, rfl, ?_, k⟩
  rw [if_pos hi]
  refine ⟨fun s' h1 h2 ht => ?_, .inr fun id x _ hx => hx⟩
  have hev := ev_congr ht
  have e1 : s'.ev fo = .clo f caps := by rw [hev fo (by simp [Op.operands, Call.operands])]; exact hf
  have e2 : evsA args.toList s'.ev = evsA args.toList s.ev := evsA_congr (fun x hx => hev x (by simp only [Op.operands, Call.operands, Array.mem_append]; exact .inr (by simpa using hx)))
  refine one_of_AWL (W.callv (R := R) hC hN e1 (by rw [e2, h1]; exact hv) hok (AWL.nil ⟨rfl, ?_⟩))
  rw [e2]
  unfold St.back
  have : afterH s'.H (idsL (evsA args.toList s.ev ++ caps)) R = s'.H := by
    cases hq : flatA R <;> simp_all [afterH]
  rw [this, h1, h2]; rfl
theorem W.retX {rs : List ResultVar} {Qx : AV → (Nat → Option AO) → Nat → Prop} {vs : List AV} (h1 : resVs C.T s rs = some vs) (hq : Qx (bundle vs) s.H s.nx) : endM C rs Qx .ret s := ⟨vs, h1, hq⟩
theorem W.endX {rs : List ResultVar} {Qx : AV → (Nat → Option AO) → Nat → Prop} {vs : List AV} (h1 : resVs C.T s rs = some vs) (hq : Qx (bundle vs) s.H s.nx) : endM C rs Qx .normal s := ⟨vs, h1, hq⟩
def AWs (C : Cx) (N : Nat) (c : Code) (Q : Exit → St → Prop) (s : St) : Prop :=
  ∀ (S : Nat → Prop) w0 a w, C.E w0 → Sim (Fr.of S) w0 N a w s → c.wpIn C.F 0 C.P (fun e a' w' => ∃ s', Sim (Fr.of S) w0 N a' w' s' ∧ Q e s') a w
theorem AWs.of {c : Code} (h : AW C N c Q s) : AWs C N c Q s := fun S w0 a w hE hs => h (Fr.of S) w0 a w hE hs
theorem AWs.seq {x y : Code} (h : AW C N x (thenQ (AWs C N y Q) Q) s) : AWs C N (.seq x y) Q s := by
  intro S w0 a w hE hs
  refine wpIn_seq (wpIn_mono (h (Fr.of S) w0 a w hE hs) ?_)
  rintro e a' w' ⟨s', h1, h3⟩
  cases e <;> simp only [thenQ, Exit.then] at h3 ⊢
  · exact h3 S w0 a' w' hE h1
  all_goals exact ⟨s', h1, h3⟩
end
end Go.Pg

namespace Go.Pg
open Go Go.RowKit
section
variable {C : Cx} {N : Nat} {Q : Exit → St → Prop} {s : St} {ops : Array Oper} {rest : List Oper}
variable {ty : TypeId} {ps : String} {af : Array Edge} {d : Nat} {H0 : Nat → Option AO} {b : Nat} {tg mk av : List Nat} {Fin : St → Prop} {i : Nat}
end
theorem INTS : ((!true) = false ∧ (!false) = true ∧ (∀ b : Bool, ((!b) = true) = (b = false)) ∧ (∀ b : Bool, ((!b) = false) = (b = true)) ∧ (∀ (p : Prop) [Decidable p], (decide p = true) = p) ∧ (∀ (p : Prop) [Decidable p], (decide p = false) = ¬ p)) ∧
    ((∀ a b : Bool, ((a && b) = true) = (a = true ∧ b = true)) ∧ (∀ a b : Bool, ((a && b) = false) = (a = false ∨ b = false)) ∧ (∀ a b : Bool, ((a || b) = true) = (a = true ∨ b = true)) ∧ (∀ a b : Bool, ((a || b) = false) = (a = false ∧ b = false))) ∧
    ((∀ a b : Int, (¬ a < b) = (b ≤ a)) ∧ (∀ a b : Int, (¬ a ≤ b) = (b < a)) ∧ (∀ (α : Type) [BEq α] [LawfulBEq α] (a b : α), ((a == b) = true) = (a = b)) ∧ (∀ (α : Type) [BEq α] [LawfulBEq α] (a b : α), ((a == b) = false) = (a ≠ b)) ∧
      (∀ (α : Type) [BEq α] [LawfulBEq α] (a b : α), ((a != b) = true) = (a ≠ b)) ∧ (∀ (α : Type) [BEq α] [LawfulBEq α] (a b : α), ((a != b) = false) = (a = b)) ∧ (∀ (α : Type) (a b : α), (a ≠ b) = ¬ (a = b)) ∧ (∀ (p : Prop) [Decidable p], (¬ ¬ p) = p)) := by
  refine ⟨⟨rfl, rfl, ?_, ?_, ?_, ?_⟩, ⟨?_, ?_, ?_, ?_⟩, ⟨?_, ?_, ?_, ?_, ?_, ?_, ?_, ?_⟩⟩ <;> intros <;> first | (simp [Int.not_lt, Int.not_le]; done) | (rename_i a b; cases a <;> cases b <;> simp)
attribute [push_cast] EVS LST stepA binA intBinA strBinA unA convA loadA rdPtr partA TyD.isAgg fieldAddrA fieldA offA extractA lenA minA cellsA Value.oneCell' builtA fillA fillE listA evsA spliceL normC sliceA boundA indexAddrA indexA storeA appRow view_ref view_ptr pureL pureA
attribute [push_cast] nxL nxR nxC nxA if_true if_false Bool.false_eq_true Bool.not_true Bool.not_false Bool.and_true Bool.true_and Bool.and_self Option.isSome_some Option.getD_some Nat.zero_add Nat.add_zero Nat.lt_irrefl Nat.le_refl and_self and_true true_and List.replicate_one List.replicate_zero List.replicate_succ
attribute [push_cast] dstA srcA viewLL_nil viewLL_cons idsLL_nil idsLL_cons lookupA keyA shA makeMapA Key.sh Key.same mapUpdA findM putM updH_at rowAt_updM resVs resV bundle
attribute [push_cast] List.length_map Int.natCast_nonneg Int.toNat_natCast decide_true decide_false ne_eq eq_self not_false_eq_true not_true_eq_false Bool.cond_true Bool.cond_false
end Go.Pg

namespace Go.Pg
open Go Go.RowKit
section
variable {B0 : Nat} {S0 : Fr} {w : World} {H : Nat → Option AO} {σ : Sg}
theorem Inv.retell (hi : Inv B0 S0 w H σ) {id : Nat} {r : Row} {es' : List (List AV)} (hH : H id = some (.row r)) (hl : es'.length = r.es.length) (each : ∀ e ∈ es', e.length = r.k ∧ ∀ c ∈ e, c.cell = true)
    (hcon : ∀ b, σ.cur id = some b → ∀ i (h : i < es'.length), RepL σ w es'[i] (fun j => w.cell? ⟨b, i * r.k + j, none⟩)) : Inv B0 S0 w (updH H id (.row { r with es := es' })) σ := by
  have hr := hi.row id r hH
  refine ⟨fun i => ?_, fun i hn => ?_, hi.S_lt, hi.own_lt, fun i r' h => ?_, fun i kt et es h => ?_, hi.fr⟩
  · rw [hi.al]
    simp only [updH]
    split
    · rename_i e; subst e; simp [hH]
    · rfl
  · simp only [updH] at hn
    split at hn
    · cases hn
    · exact hi.fresh i hn
  · simp only [updH] at h
    split at h
    · rename_i e; subst e
      injection h with h; injection h with h; subst h
      refine ⟨by rw [hr.len]; exact hl.symm, hr.k, each, by show r.lo ≤ es'.length; rw [hl]; exact hr.lo, fun b hb => ?_, fun hc => ?_, fun b hb => ?_, fun b hb j hj => hcon b hb j hj⟩
      · obtain ⟨a1, a2, a3, a4, arr, a5, a6⟩ := hr.cur b hb
        exact ⟨a1, by show σ.ext b = es'.length; rw [hl]; exact a2, by show es'.length ≤ _; rw [hl]; exact a3, a4, arr, a5, a6⟩
      · have := hr.empty hc
        show es' = []
        rw [this] at hl
        exact List.eq_nil_of_length_eq_zero (by simpa using hl)
      · obtain ⟨a1, a2, a3, a4⟩ := hr.own b hb
        exact ⟨a1, by show σ.ext b ≤ es'.length; rw [hl]; exact a2, a3, a4⟩
    · exact hi.row i r' h
  · simp only [updH] at h
    split at h
    · cases h
    · exact hi.mp i kt et es h
end
section
variable {C : Cx} {N : Nat} {Q : Exit → St → Prop} {s : St}
theorem AW.adoptCell {c : Code} (B i j k : Nat) (e : TypeId) {r : Row} (hr : rowAt s.H B = some r) (hc : (r.es[i]?).bind (·[j]?) = some (.v (.slice none 0 0)))
    (h : AW C N c Q { tm := s.tm, H := updH (updH s.H s.nx (.row { k := k, es := [], ty := e })) B (.row { r with es := r.es.set i ((r.es.getD i []).set j (.ref s.nx 0 0)) }), nx := s.nx + 1 }) : AW C N c Q s := by
  rintro S0 w0 a w hE ⟨σ, hσ⟩
  have hH := rowAt_eq hr
  obtain ⟨hle, hinv⟩ := hσ.inv.adopt (hσ.nx s.nx (Nat.le_refl _)) { k := k, es := [], ty := e } rfl rfl rfl
  have hne : B ≠ s.nx := fun e => by have := hσ.nx s.nx (Nat.le_refl _); rw [e, this] at hH; cases hH
  have hH' : updH s.H s.nx (.row { k := k, es := [], ty := e }) B = some (.row r) := by simp only [updH]; rw [if_neg hne]; exact hH
  obtain ⟨ei, hei, hej⟩ := Option.bind_eq_some_iff.1 hc
  obtain ⟨hil, rfl⟩ := List.getElem?_eq_some_iff.1 hei
  have hgd : r.es.getD i [] = r.es[i] := by rw [List.getD_eq_getElem?_getD, List.getElem?_eq_getElem hil]; rfl
  have hR := hinv.row B r hH'
  have hnew : ∀ (w : World), Rep (σ.adopt s.nx k) w (.ref s.nx 0 0) (.slice none 0 0) := fun w => by
    simp only [Rep]
    exact ⟨.inl rfl, none, 0, rfl, Nat.le_refl _, by simp [maxLen], fun h => absurd rfl h, fun _ _ => .inl (by simp [Sg.adopt])⟩
  have hinv2 := hinv.retell (es' := r.es.set i ((r.es.getD i []).set j (.ref s.nx 0 0))) hH' (by simp) (fun x hx => by
    rcases List.mem_or_eq_of_mem_set hx with hx | rfl
    · exact hR.each x hx
    · rw [hgd]
      obtain ⟨e1, e2⟩ := hR.each _ (List.getElem_mem hil)
      refine ⟨by simpa using e1, fun c hc => ?_⟩
      rcases List.mem_or_eq_of_mem_set hc with hc | rfl
      · exact e2 c hc
      · rfl) (fun b hb i' hi' => by
    have hi2 : i' < r.es.length := by simpa using hi'
    have hcon := hR.con b hb i' hi2
    rw [List.getElem_set]
    split
    · rename_i he; subst he
      rw [hgd]
      rw [repL_iff'] at hcon ⊢
      intro m c hm
      rw [List.getElem?_set] at hm
      split at hm
      · rename_i hjm; subst hjm
        split at hm
        · injection hm with hm; subst hm
          obtain ⟨u, hu, hru⟩ := hcon j _ hej
          simp only [Rep] at hru
          subst hru
          exact ⟨_, hu, hnew w⟩
        · cases hm
      · exact hcon m c hm
    · exact hcon)
  refine h S0 w0 a w hE ⟨σ.adopt s.nx k, hinv2, fun id hid => ?_, fun u => Rep.mono hle _ _ (hσ.tm u), hσ.N, hσ.d, hσ.below⟩
  have hid' : s.nx + 1 ≤ id := hid
  have h0 := hσ.nx id (by omega)
  show updH (updH s.H s.nx _) B _ id = none
  simp only [updH]
  rw [if_neg (fun e => by subst e; rw [hH] at h0; cases h0), if_neg (by omega)]; exact h0
end
end Go.Pg

namespace Go.Pg
open Go Go.RowKit
def pur (c : AV) : AV := if pureA c = true then c else .junk
theorem pur_rep {σ : Sg} {w : World} {c : AV} {u : Value} (h : Rep σ w c u) : Rep (pureSg σ.S) w (pur c) u := by
  unfold pur
  split
  · rename_i hp; exact Rep.pure_ c u hp h
  · trivial
section
variable {C : Cx} {N : Nat} {ops : Array Oper} {d : Nat} {op : Op} {ty : TypeId} {ps : String} {af : Array Edge} {tg mk av : List Nat} {H0 : Nat → Option AO} {b i : Nat} {Fin : St → Prop} {rest : List Oper} {s : St}
theorem one_buildL (hC : C.OK) (hN : d < N) {s' : St} {n : Nat} {row : Row} (h : stepA C.T C.eqT (fun _ => none) (fun x => pur (s'.ev x)) 0 op = some (.ref 0 0 n, some row)) (hp : row.es.all pureL = true) (hn : row.es.length = n) (hlo : row.lo ≤ n) :
    One C N ops ⟨some d, op, ty, ps, af, none⟩ s' ⟨upd s'.tm d (.lst row.es), s'.H, s'.nx⟩ := by
  rintro S0 w0 a w K Q hE ⟨σ, hσ⟩ hK
  have hi0 : Inv w.heap.size (Fr.of σ.S) w (fun _ => none) (pureSg σ.S) :=
    ⟨fun id => by simp [pureSg], fun id _ => ⟨rfl, fun b h => by simp [pureSg] at h⟩, fun b h => ⟨(hσ.inv.S_lt b h).1, .inl h⟩, fun b id h => by simp [pureSg] at h, fun id r h => by simp at h, fun id kt et es h => by simp at h, trivial⟩
  obtain ⟨v, w', σ', h1, h2, h3, h4, h5⟩ := stepA_sound (o := ⟨some d, op, ty, ps, af, none⟩) hC.T hC.eqT hi0 (Nat.le_refl _) rfl (fun x => pur_rep (hσ.ev x)) h
  rw [if_pos (by simp [Region.wanted])]
  refine Oper.wpIn_of_wp C.hF (stepA_nodefer h) ?_
  simp only [Oper.wp, Oper.upon, h1]
  have hv : viewA (putH (fun _ => none) 0 (some row)) (.ref 0 0 n) = some (.lst row.es) := by
    have hr : rowAt (putH (fun _ => none) 0 (some row)) 0 = some row := by simp [putH, rowAt, updH]
    unfold viewA
    rw [hr]
    simp only [Nat.zero_add]
    rw [if_pos ⟨hlo, by omega, hp⟩, List.drop_zero, List.take_of_length_le (by omega)]
  have hr := viewA_sound h4 (S' := (σ.more w.heap.size w'.heap.size).S) (fun b hb => by
    have := h4.S_lt b hb
    rcases this.2 with hq | hq
    · exact .inl hq
    · exact .inr ⟨hq, this.1⟩) _ _ _ hv (fun id _ b hb => .inr (h4.own_lt b id hb)) h5
  have hmore := hσ.inv.more hσ.size h2
  have hlem := hσ.inv.le_more h2
  exact hK _ _ ⟨_, hσ.put hN (s' := ⟨upd s'.tm d (.lst row.es), s'.H, s'.nx⟩) hmore hσ.nx hlem (h2.mono hσ.size) hr.lift rfl⟩
theorem D.buildL (hC : C.OK) (hN : d < N) (hi : i ∉ tg ∧ i ∈ mk) {n : Nat} {row : Row} (h : stepA C.T C.eqT (fun _ => none) (fun x => pur (s.ev x)) 0 op = some (.ref 0 0 n, some row)) (hp : row.es.all pureL = true) (hn : row.es.length = n) (hlo : row.lo ≤ n)
    (k : DW C N ops H0 b tg mk av Fin (i + 1) rest ⟨upd s.tm d (.lst row.es), s.H, s.nx⟩) :
    DW C N ops H0 b tg mk av Fin i (⟨some d, op, ty, ps, af, none⟩ :: rest) s := by
  refine ⟨.lst row.es, ⟨upd s.tm d (.lst row.es), s.H, s.nx⟩, rfl, ?_, k⟩
  rw [if_neg hi.1]
  refine ⟨none, rfl, rfl, .inl rfl, fun s' hx _ ht => ?_⟩
  exact one_buildL hC hN (stepA_mono (fun _ _ h => h) (fun x hx => congrArg pur (ev_congr ht x hx).symm) h) hp hn hlo
end
end Go.Pg

namespace Go.Pg
open Go Go.RowKit
section
variable {B0 : Nat} {S0 : Fr} {w w' : World} {H : Nat → Option AO} {σ : Sg}
theorem Inv.pushK (hi : Inv B0 S0 w H σ) {id : Nat} (hf : H id = none) (hB : B0 ≤ w.heap.size) {kt0 : MK} (hlv : kt0.live = true) {es0 : List (Key × AV)} {xs0 : Array MapEntry} (hkey : xs0.toList.map (·.key) = es0.map (fun e => e.1.val)) (hat : kt0.at (es0.map (·.1)) w.heap.size)
    (hv : RepL σ w (es0.map (·.2)) (fun i => (xs0[i]?).map (·.val))) :
    Le σ (σ.push w.heap.size id 0 0 0) w (w.alloc (kt0.obj xs0 0)) ∧ Inv B0 S0 (w.alloc (kt0.obj xs0 0)) (updH H id (.mp kt0 0 es0)) (σ.push w.heap.size id 0 0 0) := by
  have hle := hi.le_push (n := 0) (k := 0) (cap := 0) hf (kt0.obj xs0 0)
  have hS : ¬ σ.S w.heap.size := fun h => by have := (hi.S_lt _ h).1; omega
  have hheap : ∀ b, b < w.heap.size → (w.alloc (kt0.obj xs0 0)).heap[b]? = w.heap[b]? := fun b hb => Below.heap_alloc w _ b hb
  refine ⟨hle, fun i => ?_, fun i hn => ?_, fun b h => ⟨by have := (hi.S_lt b h).1; simp; omega, (hi.S_lt b h).2⟩, fun b i h => ?_, fun i r' h => ?_, fun i kt et es h => ?_, S0.mono _ _ _ _ hle hi.fr⟩
  · simp only [Sg.push, updH]
    by_cases e : i = id
    · simp [e]
    · simp [e, hi.al]
  · simp only [updH] at hn
    have e : i ≠ id := fun e => by simp [e] at hn
    rw [if_neg e] at hn
    obtain ⟨h1, h2⟩ := hi.fresh i hn
    refine ⟨by simp only [Sg.push]; rw [if_neg e]; exact h1, fun b hb => ?_⟩
    simp only [Sg.push] at hb
    split at hb
    · injection hb with hb; exact e hb.symm
    · exact h2 b hb
  · simp only [Sg.push] at h
    split at h
    · subst b; exact ⟨hB, by simp⟩
    · have := hi.own_lt b i h; exact ⟨this.1, by simp; omega⟩
  · simp only [updH] at h
    by_cases e : i = id
    · subst e; simp at h
    · rw [if_neg e] at h
      have hr := hi.row i r' h
      have hown : ∀ b, (σ.push w.heap.size id 0 0 0).own b = some i → σ.own b = some i ∧ b ≠ w.heap.size := fun b hb => by
        simp only [Sg.push] at hb
        split at hb
        · injection hb with hb; exact absurd hb.symm e
        · exact ⟨hb, by assumption⟩
      have hx : ∀ b, b ≠ w.heap.size → (σ.push w.heap.size id 0 0 0).ext b = σ.ext b := fun b hb => by simp only [Sg.push]; rw [if_neg hb]
      have hcx : (σ.push w.heap.size id 0 0 0).cur i = σ.cur i := by simp only [Sg.push]; rw [if_neg e]
      have hax : ∀ b, b ≠ w.heap.size → (σ.push w.heap.size id 0 0 0).cap b = σ.cap b := fun b hb => by simp only [Sg.push]; rw [if_neg hb]
      refine ⟨by simp only [Sg.push]; rw [if_neg e]; exact hr.len, by simp only [Sg.push]; rw [if_neg e]; exact hr.k, hr.each, hr.lo, fun b hb => ?_, fun hc => hr.empty (by rw [← hcx]; exact hc), fun b hb => ?_, fun b hb j h1 => ?_⟩
      · rw [hcx] at hb
        obtain ⟨a1, a2, a3, a4, ar, a5, a6⟩ := hr.cur b hb
        have hlt := (hi.own_lt b i a1).2
        exact ⟨by simp only [Sg.push]; rw [if_neg (by omega)]; exact a1, by rw [hx b (by omega)]; exact a2, by rw [hax b (by omega)]; exact a3, by rw [hax b (by omega)]; exact a4, ar, (hheap b hlt).trans a5, by rw [hax b (by omega)]; exact a6⟩
      · obtain ⟨h1, h2⟩ := hown b hb
        rw [hx b h2, hcx]; exact hr.own b h1
      · rw [hcx] at hb
        refine RepL.mono hle _ _ _ (fun m u hu => ?_) (hr.con b hb j h1)
        rw [cell_of_heap (w := w) (hheap b (hi.own_lt b i (hr.cur b hb).1).2)]; exact hu
  · simp only [updH] at h
    by_cases e : i = id
    · subst e
      rw [if_pos rfl] at h; injection h with h; injection h with h1 h2 h3; subst h1; subst h3
      refine ⟨by simp [Sg.push], ⟨w.heap.size, 0, xs0, by simp [Sg.push], by simp [Sg.push], ⟨fun _ => hS, fun h => (by rw [hlv] at h; cases h)⟩, World.alloc_heap_new w _, ⟨hkey, hat⟩, RepL.mono hle _ _ _ (fun _ _ h => h) hv⟩, fun b hb => ?_⟩
      simp only [Sg.push] at hb
      split at hb
      · rename_i he; subst he; exact ⟨by simp [Sg.push], by simp [Sg.push]⟩
      · exact absurd hb ((hi.fresh i hf).2 b)
    · rw [if_neg e] at h
      have hm := hi.mp i kt et es h
      obtain ⟨b, clock, xs, a1, a2, a3, a4, a5, a6⟩ := hm.cur
      have hlt := (hi.own_lt b i a2).2
      refine ⟨by simp only [Sg.push]; rw [if_neg e]; exact hm.len, ⟨b, clock, xs, by simp only [Sg.push]; rw [if_neg e]; exact a1, by simp only [Sg.push]; rw [if_neg (by omega)]; exact a2, a3, (hheap b hlt).trans a4, a5, RepL.mono hle _ _ _ (fun _ _ h => h) a6⟩, fun b hb => ?_⟩
      simp only [Sg.push] at hb
      split at hb
      · injection hb with hb; exact absurd hb.symm e
      · rename_i hne
        obtain ⟨h1, h2⟩ := hm.one b hb
        exact ⟨by simp only [Sg.push]; rw [if_neg e]; exact h1, by simp only [Sg.push]; rw [if_neg hne]; exact h2⟩
theorem Inv.turn (hi : Inv B0 S0 w H σ) {id l : Nat} {L : Loop} {es : List (Key × AV)} (hH : H id = some (.mp (.loop l L) 0 es)) :
    ∃ tmps : Array Value, w.heap[l]? = some (.loop { L with tmps := tmps }) ∧ tmps.size = es.length ∧ RepL σ w (es.map (·.2)) (fun i => tmps[i]?) ∧
      ∀ L' : Loop, Le σ σ w (w.putObj l (.loop { L' with tmps := tmps })) ∧ Inv B0 S0 (w.putObj l (.loop { L' with tmps := tmps })) (updH H id (.mp (.loop l L') 0 es)) σ ∧ Below B0 w (w.putObj l (.loop { L' with tmps := tmps })) := by
  have hm := hi.mp id _ _ _ hH
  obtain ⟨b, clock, xs, a1, a2, a3, a4, ⟨a5, a5'⟩, a6⟩ := hm.cur
  have hb : b = l := a5'
  subst hb
  have hlt := hi.own_lt b id a2
  have hl : xs.size = es.length := by have := congrArg List.length a5; simpa using this
  refine ⟨xs.map (fun e : MapEntry => e.val), a4, by simp [hl], ?_, fun L' => ?_⟩
  · refine RepL.congr (fun i _ => ?_) a6
    simp
  · have hoth : ∀ k, k ≠ b → (w.putObj b (.loop { L' with tmps := xs.map (·.val) })).heap[k]? = w.heap[k]? := fun k hk => World.putObj_heap_other hk
    have hr := hi.remap (w' := w.putObj b (.loop { L' with tmps := xs.map (·.val) })) (kt' := .loop b L') hH rfl rfl (fun _ h => h) (clock := clock) a1 (World.putObj_heap_same hlt.2) World.putObj_size hoth a5 a6
    exact ⟨hr.1, hr.2, rfl, rfl, rfl, by simp, fun k hk => hoth k (by omega)⟩
theorem Inv.shut (hi : Inv B0 S0 w H σ) {id l : Nat} {ds : Option (List Deferred)} {es : List (Key × AV)} (hH : H id = some (.mp (.dfr l ds) 0 es)) :
    w.heap[l]? = some (.deferred ds) ∧ ∀ ds' : Option (List Deferred), Le σ σ w (w.putObj l (.deferred ds')) ∧ Inv B0 S0 (w.putObj l (.deferred ds')) (updH H id (.mp (.dfr l ds') 0 es)) σ ∧ Below B0 w (w.putObj l (.deferred ds')) := by
  have hm := hi.mp id _ _ _ hH
  obtain ⟨b, clock, xs, a1, a2, a3, a4, ⟨a5, a5'⟩, a6⟩ := hm.cur
  have hb : b = l := a5'
  subst hb
  have hlt := hi.own_lt b id a2
  refine ⟨a4, fun ds' => ?_⟩
  have hoth : ∀ k, k ≠ b → (w.putObj b (.deferred ds')).heap[k]? = w.heap[k]? := fun k hk => World.putObj_heap_other hk
  have hr := hi.remap (w' := w.putObj b (.deferred ds')) (kt' := .dfr b ds') hH rfl rfl (fun _ h => h) (clock := clock) a1 (World.putObj_heap_same hlt.2) World.putObj_size hoth a5 a6
  exact ⟨hr.1, hr.2, rfl, rfl, rfl, by simp, fun k hk => hoth k (by omega)⟩
end
def keepT (N : Nat) (tm : Nat → AV) : List (Key × AV) := (List.range N).map fun t => (Key.str ByteArray.empty, tm t)
def keepX (tmps : Array Value) : Array MapEntry := tmps.map fun v => ⟨.string ByteArray.empty, v, 0⟩
theorem keepX_val (tmps : Array Value) : (keepX tmps).map (·.val) = tmps := by
  apply Array.ext
  · simp [keepX]
  · intro i h1 h2; simp [keepX]
theorem keepX_key (tmps : Array Value) {N : Nat} {tm : Nat → AV} (h : tmps.size = N) : (keepX tmps).toList.map (·.key) = (keepT N tm).map (fun e => e.1.val) := by
  apply List.ext_getElem
  · simp [keepX, keepT, h]
  · intro i h1 h2; simp [keepX, keepT, Key.val]
theorem keepX_rep {σ : Sg} {w : World} {tmps : Array Value} {N : Nat} {tm : Nat → AV} (h : tmps.size = N) (hr : ∀ t, Rep σ w (tm t) (tmps.getD t undef)) : RepL σ w ((keepT N tm).map (·.2)) (fun i => ((keepX tmps)[i]?).map (·.val)) := by
  rw [repL_iff]
  intro i hi
  have hi' : i < tmps.size := by simpa [keepT, h] using hi
  refine ⟨tmps[i], by simp [keepX, hi'], ?_⟩
  have := hr i
  simp only [keepT, List.map_map, List.getElem_map, List.getElem_range, Function.comp]
  rwa [Array.getD_eq_getD_getElem?, Array.getElem?_eq_getElem hi'] at this
theorem keepT_length (N : Nat) (tm : Nat → AV) : (keepT N tm).length = N := by simp [keepT]
def cutT (N : Nat) (tm : Nat → AV) : Nat → AV := fun t => if t < N then tm t else .junk
def tmP (tm : Nat → AV) : List (Nat × AV) → Nat → AV
  | [] => tm
  | (p, x) :: r => tmP (upd tm p x) r
theorem keepT_rep {σ : Sg} {w : World} {tmps : Array Value} {N : Nat} {tm : Nat → AV} (hs : tmps.size = N) (hr : RepL σ w ((keepT N tm).map (·.2)) (fun i => tmps[i]?)) (t : Nat) : Rep σ w (cutT N tm t) (tmps.getD t undef) := by
  unfold cutT
  split
  · rename_i ht
    rw [repL_iff] at hr
    obtain ⟨u, hu, h⟩ := hr t (by simpa [keepT] using ht)
    rw [Array.getD_eq_getD_getElem?, hu]
    simpa [keepT] using h
  · trivial
theorem tmP_rep {σ : Sg} {w : World} : ∀ (pv : List (Nat × Value)) (pa : List (Nat × AV)) (tmps : Array Value) (tm : Nat → AV), (∀ t, Rep σ w (tm t) (tmps.getD t undef)) → pv.length = pa.length → (∀ p ∈ pv, p.1 < tmps.size) →
    (∀ (i : Nat) (h : i < pv.length) (h' : i < pa.length), pv[i].1 = pa[i].1 ∧ Rep σ w pa[i].2 pv[i].2) → ∀ t, Rep σ w (tmP tm pa t) ((pv.foldl (fun tmps x => tmps.setIfInBounds x.1 x.2) tmps).getD t undef)
  | [], [], tmps, tm, h, _, _, _ => h
  | (p, v) :: pv, (q, x) :: pa, tmps, tm, h, hl, hb, hr => by
    intro t
    simp only [List.foldl_cons, tmP]
    have h0 := hr 0 (by simp) (by simp)
    simp only [List.getElem_cons_zero] at h0
    obtain ⟨h0, h1⟩ := h0
    subst h0
    refine tmP_rep pv pa _ _ (fun u => ?_) (by simpa using hl) (fun y hy => by simpa using hb y (by simp [hy])) (fun i hi hi' => ?_) t
    · rw [getD_set _ _ _ _ (hb (p, v) (by simp))]
      unfold upd
      split
      · exact h1
      · exact h u
    · have := hr (i + 1) (by simp; omega) (by simp; omega)
      simpa using this
  | [], _ :: _, _, _, _, hl, _, _ => by simp at hl
  | _ :: _, [], _, _, _, hl, _, _ => by simp at hl
def YOK (C : Cx) (l : Nat) (args : List AV) (H : Nat → Option AO) (nx : Nat) (Q : Bool → (Nat → Option AO) → Nat → Prop) : Prop :=
  ∀ (S0 : Fr) (w0 w : World) (σ : Sg) (vals : Array Value), C.E w0 → Inv w0.heap.size S0 w H σ → (∀ id, nx ≤ id → H id = none) → Below w0.heap.size w0 w → vals.size = args.length → RepL σ w args (fun i => vals[i]?) →
    ∃ f tmps assign body, (Instr.yield l vals).run C.P w = .ok (.round l f tmps assign body) w ∧ RoundIn Fence.wide 0 C.P l f tmps assign body w fun e w' =>
      ∃ b σ' H' nx', e = .returned (.bool b) ∧ Q b H' nx' ∧ Below w0.heap.size w0 w' ∧ Inv w0.heap.size S0 w' H' σ' ∧ (∀ id, nx' ≤ id → H' id = none) ∧ Le σ σ' w w'
def Cx.rnd (C : Cx) (l : Nat) : Cx := { C with F' := ⟨Fence.wide.inRound l, .inr ⟨l, rfl⟩⟩ }
def roundQ (id l : Nat) (L : Loop) (es : List (Key × AV)) (Q : Bool → (Nat → Option AO) → Nat → Prop) : Exit → St → Prop
  | .normal, s => s.H id = some (.mp (.loop l { L with state := .busy }) 0 es) ∧ Q true (updH s.H id (.mp (.loop l { L with state := .ready, pending := none }) 0 es)) s.nx
  | .ret, s => s.H id = some (.mp (.loop l { L with state := .busy }) 0 es) ∧ Q false (updH s.H id (.mp (.loop l { L with state := .done, pending := some .ret }) 0 es)) s.nx
  | .exit i, s => s.H id = some (.mp (.loop l { L with state := .busy }) 0 es) ∧ Q false (updH s.H id (.mp (.loop l { L with state := .done, pending := some (.exit i) }) 0 es)) s.nx
  | _, _ => False
theorem updH_nx {H : Nat → Option AO} {id nx : Nat} {o : AO} (h : ∀ i, nx ≤ i → H i = none) (hid : H id ≠ none) : ∀ i, nx ≤ i → updH H id o i = none := fun i hi => by
  simp only [updH]
  split
  · rename_i e; subst e; exact absurd (h i hi) hid
  · exact h i hi
theorem YOK.of_body {C : Cx} {l id : Nat} {L : Loop} {tm : Nat → AV} {N : Nat} {H : Nat → Option AO} {nx : Nat} {args : List AV} {Q : Bool → (Nat → Option AO) → Nat → Prop}
    (hH : H id = some (.mp (.loop l L) 0 (keepT N tm))) (hst : L.state = .ready) (hp : L.params.size = args.length) (hpN : ∀ p ∈ L.params.toList, p < N)
    (h : AW (C.rnd l) N L.assign (fun e s1 => match e with
      | .normal => s1.H id = some (.mp (.loop l L) 0 (keepT N tm)) ∧ AW (C.rnd l) N L.body (roundQ id l L (keepT N tm) Q) { s1 with H := updH s1.H id (.mp (.loop l { L with state := .busy }) 0 (keepT N tm)) }
      | _ => False) { tm := tmP (cutT N tm) (L.params.toList.zip args), H := H, nx := nx }) : YOK C l args H nx Q := by
  intro S0 w0 w σ vals hE hi hnx hbel hsz hrep
  obtain ⟨tmps, b1, b2, b3, b4⟩ := hi.turn hH
  rw [keepT_length] at b2
  refine ⟨_, _, _, _, run_yield b1 (by rw [hsz]; exact hp.symm), ?_⟩
  refine roundIn_of_wpIn trivial ?_
  have hfold : (L.params.zip vals).foldl (fun tmps (t, a) => tmps.setIfInBounds t a) tmps = (L.params.toList.zip vals.toList).foldl (fun tmps x => tmps.setIfInBounds x.1 x.2) tmps := by
    rw [← Array.foldl_toList, Array.toList_zip]
  have hs : Sim (S0.from σ w) w0 N { tmps := (L.params.zip vals).foldl (fun tmps (t, a) => tmps.setIfInBounds t a) tmps, defers := [] } w { tm := tmP (cutT N tm) (L.params.toList.zip args), H := H, nx := nx } := by
    have hsize : ∀ (pv : List (Nat × Value)) (tmps : Array Value), (pv.foldl (fun tmps x => tmps.setIfInBounds x.1 x.2) tmps).size = tmps.size := by
      intro pv
      induction pv with
      | nil => intro t; rfl
      | cons p pv ih => intro t; simp only [List.foldl_cons]; rw [ih]; simp
    refine ⟨σ, hi.from, hnx, fun t => ?_, ?_, rfl, hbel⟩
    · show Rep σ w _ (((L.params.zip vals).foldl (fun tmps (t, a) => tmps.setIfInBounds t a) tmps).getD t undef)
      rw [hfold]
      refine tmP_rep _ _ _ _ (keepT_rep b2 b3) ?_ ?_ ?_ t
      · simp [hsz]
      · intro p hp
        rw [b2]
        exact hpN _ (List.of_mem_zip hp).1
      · intro i h1 h2
        simp only [List.length_zip] at h1 h2
        have hia : i < args.length := by omega
        rw [repL_iff] at hrep
        obtain ⟨u, hu, hr⟩ := hrep i hia
        have hiv : i < vals.size := by omega
        rw [Array.getElem?_eq_getElem hiv] at hu
        injection hu with hu
        subst hu
        exact ⟨by simp, by simpa using hr⟩
    · show ((L.params.zip vals).foldl (fun tmps (t, a) => tmps.setIfInBounds t a) tmps).size = N
      rw [hfold, hsize, b2]
  have h2 := h (S0.from σ w) w0 _ w hE hs
  refine wpIn_mono (show L.assign.wpIn (Fence.wide.inRound l) 0 C.P _ _ _ from h2) ?_
  rintro e a1 w1 ⟨s1, hs1, hq⟩
  cases e <;> try exact hq.elim
  obtain ⟨hH1, hq⟩ := hq
  obtain ⟨σ1, hs1⟩ := hs1
  obtain ⟨tmps1, c1, c2, c3, c4⟩ := hs1.inv.turn hH1
  obtain ⟨d1, d2, d3⟩ := c4 { L with state := .busy }
  refine ⟨_, run_beginRound c1 hst, ?_⟩
  have h3 := hq (S0.from σ w) w0 a1 _ hE ⟨σ1, d2, updH_nx hs1.nx (by rw [hH1]; simp), fun t => Rep.mono d1 _ _ (hs1.tm t), hs1.N, hs1.d, hs1.below.trans d3⟩
  refine wpIn_mono (show L.body.wpIn (Fence.wide.inRound l) 0 C.P _ _ _ from h3) ?_
  rintro e a2 w2 ⟨s2, ⟨σ2, hs2⟩, hq2⟩
  have fin : ∀ jump : Option Code, s2.H id = some (.mp (.loop l { L with state := .busy }) 0 (keepT N tm)) → Q jump.isNone (updH s2.H id (.mp (.loop l { L with state := if jump.isNone then .ready else .done, pending := jump }) 0 (keepT N tm))) s2.nx →
      ∃ v w', (Instr.endRound l jump).run C.P w2 = .ok v w' ∧ ∃ b σ' H' nx', Ending.returned v = .returned (.bool b) ∧ Q b H' nx' ∧ Below w0.heap.size w0 w' ∧ Inv w0.heap.size S0 w' H' σ' ∧ (∀ id, nx' ≤ id → H' id = none) ∧ Le σ σ' w w' := by
    intro jump hH2 hq
    obtain ⟨tmps2, e1, e2, e3, e4⟩ := hs2.inv.turn hH2
    obtain ⟨f1, f2, f3⟩ := e4 { L with state := if jump.isNone then .ready else .done, pending := jump }
    obtain ⟨g1, g2⟩ := f2.unfrom
    exact ⟨_, _, run_endRound jump e1, jump.isNone, σ2, _, s2.nx, rfl, hq, hs2.below.trans f3, g1, updH_nx hs2.nx (by rw [hH2]; simp), g2⟩
  cases e with
  | normal => exact fin none hq2.1 hq2.2
  | ret => exact fin (some .ret) hq2.1 hq2.2
  | exit i => exact fin (some (.exit i)) hq2.1 hq2.2
  | goto t => exact hq2.elim
  | panic c => exact hq2.elim
  | outgrown => exact hq2.elim
section
variable {C : Cx} {N : Nat} {Q : Exit → St → Prop} {s : St} {ops : Array Oper} {rest : List Oper} {o : Oper}
theorem AWL.yield (hg : o.guard = none) {d : Nat} (hd : o.dst = some d) (hN : d < N) {fo : Operand} {args : Array Operand} {tys : Array TypeId} (ho : o.op = .call { callee := .value fo, args := args, argTypes := tys })
    {l : Nat} (hf : s.ev fo = .v (.func (.yield l) #[] #[])) {Qr : Bool → (Nat → Option AO) → Nat → Prop} (hok : YOK C l (evsA args.toList s.ev) s.H s.nx Qr)
    (k : ∀ b H' nx', Qr b H' nx' → AWL C N ops Q rest { tm := upd s.tm d (.v (.bool b)), H := H', nx := nx' }) : AWL C N ops Q (o :: rest) s := by
  rintro S0 w0 a w hE ⟨σ, hσ⟩
  have hfo := hσ.ev fo
  rw [hf] at hfo
  simp only [Rep] at hfo
  have hargs : RepL σ w (evsA args.toList s.ev) (fun i => (args.map a.eval)[i]?) := repL_evs (σ := σ) (w := w) (fun x => hσ.ev x) args
  obtain ⟨f, tmps, assign, body, hy, hr⟩ := hok S0 w0 w σ (args.map a.eval) hE hσ.inv hσ.nx hσ.below (by simp [evsA_map]) hargs
  refine wpListIn_plain hg fun K hK => ?_
  refine ⟨fun f _ => C.hF.fn f, ?_⟩
  have hs : o.semAt C.F.round a.eval = execOp a.eval o := by
    cases hr : C.F.round with
    | none => rfl
    | some l => exact Oper.semAt_some l _ o (fun c e => by rw [ho] at e; cases e)
  rw [hs]
  have hexec : (execOp a.eval o).run C.P w = .ok (.round l f tmps assign body) w := by
    simp only [execOp, ho, resolve, hfo, Deferred.ofValue, Sem.run_bind, Sem.run_pure, Result.andThen_ok, invoke]
    simpa using hy
  rw [hexec, Oper.uponIn_round]
  refine ⟨fun hq => (by rw [C.hF.depth] at hq; cases hq), C.hF.roundIn.2 (RoundIn.mono hr ?_)⟩
  rintro e w' ⟨b, σ', H', nx', rfl, hQ, hb, hi', hn', hle⟩
  dsimp only
  rw [hd]
  refine hK _ _ (k b H' nx' hQ S0 w0 _ w' hE ⟨σ', hi', hn', fun t => ?_, by simp [Act.put, hσ.N], hσ.d, hb⟩)
  simp only [Act.put]
  rw [getD_set _ _ _ _ (by rw [hσ.N]; exact hN)]
  show Rep σ' w' (upd s.tm d _ t) _
  unfold upd
  split
  · exact rfl
  · exact Rep.mono hle _ _ (hσ.tm t)
end
end Go.Pg

namespace Go.Pg
open Go Go.RowKit
def mark (D : Nat) : Deferred := { target := .collected D, args := #[] }
def Marks (bs : List (Nat × Nat)) (H : Nat → Option AO) : Prop := (bs.map (·.2)).Nodup ∧ ∀ p ∈ bs, H p.2 = some (.mp (.dfr p.1 (some [])) 0 [])
def AWx (C : Cx) (N : Nat) (c : Code) (Q : Exit → St → Prop) (s : St) : Prop :=
  ∀ S0 w0 a w, S0.ds = [] → C.E w0 → Sim S0 w0 N a w s → c.wpIn C.F 0 C.P (fun e a' w' => ∃ s' bs, Sim { S0 with ds := bs.map (fun p => mark p.1) } w0 N a' w' s' ∧ Marks bs s'.H ∧ Q e s') a w
section
variable {C : Cx} {N : Nat} {Q : Exit → St → Prop} {s : St}
theorem Fr.no_ds {S0 : Fr} (h : S0.ds = []) : { S0 with ds := (([] : List (Nat × Nat)).map (fun p => mark p.1)) } = S0 := by
  obtain ⟨S, K, m, ds⟩ := S0
  simp only at h
  subst h; rfl
theorem AWx.of {c : Code} (h : AW C N c Q s) : AWx C N c Q s := by
  intro S0 w0 a w hds hE hs
  refine wpIn_mono (h S0 w0 a w hE hs) ?_
  rintro e a' w' ⟨s', h1, h2⟩
  exact ⟨s', [], by rw [Fr.no_ds hds]; exact h1, ⟨by simp, by simp⟩, h2⟩
theorem AWx.seq {x y : Code} (h : AW C N x (thenQ (AWx C N y Q) Q) s) : AWx C N (.seq x y) Q s := by
  intro S0 w0 a w hds hE hs
  refine wpIn_seq (wpIn_mono (h S0 w0 a w hE hs) ?_)
  rintro e a' w' ⟨s', h1, h3⟩
  cases e <;> simp only [thenQ, Exit.then] at h3 ⊢
  · exact h3 S0 w0 a' w' hds hE h1
  all_goals exact ⟨s', [], by rw [Fr.no_ds hds]; exact h1, ⟨by simp, by simp⟩, h3⟩
def afterR (C : Cx) (N : Nat) (tail : Code) (bid : Nat) (Q : Exit → St → Prop) : Option Code → St → Prop
  | none, s => AW C N tail Q s
  | some .ret, s => Q .ret s
  | some (.exit i), s => if i = bid then AW C N tail Q s else Q (.exit i) s
  | _, _ => False
def AWk (C : Cx) (N : Nat) (y z : Code) (Q : Exit → St → Prop) (s : St) : Prop :=
  ∀ S0 w0 a w, S0.ds = [] → C.E w0 → Sim S0 w0 N a w s → y.wpIn C.F 0 C.P (Exit.then (z.wpIn C.F 0 C.P fun e a' w' => ∃ s' bs, Sim { S0 with ds := bs.map (fun p => mark p.1) } w0 N a' w' s' ∧ Marks bs s'.H ∧ Q e s')
    (fun e a' w' => ∃ s' bs, Sim { S0 with ds := bs.map (fun p => mark p.1) } w0 N a' w' s' ∧ Marks bs s'.H ∧ Q e s')) a w
theorem AWx.ofk {y z : Code} (h : AWk C N y z Q s) : AWx C N (.seq y z) Q s := fun S0 w0 a w hds hE hs => wpIn_seq (h S0 w0 a w hds hE hs)
def Stop (p : Prop) : Prop := p
theorem Stop.mk {p : Prop} (h : p) : Stop p := h
theorem Stop.get {p : Prop} (h : Stop p) : p := h
attribute [irreducible] Stop
theorem AWx.seqS {x y : Code} (h : AW C N x (thenQ (fun s => Stop (AWx C N y Q s)) Q) s) : AWx C N (.seq x y) Q s :=
  AWx.seq (AW.mono h fun e s' hq => by cases e <;> first | exact hq.get | exact hq)
theorem AWk.seqS {x y z : Code} (h : AW C N x (thenQ (fun s => Stop (AWk C N y z Q s)) Q) s) : AWk C N (.seq x y) z Q s := by
  intro S0 w0 a w hds hE hs
  refine wpIn_seq (wpIn_mono (h S0 w0 a w hE hs) ?_)
  rintro e a' w' ⟨s', h1, h3⟩
  cases e <;> simp only [thenQ, Exit.then] at h3 ⊢
  · exact h3.get S0 w0 a' w' hds hE h1
  all_goals exact ⟨s', [], by rw [Fr.no_ds hds]; exact h1, ⟨by simp, by simp⟩, h3⟩
theorem AWk.range [hW : C.Wide] {g : Operand} {ps : Array Tmp} {assign body tail : Code} {bid : Nat} {f : FuncId} {caps : List AV} (hg : s.ev g = .clo f caps)
    (hok : ∀ (D l : Nat) (fn : FuncId), OKm C f (.v (.func (.yield l) #[] #[]) :: caps)
      (updH (updH s.H s.nx (.mp (.dfr D (some [])) 0 [])) (s.nx + 1) (.mp (.loop l { state := .ready, pending := none, fn := fn, tmps := #[], params := ps, assign := assign, body := body, defers := D }) 0 (keepT N s.tm))) (s.nx + 2)
      (fun _ H' nx' => ∃ L', H' (s.nx + 1) = some (.mp (.loop l L') 0 (keepT N s.tm)) ∧ L'.state ≠ .busy ∧
        afterR C N tail bid (fun e s' => s'.H s.nx = some (.mp (.dfr D (some [])) 0 []) ∧ Q e s') L'.pending { tm := s.tm, H := updH H' (s.nx + 1) (.mp (.loop l { L' with state := .exhausted }) 0 (keepT N s.tm)), nx := nx' })) :
    AWk C N (.block bid (.rangeFunc g ps assign body)) tail Q s := by
  rintro S0 w0 a w hds hE ⟨σ, hσ⟩
  rw [hW.h]
  refine wpIn_block (wpIn_rangeFunc fun fn _ => ?_)
  obtain ⟨hle1, hi1⟩ := hσ.inv.pushK (kt0 := .dfr w.heap.size (some [])) (es0 := []) (xs0 := #[]) (hσ.nx s.nx (Nat.le_refl _)) hσ.size rfl rfl rfl trivial
  have hb1 : Below w0.heap.size w (w.alloc (.deferred (some []))) := (Below.refl _ _).alloc hσ.size _
  have hnx1 : ∀ i, s.nx + 1 ≤ i → updH s.H s.nx (.mp (.dfr w.heap.size (some [])) 0 []) i = none := fun i h => by
    simp only [updH]; rw [if_neg (by omega)]; exact hσ.nx i (by omega)
  obtain ⟨hle2, hi2⟩ := hi1.pushK (id := s.nx + 1) (kt0 := .loop (w.heap.size + 1) { state := .ready, pending := none, fn := fn, tmps := #[], params := ps, assign := assign, body := body, defers := w.heap.size }) (es0 := keepT N s.tm) (xs0 := keepX a.tmps)
    (hnx1 _ (Nat.le_refl _)) (by simp [MK.obj]; have := hσ.size; omega) rfl (keepX_key _ hσ.N) (by simp [MK.obj, MK.at]) (keepX_rep hσ.N fun t => Rep.mono hle1 _ _ (hσ.tm t))
  have hle := hle1.trans hle2
  simp only [MK.obj, keepX_val] at hi2 hle
  have hb2 : Below w0.heap.size w ((w.alloc (.deferred (some []))).alloc (.loop { state := .ready, pending := none, fn := fn, tmps := a.tmps, params := ps, assign := assign, body := body, defers := w.heap.size })) := hb1.alloc (Nat.le_trans hσ.size (by simp)) _
  generalize hW2 : (w.alloc (.deferred (some []))).alloc (.loop { state := .ready, pending := none, fn := fn, tmps := a.tmps, params := ps, assign := assign, body := body, defers := w.heap.size }) = W2 at hi2 hb2 hle
  obtain ⟨⟨fn', hfn, hname, hbody⟩, hcall⟩ := hok w.heap.size (w.heap.size + 1) fn
  have hfo := hσ.ev g
  rw [hg] at hfo
  simp only [Rep] at hfo
  obtain ⟨ca, hca, hcs, hcr⟩ := hfo
  have hc := hcall S0 w0 _ _ (#[.func (.yield (w.heap.size + 1)) #[] #[]] ++ ca) hE hi2 (fun i h => by
      simp only [updH]; rw [if_neg (by omega), if_neg (by omega)]; exact hσ.nx i (by omega)) (hσ.below.trans hb2) (by simp [hcs]; omega) (by
      rw [repL_iff'] at hcr ⊢
      intro i c hc
      rw [Array.getElem?_append]
      cases i with
      | zero => simp only [List.getElem?_cons_zero, Option.some.injEq] at hc; subst hc; exact ⟨_, by simp, rfl⟩
      | succ i =>
        simp only [List.getElem?_cons_succ] at hc
        obtain ⟨u, hu, hr⟩ := hcr i c hc
        refine ⟨u, ?_, Rep.mono hle _ _ hr⟩
        simpa using hu)
  have he := run_enterLoop_outer (P := C.P) (w := w) fn a.tmps ps assign body
  have hres : (resolve a.eval (rangeCall g (w.heap.size + 1)) 0).run C.P W2 = .ok { target := .fn (.func f) ca, args := #[.func (.yield (w.heap.size + 1)) #[] #[]] } W2 := by
    simp only [resolve, rangeCall, hca, Deferred.ofValue, Sem.run_bind, Sem.run_pure, Result.andThen_ok]
    simp [Act.eval]
  have hinv : (invoke (.fn (.func f) ca) #[.func (.yield (w.heap.size + 1)) #[] #[]]).run C.P W2 = .ok (.enter f (#[.func (.yield (w.heap.size + 1)) #[] #[]] ++ ca)) W2 := by
    have hb : (fn'.name == "runtime.NumGoroutine") ≠ true := by simp [hname]
    simp only [invoke, callFunc, run_program, Sem.run_bind, Sem.run_pure, Result.andThen_ok, hfn, if_neg hb, hbody, Bool.false_eq_true, if_false]
  rw [hW2] at he
  refine ⟨w.heap.size + 1, [{ target := .collected w.heap.size, args := #[] }], W2, { target := .fn (.func f) ca, args := #[.func (.yield (w.heap.size + 1)) #[] #[]] }, W2, f, #[.func (.yield (w.heap.size + 1)) #[] #[]] ++ ca, W2, ?_⟩
  refine ⟨he, hres, fun _ _ => trivial, hinv, fun h => (by cases h), ?_⟩
  refine callsIn_wide.2 (hc.mono ?_)
  rintro e w' ⟨v, r, σ', H', nx', rfl, ⟨L', hL, hst, hq⟩, hb, hi', hn', hle', _⟩
  obtain ⟨tmps, e1, e2, e3, e4⟩ := hi'.turn hL
  obtain ⟨f1, f2, f3⟩ := e4 { L' with state := .exhausted }
  have hs4 : Sim { S0 with ds := [mark w.heap.size] } w0 N { a with defers := [{ target := .collected w.heap.size, args := #[] }] ++ a.defers } (w'.putObj (w.heap.size + 1) (.loop { L' with state := .exhausted, tmps := tmps }))
      { tm := s.tm, H := updH H' (s.nx + 1) (.mp (.loop (w.heap.size + 1) { L' with state := .exhausted }) 0 (keepT N s.tm)), nx := nx' } := by
    refine ⟨σ', ⟨f2.al, f2.fresh, f2.S_lt, f2.own_lt, f2.row, f2.mp, f2.fr⟩, updH_nx hn' (by rw [hL]; simp), fun t => Rep.mono ((hle.trans hle').trans f1) _ _ (hσ.tm t), hσ.N, ?_, hb.trans f3⟩
    show [mark w.heap.size] ++ a.defers = [mark w.heap.size]
    rw [hσ.d, hds]; rfl
  have hfin : ∀ e a' w'' s', Sim { S0 with ds := [mark w.heap.size] } w0 N a' w'' s' → (s'.H s.nx = some (.mp (.dfr w.heap.size (some [])) 0 []) ∧ Q e s') →
      ∃ s' bs, Sim { S0 with ds := bs.map (fun p => mark p.1) } w0 N a' w'' s' ∧ Marks bs s'.H ∧ Q e s' := fun e a' w'' s' h1 h2 =>
    ⟨s', [(w.heap.size, s.nx)], h1, ⟨by simp, by simpa using h2.1⟩, h2.2⟩
  have htail : AW C N tail (fun e s' => s'.H s.nx = some (.mp (.dfr w.heap.size (some [])) 0 []) ∧ Q e s') { tm := s.tm, H := updH H' (s.nx + 1) (.mp (.loop (w.heap.size + 1) { L' with state := .exhausted }) 0 (keepT N s.tm)), nx := nx' } →
      tail.wpIn Fence.wide 0 C.P (fun e a' w' => ∃ s' bs, Sim { S0 with ds := bs.map (fun p => mark p.1) } w0 N a' w' s' ∧ Marks bs s'.H ∧ Q e s') { a with defers := [{ target := .collected w.heap.size, args := #[] }] ++ a.defers } (w'.putObj (w.heap.size + 1) (.loop { L' with state := .exhausted, tmps := tmps })) := fun h => by
    have h2 := h _ w0 _ _ hE hs4
    rw [hW.h] at h2
    refine wpIn_mono h2 ?_
    rintro e a' w'' ⟨s', g1, g2⟩
    exact hfin e a' w'' s' g1 g2
  have hend : (Instr.endLoop (w.heap.size + 1)).run C.P w' = .ok L'.pending (w'.putObj (w.heap.size + 1) (.loop { L' with state := .exhausted, tmps := tmps })) := run_endLoop e1 hst
  generalize hst4 : ({ tm := s.tm, H := updH H' (s.nx + 1) (.mp (.loop (w.heap.size + 1) { L' with state := .exhausted }) 0 (keepT N s.tm)), nx := nx' } : St) = st at hq hs4 htail
  generalize hw4 : w'.putObj (w.heap.size + 1) (.loop { L' with state := .exhausted, tmps := tmps }) = w4 at hend hs4 htail
  generalize hj : L'.pending = jump at hend hq
  refine ⟨jump, w4, hend, ?_⟩
  cases jump with
  | none => exact htail hq
  | some c =>
    cases c <;> try exact hq.elim
    case ret => exact wpIn_ret (hfin _ _ _ _ hs4 hq)
    case exit i =>
      refine wpIn_exit ?_
      simp only [afterR] at hq
      simp only [Exit.inBlock]
      split at hq
      · rename_i hi; rw [if_pos hi]; exact htail hq
      · rename_i hi; rw [if_neg hi]; exact hfin _ _ _ _ hs4 hq
end
section
variable {C : Cx}
def endX (C : Cx) (rs : List ResultVar) (Q : AV → (Nat → Option AO) → Nat → Prop) (e : Exit) (s : St) : Prop :=
  ∀ H', (∀ i, rowAt H' i = rowAt s.H i) → endM C rs Q e { s with H := H' }
end
section
variable {C : Cx} {N : Nat} {Q : Exit → St → Prop} {s : St} {ops : Array Oper} {rest : List Oper} {ty : TypeId} {ps : String} {af : Array Edge} {d : Nat}
theorem W.yield (hN : d < N) {fo : Operand} {args : Array Operand} {tys : Array TypeId} {l : Nat} (hf : s.ev fo = .v (.func (.yield l) #[] #[])) {va : List AV} (ha : evsA args.toList s.ev = va) {Qr : Bool → (Nat → Option AO) → Nat → Prop} (hok : YOK C l va s.H s.nx Qr)
    (k : ∀ b H' nx', Qr b H' nx' → AWL C N ops Q rest { tm := upd s.tm d (.v (.bool b)), H := H', nx := nx' }) : AWL C N ops Q (⟨some d, .call { callee := .value fo, args := args, argTypes := tys }, ty, ps, af, none⟩ :: rest) s :=
  AWL.yield rfl rfl hN rfl hf (by rw [ha]; exact hok) k
end
end Go.Pg

namespace Go.Proofs.Ks
structure Lk where
  a : Nat
  b : Nat
  m : Int
  deriving DecidableEq, Inhabited
def lenW : List Lk → Int
  | [] => 0
  | l :: r => l.m + lenW r
def Wk (L : List Lk) : Nat → List Lk → Nat → Prop
  | i, [], k => i = k
  | i, l :: r, k => l ∈ L ∧ l.a = i ∧ Wk L l.b r k
theorem lenW_append : ∀ (p q : List Lk), lenW (p ++ q) = lenW p + lenW q
  | [], q => by simp [lenW]
  | l :: p, q => by simp only [List.cons_append, lenW, lenW_append p q]; omega
theorem Wk.append {L : List Lk} : ∀ {p q : List Lk} {i j k : Nat}, Wk L i p j → Wk L j q k → Wk L i (p ++ q) k
  | [], q, i, j, k, h, g => by simp only [Wk] at h; subst h; exact g
  | l :: p, q, i, j, k, h, g => ⟨h.1, h.2.1, Wk.append h.2.2 g⟩
theorem Wk.snoc {L : List Lk} {p : List Lk} {i : Nat} {l : Lk} (h : Wk L i p l.a) (hl : l ∈ L) : Wk L i (p ++ [l]) l.b := h.append ⟨hl, rfl, rfl⟩
theorem Wk.unsnoc {L : List Lk} : ∀ {p : List Lk} {i k : Nat} {l : Lk}, Wk L i (p ++ [l]) k → Wk L i p l.a ∧ l ∈ L ∧ l.b = k
  | [], i, k, l, h => ⟨h.2.1.symm, h.1, h.2.2⟩
  | x :: p, i, k, l, h => by
    obtain ⟨h1, h2, h3⟩ := Wk.unsnoc (p := p) h.2.2
    exact ⟨⟨h.1, h.2.1, h1⟩, h2, h3⟩
theorem Wk.split {L : List Lk} : ∀ {p : List Lk} {i k j : Nat}, Wk L i p k → j ∈ p.map (·.b) → ∃ q r, p = q ++ r ∧ q ≠ [] ∧ Wk L i q j ∧ Wk L j r k
  | [], i, k, j, h, hj => by simp at hj
  | l :: p, i, k, j, h, hj => by
    simp only [List.map_cons, List.mem_cons] at hj
    by_cases he : l.b = j
    · exact ⟨[l], p, rfl, by simp, ⟨h.1, h.2.1, he⟩, he ▸ h.2.2⟩
    · rcases hj with hj | hj
      · exact absurd hj.symm he
      · obtain ⟨q, r, h1, h2, h3, h4⟩ := Wk.split h.2.2 hj
        exact ⟨l :: q, r, by rw [h1]; rfl, by simp, ⟨h.1, h.2.1, h3⟩, h4⟩
theorem Wk.mem {L : List Lk} : ∀ {p : List Lk} {i k : Nat}, Wk L i p k → ∀ l ∈ p, l ∈ L
  | [], _, _, _, l, hl => by simp at hl
  | x :: p, i, k, h, l, hl => by
    rcases List.mem_cons.1 hl with rfl | hl
    · exact h.1
    · exact Wk.mem h.2.2 l hl
def NoNeg (L : List Lk) : Prop := ∀ i p, Wk L i p i → 0 ≤ lenW p
def Simple (i : Nat) (p : List Lk) : Prop := (i :: p.map (·.b)).Nodup
theorem Simple.suffix {i j : Nat} {p q r : List Lk} {L : List Lk} (h : Simple i p) (hp : p = q ++ r) (hq : q ≠ []) (hw : Wk L i q j) : Simple j r := by
  obtain ⟨s, l, rfl⟩ : ∃ s l, q = s ++ [l] := ⟨q.dropLast, q.getLast hq, (List.dropLast_concat_getLast hq).symm⟩
  obtain ⟨_, _, h3⟩ := hw.unsnoc
  subst hp
  subst h3
  unfold Simple at h ⊢
  simp only [List.map_append, List.map_cons, List.append_assoc, List.cons_append, List.nil_append] at h
  exact (List.nodup_append.1 (List.nodup_cons.1 h).2).2.1
theorem NoNeg.short {L : List Lk} (hn : NoNeg L) : ∀ {p : List Lk} {i k : Nat}, Wk L i p k → ∃ q, Wk L i q k ∧ lenW q ≤ lenW p ∧ Simple i q
  | [], i, k, h => ⟨[], h, Int.le_refl _, by simp [Simple]⟩
  | l :: p, i, k, h => by
    obtain ⟨q, h1, h2, h3⟩ := hn.short h.2.2
    by_cases hi : i ∈ l.b :: q.map (·.b)
    · have hw : Wk L i (l :: q) k := ⟨h.1, h.2.1, h1⟩
      obtain ⟨u, r, e1, e2, e3, e4⟩ := hw.split (j := i) hi
      have h4 := hn i u e3
      have h5 : lenW (l :: q) = lenW u + lenW r := by rw [e1, lenW_append]
      refine ⟨r, e4, ?_, ?_⟩
      · simp only [lenW] at h5 ⊢; omega
      · cases u with
        | nil => exact absurd rfl e2
        | cons x u =>
          simp only [List.cons_append, List.cons.injEq] at e1
          obtain ⟨rfl, e1⟩ := e1
          by_cases hu : u = []
          · subst hu
            have := e3.2.2
            simp only [Wk] at this
            rw [List.nil_append] at e1
            rw [← this, ← e1]; exact h3
          · exact h3.suffix e1 hu e3.2.2
    · exact ⟨l :: q, ⟨h.1, h.2.1, h1⟩, by simp only [lenW]; omega, by unfold Simple; exact List.nodup_cons.2 ⟨hi, h3⟩⟩
theorem pigeon : ∀ (n : Nat) (l : List Nat), (∀ x ∈ l, x < n) → l.Nodup → l.length ≤ n
  | 0, l, h, _ => by
    cases l with
    | nil => simp
    | cons x l => exact absurd (h x (by simp)) (by omega)
  | n + 1, l, h, hd => by
    by_cases hn : n ∈ l
    · have h1 := pigeon n (l.erase n) (fun x hx => by
        have h2 := h x (List.mem_of_mem_erase hx)
        have h3 : x ≠ n := fun e => by subst e; exact (List.Nodup.not_mem_erase hd) hx
        omega) (hd.erase n)
      rw [List.length_erase_of_mem hn] at h1
      omega
    · have h1 := pigeon n l (fun x hx => by
        have h2 := h x hx
        have h3 : x ≠ n := fun e => hn (e ▸ hx)
        omega) hd
      omega
theorem Simple.len {L : List Lk} {n i k : Nat} {p : List Lk} (h : Simple i p) (hw : Wk L i p k) (hL : ∀ l ∈ L, l.a < n ∧ l.b < n) (hi : i < n) : p.length + 1 ≤ n := by
  have h1 := pigeon n _ (fun x hx => ?_) h
  · simpa using h1
  · rcases List.mem_cons.1 hx with rfl | hx
    · exact hi
    · obtain ⟨l, hl, rfl⟩ := List.mem_map.1 hx
      exact (hL l (hw.mem l hl)).2
theorem lenW_bound {B : Int} : ∀ (p : List Lk), (∀ l ∈ p, -B ≤ l.m ∧ l.m ≤ B) → -(B * p.length) ≤ lenW p ∧ lenW p ≤ B * p.length
  | [], _ => by simp [lenW]
  | l :: p, h => by
    have h1 := lenW_bound p (fun x hx => h x (by simp [hx]))
    have h2 := h l (by simp)
    simp only [lenW, List.length_cons]
    have h3 : B * ((p.length + 1 : Nat) : Int) = B * (p.length : Int) + B := by rw [Int.natCast_add, Int.mul_add]; simp
    omega
theorem Wk.pot {L : List Lk} {f : Nat → Int} (hf : ∀ l ∈ L, f l.b ≤ f l.a + l.m) : ∀ {p : List Lk} {i k : Nat}, Wk L i p k → f k ≤ f i + lenW p
  | [], i, k, h => by simp only [Wk] at h; subst h; simp [lenW]
  | l :: p, i, k, h => by
    have h1 := Wk.pot hf h.2.2
    have h2 := hf l h.1
    rw [h.2.1] at h2
    simp only [lenW]; omega
theorem NoNeg.of_pot {L : List Lk} {f : Nat → Int} (hf : ∀ l ∈ L, f l.b ≤ f l.a + l.m) : NoNeg L := fun i p h => by have := h.pot hf; omega
structure Dist (L : List Lk) (n : Nat) (Src : Nat → Prop) (inf : Int) (d : Nat → Int) : Prop where
  le : ∀ k, k < n → d k ≤ inf
  real : ∀ k, k < n → d k < inf → ∃ s p, Src s ∧ Wk L s p k ∧ lenW p = d k
  low : ∀ s p k, Src s → Wk L s p k → d k ≤ lenW p
theorem Dist.unique {L : List Lk} {n : Nat} {Src : Nat → Prop} {inf : Int} {d e : Nat → Int} (hd : Dist L n Src inf d) (he : Dist L n Src inf e) : ∀ k, k < n → d k = e k := by
  have go : ∀ {d e : Nat → Int}, Dist L n Src inf d → Dist L n Src inf e → ∀ k, k < n → d k ≤ e k := fun {d e} hd he k hk => by
    by_cases h : e k < inf
    · obtain ⟨s, p, h1, h2, h3⟩ := he.real k hk h
      have := hd.low s p k h1 h2
      omega
    · have := hd.le k hk; omega
  intro k hk
  have h1 := go hd he k hk
  have h2 := go he hd k hk
  omega
end Go.Proofs.Ks

namespace Go.Proofs.Ks
def far : Int := 1125899906842624
abbrev BS := List Int × List Int × Int
def Imp (d : List Int) (l : Lk) : Prop := d.getD l.a 0 < far ∧ d.getD l.a 0 + l.m < d.getD l.b 0
instance (d : List Int) (l : Lk) : Decidable (Imp d l) := inferInstanceAs (Decidable (_ ∧ _))
def relax (p : BS) (k : Nat) (l : Lk) : BS :=
  if Imp p.1 l then (p.1.set l.b (p.1.getD l.a 0 + l.m), p.2.1.set l.b (k : Int), (l.b : Int)) else p
def roundF : List Lk → Nat → BS → BS
  | [], _, p => p
  | l :: r, k, p => roundF r (k + 1) (relax p k l)
def lastF : List Lk → Nat → List Int → List Int → BS
  | [], _, d, b => (d, b, -1)
  | l :: r, k, d, b => if Imp d l then (d, b.set l.b (k : Int), (l.b : Int)) else lastF r (k + 1) d b
def loopF (L : List Lk) : Nat → List Int → List Int → BS
  | 0, d, b => lastF L 0 d b
  | n + 1, d, b => if (roundF L 0 (d, b, -1)).2.2 < 0 then ((roundF L 0 (d, b, -1)).1, (roundF L 0 (d, b, -1)).2.1, -1) else loopF L n (roundF L 0 (d, b, -1)).1 (roundF L 0 (d, b, -1)).2.1
def initF (n : Nat) (f : Int) : List Int := (List.range n).map fun (i : Nat) => if 0 ≤ f ∧ (i : Int) ≠ f then far else 0
def lengthsF (n : Nat) (L : List Lk) (f : Int) : BS := loopF L n (initF n f) (List.replicate n (-1))
structure Good (L : List Lk) (n : Nat) (Src : Nat → Prop) (d : List Int) (r : Nat) : Prop where
  len : d.length = n
  le : ∀ k, k < n → d.getD k 0 ≤ far
  real : ∀ k, k < n → d.getD k 0 < far → ∃ s p, Src s ∧ Wk L s p k ∧ lenW p = d.getD k 0
  low : ∀ s p k, Src s → Wk L s p k → p.length ≤ r → d.getD k 0 ≤ lenW p
theorem getD_set {d : List Int} {i j : Nat} {x : Int} (h : i < d.length) : (d.set i x).getD j 0 = if i = j then x else d.getD j 0 := by
  rw [List.getD_eq_getElem?_getD, List.getElem?_set, List.getD_eq_getElem?_getD]
  split
  · rename_i e; subst e; simp [h]
  · rfl
section
variable {L : List Lk} {n : Nat} {Src : Nat → Prop} {B : Int}
theorem relax_good (hL : ∀ l ∈ L, l.a < n ∧ l.b < n) (hB0 : 0 ≤ B) (hB : ∀ l ∈ L, -B ≤ l.m ∧ l.m ≤ B) (hfar : B * (n : Int) < far) {p : BS} {r : Nat} (hr : r ≤ n) (hg : Good L n Src p.1 r) (k : Nat) {l : Lk} (hl : l ∈ L) :
    Good L n Src (relax p k l).1 r ∧ (∀ j, (relax p k l).1.getD j 0 ≤ p.1.getD j 0) ∧ (∀ s w, Src s → Wk L s w l.a → w.length ≤ r → (relax p k l).1.getD l.b 0 ≤ lenW w + l.m) := by
  obtain ⟨ha, hb⟩ := hL l hl
  have hbl : l.b < p.1.length := by rw [hg.len]; exact hb
  unfold relax
  split
  · rename_i hi
    have hmon : ∀ j, (p.1.set l.b (p.1.getD l.a 0 + l.m)).getD j 0 ≤ p.1.getD j 0 := fun j => by
      rw [getD_set hbl]
      split
      · rename_i e; subst e; have := hi.2; omega
      · exact Int.le_refl _
    refine ⟨⟨by simp [hg.len], fun j hj => Int.le_trans (hmon j) (hg.le j hj), fun j hj hf => ?_, fun s w j hs hw hl => Int.le_trans (hmon j) (hg.low s w j hs hw hl)⟩, hmon, fun s w hs hw hl => ?_⟩
    · dsimp only at hf ⊢
      rw [getD_set hbl] at hf ⊢
      split
      · rename_i e; subst e
        obtain ⟨s, w, h1, h2, h3⟩ := hg.real l.a ha hi.1
        exact ⟨s, w ++ [l], h1, h2.snoc hl, by rw [lenW_append, h3]; simp [lenW]⟩
      · rename_i e
        rw [if_neg e] at hf
        exact hg.real j hj hf
    · dsimp only
      rw [getD_set hbl, if_pos rfl]
      have := hg.low s w l.a hs hw hl
      omega
  · rename_i hi
    refine ⟨hg, fun j => Int.le_refl _, fun s w hs hw hl' => ?_⟩
    have h1 := hg.low s w l.a hs hw hl'
    have h2 := (lenW_bound w (fun x hx => hB x (hw.mem x hx))).2
    have h3 : B * (w.length : Int) ≤ B * (n : Int) := Int.mul_le_mul_of_nonneg_left (by omega) hB0
    unfold Imp at hi
    omega
theorem round_good (hL : ∀ l ∈ L, l.a < n ∧ l.b < n) (hB0 : 0 ≤ B) (hB : ∀ l ∈ L, -B ≤ l.m ∧ l.m ≤ B) (hfar : B * (n : Int) < far) {r : Nat} (hr : r ≤ n) :
    ∀ (R : List Lk) (k : Nat) (p : BS), (∀ l ∈ R, l ∈ L) → Good L n Src p.1 r →
    Good L n Src (roundF R k p).1 r ∧ (∀ j, (roundF R k p).1.getD j 0 ≤ p.1.getD j 0) ∧ ∀ l ∈ R, ∀ s w, Src s → Wk L s w l.a → w.length ≤ r → (roundF R k p).1.getD l.b 0 ≤ lenW w + l.m
  | [], k, p, _, hg => ⟨hg, fun j => Int.le_refl _, fun l hl => by simp at hl⟩
  | x :: R, k, p, hR, hg => by
    obtain ⟨h1, h2, h3⟩ := relax_good hL hB0 hB hfar hr hg k (hR x (by simp))
    obtain ⟨g1, g2, g3⟩ := round_good hL hB0 hB hfar hr R (k + 1) (relax p k x) (fun l hl => hR l (by simp [hl])) h1
    refine ⟨g1, fun j => Int.le_trans (g2 j) (h2 j), fun l hl s w hs hw hwl => ?_⟩
    rcases List.mem_cons.1 hl with rfl | hl
    · exact Int.le_trans (g2 _) (h3 s w hs hw hwl)
    · exact g3 l hl s w hs hw hwl
theorem round_succ (hL : ∀ l ∈ L, l.a < n ∧ l.b < n) (hB0 : 0 ≤ B) (hB : ∀ l ∈ L, -B ≤ l.m ∧ l.m ≤ B) (hfar : B * (n : Int) < far) {r : Nat} (hr : r ≤ n) {p : BS} (hg : Good L n Src p.1 r) : Good L n Src (roundF L 0 p).1 (r + 1) := by
  obtain ⟨h1, h2, h3⟩ := round_good (Src := Src) hL hB0 hB hfar hr L 0 p (fun _ h => h) hg
  refine ⟨h1.len, h1.le, h1.real, fun s w k hs hw hwl => ?_⟩
  by_cases hle : w.length ≤ r
  · exact h1.low s w k hs hw hle
  · obtain ⟨u, l, rfl⟩ : ∃ u l, w = u ++ [l] := ⟨w.dropLast, w.getLast (by intro e; subst e; simp at hle), (List.dropLast_concat_getLast _).symm⟩
    obtain ⟨w1, w2, rfl⟩ := hw.unsnoc
    have := h3 l w2 s u hs w1 (by simp at hwl; omega)
    rw [lenW_append]; simp only [lenW]; omega
theorem relax_chg (p : BS) (k : Nat) (l : Lk) (h : 0 ≤ p.2.2) : 0 ≤ (relax p k l).2.2 := by
  unfold relax
  split
  · exact Int.natCast_nonneg _
  · exact h
theorem round_chg : ∀ (R : List Lk) (k : Nat) (p : BS), 0 ≤ p.2.2 → 0 ≤ (roundF R k p).2.2
  | [], _, _, h => h
  | l :: R, k, p, h => round_chg R (k + 1) _ (relax_chg p k l h)
theorem round_still : ∀ (R : List Lk) (k : Nat) (p : BS), p.2.2 < 0 → (roundF R k p).2.2 < 0 → roundF R k p = p ∧ ∀ l ∈ R, ¬ Imp p.1 l
  | [], _, _, _, _ => ⟨rfl, fun l hl => by simp at hl⟩
  | x :: R, k, p, h, hq => by
    have hx : ¬ Imp p.1 x := fun hi => by
      have h1 : 0 ≤ (relax p k x).2.2 := by unfold relax; rw [if_pos hi]; exact Int.natCast_nonneg _
      have := round_chg R (k + 1) _ h1
      simp only [roundF] at hq
      omega
    have he : relax p k x = p := by unfold relax; rw [if_neg hx]
    simp only [roundF, he] at hq ⊢
    obtain ⟨h1, h2⟩ := round_still R (k + 1) p h hq
    refine ⟨h1, fun l hl => ?_⟩
    rcases List.mem_cons.1 hl with rfl | hl
    · exact hx
    · exact h2 l hl
theorem last_case : ∀ (R : List Lk) (k : Nat) (d b : List Int), (lastF R k d b = (d, b, -1) ∧ ∀ l ∈ R, ¬ Imp d l) ∨ ∃ j l, R[j]? = some l ∧ Imp d l ∧ lastF R k d b = (d, b.set l.b ((k + j : Nat) : Int), (l.b : Int))
  | [], _, _, _ => .inl ⟨rfl, fun l hl => by simp at hl⟩
  | x :: R, k, d, b => by
    unfold lastF
    by_cases hx : Imp d x
    · rw [if_pos hx]; exact .inr ⟨0, x, rfl, hx, rfl⟩
    · rw [if_neg hx]
      rcases last_case R (k + 1) d b with ⟨h1, h2⟩ | ⟨j, l, h1, h2, h3⟩
      · refine .inl ⟨h1, fun l hl => ?_⟩
        rcases List.mem_cons.1 hl with rfl | hl
        · exact hx
        · exact h2 l hl
      · exact .inr ⟨j + 1, l, by simpa using h1, h2, by rw [h3, show k + 1 + j = k + (j + 1) by omega]⟩
theorem loop_spec (hL : ∀ l ∈ L, l.a < n ∧ l.b < n) (hB0 : 0 ≤ B) (hB : ∀ l ∈ L, -B ≤ l.m ∧ l.m ≤ B) (hfar : B * (n : Int) < far) (hsrc : ∀ s, Src s → s < n) :
    ∀ (c r : Nat) (d b : List Int), c + r = n → Good L n Src d r →
    ((loopF L c d b).2.2 < 0 ∧ Good L n Src (loopF L c d b).1 0 ∧ ∀ l ∈ L, ¬ Imp (loopF L c d b).1 l) ∨ (0 ≤ (loopF L c d b).2.2 ∧ ¬ NoNeg L)
  | 0, r, d, b, hc, hg => by
    unfold loopF
    rcases last_case L 0 d b with ⟨h1, h2⟩ | ⟨j, l, h1, h2, h3⟩
    · rw [h1]
      exact .inl ⟨(by decide : (-1 : Int) < 0), ⟨hg.len, hg.le, hg.real, fun s w k hs hw hwl => hg.low s w k hs hw (by omega)⟩, h2⟩
    · rw [h3]
      refine .inr ⟨Int.natCast_nonneg _, fun hn => ?_⟩
      have hl := List.mem_of_getElem? h1
      obtain ⟨ha, hb⟩ := hL l hl
      obtain ⟨s, w, w1, w2, w3⟩ := hg.real l.a ha h2.1
      obtain ⟨q, q1, q2, q3⟩ := hn.short (w2.snoc hl)
      have q4 := q3.len q1 hL (hsrc s w1)
      have q5 := hg.low s q l.b w1 q1 (by omega)
      rw [lenW_append] at q2
      simp only [lenW] at q2
      have := h2.2
      omega
  | c + 1, r, d, b, hc, hg => by
    unfold loopF
    by_cases hq : (roundF L 0 (d, b, -1)).2.2 < 0
    · rw [if_pos hq]
      obtain ⟨h1, h2⟩ := round_still L 0 (d, b, -1) (by decide : (-1 : Int) < 0) hq
      rw [h1]
      exact .inl ⟨(by decide : (-1 : Int) < 0), ⟨hg.len, hg.le, hg.real, fun s w k hs hw hwl => hg.low s w k hs hw (by omega)⟩, h2⟩
    · rw [if_neg hq]
      exact loop_spec hL hB0 hB hfar hsrc c (r + 1) _ _ (by omega) (round_succ hL hB0 hB hfar (by omega) (p := (d, b, -1)) hg)
def SrcF (n : Nat) (f : Int) (s : Nat) : Prop := s < n ∧ (f < 0 ∨ (s : Int) = f)
theorem init_get (n : Nat) (f : Int) {k : Nat} (h : k < n) : (initF n f).getD k 0 = if 0 ≤ f ∧ (k : Int) ≠ f then far else 0 := by
  unfold initF
  rw [List.getD_eq_getElem?_getD, List.getElem?_map, List.getElem?_range h]; rfl
theorem init_good (hL : ∀ l ∈ L, l.a < n ∧ l.b < n) (f : Int) : Good L n (SrcF n f) (initF n f) 0 := by
  refine ⟨by simp [initF], fun k hk => ?_, fun k hk hf => ?_, fun s p k hs hw hp => ?_⟩
  · rw [init_get n f hk]; split <;> decide
  · rw [init_get n f hk] at hf ⊢
    split at hf
    · exact absurd hf (by decide)
    · rename_i h
      rw [if_neg h]
      exact ⟨k, [], ⟨hk, by omega⟩, rfl, rfl⟩
  · have : p = [] := List.length_eq_zero_iff.1 (by omega)
    subst this
    simp only [Wk] at hw
    subst hw
    rw [init_get n f hs.1, if_neg (by have := hs.2; omega)]
    exact Int.le_refl _
theorem lengths_spec (hL : ∀ l ∈ L, l.a < n ∧ l.b < n) (hB0 : 0 ≤ B) (hB : ∀ l ∈ L, -B ≤ l.m ∧ l.m ≤ B) (hfar : B * (n : Int) < far) (f : Int) :
    ((lengthsF n L f).2.2 < 0 ∧ Good L n (SrcF n f) (lengthsF n L f).1 0 ∧ ∀ l ∈ L, ¬ Imp (lengthsF n L f).1 l) ∨ (0 ≤ (lengthsF n L f).2.2 ∧ ¬ NoNeg L) :=
  loop_spec hL hB0 hB hfar (fun s h => h.1) n 0 _ _ rfl (init_good hL f)
theorem good_low (hL : ∀ l ∈ L, l.a < n ∧ l.b < n) (hB0 : 0 ≤ B) (hB : ∀ l ∈ L, -B ≤ l.m ∧ l.m ≤ B) (hfar : B * (n : Int) < far) {d : List Int} (hg : Good L n Src d 0) (hi : ∀ l ∈ L, ¬ Imp d l) :
    ∀ (c : Nat) (p : List Lk) (s k : Nat), p.length = c → c ≤ n → Src s → Wk L s p k → d.getD k 0 ≤ lenW p
  | 0, p, s, k, hc, _, hs, hw => hg.low s p k hs hw (by omega)
  | c + 1, p, s, k, hc, hcn, hs, hw => by
    obtain ⟨u, l, rfl⟩ : ∃ u l, p = u ++ [l] := ⟨p.dropLast, p.getLast (by intro e; subst e; simp at hc), (List.dropLast_concat_getLast _).symm⟩
    obtain ⟨w1, w2, rfl⟩ := hw.unsnoc
    have hul : u.length = c := by simpa using hc
    have h1 := good_low hL hB0 hB hfar hg hi c u s l.a hul (by omega) hs w1
    have h2 := (lenW_bound u (fun x hx => hB x (w1.mem x hx))).2
    have h3 : B * (u.length : Int) ≤ B * (n : Int) := Int.mul_le_mul_of_nonneg_left (by omega) hB0
    have h4 := hi l w2
    unfold Imp at h4
    rw [lenW_append]
    simp only [lenW]
    omega
theorem lengths_noNeg (hL : ∀ l ∈ L, l.a < n ∧ l.b < n) (hB0 : 0 ≤ B) (hB : ∀ l ∈ L, -B ≤ l.m ∧ l.m ≤ B) (hfar : B * (n : Int) < far) : (lengthsF n L (-1)).2.2 < 0 ↔ NoNeg L := by
  rcases lengths_spec hL hB0 hB hfar (-1) with ⟨h1, h2, h3⟩ | ⟨h1, h2⟩
  · refine ⟨fun _ => NoNeg.of_pot (f := fun k => (lengthsF n L (-1)).1.getD k 0) fun l hl => ?_, fun _ => h1⟩
    obtain ⟨ha, hb⟩ := hL l hl
    have h4 := h2.low l.a [] l.a ⟨ha, .inl (by decide)⟩ rfl (Nat.le_refl _)
    have h5 := h3 l hl
    unfold Imp at h5
    simp only [lenW] at h4
    have h6 : (0 : Int) < far := by decide
    omega
  · exact ⟨fun h => by omega, fun h => absurd h h2⟩
theorem lengths_dist (hL : ∀ l ∈ L, l.a < n ∧ l.b < n) (hB0 : 0 ≤ B) (hB : ∀ l ∈ L, -B ≤ l.m ∧ l.m ≤ B) (hfar : B * (n : Int) < far) (hn : NoNeg L) (f : Int) : Dist L n (SrcF n f) far (fun k => (lengthsF n L f).1.getD k 0) := by
  rcases lengths_spec hL hB0 hB hfar f with ⟨h1, h2, h3⟩ | ⟨h1, h2⟩
  · refine ⟨h2.le, h2.real, fun s p k hs hw => ?_⟩
    obtain ⟨q, q1, q2, q3⟩ := hn.short hw
    have q4 := q3.len q1 hL hs.1
    have := good_low hL hB0 hB hfar h2 h3 q.length q s k rfl (by omega) hs q1
    omega
  · exact absurd hn h2
theorem lengths_len (hL : ∀ l ∈ L, l.a < n ∧ l.b < n) (hB0 : 0 ≤ B) (hB : ∀ l ∈ L, -B ≤ l.m ∧ l.m ≤ B) (hfar : B * (n : Int) < far) (hn : NoNeg L) (f : Int) : (lengthsF n L f).1.length = n := by
  rcases lengths_spec hL hB0 hB hfar f with ⟨_, h2, _⟩ | ⟨_, h2⟩
  · exact h2.len
  · exact absurd hn h2
end
end Go.Proofs.Ks

namespace Go.Proofs.Ks
abbrev Mx := List (List Int)
def mget (o : Mx) (i k : Nat) : Int := (o.getD i []).getD k 0
def mset (o : Mx) (i k : Nat) (v : Int) : Mx := o.set i ((o.getD i []).set k v)
def fwInit (n : Nat) : Mx := (List.range n).map fun i => (List.range n).map fun k => if i ≠ k then far else 0
def fwLink (o : Mx) (l : Lk) : Mx := mset o l.a l.b (min (mget o l.a l.b) l.m)
def fwLinks : List Lk → Mx → Mx
  | [], o => o
  | l :: r, o => fwLinks r (fwLink o l)
def fwCell (m i k : Nat) (o : Mx) : Mx := if mget o i m < far ∧ mget o m k < far then mset o i k (min (mget o i k) (mget o i m + mget o m k)) else o
def fwRow (m i : Nat) : Nat → Nat → Mx → Mx
  | 0, _, o => o
  | c + 1, k, o => fwRow m i c (k + 1) (fwCell m i k o)
def fwStep (m n : Nat) : Nat → Nat → Mx → Mx
  | 0, _, o => o
  | c + 1, i, o => fwStep m n c (i + 1) (fwRow m i n 0 o)
def negD (o : Mx) : Nat → Nat → Bool
  | 0, _ => false
  | c + 1, i => decide (mget o i i < 0) || negD o c (i + 1)
def fwLoop (n : Nat) : Nat → Nat → Mx → Option Mx
  | 0, _, o => some o
  | c + 1, m, o => if negD (fwStep m n n 0 o) n 0 = true then none else fwLoop n c (m + 1) (fwStep m n n 0 o)
def closureF (n : Nat) (L : List Lk) : Option Mx := fwLoop n n 0 (fwLinks L (fwInit n))
def Semi (i : Nat) (p : List Lk) : Prop := (i :: p.dropLast.map (·.b)).Nodup
theorem Simple.semi {i : Nat} {p : List Lk} (h : Simple i p) : Semi i p := by
  unfold Simple at h; unfold Semi
  obtain ⟨h1, h2⟩ := List.nodup_cons.1 h
  refine List.nodup_cons.2 ⟨fun hm => h1 ?_, ?_⟩
  · obtain ⟨l, hl, e⟩ := List.mem_map.1 hm
    exact List.mem_map.2 ⟨l, (List.dropLast_sublist _).subset hl, e⟩
  · rw [List.map_dropLast]
    exact h2.sublist (List.dropLast_sublist _)
theorem Wk.split1 {L : List Lk} : ∀ {p : List Lk} {i k j : Nat}, Wk L i p k → j ∈ p.map (·.b) → ∃ q r, p = q ++ r ∧ q ≠ [] ∧ Wk L i q j ∧ Wk L j r k ∧ j ∉ q.dropLast.map (·.b)
  | [], i, k, j, h, hj => by simp at hj
  | l :: p, i, k, j, h, hj => by
    simp only [List.map_cons, List.mem_cons] at hj
    by_cases he : l.b = j
    · exact ⟨[l], p, rfl, by simp, ⟨h.1, h.2.1, he⟩, he ▸ h.2.2, by simp⟩
    · rcases hj with hj | hj
      · exact absurd hj.symm he
      · obtain ⟨q, r, h1, h2, h3, h4, h5⟩ := Wk.split1 h.2.2 hj
        refine ⟨l :: q, r, by rw [h1]; rfl, by simp, ⟨h.1, h.2.1, h3⟩, h4, ?_⟩
        rw [List.dropLast_cons_of_ne_nil h2]
        simp only [List.map_cons, List.mem_cons, not_or]
        exact ⟨fun e => he e.symm, h5⟩
theorem NoNeg.of_semi {L : List Lk} (hs : ∀ i p, Wk L i p i → Semi i p → 0 ≤ lenW p) : NoNeg L := by
  have short : ∀ {p : List Lk} {i k : Nat}, Wk L i p k → ∃ q, Wk L i q k ∧ lenW q ≤ lenW p ∧ Simple i q := by
    intro p
    induction p with
    | nil => exact fun {i k} h => ⟨[], h, Int.le_refl _, by simp [Simple]⟩
    | cons l p ih =>
      intro i k h
      obtain ⟨q, h1, h2, h3⟩ := ih h.2.2
      by_cases hi : i ∈ l.b :: q.map (·.b)
      · have hw : Wk L i (l :: q) k := ⟨h.1, h.2.1, h1⟩
        obtain ⟨u, r, e1, e2, e3, e4, e5⟩ := hw.split1 (j := i) hi
        have hse : Semi i u := by
          refine List.nodup_cons.2 ⟨e5, ?_⟩
          have h6 : (u.map (·.b) ++ r.map (·.b)).Nodup := by rw [← List.map_append, ← e1]; exact h3
          rw [List.map_dropLast]
          exact (List.nodup_append.1 h6).1.sublist (List.dropLast_sublist _)
        have h4 := hs i u e3 hse
        have h5 : lenW (l :: q) = lenW u + lenW r := by rw [e1, lenW_append]
        refine ⟨r, e4, ?_, ?_⟩
        · simp only [lenW] at h5 ⊢; omega
        · cases u with
          | nil => exact absurd rfl e2
          | cons x u =>
            simp only [List.cons_append, List.cons.injEq] at e1
            obtain ⟨rfl, e1⟩ := e1
            by_cases hu : u = []
            · subst hu
              have := e3.2.2
              simp only [Wk] at this
              rw [List.nil_append] at e1
              rw [← this, ← e1]; exact h3
            · exact h3.suffix e1 hu e3.2.2
      · exact ⟨l :: q, ⟨h.1, h.2.1, h1⟩, by simp only [lenW]; omega, by unfold Simple; exact List.nodup_cons.2 ⟨hi, h3⟩⟩
  intro i p hw
  obtain ⟨q, q1, q2, q3⟩ := short hw
  cases hq : q with
  | nil => subst hq; simpa [lenW] using q2
  | cons x r =>
    exfalso
    obtain ⟨u, l, rfl⟩ : ∃ u l, q = u ++ [l] := ⟨q.dropLast, q.getLast (by rw [hq]; simp), (List.dropLast_concat_getLast _).symm⟩
    obtain ⟨_, _, h3⟩ := q1.unsnoc
    unfold Simple at q3
    refine (List.nodup_cons.1 q3).1 ?_
    rw [← h3]; simp
theorem mget_mset {o : Mx} {n i k i' k' : Nat} {v : Int} (ho : o.length = n) (hr : ∀ i, i < n → (o.getD i []).length = n) (hi : i < n) (hk : k < n) : mget (mset o i k v) i' k' = if i = i' ∧ k = k' then v else mget o i' k' := by
  unfold mget mset
  rw [List.getD_eq_getElem?_getD (l := o.set _ _), List.getElem?_set]
  split
  · rename_i e; subst e
    rw [if_pos (by omega)]
    simp only [Option.getD_some, true_and]
    exact getD_set (by rw [hr i hi]; exact hk)
  · rename_i e
    rw [if_neg (fun h => e h.1), ← List.getD_eq_getElem?_getD]
theorem mset_row {o : Mx} {n i k j : Nat} {v : Int} (ho : o.length = n) (hr : ∀ i, i < n → (o.getD i []).length = n) (hi : i < n) (hj : j < n) : ((mset o i k v).getD j []).length = n := by
  unfold mset
  rw [List.getD_eq_getElem?_getD, List.getElem?_set]
  split
  · rename_i e; subst e
    rw [if_pos (by omega)]; simpa using hr i hi
  · rw [← List.getD_eq_getElem?_getD]; exact hr j hj
structure FW (L : List Lk) (n : Nat) (o : Mx) (m : Nat) : Prop where
  len : o.length = n
  row : ∀ i, i < n → (o.getD i []).length = n
  le : ∀ i k, i < n → k < n → mget o i k ≤ far
  real : ∀ i k, i < n → k < n → mget o i k < far → ∃ p, Wk L i p k ∧ lenW p = mget o i k
  low : ∀ i k p, i < n → k < n → Wk L i p k → Semi i p → (∀ x ∈ p.dropLast.map (·.b), x < m) → mget o i k ≤ lenW p
section
variable {L : List Lk} {n : Nat} {B : Int}
theorem FW.put {o : Mx} {m : Nat} (h : FW L n o m) {i k : Nat} (hi : i < n) (hk : k < n) {v : Int} (hv : v ≤ mget o i k) (hr : v < far → ∃ p, Wk L i p k ∧ lenW p = v) :
    FW L n (mset o i k v) m ∧ ∀ i' k', mget (mset o i k v) i' k' ≤ mget o i' k' := by
  have hg := fun i' k' => mget_mset (v := v) (i' := i') (k' := k') h.len h.row hi hk
  have hmon : ∀ i' k', mget (mset o i k v) i' k' ≤ mget o i' k' := fun i' k' => by
    rw [hg]
    split
    · rename_i e; obtain ⟨rfl, rfl⟩ := e; exact hv
    · exact Int.le_refl _
  refine ⟨⟨by simp [mset, h.len], fun j hj => mset_row h.len h.row hi hj, fun a b ha hb => Int.le_trans (hmon a b) (h.le a b ha hb), fun a b ha hb hf => ?_, fun a b p ha hb hw hs hp => Int.le_trans (hmon a b) (h.low a b p ha hb hw hs hp)⟩, hmon⟩
  rw [hg] at hf ⊢
  split
  · rename_i e; obtain ⟨rfl, rfl⟩ := e
    rw [if_pos ⟨rfl, rfl⟩] at hf
    exact hr hf
  · rename_i e
    rw [if_neg e] at hf
    exact h.real a b ha hb hf
theorem Semi.len {i k : Nat} {p : List Lk} (h : Semi i p) (hw : Wk L i p k) (hL : ∀ l ∈ L, l.a < n ∧ l.b < n) (hi : i < n) : p.length ≤ n := by
  have h1 := pigeon n _ (fun x hx => ?_) h
  · simp only [List.length_cons, List.length_map, List.length_dropLast] at h1; omega
  · rcases List.mem_cons.1 hx with rfl | hx
    · exact hi
    · obtain ⟨l, hl, rfl⟩ := List.mem_map.1 hx
      exact (hL l (hw.mem l ((List.dropLast_sublist _).subset hl))).2
theorem Semi.lt (hL : ∀ l ∈ L, l.a < n ∧ l.b < n) (hB0 : 0 ≤ B) (hB : ∀ l ∈ L, -B ≤ l.m ∧ l.m ≤ B) (hfar : B * (n : Int) < far) {i k : Nat} {p : List Lk} (h : Semi i p) (hw : Wk L i p k) (hi : i < n) : lenW p < far := by
  have h1 := h.len hw hL hi
  have h2 := (lenW_bound p (fun x hx => hB x (hw.mem x hx))).2
  have h3 : B * (p.length : Int) ≤ B * (n : Int) := Int.mul_le_mul_of_nonneg_left (by omega) hB0
  omega
theorem cell_fw (hL : ∀ l ∈ L, l.a < n ∧ l.b < n) (hB0 : 0 ≤ B) (hB : ∀ l ∈ L, -B ≤ l.m ∧ l.m ≤ B) (hfar : B * (n : Int) < far) {o : Mx} {m i k : Nat} (h : FW L n o m) (hm : m < n) (hi : i < n) (hk : k < n) :
    FW L n (fwCell m i k o) m ∧ (∀ i' k', mget (fwCell m i k o) i' k' ≤ mget o i' k') ∧ (∀ p, Wk L i p k → Semi i p → (∀ x ∈ p.dropLast.map (·.b), x < m + 1) → mget (fwCell m i k o) i k ≤ lenW p) := by
  have key : ∀ p, Wk L i p k → Semi i p → (∀ x ∈ p.dropLast.map (·.b), x < m + 1) → mget o i k ≤ lenW p ∨ (mget o i m < far ∧ mget o m k < far ∧ mget o i m + mget o m k ≤ lenW p) := fun p hw hs hp => by
    by_cases hmm : m ∈ p.dropLast.map (·.b)
    · right
      have hpn : p ≠ [] := by intro e; subst e; simp at hmm
      obtain ⟨d, l, rfl⟩ : ∃ d l, p = d ++ [l] := ⟨p.dropLast, p.getLast hpn, (List.dropLast_concat_getLast _).symm⟩
      obtain ⟨w1, w2, w3⟩ := hw.unsnoc
      simp only [List.dropLast_concat] at hmm hp
      unfold Semi at hs
      rw [List.dropLast_concat] at hs
      obtain ⟨s1, s2⟩ := List.nodup_cons.1 hs
      obtain ⟨q, r, e1, e2, e3, e4, e5⟩ := w1.split1 hmm
      subst e1
      obtain ⟨q', x, rfl⟩ : ∃ q' x, q = q' ++ [x] := ⟨q.dropLast, q.getLast e2, (List.dropLast_concat_getLast _).symm⟩
      obtain ⟨_, _, e6⟩ := e3.unsnoc
      simp only [List.map_append, List.map_cons, List.map_nil, List.append_assoc, List.singleton_append, e6, List.mem_append, List.mem_cons, not_or] at s1 s2 hp
      obtain ⟨t1, t2, t3⟩ := List.nodup_append.1 s2
      obtain ⟨t4, t5⟩ := List.nodup_cons.1 t2
      have hsu : Semi i (q' ++ [x]) := by
        unfold Semi; rw [List.dropLast_concat]
        exact List.nodup_cons.2 ⟨s1.1, t1⟩
      have hsv : Semi m (r ++ [l]) := by
        unfold Semi; rw [List.dropLast_concat]
        exact t2
      have hwv : Wk L m (r ++ [l]) k := by rw [← w3]; exact e4.snoc w2
      have b1 : mget o i m ≤ lenW (q' ++ [x]) := h.low i m _ hi hm e3 hsu (fun y hy => by
        rw [List.dropLast_concat] at hy
        have h1 := hp y (.inl hy)
        have h2 : y ≠ m := fun e => t3 y hy m (by simp) e
        omega)
      have b2 : mget o m k ≤ lenW (r ++ [l]) := h.low m k _ hm hk hwv hsv (fun y hy => by
        rw [List.dropLast_concat] at hy
        have h1 := hp y (.inr (.inr hy))
        have h2 : y ≠ m := fun e => t4 (e ▸ hy)
        omega)
      have b3 := hsu.lt hL hB0 hB hfar e3 hi
      have b4 := hsv.lt hL hB0 hB hfar hwv hm
      refine ⟨by omega, by omega, ?_⟩
      rw [List.append_assoc, lenW_append (q' ++ [x])]
      omega
    · left
      exact h.low i k p hi hk hw hs (fun y hy => by
        have h1 := hp y hy
        have h2 : y ≠ m := fun e => hmm (e ▸ hy)
        omega)
  unfold fwCell
  split
  · rename_i hc
    obtain ⟨g1, g2⟩ := h.put (v := min (mget o i k) (mget o i m + mget o m k)) hi hk (by omega) (fun hv => by
      by_cases hle : mget o i k ≤ mget o i m + mget o m k
      · rw [show min (mget o i k) (mget o i m + mget o m k) = mget o i k by omega] at hv ⊢
        exact h.real i k hi hk hv
      · rw [show min (mget o i k) (mget o i m + mget o m k) = mget o i m + mget o m k by omega]
        obtain ⟨p, p1, p2⟩ := h.real i m hi hm hc.1
        obtain ⟨q, q1, q2⟩ := h.real m k hm hk hc.2
        exact ⟨p ++ q, p1.append q1, by rw [lenW_append, p2, q2]⟩)
    refine ⟨g1, g2, fun p hw hs hp => ?_⟩
    rw [mget_mset h.len h.row hi hk, if_pos ⟨rfl, rfl⟩]
    rcases key p hw hs hp with h1 | ⟨_, _, h1⟩ <;> omega
  · rename_i hc
    refine ⟨h, fun _ _ => Int.le_refl _, fun p hw hs hp => ?_⟩
    rcases key p hw hs hp with h1 | ⟨h1, h2, _⟩
    · exact h1
    · exact absurd ⟨h1, h2⟩ hc
theorem row_fw (hL : ∀ l ∈ L, l.a < n ∧ l.b < n) (hB0 : 0 ≤ B) (hB : ∀ l ∈ L, -B ≤ l.m ∧ l.m ≤ B) (hfar : B * (n : Int) < far) {m i : Nat} (hm : m < n) (hi : i < n) : ∀ (c k : Nat) (o : Mx), k + c = n → FW L n o m →
    FW L n (fwRow m i c k o) m ∧ (∀ i' k', mget (fwRow m i c k o) i' k' ≤ mget o i' k') ∧ (∀ k', k ≤ k' → k' < n → ∀ p, Wk L i p k' → Semi i p → (∀ x ∈ p.dropLast.map (·.b), x < m + 1) → mget (fwRow m i c k o) i k' ≤ lenW p)
  | 0, k, o, hc, h => ⟨h, fun _ _ => Int.le_refl _, fun k' h1 h2 => by omega⟩
  | c + 1, k, o, hc, h => by
    obtain ⟨a1, a2, a3⟩ := cell_fw hL hB0 hB hfar h hm hi (k := k) (by omega)
    obtain ⟨b1, b2, b3⟩ := row_fw hL hB0 hB hfar hm hi c (k + 1) (fwCell m i k o) (by omega) a1
    refine ⟨b1, fun i' k' => Int.le_trans (b2 i' k') (a2 i' k'), fun k' h1 h2 p hw hs hp => ?_⟩
    by_cases he : k' = k
    · subst he; exact Int.le_trans (b2 _ _) (a3 p hw hs hp)
    · exact b3 k' (by omega) h2 p hw hs hp
theorem step_fw (hL : ∀ l ∈ L, l.a < n ∧ l.b < n) (hB0 : 0 ≤ B) (hB : ∀ l ∈ L, -B ≤ l.m ∧ l.m ≤ B) (hfar : B * (n : Int) < far) {m : Nat} (hm : m < n) : ∀ (c i : Nat) (o : Mx), i + c = n → FW L n o m →
    FW L n (fwStep m n c i o) m ∧ (∀ i' k', mget (fwStep m n c i o) i' k' ≤ mget o i' k') ∧ (∀ i', i ≤ i' → i' < n → ∀ k', k' < n → ∀ p, Wk L i' p k' → Semi i' p → (∀ x ∈ p.dropLast.map (·.b), x < m + 1) → mget (fwStep m n c i o) i' k' ≤ lenW p)
  | 0, i, o, hc, h => ⟨h, fun _ _ => Int.le_refl _, fun i' h1 h2 => by omega⟩
  | c + 1, i, o, hc, h => by
    obtain ⟨a1, a2, a3⟩ := row_fw hL hB0 hB hfar hm (i := i) (by omega) n 0 o (by omega) h
    obtain ⟨b1, b2, b3⟩ := step_fw hL hB0 hB hfar hm c (i + 1) (fwRow m i n 0 o) (by omega) a1
    refine ⟨b1, fun i' k' => Int.le_trans (b2 i' k') (a2 i' k'), fun i' h1 h2 k' h3 p hw hs hp => ?_⟩
    by_cases he : i' = i
    · subst he; exact Int.le_trans (b2 _ _) (a3 k' (Nat.zero_le _) h3 p hw hs hp)
    · exact b3 i' (by omega) h2 k' h3 p hw hs hp
theorem negD_true (o : Mx) : ∀ (c i : Nat), negD o c i = true → ∃ j, i ≤ j ∧ j < i + c ∧ mget o j j < 0
  | 0, i, h => by simp [negD] at h
  | c + 1, i, h => by
    simp only [negD, Bool.or_eq_true, decide_eq_true_eq] at h
    rcases h with h | h
    · exact ⟨i, by omega, by omega, h⟩
    · obtain ⟨j, h1, h2, h3⟩ := negD_true o c (i + 1) h
      exact ⟨j, by omega, by omega, h3⟩
theorem negD_false (o : Mx) : ∀ (c i : Nat), negD o c i = false → ∀ j, i ≤ j → j < i + c → 0 ≤ mget o j j
  | 0, i, h, j, h1, h2 => by omega
  | c + 1, i, h, j, h1, h2 => by
    simp only [negD, Bool.or_eq_false_iff, decide_eq_false_iff_not] at h
    by_cases he : j = i
    · subst he; omega
    · exact negD_false o c (i + 1) h.2 j (by omega) (by omega)
theorem loop_fw (hL : ∀ l ∈ L, l.a < n ∧ l.b < n) (hB0 : 0 ≤ B) (hB : ∀ l ∈ L, -B ≤ l.m ∧ l.m ≤ B) (hfar : B * (n : Int) < far) : ∀ (c m : Nat) (o : Mx), m + c = n → FW L n o m → (c = 0 → ∀ i, i < n → 0 ≤ mget o i i) →
    (∃ o', fwLoop n c m o = some o' ∧ FW L n o' n ∧ ∀ i, i < n → 0 ≤ mget o' i i) ∨ (fwLoop n c m o = none ∧ ¬ NoNeg L)
  | 0, m, o, hc, h, hd => by
    have e : m = n := by omega
    subst e
    exact .inl ⟨o, rfl, h, hd rfl⟩
  | c + 1, m, o, hc, h, hd => by
    obtain ⟨a1, a2, a3⟩ := step_fw hL hB0 hB hfar (m := m) (by omega) n 0 o (by omega) h
    have hf : FW L n (fwStep m n n 0 o) (m + 1) := ⟨a1.len, a1.row, a1.le, a1.real, fun i k p hi hk hw hs hp => a3 i (Nat.zero_le _) hi k hk p hw hs hp⟩
    unfold fwLoop
    by_cases hg : negD (fwStep m n n 0 o) n 0 = true
    · rw [if_pos hg]
      refine .inr ⟨rfl, fun hn => ?_⟩
      obtain ⟨j, h1, h2, h3⟩ := negD_true _ _ _ hg
      obtain ⟨p, p1, p2⟩ := hf.real j j (by omega) (by omega) (by have : (0 : Int) < far := by decide
                                                                  omega)
      have := hn j p p1
      omega
    · rw [if_neg hg]
      have hg' := negD_false _ _ _ (by simpa using hg)
      exact loop_fw hL hB0 hB hfar c (m + 1) _ (by omega) hf (fun _ i hi => hg' i (Nat.zero_le _) (by omega))
theorem fwInit_get {i k : Nat} (hi : i < n) (hk : k < n) : mget (fwInit n) i k = if i ≠ k then far else 0 := by
  unfold mget fwInit
  simp only [List.getD_eq_getElem?_getD, List.getElem?_map, List.getElem?_range hi, Option.map_some, Option.getD_some, List.getElem?_range hk]
theorem fwInit_row {i : Nat} (hi : i < n) : ((fwInit n).getD i []).length = n := by
  unfold fwInit
  simp only [List.getD_eq_getElem?_getD, List.getElem?_map, List.getElem?_range hi, Option.map_some, Option.getD_some, List.length_map, List.length_range]
structure FW0 (L : List Lk) (n : Nat) (P : Lk → Prop) (o : Mx) : Prop where
  len : o.length = n
  row : ∀ i, i < n → (o.getD i []).length = n
  le : ∀ i k, i < n → k < n → mget o i k ≤ far
  real : ∀ i k, i < n → k < n → mget o i k < far → ∃ p, Wk L i p k ∧ lenW p = mget o i k
  zero : ∀ i, i < n → mget o i i ≤ 0
  link : ∀ l, P l → mget o l.a l.b ≤ l.m
theorem links_fw (hL : ∀ l ∈ L, l.a < n ∧ l.b < n) : ∀ (R : List Lk) (P : Lk → Prop) (o : Mx), (∀ l ∈ R, l ∈ L) → FW0 L n P o → FW0 L n (fun l => P l ∨ l ∈ R) (fwLinks R o)
  | [], P, o, _, h => ⟨h.len, h.row, h.le, h.real, h.zero, fun l hl => h.link l (by simpa using hl)⟩
  | x :: R, P, o, hR, h => by
    obtain ⟨ha, hb⟩ := hL x (hR x (by simp))
    have hg := fun i' k' => mget_mset (v := min (mget o x.a x.b) x.m) (i' := i') (k' := k') h.len h.row ha hb
    have hmon : ∀ i' k', mget (fwLink o x) i' k' ≤ mget o i' k' := fun i' k' => by
      unfold fwLink; rw [hg]
      split
      · rename_i e; obtain ⟨rfl, rfl⟩ := e; omega
      · exact Int.le_refl _
    have h1 : FW0 L n (fun l => P l ∨ l = x) (fwLink o x) := by
      refine ⟨by simp [fwLink, mset, h.len], fun j hj => mset_row h.len h.row ha hj, fun a b p q => Int.le_trans (hmon a b) (h.le a b p q), fun a b p q hf => ?_, fun i hi => Int.le_trans (hmon i i) (h.zero i hi), fun l hl => ?_⟩
      · unfold fwLink at hf ⊢
        rw [hg] at hf ⊢
        split
        · rename_i e; obtain ⟨rfl, rfl⟩ := e
          rw [if_pos ⟨rfl, rfl⟩] at hf
          by_cases hle : mget o x.a x.b ≤ x.m
          · rw [show min (mget o x.a x.b) x.m = mget o x.a x.b by omega] at hf ⊢
            exact h.real _ _ p q hf
          · rw [show min (mget o x.a x.b) x.m = x.m by omega]
            exact ⟨[x], ⟨hR x (by simp), rfl, rfl⟩, by simp [lenW]⟩
        · rename_i e
          rw [if_neg e] at hf
          exact h.real _ _ p q hf
      · rcases hl with hl | rfl
        · exact Int.le_trans (hmon _ _) (h.link l hl)
        · unfold fwLink; rw [hg, if_pos ⟨rfl, rfl⟩]; omega
    have h2 := links_fw hL R _ _ (fun l hl => hR l (by simp [hl])) h1
    exact ⟨h2.len, h2.row, h2.le, h2.real, h2.zero, fun l hl => h2.link l (by
      rcases hl with hl | hl
      · exact .inl (.inl hl)
      · rcases List.mem_cons.1 hl with rfl | hl
        · exact .inl (.inr rfl)
        · exact .inr hl)⟩
theorem start_fw (hL : ∀ l ∈ L, l.a < n ∧ l.b < n) : FW L n (fwLinks L (fwInit n)) 0 := by
  have h0 : FW0 L n (fun _ => False) (fwInit n) := by
    refine ⟨by simp [fwInit], fun i hi => fwInit_row hi, fun i k hi hk => ?_, fun i k hi hk hf => ?_, fun i hi => ?_, fun _ h => h.elim⟩
    · rw [fwInit_get hi hk]; split <;> decide
    · rw [fwInit_get hi hk] at hf ⊢
      split at hf
      · exact absurd hf (by decide)
      · rename_i e
        have e' : i = k := by omega
        rw [if_neg e]; exact ⟨[], e', rfl⟩
    · rw [fwInit_get hi hi, if_neg (by simp)]; exact Int.le_refl _
  have h1 := links_fw hL L _ _ (fun _ h => h) h0
  refine ⟨h1.len, h1.row, h1.le, h1.real, fun i k p hi hk hw hs hp => ?_⟩
  match p, hw, hp with
  | [], hw, _ => simp only [Wk] at hw; subst hw; simpa [lenW] using h1.zero i hi
  | [l], hw, _ =>
    obtain ⟨w1, w2, w3⟩ := hw
    simp only [Wk] at w3
    subst w2; subst w3
    simpa [lenW] using h1.link l (.inr w1)
  | l :: x :: r, hw, hp => exact absurd (hp l.b (by simp)) (by omega)
theorem closure_case (hL : ∀ l ∈ L, l.a < n ∧ l.b < n) (hB0 : 0 ≤ B) (hB : ∀ l ∈ L, -B ≤ l.m ∧ l.m ≤ B) (hfar : B * (n : Int) < far) :
    (∃ o, closureF n L = some o ∧ NoNeg L ∧ o.length = n ∧ (∀ i, i < n → (o.getD i []).length = n) ∧ ∀ i, i < n → Dist L n (SrcF n i) far (fun k => mget o i k)) ∨ (closureF n L = none ∧ ¬ NoNeg L) := by
  have h0 := start_fw (n := n) hL
  rcases loop_fw hL hB0 hB hfar n 0 _ (by omega) h0 (fun hz i hi => by omega) with ⟨o, h1, h2, h3⟩ | h
  · have hn : NoNeg L := NoNeg.of_semi fun i p hw hs => by
      by_cases hi : i < n
      · have h4 := h2.low i i p hi hi hw hs (fun x hx => by
          obtain ⟨l, hl, rfl⟩ := List.mem_map.1 hx
          exact (hL l (hw.mem l ((List.dropLast_sublist _).subset hl))).2)
        have := h3 i hi
        omega
      · cases p with
        | nil => simp [lenW]
        | cons l p => have := hL l hw.1; have := hw.2.1; omega
    refine .inl ⟨o, h1, hn, h2.len, h2.row, fun i hi => ⟨fun k hk => h2.le i k hi hk, fun k hk hf => ?_, fun s p k hs hw => ?_⟩⟩
    · obtain ⟨p, p1, p2⟩ := h2.real i k hi hk hf
      exact ⟨i, p, ⟨hi, .inr rfl⟩, p1, p2⟩
    · have hsi : s = i := by have := hs.2; omega
      subst hsi
      obtain ⟨q, q1, q2, q3⟩ := hn.short hw
      have hk : k < n := by
        cases q with
        | nil => simp only [Wk] at q1; omega
        | cons x r =>
          obtain ⟨u, l, e⟩ : ∃ u l, x :: r = u ++ [l] := ⟨(x :: r).dropLast, (x :: r).getLast (by simp), (List.dropLast_concat_getLast _).symm⟩
          rw [e] at q1
          obtain ⟨_, w2, w3⟩ := q1.unsnoc
          rw [← w3]; exact (hL l w2).2
      have := h2.low s k q hi hk q1 q3.semi (fun x hx => by
        obtain ⟨l, hl, rfl⟩ := List.mem_map.1 hx
        exact (hL l (q1.mem l ((List.dropLast_sublist _).subset hl))).2)
      omega
  · exact .inr h
theorem both_ways (hL : ∀ l ∈ L, l.a < n ∧ l.b < n) (hB0 : 0 ≤ B) (hB : ∀ l ∈ L, -B ≤ l.m ∧ l.m ≤ B) (hfar : B * (n : Int) < far) :
    (∃ o, closureF n L = some o ∧ (lengthsF n L (-1)).2.2 < 0 ∧ o.length = n ∧ ∀ i, i < n → (lengthsF n L i).1 = o.getD i []) ∨ (closureF n L = none ∧ ¬ (lengthsF n L (-1)).2.2 < 0) := by
  rcases closure_case hL hB0 hB hfar with ⟨o, h1, h2, h3, h4, h5⟩ | ⟨h1, h2⟩
  · refine .inl ⟨o, h1, (lengths_noNeg hL hB0 hB hfar).2 h2, h3, fun i hi => ?_⟩
    have hd := lengths_dist hL hB0 hB hfar h2 (i : Int)
    have hl := lengths_len hL hB0 hB hfar h2 (i : Int)
    apply List.ext_getElem?
    intro k
    by_cases hk : k < n
    · have h6 := hd.unique (h5 i hi) k hk
      unfold mget at h6
      simp only [List.getD_eq_getElem?_getD] at h6
      have h4' := h4 i hi
      rw [List.getD_eq_getElem?_getD] at h4' ⊢
      rw [List.getElem?_eq_getElem (by omega), List.getElem?_eq_getElem (by omega)] at h6 ⊢
      simpa using h6
    · rw [List.getElem?_eq_none (by omega), List.getElem?_eq_none (by rw [h4 i hi]; omega)]
  · exact .inr ⟨h1, fun h => h2 ((lengths_noNeg hL hB0 hB hfar).1 h)⟩
end
end Go.Proofs.Ks

namespace Go.Proofs.Ks
open Go Go.Pg Go.Proofs
noncomputable def cx : Cx := { P := Try.prog, T := T, eqT := eqT, E := fun _ => True }
instance : Cx.Wide cx := ⟨rfl⟩
theorem cx_ok : cx.OK := ⟨T_ok, eqT_ok, fun _ _ _ _ => trivial⟩
theorem cx_mixed : cx.P.follows .mixedOrders = true := rfl
abbrev ai (n : Int) : AV := .v (.int .i64 n)
abbrev ab (b : Bool) : AV := .v (.bool b)
structure Span where
  lo : Int
  hi : Int
  deriving DecidableEq, Inhabited
structure Stop where
  pos : Int
  secs : Span
  deriving DecidableEq, Inhabited
structure Session where
  id : Int
  inn : Span
  out : Span
  zero : Span
  fin : Span
  rate : Span
  stops : List Stop
  deriving DecidableEq, Inhabited
structure Strike where
  id : Int
  pos : Span
  deriving DecidableEq, Inhabited
structure Sight where
  strike : Int
  seen : Span
  deriving DecidableEq, Inhabited
structure Rec where
  s : Session
  strikes : List Strike
  sights : List Sight
  deriving DecidableEq, Inhabited
structure Node where
  kind : Int
  num : Int
  deriving DecidableEq, Inhabited
structure Leg where
  secs : Int
  rate : Int
  deriving DecidableEq, Inhabited
structure Run where
  start : Int
  micro : Int
  legs : List Leg
  deriving DecidableEq, Inhabited
abbrev eSpan (s : Span) : List AV := [ai s.lo, ai s.hi]
abbrev lSpan (l : List Span) : AV := .lst (l.map eSpan)
abbrev eStop (s : Stop) : List AV := [ai s.pos, ai s.secs.lo, ai s.secs.hi]
abbrev lStop (l : List Stop) : AV := .lst (l.map eStop)
abbrev eSession (s : Session) : List AV := [ai s.id, ai s.inn.lo, ai s.inn.hi, ai s.out.lo, ai s.out.hi, ai s.zero.lo, ai s.zero.hi, ai s.fin.lo, ai s.fin.hi, ai s.rate.lo, ai s.rate.hi, lStop s.stops]
abbrev eStrike (s : Strike) : List AV := [ai s.id, ai s.pos.lo, ai s.pos.hi]
abbrev lStrike (l : List Strike) : AV := .lst (l.map eStrike)
abbrev eSight (s : Sight) : List AV := [ai s.strike, ai s.seen.lo, ai s.seen.hi]
abbrev lSight (l : List Sight) : AV := .lst (l.map eSight)
abbrev eRec (r : Rec) : List AV := [ai r.s.id, ai r.s.inn.lo, ai r.s.inn.hi, ai r.s.out.lo, ai r.s.out.hi, ai r.s.zero.lo, ai r.s.zero.hi, ai r.s.fin.lo, ai r.s.fin.hi, ai r.s.rate.lo, ai r.s.rate.hi, lStop r.s.stops, lStrike r.strikes, lSight r.sights]
abbrev eNode (n : Node) : List AV := [ai n.kind, ai n.num]
abbrev lNode (l : List Node) : AV := .lst (l.map eNode)
abbrev eLink (l : Lk) : List AV := [ai l.a, ai l.b, ai l.m]
abbrev lLink (l : List Lk) : AV := .lst (l.map eLink)
abbrev eInt (n : Int) : List AV := [ai n]
abbrev lInt (l : List Int) : AV := .lst (l.map eInt)
abbrev eLeg (l : Leg) : List AV := [ai l.secs, ai l.rate]
abbrev lLeg (l : List Leg) : AV := .lst (l.map eLeg)
abbrev eRun (r : Run) : List AV := [ai r.start, ai r.micro, lLeg r.legs]
theorem wrapN {n : Int} (h : -9223372036854775808 ≤ n ∧ n < 9223372036854775808) : IntKind.wrap .i64 n = n := by
  have e : IntKind.wrap .i64 n = if n % 18446744073709551616 ≥ 9223372036854775808 then n % 18446744073709551616 - 18446744073709551616 else n % 18446744073709551616 := by
    simp [IntKind.wrap, IntKind.signed, IntKind.bits]
  rw [e]; split <;> omega
theorem tdivN {a b : Int} (h : 0 ≤ a) : a.tdiv b = a / b := Int.tdiv_eq_ediv_of_nonneg h
theorem tmodN {a b : Int} (h : 0 ≤ a) : a.tmod b = a % b := Int.tmod_eq_emod_of_nonneg h
theorem maxN {a b : Int} : (if b > a then b else a) = max a b := by rw [Int.max_def]; split <;> split <;> omega
theorem minN {a b : Int} : (if b < a then b else a) = min a b := by rw [Int.min_def]; split <;> split <;> omega
theorem drop_cons {α β : Type} {l : List α} {k : Nat} {x : α} {rest : List α} (h : l.drop k = x :: rest) (e : α → β) (d : β) :
    ((k : Int) < (l.length : Int)) ∧ (l.map e).getD k d = e x ∧ l.drop (k + 1) = rest ∧ rest.length + k + 1 = l.length ∧ x ∈ l ∧ (l.map e)[k]? = some (e x) := by
  have hlt : k < l.length := by
    rcases Nat.lt_or_ge k l.length with h' | h'
    · exact h'
    · rw [List.drop_eq_nil_of_le h'] at h; cases h
  have h0 : l[k]? = some x := by
    have := congrArg (fun m => m[0]?) h
    simpa using this
  refine ⟨by omega, ?_, ?_, ?_, List.mem_of_getElem? h0, by rw [List.getElem?_map, h0]; rfl⟩
  · rw [List.getD_eq_getElem?_getD, List.getElem?_map, h0]; rfl
  · have : l.drop (k + 1) = (l.drop k).drop 1 := by simp
    rw [this, h]; rfl
  · have := congrArg List.length h
    simp at this; omega
theorem drop_nil {α : Type} {l : List α} {k : Nat} (h : l.drop k = []) : ¬ ((k : Int) < (l.length : Int)) := by
  have := List.drop_eq_nil_iff.1 h
  omega
theorem getD_map {α β : Type} (e : α → β) (l : List α) (k : Nat) (d : β) (d' : α) (h : k < l.length) : (l.map e).getD k d = e (l.getD k d') := by
  rw [List.getD_eq_getElem?_getD, List.getElem?_map, List.getElem?_eq_getElem h, List.getD_eq_getElem?_getD, List.getElem?_eq_getElem h]; rfl
theorem get_map {α β : Type} (e : α → β) (l : List α) (k : Nat) (d' : α) (h : k < l.length) : (l.map e)[k]? = some (e (l.getD k d')) := by
  rw [List.getElem?_map, List.getElem?_eq_getElem h, List.getD_eq_getElem?_getD, List.getElem?_eq_getElem h]; rfl
theorem pure_map {α : Type} {e : α → List AV} (h : ∀ x, pureL (e x) = true) (l : List α) : (l.map e).all pureL = true := by
  rw [List.all_eq_true]
  intro x hx
  obtain ⟨y, _, rfl⟩ := List.mem_map.1 hx
  exact h y
attribute [push_cast] cx T eqT wrapN tdivN tmodN maxN minN
end Go.Proofs.Ks

set_option maxHeartbeats 8000000
set_option linter.unusedSimpArgs false
set_option linter.unusedVariables false
set_option maxRecDepth 10000
namespace Go.Proofs.Ks
open Go Go.Pg Go.Proofs
def inB (x : Span) (lo hi : Int) : Bool := decide (lo ≤ x.lo) && decide (x.lo ≤ x.hi) && decide (x.hi ≤ hi)
theorem inB_iff {x : Span} {lo hi : Int} : inB x lo hi = true ↔ lo ≤ x.lo ∧ x.lo ≤ x.hi ∧ x.hi ≤ hi := by unfold inB; simp [and_assoc]
theorem within_ok (x : Span) (lo hi : Int) : OKv cx 93 [.agg (eSpan x), ai lo, ai hi] (ab (inB x lo hi)) := by
  unfold inB
  refine OKat.of_body (rs := [6]) Try.func93 rfl (by decide +kernel) rfl (by simp [Try.ntmps93]) ?_
  simp only [Try.ntmps93]
  repeat' first
    | apply AW.seq | apply AW.region | apply AW.ret | apply AW.block | apply AW.skip | apply AW.exit | apply AW.scope | apply AW.label | apply AWL.nil
    | ((first | (apply W.step cx_ok; decide) | (apply W.gS; rfl; decide) | apply AW.cond); (simp (disch := omega) only [push_cast, simprocAttr] <;> rfl); all_goals try ((with_reducible intro hI); try first | (cases hI; done) | (simp only [INTS, zL] at hI; try first | (exfalso; omega) | (have hT : True := hI; clear hT hI))))
    | ((first | apply W.ret1 | apply W.end1); (iterate 2 (try (simp (disch := omega) only [push_cast, simprocAttr] <;> rfl))))
  all_goals (show _ = _; first | rfl | (simp [*]; done) | (simp; omega) | (simp_all; omega))
theorem rspan_ok (x : Span) (lo hi : Int) : OKv cx 78 [.agg (eSpan x), ai lo, ai hi] (ab (inB x lo hi)) := by
  unfold inB
  refine OKat.of_body (rs := [6]) Try.func78 rfl (by decide +kernel) rfl (by simp [Try.ntmps78]) ?_
  simp only [Try.ntmps78]
  repeat' first
    | apply AW.seq | apply AW.region | apply AW.ret | apply AW.block | apply AW.skip | apply AW.exit | apply AW.scope | apply AW.label | apply AWL.nil
    | ((first | (apply W.step cx_ok; decide) | (apply W.gS; rfl; decide) | apply AW.cond); (simp (disch := omega) only [push_cast, simprocAttr] <;> rfl); all_goals try ((with_reducible intro hI); try first | (cases hI; done) | (simp only [INTS, zL] at hI; try first | (exfalso; omega) | (have hT : True := hI; clear hT hI))))
    | ((first | apply W.ret1 | apply W.end1); (iterate 2 (try (simp (disch := omega) only [push_cast, simprocAttr] <;> rfl))))
  all_goals (show _ = _; first | rfl | (simp [*]; done) | (simp; omega) | (simp_all; omega))
theorem strikeN_ok (r : Rec) (n : Int) (hl : r.strikes.length ≤ 1099511627776) : OKv cx 80 [.agg (eRec r), ai n] (ab (decide (0 ≤ n) && decide (n < (r.strikes.length : Int)))) := by
  refine OKat.of_body (rs := [4]) Try.func80 rfl (by decide +kernel) rfl (by simp [Try.ntmps80]) ?_
  simp only [Try.ntmps80]
  repeat' first
    | apply AW.seq | apply AW.region | apply AW.ret | apply AW.block | apply AW.skip | apply AW.exit | apply AW.scope | apply AW.label | apply AWL.nil
    | ((first | (apply W.step cx_ok; decide) | (apply W.gS; rfl; decide) | apply AW.cond); (simp (disch := omega) only [push_cast, simprocAttr] <;> rfl); all_goals try ((with_reducible intro hI); try first | (cases hI; done) | (simp only [INTS, zL] at hI; try first | (exfalso; omega) | (have hT : True := hI; clear hT hI))))
    | ((first | apply W.ret1 | apply W.end1); (iterate 2 (try (simp (disch := omega) only [push_cast, simprocAttr] <;> rfl))))
  all_goals (show _ = _; first | rfl | (simp [*]; done) | (simp; omega) | (simp_all; omega))
def smallB (r : Rec) : Bool := decide ((r.s.stops.length : Int) ≤ 12) && decide ((r.strikes.length : Int) ≤ 20) && decide ((r.sights.length : Int) ≤ 20)
theorem small_ok (r : Rec) : OKv cx 19 [.agg (eRec r)] (ab (smallB r)) := by
  unfold smallB
  refine OKat.of_body (rs := [2]) Try.func19 rfl (by decide +kernel) rfl (by simp [Try.ntmps19]) ?_
  simp only [Try.ntmps19]
  repeat' first
    | apply AW.seq | apply AW.region | apply AW.ret | apply AW.block | apply AW.skip | apply AW.exit | apply AW.scope | apply AW.label | apply AWL.nil
    | ((first | (apply W.step cx_ok; decide) | (apply W.gS; rfl; decide) | apply AW.cond); (simp (disch := omega) only [push_cast, simprocAttr] <;> rfl); all_goals try ((with_reducible intro hI); try first | (cases hI; done) | (simp only [INTS, zL] at hI; try first | (exfalso; omega) | (have hT : True := hI; clear hT hI))))
    | ((first | apply W.ret1 | apply W.end1); (iterate 2 (try (simp (disch := omega) only [push_cast, simprocAttr] <;> rfl))))
  all_goals (show _ = _; first | rfl | (simp [*]; done) | (simp; omega) | (simp_all; omega))
end Go.Proofs.Ks

namespace Go.Proofs.Ks
open Go Go.Pg Go.Proofs
def stopsE (fin : Int) : Int → List Stop → Int
  | _, [] => 0
  | b, x :: r => if x.pos ≤ b ∨ fin ≤ x.pos ∨ inB x.secs 0 36000 = false then 1 else stopsE fin x.pos r
def sessB (s : Session) : Bool := decide (1 ≤ s.id) && decide (s.id ≤ 1099511627776) && inB s.inn 0 1073741823 && inB s.out 0 1073741823 && inB s.zero 0 43199 && inB s.fin s.zero.lo 43199 && decide (s.zero.hi ≤ s.fin.hi) && inB s.rate 900000 1100000
def sessE (s : Session) : Int := if 4 < s.stops.length then 2 else if sessB s = true then stopsE s.fin.lo s.zero.hi s.stops else 1
theorem sessB_facts {s : Session} (h : sessB s = true) : 1 ≤ s.id ∧ s.id ≤ 1099511627776 ∧ inB s.inn 0 1073741823 = true ∧ inB s.out 0 1073741823 = true ∧ inB s.zero 0 43199 = true ∧ inB s.fin s.zero.lo 43199 = true ∧ s.zero.hi ≤ s.fin.hi ∧ inB s.rate 900000 1100000 = true := by
  unfold sessB at h; simpa [and_assoc] using h
theorem sessB_of {s : Session} (h1 : 1 ≤ s.id) (h2 : s.id ≤ 1099511627776) (h3 : inB s.inn 0 1073741823 = true) (h4 : inB s.out 0 1073741823 = true) (h5 : inB s.zero 0 43199 = true) (h6 : inB s.fin s.zero.lo 43199 = true) (h7 : s.zero.hi ≤ s.fin.hi) (h8 : inB s.rate 900000 1100000 = true) : sessB s = true := by
  unfold sessB; simp [*]
theorem checkSession_ok (s0 : Session) : OKv cx 92 [.agg (eSession s0)] (ai (sessE s0)) := by
  by_cases h4 : 4 < s0.stops.length
  · have e : sessE s0 = 2 := if_pos h4
    have h4' : (4 : Int) < (s0.stops.length : Int) := by omega
    rw [e]
    refine OKat.of_body (rs := [2]) Try.func92 rfl (by decide +kernel) rfl (by simp [Try.ntmps92]) ?_
    simp only [Try.ntmps92]
    repeat' first
      | apply AW.seq | apply AW.region | apply AW.ret | apply AW.block | apply AW.skip | apply AW.exit | apply AW.scope | apply AW.label | apply AWL.nil
      | ((first | (apply W.step cx_ok; decide) | apply W.store cx_ok | (apply W.gS; rfl; decide) | apply AW.cond); (simp (disch := omega) only [push_cast, simprocAttr, h4'] <;> rfl); all_goals try ((with_reducible intro hI); try first | (cases hI; done) | (simp only [INTS, zL] at hI; try first | (exfalso; omega) | (have hT : True := hI; clear hT hI))))
      | ((first | apply W.ret1 | apply W.end1); (iterate 2 (try (simp (disch := omega) only [push_cast, simprocAttr, h4'] <;> rfl))))
    all_goals (show _ = _; rfl)
  have h4' : ¬ (4 : Int) < (s0.stops.length : Int) := by omega
  by_cases hB : sessB s0 = true
  · obtain ⟨b1, b2, b3, b4, b5, b6, b7, b8⟩ := sessB_facts hB
    obtain ⟨RES, hR⟩ : ∃ x, stopsE s0.fin.lo s0.zero.hi s0.stops = x := ⟨_, rfl⟩
    have e : sessE s0 = RES := by unfold sessE; rw [if_neg h4, if_pos hB, hR]
    rw [e]
    refine OKat.of_body (rs := [2]) Try.func92 rfl (by decide +kernel) rfl (by simp [Try.ntmps92]) ?_
    simp only [Try.ntmps92]
    repeat' first
      | apply AW.seq | apply AW.region | apply AW.ret | apply AW.block | apply AW.skip | apply AW.exit | apply AW.scope | apply AW.label | apply AWL.nil
      | ((first | (apply W.step cx_ok; decide) | apply W.store cx_ok | (apply W.gS; rfl; decide) | apply AW.cond); (simp (disch := omega) only [push_cast, simprocAttr, h4', b1, b2, b3, b4, b5, b6, b7, b8] <;> rfl); all_goals try ((with_reducible intro hI); try first | (cases hI; done) | (simp only [INTS, zL] at hI; try first | (exfalso; omega) | (have hT : True := hI; clear hT hI))))
      | ((apply W.callv cx_ok; decide); (iterate 2 (simp (disch := omega) only [push_cast, simprocAttr, h4', b1, b2, b3, b4, b5, b6, b7, b8] <;> rfl)); (with_reducible first | exact within_ok _ _ _); try first | rfl | (simp (disch := omega) only [push_cast, simprocAttr, h4', b1, b2, b3, b4, b5, b6, b7, b8] <;> rfl))
      | ((first | apply W.ret1 | apply W.end1); (iterate 2 (try (simp (disch := omega) only [push_cast, simprocAttr, h4', b1, b2, b3, b4, b5, b6, b7, b8] <;> rfl))))
    refine AW.loop (fun n s => ∃ (k : Nat) (b : Int) (rest : List Stop), n = rest.length ∧ (s0.stops.drop k = rest) ∧ (stopsE s0.fin.lo b rest = RES) ∧ 1 ≤ s.nx ∧ s.tm 1 = .ptr 0 0 0 1 ∧ s.tm 3 = ai b ∧ s.tm 62 = lStop s0.stops ∧ s.tm 63 = ai s0.stops.length ∧ s.tm 64 = ai k ∧ Pg.rowAt s.H (0) = some ({ k := 12, es := [eSession s0], ty := 26 })) (s0.stops.length) ⟨0, s0.zero.hi, s0.stops, rfl, rfl, hR, ?_, ?_, ?_, ?_, ?_, ?_, ?_⟩ ?_
    iterate 7 (first | (simp (disch := omega) only [push_cast, simprocAttr, h4', b1, b2, b3, b4, b5, b6, b7, b8] <;> first | rfl | omega) | omega)
    rintro n s ⟨k, b, rest, hn, hp0, hp1, hnl, hS⟩
    have hZ : (0 : Nat) ≠ s.nx ∧ s.nx ≠ (0 : Nat) := by omega
    rcases rest with _ | ⟨x, rest⟩
    · have hk := drop_nil hp0
      repeat' first
        | apply AW.seq | apply AW.region | apply AW.ret | apply AW.block | apply AW.skip | apply AW.exit | apply AW.scope | apply AW.label | apply AWL.nil
        | ((first | (apply W.step cx_ok; decide) | apply W.store cx_ok | (apply W.gS; rfl; decide) | apply AW.cond); (simp (disch := omega) only [push_cast, simprocAttr, hS, hZ, hk] <;> rfl); all_goals try ((with_reducible intro hI); try first | (cases hI; done) | (simp only [INTS, zL] at hI; try first | (exfalso; omega) | (have hT : True := hI; clear hT hI))))
        | ((first | apply W.ret1 | apply W.end1); (iterate 2 (try (simp (disch := omega) only [push_cast, simprocAttr, hS, hZ, hk] <;> rfl))))
      all_goals (show _ = _; rw [← hp1]; rfl)
    · obtain ⟨hk, hg, hd', hl', hm, hx⟩ := drop_cons hp0 eStop []
      by_cases hq : x.pos ≤ b ∨ s0.fin.lo ≤ x.pos ∨ inB x.secs 0 36000 = false
      · rw [stopsE, if_pos hq] at hp1
        subst hp1
        repeat' first
          | apply AW.seq | apply AW.region | apply AW.ret | apply AW.block | apply AW.skip | apply AW.exit | apply AW.scope | apply AW.label | apply AWL.nil
          | ((first | (apply W.step cx_ok; decide) | apply W.store cx_ok | (apply W.gS; rfl; decide) | apply AW.cond); (simp (disch := omega) only [push_cast, simprocAttr, hS, hZ, hk, hg, hx] <;> rfl); all_goals try ((with_reducible intro hI); try first | (cases hI; done) | (simp only [INTS, zL] at hI; try first | (exfalso; omega) | (have hT : True := hI; clear hT hI))))
          | ((apply W.callv cx_ok; decide); (iterate 2 (simp (disch := omega) only [push_cast, simprocAttr, hS, hZ, hk, hg, hx] <;> rfl)); (with_reducible first | exact within_ok _ _ _); try first | rfl | (simp (disch := omega) only [push_cast, simprocAttr, hS, hZ, hk, hg, hx] <;> rfl))
          | ((first | apply W.ret1 | apply W.end1); (iterate 2 (try (simp (disch := omega) only [push_cast, simprocAttr, hS, hZ, hk, hg, hx] <;> rfl))))
        all_goals first | (show _ = _; rfl) | (exfalso; rcases hq with hq | hq | hq <;> first | omega | simp_all)
      · rw [stopsE, if_neg hq] at hp1
        have q1 : ¬ x.pos ≤ b := fun h => hq (.inl h)
        have q2 : ¬ s0.fin.lo ≤ x.pos := fun h => hq (.inr (.inl h))
        have q3 : inB x.secs 0 36000 = true := by
          cases h : inB x.secs 0 36000 with
          | true => rfl
          | false => exact absurd (.inr (.inr h)) hq
        repeat' first
          | apply AW.seq | apply AW.region | apply AW.ret | apply AW.block | apply AW.skip | apply AW.exit | apply AW.scope | apply AW.label | apply AWL.nil
          | ((first | (apply W.step cx_ok; decide) | apply W.store cx_ok | (apply W.gS; rfl; decide) | apply AW.cond); (simp (disch := omega) only [push_cast, simprocAttr, hS, hZ, hk, hg, hx, q1, q2, q3] <;> rfl); all_goals try ((with_reducible intro hI); try first | (cases hI; done) | (simp only [INTS, zL] at hI; try first | (exfalso; omega) | (have hT : True := hI; clear hT hI))))
          | ((apply W.callv cx_ok; decide); (iterate 2 (simp (disch := omega) only [push_cast, simprocAttr, hS, hZ, hk, hg, hx, q1, q2, q3] <;> rfl)); (with_reducible first | exact within_ok _ _ _); try first | rfl | (simp (disch := omega) only [push_cast, simprocAttr, hS, hZ, hk, hg, hx, q1, q2, q3] <;> rfl))
          | ((first | apply W.ret1 | apply W.end1); (iterate 2 (try (simp (disch := omega) only [push_cast, simprocAttr, hS, hZ, hk, hg, hx, q1, q2, q3] <;> rfl))))
        all_goals (refine ⟨rest.length, ?_, k + 1, x.pos, rest, rfl, hd', hp1, ?_, ?_, ?_, ?_, ?_, ?_, ?_⟩; ((simp only [List.length_cons] at *; omega)); all_goals first | (simp (disch := omega) only [push_cast, simprocAttr, hS, hZ, hk, hg, hx, q1, q2, q3] <;> first | rfl | omega) | omega)
  · have e : sessE s0 = 1 := by unfold sessE; rw [if_neg h4, if_neg hB]
    rw [e]
    refine OKat.of_body (rs := [2]) Try.func92 rfl (by decide +kernel) rfl (by simp [Try.ntmps92]) ?_
    simp only [Try.ntmps92]
    repeat' first
      | apply AW.seq | apply AW.region | apply AW.ret | apply AW.block | apply AW.skip | apply AW.exit | apply AW.scope | apply AW.label | apply AWL.nil
      | ((first | (apply W.step cx_ok; decide) | apply W.store cx_ok | (apply W.gS; rfl; decide) | apply AW.cond); (simp (disch := omega) only [push_cast, simprocAttr, h4'] <;> rfl); all_goals try ((with_reducible intro hI); try first | (cases hI; done) | (simp only [INTS, zL] at hI; try first | (exfalso; omega) | (have hT : True := hI; clear hT hI))))
      | ((apply W.callv cx_ok; decide); (iterate 2 (simp (disch := omega) only [push_cast, simprocAttr, h4'] <;> rfl)); (with_reducible first | exact within_ok _ _ _); try first | rfl | (simp (disch := omega) only [push_cast, simprocAttr, h4'] <;> rfl))
      | ((first | apply W.ret1 | apply W.end1); (iterate 2 (try (simp (disch := omega) only [push_cast, simprocAttr, h4'] <;> rfl))))
    all_goals first | (show _ = _; rfl) | (exfalso; exact hB (sessB_of (by omega) (by omega) (by assumption) (by assumption) (by assumption) (by assumption) (by omega) (by assumption)))
end Go.Proofs.Ks

namespace Go.Proofs.Ks
open Go Go.Pg Go.Proofs
theorem inB_widen {x : Span} {a b c : Int} (h : inB x a c = true) (hb : b ≤ a) : inB x b c = true := by rw [inB_iff] at h ⊢; omega
theorem session_ok (s0 : Session) : OKv cx 77 [.agg (eSession s0)] (ai (sessE s0)) := by
  by_cases h4 : 4 < s0.stops.length
  · have e : sessE s0 = 2 := if_pos h4
    have h4' : (4 : Int) < (s0.stops.length : Int) := by omega
    rw [e]
    refine OKat.of_body (rs := [2]) Try.func77 rfl (by decide +kernel) rfl (by simp [Try.ntmps77]) ?_
    simp only [Try.ntmps77]
    repeat' first
      | apply AW.seq | apply AW.region | apply AW.ret | apply AW.block | apply AW.skip | apply AW.exit | apply AW.scope | apply AW.label | apply AWL.nil | apply D.nil
      | refine W.draw cx_mixed (by decide +kernel) ?_
      | ((first | (apply W.step cx_ok; decide) | (apply D.step cx_ok; decide; decide) | apply W.store cx_ok | (apply W.gS; rfl; decide) | (apply D.gS; rfl; decide; decide) | apply AW.cond); (simp (disch := omega) only [push_cast, simprocAttr, h4'] <;> rfl); all_goals try ((with_reducible intro hI); try first | (cases hI; done) | (simp only [INTS, zL] at hI; try first | (exfalso; omega) | (have hT : True := hI; clear hT hI))))
      | ((first | (apply W.gU; rfl; decide) | (apply D.gU; rfl; decide; decide)); (simp (disch := omega) only [push_cast, simprocAttr, h4'] <;> rfl))
      | ((first | apply W.ret1 | apply W.end1); (iterate 2 (try (simp (disch := omega) only [push_cast, simprocAttr, h4'] <;> rfl))))
    all_goals (show _ = _; rfl)
  have h4' : ¬ (4 : Int) < (s0.stops.length : Int) := by omega
  by_cases hB : sessB s0 = true
  · obtain ⟨b1, b2, b3, b4, b5, b6, b7, b8⟩ := sessB_facts hB
    have c5 := inB_iff.1 b5
    have c6 := inB_iff.1 b6
    have b9 : inB s0.fin 0 43199 = true := inB_widen b6 (by omega)
    have b10 : s0.zero.lo ≤ s0.fin.lo := c6.1
    have cz1 := c5.1
    have cz2 := c5.2.1
    have cz3 := c5.2.2
    have cf1 := c6.2.1
    have cf2 := c6.2.2
    obtain ⟨RES, hR⟩ : ∃ x, stopsE s0.fin.lo s0.zero.hi s0.stops = x := ⟨_, rfl⟩
    have e : sessE s0 = RES := by unfold sessE; rw [if_neg h4, if_pos hB, hR]
    rw [e]
    refine OKat.of_body (rs := [2]) Try.func77 rfl (by decide +kernel) rfl (by simp [Try.ntmps77]) ?_
    simp only [Try.ntmps77]
    repeat' first
      | apply AW.seq | apply AW.region | apply AW.ret | apply AW.block | apply AW.skip | apply AW.exit | apply AW.scope | apply AW.label | apply AWL.nil | apply D.nil
      | refine W.draw cx_mixed (by decide +kernel) ?_
      | ((first | (apply W.step cx_ok; decide) | (apply D.step cx_ok; decide; decide) | apply W.store cx_ok | (apply W.gS; rfl; decide) | (apply D.gS; rfl; decide; decide) | apply AW.cond); (simp (disch := omega) only [push_cast, simprocAttr, h4', b1, b2, b3, b4, b5, b6, b7, b8, b9, b10] <;> rfl); all_goals try ((with_reducible intro hI); try first | (cases hI; done) | (simp only [INTS, zL] at hI; try first | (exfalso; omega) | (have hT : True := hI; clear hT hI))))
      | ((first | (apply W.gU; rfl; decide) | (apply D.gU; rfl; decide; decide)); (simp (disch := omega) only [push_cast, simprocAttr, h4', b1, b2, b3, b4, b5, b6, b7, b8, b9, b10] <;> rfl))
      | ((first | (apply W.callv cx_ok; decide) | (apply D.callv cx_ok; decide; decide)); (iterate 2 (simp (disch := omega) only [push_cast, simprocAttr, h4', b1, b2, b3, b4, b5, b6, b7, b8, b9, b10] <;> rfl)); (with_reducible first | exact rspan_ok _ _ _); try first | rfl | (simp (disch := omega) only [push_cast, simprocAttr, h4', b1, b2, b3, b4, b5, b6, b7, b8, b9, b10] <;> rfl))
      | ((first | apply W.ret1 | apply W.end1); (iterate 2 (try (simp (disch := omega) only [push_cast, simprocAttr, h4', b1, b2, b3, b4, b5, b6, b7, b8, b9, b10] <;> rfl))))
    refine AW.loop (fun n s => ∃ (k : Nat) (b : Int) (rest : List Stop), n = rest.length ∧ (s0.stops.drop k = rest) ∧ (stopsE s0.fin.lo b rest = RES) ∧ (s0.zero.hi ≤ b) ∧ ((k = 0 ∧ b = s0.zero.hi) ∨ (0 < k ∧ (s0.stops.getD (k - 1) default).pos = b)) ∧ 1 ≤ s.nx ∧ s.tm 1 = .ptr 0 0 0 1 ∧ s.tm 3 = ai k ∧ Pg.rowAt s.H (0) = some ({ k := 12, es := [eSession s0], ty := 26 })) (s0.stops.length) ⟨0, s0.zero.hi, s0.stops, rfl, rfl, hR, (Int.le_refl _), (.inl ⟨rfl, rfl⟩), ?_, ?_, ?_, ?_⟩ ?_
    iterate 4 (first | (simp (disch := omega) only [push_cast, simprocAttr, h4', b1, b2, b3, b4, b5, b6, b7, b8] <;> first | rfl | omega) | omega)
    rintro n s ⟨k, b, rest, hn, hp0, hp1, hp2, hp3, hnl, hS⟩
    have hZ : (0 : Nat) ≠ s.nx ∧ s.nx ≠ (0 : Nat) := by omega
    rcases rest with _ | ⟨x, rest⟩
    · have hk := drop_nil hp0
      repeat' first
        | apply AW.seq | apply AW.region | apply AW.ret | apply AW.block | apply AW.skip | apply AW.exit | apply AW.scope | apply AW.label | apply AWL.nil | apply D.nil
        | refine W.draw cx_mixed (by decide +kernel) ?_
        | ((first | (apply W.step cx_ok; decide) | (apply D.step cx_ok; decide; decide) | apply W.store cx_ok | (apply W.gS; rfl; decide) | (apply D.gS; rfl; decide; decide) | apply AW.cond); (simp (disch := omega) only [push_cast, simprocAttr, hS, hZ, hk] <;> rfl); all_goals try ((with_reducible intro hI); try first | (cases hI; done) | (simp only [INTS, zL] at hI; try first | (exfalso; omega) | (have hT : True := hI; clear hT hI))))
        | ((first | (apply W.gU; rfl; decide) | (apply D.gU; rfl; decide; decide)); (simp (disch := omega) only [push_cast, simprocAttr, hS, hZ, hk] <;> rfl))
        | ((first | apply W.ret1 | apply W.end1); (iterate 2 (try (simp (disch := omega) only [push_cast, simprocAttr, hS, hZ, hk] <;> rfl))))
      all_goals (show _ = _; rw [← hp1]; rfl)
    · obtain ⟨hk, hg, hd', hl', hm, hx⟩ := drop_cons hp0 eStop []
      have hxk : s0.stops.getD k default = x := by
        have h1 := getD_map eStop s0.stops k [] default (by omega)
        have h2 : s0.stops[k]? = some x := by
          have := congrArg (fun m => m[0]?) hp0
          simpa using this
        rw [List.getD_eq_getElem?_getD, h2]; rfl
      have q0 : ∀ z : Int, z ≤ b → z ≤ s0.zero.hi ∨ b = b := fun _ _ => .inr rfl
      by_cases hk0 : 0 < k
      · have hb2 : (s0.stops.getD (k - 1) default).pos = b := by
          rcases hp3 with h | h
          · omega
          · exact h.2
        have z1 : (0 : Int) < (k : Int) := by omega
        have z2 : max ((k : Int) - 1) 0 = (k : Int) - 1 := by omega
        have z3 : (0 : Int) ≤ (k : Int) - 1 := by omega
        have z4 : (k : Int) - 1 < (s0.stops.length : Int) := by omega
        have z5 : ((k : Int) - 1).toNat = k - 1 := by omega
        have z6 : k - 1 < s0.stops.length := by omega
        have z7 := getD_map eStop s0.stops (k - 1) [] default z6
        have z8 := get_map eStop s0.stops (k - 1) default z6
        generalize s0.stops.getD (k - 1) default = y at z7 z8 hb2
        subst hb2
        by_cases hq : x.pos ≤ y.pos ∨ s0.fin.lo ≤ x.pos ∨ inB x.secs 0 36000 = false
        · rw [stopsE, if_pos hq] at hp1
          subst hp1
          repeat' first
            | apply AW.seq | apply AW.region | apply AW.ret | apply AW.block | apply AW.skip | apply AW.exit | apply AW.scope | apply AW.label | apply AWL.nil | apply D.nil
            | refine W.draw cx_mixed (by decide +kernel) ?_
            | ((first | (apply W.step cx_ok; decide) | (apply D.step cx_ok; decide; decide) | apply W.store cx_ok | (apply W.gS; rfl; decide) | (apply D.gS; rfl; decide; decide) | apply AW.cond); (simp (disch := omega) only [push_cast, simprocAttr, hS, hZ, hk, hg, hx, z1, z2, z3, z4, z5, z6, z7, z8] <;> rfl); all_goals try ((with_reducible intro hI); try first | (cases hI; done) | (simp only [INTS, zL] at hI; try first | (exfalso; omega) | (have hT : True := hI; clear hT hI))))
            | ((first | (apply W.gU; rfl; decide) | (apply D.gU; rfl; decide; decide)); (simp (disch := omega) only [push_cast, simprocAttr, hS, hZ, hk, hg, hx, z1, z2, z3, z4, z5, z6, z7, z8] <;> rfl))
            | ((first | (apply W.callv cx_ok; decide) | (apply D.callv cx_ok; decide; decide)); (iterate 2 (simp (disch := omega) only [push_cast, simprocAttr, hS, hZ, hk, hg, hx, z1, z2, z3, z4, z5, z6, z7, z8] <;> rfl)); (with_reducible first | exact rspan_ok _ _ _); try first | rfl | (simp (disch := omega) only [push_cast, simprocAttr, hS, hZ, hk, hg, hx, z1, z2, z3, z4, z5, z6, z7, z8] <;> rfl))
            | ((first | apply W.ret1 | apply W.end1); (iterate 2 (try (simp (disch := omega) only [push_cast, simprocAttr, hS, hZ, hk, hg, hx, z1, z2, z3, z4, z5, z6, z7, z8] <;> rfl))))
          all_goals first | (show _ = _; rfl) | (exfalso; rcases hq with hq | hq | hq <;> first | omega | simp_all)
        · rw [stopsE, if_neg hq] at hp1
          have q1 : ¬ x.pos ≤ y.pos := fun h => hq (.inl h)
          have q2 : ¬ s0.fin.lo ≤ x.pos := fun h => hq (.inr (.inl h))
          have q4 : ¬ x.pos < s0.zero.hi + 1 := by omega
          have q5 : ¬ s0.fin.lo - 1 < x.pos := by omega
          have q3 : inB x.secs 0 36000 = true := by
            cases h : inB x.secs 0 36000 with
            | true => rfl
            | false => exact absurd (.inr (.inr h)) hq
          repeat' first
            | apply AW.seq | apply AW.region | apply AW.ret | apply AW.block | apply AW.skip | apply AW.exit | apply AW.scope | apply AW.label | apply AWL.nil | apply D.nil
            | refine W.draw cx_mixed (by decide +kernel) ?_
            | ((first | (apply W.step cx_ok; decide) | (apply D.step cx_ok; decide; decide) | apply W.store cx_ok | (apply W.gS; rfl; decide) | (apply D.gS; rfl; decide; decide) | apply AW.cond); (simp (disch := omega) only [push_cast, simprocAttr, hS, hZ, hk, hg, hx, q1, q2, q3, q4, q5, z1, z2, z3, z4, z5, z6, z7, z8] <;> rfl); all_goals try ((with_reducible intro hI); try first | (cases hI; done) | (simp only [INTS, zL] at hI; try first | (exfalso; omega) | (have hT : True := hI; clear hT hI))))
            | ((first | (apply W.gU; rfl; decide) | (apply D.gU; rfl; decide; decide)); (simp (disch := omega) only [push_cast, simprocAttr, hS, hZ, hk, hg, hx, q1, q2, q3, q4, q5, z1, z2, z3, z4, z5, z6, z7, z8] <;> rfl))
            | ((first | (apply W.callv cx_ok; decide) | (apply D.callv cx_ok; decide; decide)); (iterate 2 (simp (disch := omega) only [push_cast, simprocAttr, hS, hZ, hk, hg, hx, q1, q2, q3, q4, q5, z1, z2, z3, z4, z5, z6, z7, z8] <;> rfl)); (with_reducible first | exact rspan_ok _ _ _); try first | rfl | (simp (disch := omega) only [push_cast, simprocAttr, hS, hZ, hk, hg, hx, q1, q2, q3, q4, q5, z1, z2, z3, z4, z5, z6, z7, z8] <;> rfl))
            | ((first | apply W.ret1 | apply W.end1); (iterate 2 (try (simp (disch := omega) only [push_cast, simprocAttr, hS, hZ, hk, hg, hx, q1, q2, q3, q4, q5, z1, z2, z3, z4, z5, z6, z7, z8] <;> rfl))))
          all_goals (refine ⟨rest.length, ?_, k + 1, x.pos, rest, rfl, hd', hp1, (by omega), (.inr ⟨Nat.succ_pos _, by rw [Nat.add_sub_cancel, hxk]⟩), ?_, ?_, ?_, ?_⟩; ((simp only [List.length_cons] at *; omega)); all_goals first | (simp (disch := omega) only [push_cast, simprocAttr, hS, hZ, hk, hg, hx, q1, q2, q3] <;> first | rfl | omega) | omega)
      · have z1 : ((0 : Int) < (k : Int)) = False := eq_false (by omega)
        have hb2 : b = s0.zero.hi := by
          rcases hp3 with h | h
          · exact h.2
          · omega
        by_cases hq : x.pos ≤ b ∨ s0.fin.lo ≤ x.pos ∨ inB x.secs 0 36000 = false
        · rw [stopsE, if_pos hq] at hp1
          subst hp1
          repeat' first
            | apply AW.seq | apply AW.region | apply AW.ret | apply AW.block | apply AW.skip | apply AW.exit | apply AW.scope | apply AW.label | apply AWL.nil | apply D.nil
            | refine W.draw cx_mixed (by decide +kernel) ?_
            | ((first | (apply W.step cx_ok; decide) | (apply D.step cx_ok; decide; decide) | apply W.store cx_ok | (apply W.gS; rfl; decide) | (apply D.gS; rfl; decide; decide) | apply AW.cond); (simp (disch := omega) only [push_cast, simprocAttr, hS, hZ, hk, hg, hx, z1] <;> rfl); all_goals try ((with_reducible intro hI); try first | (cases hI; done) | (simp only [INTS, zL] at hI; try first | (exfalso; omega) | (have hT : True := hI; clear hT hI))))
            | ((first | (apply W.gU; rfl; decide) | (apply D.gU; rfl; decide; decide)); (simp (disch := omega) only [push_cast, simprocAttr, hS, hZ, hk, hg, hx, z1] <;> rfl))
            | ((first | (apply W.callv cx_ok; decide) | (apply D.callv cx_ok; decide; decide)); (iterate 2 (simp (disch := omega) only [push_cast, simprocAttr, hS, hZ, hk, hg, hx, z1] <;> rfl)); (with_reducible first | exact rspan_ok _ _ _); try first | rfl | (simp (disch := omega) only [push_cast, simprocAttr, hS, hZ, hk, hg, hx, z1] <;> rfl))
            | ((first | apply W.ret1 | apply W.end1); (iterate 2 (try (simp (disch := omega) only [push_cast, simprocAttr, hS, hZ, hk, hg, hx, z1] <;> rfl))))
          all_goals first | (show _ = _; rfl) | (exfalso; rcases hq with hq | hq | hq <;> first | omega | simp_all)
        · rw [stopsE, if_neg hq] at hp1
          have q2 : ¬ s0.fin.lo ≤ x.pos := fun h => hq (.inr (.inl h))
          have q1 : ¬ x.pos ≤ b := fun h => hq (.inl h)
          have q4 : ¬ x.pos < s0.zero.hi + 1 := by omega
          have q5 : ¬ s0.fin.lo - 1 < x.pos := by omega
          have q3 : inB x.secs 0 36000 = true := by
            cases h : inB x.secs 0 36000 with
            | true => rfl
            | false => exact absurd (.inr (.inr h)) hq
          repeat' first
            | apply AW.seq | apply AW.region | apply AW.ret | apply AW.block | apply AW.skip | apply AW.exit | apply AW.scope | apply AW.label | apply AWL.nil | apply D.nil
            | refine W.draw cx_mixed (by decide +kernel) ?_
            | ((first | (apply W.step cx_ok; decide) | (apply D.step cx_ok; decide; decide) | apply W.store cx_ok | (apply W.gS; rfl; decide) | (apply D.gS; rfl; decide; decide) | apply AW.cond); (simp (disch := omega) only [push_cast, simprocAttr, hS, hZ, hk, hg, hx, q1, q2, q3, q4, q5, z1] <;> rfl); all_goals try ((with_reducible intro hI); try first | (cases hI; done) | (simp only [INTS, zL] at hI; try first | (exfalso; omega) | (have hT : True := hI; clear hT hI))))
            | ((first | (apply W.gU; rfl; decide) | (apply D.gU; rfl; decide; decide)); (simp (disch := omega) only [push_cast, simprocAttr, hS, hZ, hk, hg, hx, q1, q2, q3, q4, q5, z1] <;> rfl))
            | ((first | (apply W.callv cx_ok; decide) | (apply D.callv cx_ok; decide; decide)); (iterate 2 (simp (disch := omega) only [push_cast, simprocAttr, hS, hZ, hk, hg, hx, q1, q2, q3, q4, q5, z1] <;> rfl)); (with_reducible first | exact rspan_ok _ _ _); try first | rfl | (simp (disch := omega) only [push_cast, simprocAttr, hS, hZ, hk, hg, hx, q1, q2, q3, q4, q5, z1] <;> rfl))
            | ((first | apply W.ret1 | apply W.end1); (iterate 2 (try (simp (disch := omega) only [push_cast, simprocAttr, hS, hZ, hk, hg, hx, q1, q2, q3, q4, q5, z1] <;> rfl))))
          all_goals (refine ⟨rest.length, ?_, k + 1, x.pos, rest, rfl, hd', hp1, (by omega), (.inr ⟨Nat.succ_pos _, by rw [Nat.add_sub_cancel, hxk]⟩), ?_, ?_, ?_, ?_⟩; ((simp only [List.length_cons] at *; omega)); all_goals first | (simp (disch := omega) only [push_cast, simprocAttr, hS, hZ, hk, hg, hx, q1, q2, q3] <;> first | rfl | omega) | omega)
  · have e : sessE s0 = 1 := by unfold sessE; rw [if_neg h4, if_neg hB]
    rw [e]
    refine OKat.of_body (rs := [2]) Try.func77 rfl (by decide +kernel) rfl (by simp [Try.ntmps77]) ?_
    simp only [Try.ntmps77]
    repeat' first
      | apply AW.seq | apply AW.region | apply AW.ret | apply AW.block | apply AW.skip | apply AW.exit | apply AW.scope | apply AW.label | apply AWL.nil | apply D.nil
      | refine W.draw cx_mixed (by decide +kernel) ?_
      | ((first | (apply W.step cx_ok; decide) | (apply D.step cx_ok; decide; decide) | apply W.store cx_ok | (apply W.gS; rfl; decide) | (apply D.gS; rfl; decide; decide) | apply AW.cond); (simp (disch := omega) only [push_cast, simprocAttr, h4'] <;> rfl); all_goals try ((with_reducible intro hI); try first | (cases hI; done) | (simp only [INTS, zL] at hI; try first | (exfalso; omega) | (have hT : True := hI; clear hT hI))))
      | ((first | (apply W.gU; rfl; decide) | (apply D.gU; rfl; decide; decide)); (simp (disch := omega) only [push_cast, simprocAttr, h4'] <;> rfl))
      | ((first | (apply W.callv cx_ok; decide) | (apply D.callv cx_ok; decide; decide)); (iterate 2 (simp (disch := omega) only [push_cast, simprocAttr, h4'] <;> rfl)); (with_reducible first | exact rspan_ok _ _ _); try first | rfl | (simp (disch := omega) only [push_cast, simprocAttr, h4'] <;> rfl))
      | ((first | apply W.ret1 | apply W.end1); (iterate 2 (try (simp (disch := omega) only [push_cast, simprocAttr, h4'] <;> rfl))))
    all_goals first
      | (show _ = _; rfl)
      | (exfalso
         apply hB
         have c1 : inB s0.zero 0 43199 = true := by assumption
         have c2 : inB s0.fin 0 43199 = true := by assumption
         have c3 : inB s0.fin s0.zero.lo 43199 = true := by rw [inB_iff] at c1 c2 ⊢; omega
         exact sessB_of (by omega) (by omega) (by assumption) (by assumption) c1 c3 (by omega) (by assumption))
end Go.Proofs.Ks

namespace Go.Proofs.Ks
open Go Go.Pg Go.Proofs
def strikeI (n : Int) : Nat → List Strike → Int
  | _, [] => -1
  | k, x :: r => if x.id = n then (k : Int) else strikeI n (k + 1) r
theorem rstrike_ok (l : List Strike) (n0 : Int) (hl : l.length ≤ 1099511627776) : OKv cx 79 [lStrike l, ai n0] (ai (strikeI n0 0 l)) := by
  obtain ⟨RES, hR⟩ : ∃ x, strikeI n0 0 l = x := ⟨_, rfl⟩
  rw [hR]
  refine OKat.of_body (rs := [4]) Try.func79 rfl (by decide +kernel) rfl (by simp [Try.ntmps79]) ?_
  simp only [Try.ntmps79]
  repeat' first
    | apply AW.seq | apply AW.region | apply AW.ret | apply AW.block | apply AW.skip | apply AW.exit | apply AW.scope | apply AW.label | apply AWL.nil
    | ((first | (apply W.step cx_ok; decide) | apply AW.cond); (simp (disch := omega) only [push_cast, simprocAttr] <;> rfl); all_goals try ((with_reducible intro hI); try first | (cases hI; done) | (simp only [INTS, zL] at hI; try first | (exfalso; omega) | (have hT : True := hI; clear hT hI))))
    | ((first | apply W.ret1 | apply W.end1); (iterate 2 (try (simp (disch := omega) only [push_cast, simprocAttr] <;> rfl))))
  refine AW.loop (fun n s => ∃ (k : Nat) (rest : List Strike), n = rest.length ∧ (l.drop k = rest) ∧ (strikeI n0 k rest = RES) ∧ s.tm 0 = lStrike l ∧ s.tm 1 = ai n0 ∧ s.tm 5 = ai k) (l.length) ⟨0, l, rfl, rfl, hR, ?_, ?_, ?_⟩ ?_
  iterate 3 (first | (simp (disch := omega) only [push_cast, simprocAttr] <;> first | rfl | omega) | omega)
  rintro n s ⟨k, rest, hn, hp0, hp1, hS⟩
  rcases rest with _ | ⟨x, rest⟩
  · have hk := drop_nil hp0
    repeat' first
      | apply AW.seq | apply AW.region | apply AW.ret | apply AW.block | apply AW.skip | apply AW.exit | apply AW.scope | apply AW.label | apply AWL.nil
      | ((first | (apply W.step cx_ok; decide) | apply AW.cond); (simp (disch := omega) only [push_cast, simprocAttr, hS, hk] <;> rfl); all_goals try ((with_reducible intro hI); try first | (cases hI; done) | (simp only [INTS, zL] at hI; try first | (exfalso; omega) | (have hT : True := hI; clear hT hI))))
      | ((first | apply W.ret1 | apply W.end1); (iterate 2 (try (simp (disch := omega) only [push_cast, simprocAttr, hS, hk] <;> rfl))))
    all_goals (show _ = _; rw [← hp1]; rfl)
  · obtain ⟨hk, hg, hd', hl', hm, hx⟩ := drop_cons hp0 eStrike []
    by_cases hq : x.id = n0
    · rw [strikeI, if_pos hq] at hp1
      have hqT : (x.id = n0) = True := eq_true hq
      repeat' first
        | apply AW.seq | apply AW.region | apply AW.ret | apply AW.block | apply AW.skip | apply AW.exit | apply AW.scope | apply AW.label | apply AWL.nil
        | ((first | (apply W.step cx_ok; decide) | apply AW.cond); (simp (disch := omega) only [push_cast, simprocAttr, hS, hk, hg, hx, hqT] <;> rfl); all_goals try ((with_reducible intro hI); try first | (cases hI; done) | (simp only [INTS, zL] at hI; try first | (exfalso; omega) | (have hT : True := hI; clear hT hI))))
        | ((first | apply W.ret1 | apply W.end1); (iterate 2 (try (simp (disch := omega) only [push_cast, simprocAttr, hS, hk, hg, hx, hqT] <;> rfl))))
      all_goals (show _ = _; rw [← hp1])
    · rw [strikeI, if_neg hq] at hp1
      have hqF : (x.id = n0) = False := eq_false hq
      repeat' first
        | apply AW.seq | apply AW.region | apply AW.ret | apply AW.block | apply AW.skip | apply AW.exit | apply AW.scope | apply AW.label | apply AWL.nil
        | ((first | (apply W.step cx_ok; decide) | apply AW.cond); (simp (disch := omega) only [push_cast, simprocAttr, hS, hk, hg, hx, hqF] <;> rfl); all_goals try ((with_reducible intro hI); try first | (cases hI; done) | (simp only [INTS, zL] at hI; try first | (exfalso; omega) | (have hT : True := hI; clear hT hI))))
        | ((first | apply W.ret1 | apply W.end1); (iterate 2 (try (simp (disch := omega) only [push_cast, simprocAttr, hS, hk, hg, hx, hqF] <;> rfl))))
      all_goals (refine ⟨rest.length, ?_, k + 1, rest, rfl, hd', hp1, ?_, ?_, ?_⟩; ((simp only [List.length_cons] at *; omega)); all_goals first | (simp (disch := omega) only [push_cast, simprocAttr, hS, hk, hg, hx, hqF] <;> first | rfl | omega) | omega)
def strikeB (lo hi : Int) (x : Strike) : Bool := decide (1 ≤ x.id) && decide (x.id ≤ 1099511627776) && inB x.pos lo hi
def strikesE (lo hi : Int) : List Int → List Strike → Int
  | _, [] => 0
  | seen, x :: r => if strikeB lo hi x = true then (if x.id ∈ seen then 6 else strikesE lo hi (seen ++ [x.id]) r) else 1
def sightsE (ids : List Int) : List Sight → Int
  | [] => 0
  | x :: r => if inB x.seen 0 1073741823 = true then (if x.strike ∈ ids then sightsE ids r else 5) else 1
def idsOf (r : Rec) : List Int := r.strikes.map (·.id)
def checkE (r : Rec) : Int :=
  if sessE r.s ≠ 0 then sessE r.s else if 12 < r.strikes.length ∨ 12 < r.sights.length then 2 else
  if strikesE r.s.zero.lo r.s.fin.hi [] r.strikes ≠ 0 then strikesE r.s.zero.lo r.s.fin.hi [] r.strikes else sightsE (idsOf r) r.sights
def seenM (ids : List Int) : List (Key × AV) := ids.map fun i => (Key.int i, ab true)
theorem seen_find (n : Int) : ∀ ids : List Int, findM (.int n) (seenM ids) = if n ∈ ids then some (ab true) else none
  | [] => rfl
  | x :: ids => by
    have ih := seen_find n ids
    unfold seenM at ih ⊢
    simp only [List.map_cons, findM, Key.same, beq_iff_eq, List.mem_cons, ih]
    by_cases h : n = x <;> simp [h]
theorem seen_look (n : Int) (ids : List Int) : pickM (.v (.bool false)) false (findM (.int n) (seenM ids)) = ab (decide (n ∈ ids)) := by
  rw [seen_find]
  by_cases h : n ∈ ids <;> simp [h, pickM]
theorem seen_put (n : Int) : ∀ ids : List Int, ¬ n ∈ ids → putM (.int n) (.v (.bool true)) (seenM ids) = seenM (ids ++ [n])
  | [], _ => rfl
  | x :: ids, h => by
    have ih := seen_put n ids (fun hh => h (List.mem_cons_of_mem _ hh))
    have hne : n ≠ x := fun e => h (by rw [e]; exact List.mem_cons_self)
    have hx : (n == x) = false := by simpa using hne
    unfold seenM at ih ⊢
    simp only [List.map_cons, putM, Key.same, hx, Bool.false_eq_true, if_false, List.cons_append, ih]
theorem strikesE_ids (lo hi : Int) : ∀ (l : List Strike) (seen : List Int), strikesE lo hi seen l = 0 → (∀ x ∈ l, strikeB lo hi x = true) ∧ (seen ++ l.map (·.id)).Nodup ∨ ¬ seen.Nodup
  | [], seen, _ => by
    by_cases h : seen.Nodup
    · exact .inl ⟨fun x hx => by simp at hx, by simpa using h⟩
    · exact .inr h
  | x :: l, seen, h => by
    unfold strikesE at h
    split at h
    · rename_i hb
      split at h
      · exact absurd h (by decide)
      · rename_i hn
        by_cases hs : seen.Nodup
        · have hs' : (seen ++ [x.id]).Nodup := List.nodup_append.2 ⟨hs, by simp, fun a ha b hb e => by simp at hb; subst hb; subst e; exact hn ha⟩
          rcases strikesE_ids lo hi l _ h with ⟨h1, h2⟩ | h1
          · refine .inl ⟨fun y hy => ?_, by simpa using h2⟩
            rcases List.mem_cons.1 hy with rfl | hy
            · exact hb
            · exact h1 y hy
          · exact absurd hs' h1
        · exact .inr hs
    · exact absurd h (by decide)
end Go.Proofs.Ks

namespace Go.Proofs.Ks
open Go Go.Pg Go.Proofs
theorem take_ids {l : List Strike} {k : Nat} {x : Strike} {rest : List Strike} (h : l.drop k = x :: rest) : (l.take k).map (·.id) ++ [x.id] = (l.take (k + 1)).map (·.id) := by
  have h2 : l[k]? = some x := by
    have := congrArg (fun m => m[0]?) h
    simpa using this
  rw [List.take_add_one, h2]; simp
theorem Check_ok (r0 : Rec) : OKv cx 33 [.agg (eRec r0)] (ai (checkE r0)) := by
  by_cases hs : sessE r0.s = 0
  · have hs0 : (sessE r0.s = 0) = True := eq_true hs
    by_cases h12 : 12 < r0.strikes.length ∨ 12 < r0.sights.length
    · have e : checkE r0 = 2 := by unfold checkE; rw [if_neg (by simp [hs]), if_pos h12]
      rw [e]
      refine OKat.of_body (rs := [2]) Try.func33 rfl (by decide +kernel) rfl (by simp [Try.ntmps33]) ?_
      simp only [Try.ntmps33]
      repeat' first
        | apply AW.seq | apply AW.region | apply AW.ret | apply AW.block | apply AW.skip | apply AW.exit | apply AW.scope | apply AW.label | apply AWL.nil
        | ((first | (apply W.step cx_ok; decide) | apply W.store cx_ok | (apply W.gS; rfl; decide) | apply AW.cond | apply W.mapUpdate cx_ok); (simp (disch := omega) only [push_cast, simprocAttr, hs] <;> rfl); all_goals try ((with_reducible intro hI); try first | (cases hI; done) | (simp only [INTS, zL] at hI; try first | (exfalso; omega) | (have hT : True := hI; clear hT hI))))
        | (refine W.makeMap cx_ok (by simp only [push_cast, simprocAttr] <;> rfl) (by decide) ?_)
        | ((apply W.callv cx_ok; decide); (iterate 2 (simp (disch := omega) only [push_cast, simprocAttr, hs] <;> rfl)); (with_reducible first | exact checkSession_ok r0.s); try first | rfl | (simp (disch := omega) only [push_cast, simprocAttr, hs] <;> rfl))
        | ((first | apply W.ret1 | apply W.end1); (iterate 2 (try (simp (disch := omega) only [push_cast, simprocAttr, hs] <;> rfl))))
      all_goals first | (show _ = _; rfl) | (exfalso; omega)
    · have h12a : ¬ (12 : Int) < (r0.strikes.length : Int) := by omega
      have h12b : ¬ (12 : Int) < (r0.sights.length : Int) := by omega
      obtain ⟨E1, hE1⟩ : ∃ x, strikesE r0.s.zero.lo r0.s.fin.hi [] r0.strikes = x := ⟨_, rfl⟩
      obtain ⟨E2, hE2⟩ : ∃ x, sightsE (idsOf r0) r0.sights = x := ⟨_, rfl⟩
      have e : checkE r0 = if E1 ≠ 0 then E1 else E2 := by unfold checkE; rw [if_neg (by simp [hs]), if_neg h12, hE1, hE2]
      rw [e]
      refine OKat.of_body (rs := [2]) Try.func33 rfl (by decide +kernel) rfl (by simp [Try.ntmps33]) ?_
      simp only [Try.ntmps33]
      repeat' first
        | apply AW.seq | apply AW.region | apply AW.ret | apply AW.block | apply AW.skip | apply AW.exit | apply AW.scope | apply AW.label | apply AWL.nil
        | ((first | (apply W.step cx_ok; decide) | apply W.store cx_ok | (apply W.gS; rfl; decide) | apply AW.cond | apply W.mapUpdate cx_ok); (simp (disch := omega) only [push_cast, simprocAttr, hs, h12a, h12b] <;> rfl); all_goals try ((with_reducible intro hI); try first | (cases hI; done) | (simp only [INTS, zL] at hI; try first | (exfalso; omega) | (have hT : True := hI; clear hT hI))))
        | (refine W.makeMap cx_ok (by simp only [push_cast, simprocAttr] <;> rfl) (by decide) ?_)
        | ((apply W.callv cx_ok; decide); (iterate 2 (simp (disch := omega) only [push_cast, simprocAttr, hs, h12a, h12b] <;> rfl)); (with_reducible first | exact checkSession_ok r0.s); try first | rfl | (simp (disch := omega) only [push_cast, simprocAttr, hs, h12a, h12b] <;> rfl))
        | ((first | apply W.ret1 | apply W.end1); (iterate 2 (try (simp (disch := omega) only [push_cast, simprocAttr, hs, h12a, h12b] <;> rfl))))
      refine AW.loop (fun n s => ∃ (k : Nat) (rest : List Strike), n = rest.length ∧ (r0.strikes.drop k = rest) ∧ (strikesE r0.s.zero.lo r0.s.fin.hi ((r0.strikes.take k).map (·.id)) rest = E1) ∧ 2 ≤ s.nx ∧ s.tm 1 = .ptr 0 0 0 1 ∧ s.tm 4 = .map 1 ∧ s.tm 27 = lStrike r0.strikes ∧ s.tm 28 = ai r0.strikes.length ∧ s.tm 29 = ai k ∧ Pg.rowAt s.H (0) = some ({ k := 14, es := [eRec r0], ty := 30 }) ∧ s.H (1) = some (.mp (.map .int) 0 (seenM ((r0.strikes.take k).map (·.id))))) (r0.strikes.length) ⟨0, r0.strikes, rfl, rfl, hE1, ?_, ?_, ?_, ?_, ?_, ?_, ?_, ?_⟩ ?_
      iterate 8 (first | (simp (disch := omega) only [push_cast, simprocAttr, hs, h12a, h12b, List.take_zero, zW, seenM] <;> first | rfl | omega) | omega)
      rintro n s ⟨k, rest, hn, hp0, hp1, hnl, hS⟩
      have hZ : (0 : Nat) ≠ s.nx ∧ s.nx ≠ (0 : Nat) ∧ (1 : Nat) ≠ s.nx ∧ s.nx ≠ (1 : Nat) := by omega
      rcases rest with _ | ⟨x, rest⟩
      · have hk := drop_nil hp0
        have hE : E1 = 0 := by rw [← hp1]; rfl
        have hall : (r0.strikes.take k).map (·.id) = idsOf r0 := by rw [List.take_of_length_le (by omega)]; rfl
        rw [if_neg (by simp [hE])]
        rw [hall] at hS
        repeat' first
          | apply AW.seq | apply AW.region | apply AW.ret | apply AW.block | apply AW.skip | apply AW.exit | apply AW.scope | apply AW.label | apply AWL.nil
          | ((first | (apply W.step cx_ok; decide) | apply W.store cx_ok | (apply W.gS; rfl; decide) | apply AW.cond | apply W.mapUpdate cx_ok); (simp (disch := omega) only [push_cast, simprocAttr, hS, hZ, hk] <;> rfl); all_goals try ((with_reducible intro hI); try first | (cases hI; done) | (simp only [INTS, zL] at hI; try first | (exfalso; omega) | (have hT : True := hI; clear hT hI))))
          | (refine W.makeMap cx_ok (by simp only [push_cast, simprocAttr] <;> rfl) (by decide) ?_)
          | ((first | apply W.ret1 | apply W.end1); (iterate 2 (try (simp (disch := omega) only [push_cast, simprocAttr, hS, hZ, hk] <;> rfl))))
        refine AW.loop (fun n s => ∃ (k : Nat) (rest : List Sight), n = rest.length ∧ (r0.sights.drop k = rest) ∧ (sightsE (idsOf r0) rest = E2) ∧ 2 ≤ s.nx ∧ s.tm 1 = .ptr 0 0 0 1 ∧ s.tm 4 = .map 1 ∧ s.tm 64 = lSight r0.sights ∧ s.tm 65 = ai r0.sights.length ∧ s.tm 66 = ai k ∧ Pg.rowAt s.H (0) = some ({ k := 14, es := [eRec r0], ty := 30 }) ∧ s.H (1) = some (.mp (.map .int) 0 (seenM (idsOf r0)))) (r0.sights.length) ⟨0, r0.sights, rfl, rfl, hE2, ?_, ?_, ?_, ?_, ?_, ?_, ?_, ?_⟩ ?_
        iterate 8 (first | (simp (disch := omega) only [push_cast, simprocAttr, hS, hZ, hk] <;> first | rfl | omega) | omega)
        rintro n1 s1 ⟨k1, rest1, hn1, hp01, hp11, hnl1, hS1⟩
        have hZ1 : (0 : Nat) ≠ s1.nx ∧ s1.nx ≠ (0 : Nat) ∧ (1 : Nat) ≠ s1.nx ∧ s1.nx ≠ (1 : Nat) := by omega
        rcases rest1 with _ | ⟨y, rest1⟩
        · have hk1 := drop_nil hp01
          repeat' first
            | apply AW.seq | apply AW.region | apply AW.ret | apply AW.block | apply AW.skip | apply AW.exit | apply AW.scope | apply AW.label | apply AWL.nil
            | ((first | (apply W.step cx_ok; decide) | apply W.store cx_ok | (apply W.gS; rfl; decide) | apply AW.cond | apply W.mapUpdate cx_ok); (simp (disch := omega) only [push_cast, simprocAttr, hS1, hZ1, hk1] <;> rfl); all_goals try ((with_reducible intro hI); try first | (cases hI; done) | (simp only [INTS, zL] at hI; try first | (exfalso; omega) | (have hT : True := hI; clear hT hI))))
            | (refine W.makeMap cx_ok (by simp only [push_cast, simprocAttr] <;> rfl) (by decide) ?_)
            | ((first | apply W.ret1 | apply W.end1); (iterate 2 (try (simp (disch := omega) only [push_cast, simprocAttr, hS1, hZ1, hk1] <;> rfl))))
          all_goals (show _ = _; rw [← hp11]; rfl)
        · obtain ⟨hk1, hg1, hd1, hl1, hm1, hx1⟩ := drop_cons hp01 eSight []
          by_cases hq : inB y.seen 0 1073741823 = true
          · by_cases hq2 : y.strike ∈ idsOf r0
            · rw [sightsE, if_pos hq, if_pos hq2] at hp11
              repeat' first
                | apply AW.seq | apply AW.region | apply AW.ret | apply AW.block | apply AW.skip | apply AW.exit | apply AW.scope | apply AW.label | apply AWL.nil
                | ((first | (apply W.step cx_ok; decide) | apply W.store cx_ok | (apply W.gS; rfl; decide) | apply AW.cond | apply W.mapUpdate cx_ok); (simp (disch := omega) only [push_cast, simprocAttr, hS1, hZ1, hk1, hg1, hx1, hq, hq2, seen_look] <;> rfl); all_goals try ((with_reducible intro hI); try first | (cases hI; done) | (simp only [INTS, zL] at hI; try first | (exfalso; omega) | (have hT : True := hI; clear hT hI))))
                | (refine W.makeMap cx_ok (by simp only [push_cast, simprocAttr] <;> rfl) (by decide) ?_)
                | ((apply W.callv cx_ok; decide); (iterate 2 (simp (disch := omega) only [push_cast, simprocAttr, hS1, hZ1, hk1, hg1, hx1, hq, hq2, seen_look] <;> rfl)); (with_reducible first | exact within_ok _ _ _); try first | rfl | (simp (disch := omega) only [push_cast, simprocAttr, hS1, hZ1, hk1, hg1, hx1, hq, hq2, seen_look] <;> rfl))
                | ((first | apply W.ret1 | apply W.end1); (iterate 2 (try (simp (disch := omega) only [push_cast, simprocAttr, hS1, hZ1, hk1, hg1, hx1, hq, hq2, seen_look] <;> rfl))))
              all_goals (refine ⟨rest1.length, ?_, k1 + 1, rest1, rfl, hd1, hp11, ?_, ?_, ?_, ?_, ?_, ?_, ?_, ?_⟩; ((simp only [List.length_cons] at *; omega)); all_goals first | (simp (disch := omega) only [push_cast, simprocAttr, hS1, hZ1, hk1, hg1, hx1, hq, hq2, seen_look] <;> first | rfl | omega) | omega)
            · rw [sightsE, if_pos hq, if_neg hq2] at hp11
              repeat' first
                | apply AW.seq | apply AW.region | apply AW.ret | apply AW.block | apply AW.skip | apply AW.exit | apply AW.scope | apply AW.label | apply AWL.nil
                | ((first | (apply W.step cx_ok; decide) | apply W.store cx_ok | (apply W.gS; rfl; decide) | apply AW.cond | apply W.mapUpdate cx_ok); (simp (disch := omega) only [push_cast, simprocAttr, hS1, hZ1, hk1, hg1, hx1, hq, hq2, seen_look] <;> rfl); all_goals try ((with_reducible intro hI); try first | (cases hI; done) | (simp only [INTS, zL] at hI; try first | (exfalso; omega) | (have hT : True := hI; clear hT hI))))
                | (refine W.makeMap cx_ok (by simp only [push_cast, simprocAttr] <;> rfl) (by decide) ?_)
                | ((apply W.callv cx_ok; decide); (iterate 2 (simp (disch := omega) only [push_cast, simprocAttr, hS1, hZ1, hk1, hg1, hx1, hq, hq2, seen_look] <;> rfl)); (with_reducible first | exact within_ok _ _ _); try first | rfl | (simp (disch := omega) only [push_cast, simprocAttr, hS1, hZ1, hk1, hg1, hx1, hq, hq2, seen_look] <;> rfl))
                | ((first | apply W.ret1 | apply W.end1); (iterate 2 (try (simp (disch := omega) only [push_cast, simprocAttr, hS1, hZ1, hk1, hg1, hx1, hq, hq2, seen_look] <;> rfl))))
              all_goals (show _ = _; rw [← hp11])
          · rw [sightsE, if_neg hq] at hp11
            have hq' : inB y.seen 0 1073741823 = false := by simpa using hq
            repeat' first
              | apply AW.seq | apply AW.region | apply AW.ret | apply AW.block | apply AW.skip | apply AW.exit | apply AW.scope | apply AW.label | apply AWL.nil
              | ((first | (apply W.step cx_ok; decide) | apply W.store cx_ok | (apply W.gS; rfl; decide) | apply AW.cond | apply W.mapUpdate cx_ok); (simp (disch := omega) only [push_cast, simprocAttr, hS1, hZ1, hk1, hg1, hx1, hq'] <;> rfl); all_goals try ((with_reducible intro hI); try first | (cases hI; done) | (simp only [INTS, zL] at hI; try first | (exfalso; omega) | (have hT : True := hI; clear hT hI))))
              | (refine W.makeMap cx_ok (by simp only [push_cast, simprocAttr] <;> rfl) (by decide) ?_)
              | ((apply W.callv cx_ok; decide); (iterate 2 (simp (disch := omega) only [push_cast, simprocAttr, hS1, hZ1, hk1, hg1, hx1, hq'] <;> rfl)); (with_reducible first | exact within_ok _ _ _); try first | rfl | (simp (disch := omega) only [push_cast, simprocAttr, hS1, hZ1, hk1, hg1, hx1, hq'] <;> rfl))
              | ((first | apply W.ret1 | apply W.end1); (iterate 2 (try (simp (disch := omega) only [push_cast, simprocAttr, hS1, hZ1, hk1, hg1, hx1, hq'] <;> rfl))))
            all_goals (show _ = _; rw [← hp11])
      · obtain ⟨hk, hg, hd', hl', hm, hx⟩ := drop_cons hp0 eStrike []
        by_cases hq : strikeB r0.s.zero.lo r0.s.fin.hi x = true
        · have hqq := hq
          unfold strikeB at hqq
          simp only [Bool.and_eq_true, decide_eq_true_eq] at hqq
          have q1 := hqq.1.1
          have q2 := hqq.1.2
          have q3 := hqq.2
          by_cases hq2 : x.id ∈ (r0.strikes.take k).map (·.id)
          · rw [strikesE, if_pos hq, if_pos hq2] at hp1
            rw [← hp1, if_pos (by decide)]
            repeat' first
              | apply AW.seq | apply AW.region | apply AW.ret | apply AW.block | apply AW.skip | apply AW.exit | apply AW.scope | apply AW.label | apply AWL.nil
              | ((first | (apply W.step cx_ok; decide) | apply W.store cx_ok | (apply W.gS; rfl; decide) | apply AW.cond | apply W.mapUpdate cx_ok); (simp (disch := omega) only [push_cast, simprocAttr, hS, hZ, hk, hg, hx, q1, q2, q3, hq2, seen_look] <;> rfl); all_goals try ((with_reducible intro hI); try first | (cases hI; done) | (simp only [INTS, zL] at hI; try first | (exfalso; omega) | (have hT : True := hI; clear hT hI))))
              | (refine W.makeMap cx_ok (by simp only [push_cast, simprocAttr] <;> rfl) (by decide) ?_)
              | ((apply W.callv cx_ok; decide); (iterate 2 (simp (disch := omega) only [push_cast, simprocAttr, hS, hZ, hk, hg, hx, q1, q2, q3, hq2, seen_look] <;> rfl)); (with_reducible first | exact within_ok _ _ _); try first | rfl | (simp (disch := omega) only [push_cast, simprocAttr, hS, hZ, hk, hg, hx, q1, q2, q3, hq2, seen_look] <;> rfl))
              | ((first | apply W.ret1 | apply W.end1); (iterate 2 (try (simp (disch := omega) only [push_cast, simprocAttr, hS, hZ, hk, hg, hx, q1, q2, q3, hq2, seen_look] <;> rfl))))
            all_goals (show _ = _; rfl)
          · rw [strikesE, if_pos hq, if_neg hq2, take_ids hp0] at hp1
            have hput := seen_put x.id _ hq2
            rw [take_ids hp0] at hput
            repeat' first
              | apply AW.seq | apply AW.region | apply AW.ret | apply AW.block | apply AW.skip | apply AW.exit | apply AW.scope | apply AW.label | apply AWL.nil
              | ((first | (apply W.step cx_ok; decide) | apply W.store cx_ok | (apply W.gS; rfl; decide) | apply AW.cond | apply W.mapUpdate cx_ok); (simp (disch := omega) only [push_cast, simprocAttr, hS, hZ, hk, hg, hx, q1, q2, q3, hq2, seen_look, hput] <;> rfl); all_goals try ((with_reducible intro hI); try first | (cases hI; done) | (simp only [INTS, zL] at hI; try first | (exfalso; omega) | (have hT : True := hI; clear hT hI))))
              | (refine W.makeMap cx_ok (by simp only [push_cast, simprocAttr] <;> rfl) (by decide) ?_)
              | ((apply W.callv cx_ok; decide); (iterate 2 (simp (disch := omega) only [push_cast, simprocAttr, hS, hZ, hk, hg, hx, q1, q2, q3, hq2, seen_look, hput] <;> rfl)); (with_reducible first | exact within_ok _ _ _); try first | rfl | (simp (disch := omega) only [push_cast, simprocAttr, hS, hZ, hk, hg, hx, q1, q2, q3, hq2, seen_look, hput] <;> rfl))
              | ((first | apply W.ret1 | apply W.end1); (iterate 2 (try (simp (disch := omega) only [push_cast, simprocAttr, hS, hZ, hk, hg, hx, q1, q2, q3, hq2, seen_look, hput] <;> rfl))))
            all_goals (refine ⟨rest.length, ?_, k + 1, rest, rfl, hd', hp1, ?_, ?_, ?_, ?_, ?_, ?_, ?_, ?_⟩; ((simp only [List.length_cons] at *; omega)); all_goals first | (simp (disch := omega) only [push_cast, simprocAttr, hS, hZ, hk, hg, hx, q1, q2, q3, hq2, seen_look, hput] <;> first | rfl | omega) | omega)
        · rw [strikesE, if_neg hq] at hp1
          rw [← hp1, if_pos (by decide)]
          repeat' first
            | apply AW.seq | apply AW.region | apply AW.ret | apply AW.block | apply AW.skip | apply AW.exit | apply AW.scope | apply AW.label | apply AWL.nil
            | ((first | (apply W.step cx_ok; decide) | apply W.store cx_ok | (apply W.gS; rfl; decide) | apply AW.cond | apply W.mapUpdate cx_ok); (simp (disch := omega) only [push_cast, simprocAttr, hS, hZ, hk, hg, hx] <;> rfl); all_goals try ((with_reducible intro hI); try first | (cases hI; done) | (simp only [INTS, zL] at hI; try first | (exfalso; omega) | (have hT : True := hI; clear hT hI))))
            | (refine W.makeMap cx_ok (by simp only [push_cast, simprocAttr] <;> rfl) (by decide) ?_)
            | ((apply W.callv cx_ok; decide); (iterate 2 (simp (disch := omega) only [push_cast, simprocAttr, hS, hZ, hk, hg, hx] <;> rfl)); (with_reducible first | exact within_ok _ _ _); try first | rfl | (simp (disch := omega) only [push_cast, simprocAttr, hS, hZ, hk, hg, hx] <;> rfl))
            | ((first | apply W.ret1 | apply W.end1); (iterate 2 (try (simp (disch := omega) only [push_cast, simprocAttr, hS, hZ, hk, hg, hx] <;> rfl))))
          all_goals first | (show _ = _; rfl) | (exfalso; apply hq; unfold strikeB; simp only [Bool.and_eq_true, decide_eq_true_eq]; exact ⟨⟨by omega, by omega⟩, by assumption⟩)
  · have e : checkE r0 = sessE r0.s := if_pos hs
    rw [e]
    refine OKat.of_body (rs := [2]) Try.func33 rfl (by decide +kernel) rfl (by simp [Try.ntmps33]) ?_
    simp only [Try.ntmps33]
    repeat' first
      | apply AW.seq | apply AW.region | apply AW.ret | apply AW.block | apply AW.skip | apply AW.exit | apply AW.scope | apply AW.label | apply AWL.nil
      | ((first | (apply W.step cx_ok; decide) | apply W.store cx_ok | (apply W.gS; rfl; decide) | apply AW.cond | apply W.mapUpdate cx_ok); (simp (disch := omega) only [push_cast, simprocAttr, hs] <;> rfl); all_goals try ((with_reducible intro hI); try first | (cases hI; done) | (simp only [INTS, zL] at hI; try first | (exfalso; omega) | (have hT : True := hI; clear hT hI))))
      | (refine W.makeMap cx_ok (by simp only [push_cast, simprocAttr] <;> rfl) (by decide) ?_)
      | ((apply W.callv cx_ok; decide); (iterate 2 (simp (disch := omega) only [push_cast, simprocAttr, hs] <;> rfl)); (with_reducible first | exact checkSession_ok r0.s); try first | rfl | (simp (disch := omega) only [push_cast, simprocAttr, hs] <;> rfl))
      | ((first | apply W.ret1 | apply W.end1); (iterate 2 (try (simp (disch := omega) only [push_cast, simprocAttr, hs] <;> rfl))))
    all_goals (show _ = _; rfl)
end Go.Proofs.Ks

namespace Go.Proofs.Ks
open Go Go.Pg Go.Proofs
theorem strikeI_case (n : Int) : ∀ (l : List Strike) (j : Nat), (¬ n ∈ l.map (·.id) ∧ strikeI n j l = -1) ∨ ∃ i, i < l.length ∧ strikeI n j l = ((j + i : Nat) : Int) ∧ (l.getD i default).id = n ∧ ¬ n ∈ (l.take i).map (·.id)
  | [], j => .inl ⟨by simp, rfl⟩
  | x :: l, j => by
    unfold strikeI
    by_cases h : x.id = n
    · rw [if_pos h]; exact .inr ⟨0, by simp, rfl, by simpa using h, by simp⟩
    · rw [if_neg h]
      rcases strikeI_case n l (j + 1) with ⟨h1, h2⟩ | ⟨i, h1, h2, h3, h4⟩
      · refine .inl ⟨?_, h2⟩
        simp only [List.map_cons, List.mem_cons, not_or]
        exact ⟨fun e => h e.symm, h1⟩
      · refine .inr ⟨i + 1, by simp; omega, by rw [h2, show j + 1 + i = j + (i + 1) by omega], by simpa using h3, ?_⟩
        simp only [List.take_succ_cons, List.map_cons, List.mem_cons, not_or]
        exact ⟨fun e => h e.symm, h4⟩
theorem strikeI_lt {n : Int} {l : List Strike} {k : Nat} (h : n ∈ (l.take k).map (·.id)) : strikeI n 0 l < (k : Int) ∧ 0 ≤ strikeI n 0 l := by
  rcases strikeI_case n l 0 with ⟨h1, _⟩ | ⟨i, h1, h2, h3, h4⟩
  · exfalso; apply h1
    obtain ⟨x, hx, e⟩ := List.mem_map.1 h
    exact List.mem_map.2 ⟨x, List.mem_of_mem_take hx, e⟩
  · rw [h2]
    have : i < k := by
      rcases Nat.lt_or_ge i k with h' | h'
      · exact h'
      · exfalso; apply h4
        obtain ⟨x, hx, e⟩ := List.mem_map.1 h
        exact List.mem_map.2 ⟨x, (List.take_subset_take_left _ h') hx, e⟩
    omega
theorem strikeI_ge {n : Int} {l : List Strike} {k : Nat} (h : ¬ n ∈ (l.take k).map (·.id)) (hn : n ∈ l.map (·.id)) : (k : Int) ≤ strikeI n 0 l := by
  rcases strikeI_case n l 0 with ⟨h1, _⟩ | ⟨i, h1, h2, h3, h4⟩
  · exact absurd hn h1
  · rw [h2]
    rcases Nat.lt_or_ge i k with h' | h'
    · exfalso; apply h
      refine List.mem_map.2 ⟨l.getD i default, ?_, h3⟩
      rw [List.getD_eq_getElem?_getD, List.getElem?_eq_getElem h1]
      refine List.mem_of_getElem? (i := i) ?_
      rw [List.getElem?_take, if_pos h', List.getElem?_eq_getElem h1]; rfl
    · omega
theorem strikeI_none {n : Int} {l : List Strike} (h : ¬ n ∈ l.map (·.id)) : strikeI n 0 l < 0 := by
  rcases strikeI_case n l 0 with ⟨_, h2⟩ | ⟨i, h1, h2, h3, h4⟩
  · rw [h2]; decide
  · exfalso; apply h
    refine List.mem_map.2 ⟨l.getD i default, ?_, h3⟩
    rw [List.getD_eq_getElem?_getD, List.getElem?_eq_getElem h1]
    exact List.getElem_mem _
theorem RCheck_ok (r0 : Rec) : OKv cx 21 [.agg (eRec r0)] (ai (checkE r0)) := by
  by_cases hs : sessE r0.s = 0
  · have hs0 : (sessE r0.s = 0) = True := eq_true hs
    by_cases h12 : 12 < r0.strikes.length ∨ 12 < r0.sights.length
    · have e : checkE r0 = 2 := by unfold checkE; rw [if_neg (by simp [hs]), if_pos h12]
      rw [e]
      refine OKat.of_body (rs := [2]) Try.func21 rfl (by decide +kernel) rfl (by simp [Try.ntmps21]) ?_
      simp only [Try.ntmps21]
      repeat' first
        | apply AW.seq | apply AW.region | apply AW.ret | apply AW.block | apply AW.skip | apply AW.exit | apply AW.scope | apply AW.label | apply AWL.nil | apply D.nil
        | refine W.draw cx_mixed (by decide +kernel) ?_
        | ((first | (apply W.step cx_ok; decide) | (apply D.step cx_ok; decide; decide) | apply W.store cx_ok | (apply W.gS; rfl; decide) | (apply D.gS; rfl; decide; decide) | apply AW.cond); (simp (disch := omega) only [push_cast, simprocAttr, hs] <;> rfl); all_goals try ((with_reducible intro hI); try first | (cases hI; done) | (simp only [INTS, zL] at hI; try first | (exfalso; omega) | (have hT : True := hI; clear hT hI))))
        | ((first | (apply W.callv cx_ok; decide) | (apply D.callv cx_ok; decide; decide)); (iterate 2 (simp (disch := omega) only [push_cast, simprocAttr, hs] <;> rfl)); (with_reducible first | exact session_ok r0.s); try first | rfl | (simp (disch := omega) only [push_cast, simprocAttr, hs] <;> rfl))
        | ((first | apply W.ret1 | apply W.end1); (iterate 2 (try (simp (disch := omega) only [push_cast, simprocAttr, hs] <;> rfl))))
      all_goals first | (show _ = _; rfl) | (exfalso; omega)
    · have h12a : ¬ (12 : Int) < (r0.strikes.length : Int) := by omega
      have h12b : ¬ (12 : Int) < (r0.sights.length : Int) := by omega
      obtain ⟨E1, hE1⟩ : ∃ x, strikesE r0.s.zero.lo r0.s.fin.hi [] r0.strikes = x := ⟨_, rfl⟩
      obtain ⟨E2, hE2⟩ : ∃ x, sightsE (idsOf r0) r0.sights = x := ⟨_, rfl⟩
      have e : checkE r0 = if E1 ≠ 0 then E1 else E2 := by unfold checkE; rw [if_neg (by simp [hs]), if_neg h12, hE1, hE2]
      rw [e]
      refine OKat.of_body (rs := [2]) Try.func21 rfl (by decide +kernel) rfl (by simp [Try.ntmps21]) ?_
      simp only [Try.ntmps21]
      repeat' first
        | apply AW.seq | apply AW.region | apply AW.ret | apply AW.block | apply AW.skip | apply AW.exit | apply AW.scope | apply AW.label | apply AWL.nil | apply D.nil
        | refine W.draw cx_mixed (by decide +kernel) ?_
        | ((first | (apply W.step cx_ok; decide) | (apply D.step cx_ok; decide; decide) | apply W.store cx_ok | (apply W.gS; rfl; decide) | (apply D.gS; rfl; decide; decide) | apply AW.cond); (simp (disch := omega) only [push_cast, simprocAttr, hs, h12a, h12b] <;> rfl); all_goals try ((with_reducible intro hI); try first | (cases hI; done) | (simp only [INTS, zL] at hI; try first | (exfalso; omega) | (have hT : True := hI; clear hT hI))))
        | ((first | (apply W.callv cx_ok; decide) | (apply D.callv cx_ok; decide; decide)); (iterate 2 (simp (disch := omega) only [push_cast, simprocAttr, hs, h12a, h12b] <;> rfl)); (with_reducible first | exact session_ok r0.s); try first | rfl | (simp (disch := omega) only [push_cast, simprocAttr, hs, h12a, h12b] <;> rfl))
        | ((first | apply W.ret1 | apply W.end1); (iterate 2 (try (simp (disch := omega) only [push_cast, simprocAttr, hs, h12a, h12b] <;> rfl))))
      refine AW.loop (fun n s => ∃ (k : Nat) (rest : List Strike), n = rest.length ∧ (r0.strikes.drop k = rest) ∧ (strikesE r0.s.zero.lo r0.s.fin.hi ((r0.strikes.take k).map (·.id)) rest = E1) ∧ 1 ≤ s.nx ∧ s.tm 1 = .ptr 0 0 0 1 ∧ s.tm 4 = ai k ∧ Pg.rowAt s.H (0) = some ({ k := 14, es := [eRec r0], ty := 30 })) (r0.strikes.length) ⟨0, r0.strikes, rfl, rfl, hE1, ?_, ?_, ?_, ?_⟩ ?_
      iterate 4 (first | (simp (disch := omega) only [push_cast, simprocAttr, hs, h12a, h12b] <;> first | rfl | omega) | omega)
      rintro n s ⟨k, rest, hn, hp0, hp1, hnl, hS⟩
      have hZ : (0 : Nat) ≠ s.nx ∧ s.nx ≠ (0 : Nat) := by omega
      rcases rest with _ | ⟨x, rest⟩
      · have hk := drop_nil hp0
        have hE : E1 = 0 := by rw [← hp1]; rfl
        rw [if_neg (by simp [hE])]
        repeat' first
          | apply AW.seq | apply AW.region | apply AW.ret | apply AW.block | apply AW.skip | apply AW.exit | apply AW.scope | apply AW.label | apply AWL.nil | apply D.nil
          | refine W.draw cx_mixed (by decide +kernel) ?_
          | ((first | (apply W.step cx_ok; decide) | (apply D.step cx_ok; decide; decide) | apply W.store cx_ok | (apply W.gS; rfl; decide) | (apply D.gS; rfl; decide; decide) | apply AW.cond); (simp (disch := omega) only [push_cast, simprocAttr, hS, hZ, hk] <;> rfl); all_goals try ((with_reducible intro hI); try first | (cases hI; done) | (simp only [INTS, zL] at hI; try first | (exfalso; omega) | (have hT : True := hI; clear hT hI))))
          | ((first | apply W.ret1 | apply W.end1); (iterate 2 (try (simp (disch := omega) only [push_cast, simprocAttr, hS, hZ, hk] <;> rfl))))
        refine AW.loop (fun n s => ∃ (k : Nat) (rest : List Sight), n = rest.length ∧ (r0.sights.drop k = rest) ∧ (sightsE (idsOf r0) rest = E2) ∧ 1 ≤ s.nx ∧ s.tm 1 = .ptr 0 0 0 1 ∧ s.tm 6 = ai k ∧ Pg.rowAt s.H (0) = some ({ k := 14, es := [eRec r0], ty := 30 })) (r0.sights.length) ⟨0, r0.sights, rfl, rfl, hE2, ?_, ?_, ?_, ?_⟩ ?_
        iterate 4 (first | (simp (disch := omega) only [push_cast, simprocAttr, hS, hZ, hk] <;> first | rfl | omega) | omega)
        rintro n1 s1 ⟨k1, rest1, hn1, hp01, hp11, hnl1, hS1⟩
        have hZ1 : (0 : Nat) ≠ s1.nx ∧ s1.nx ≠ (0 : Nat) := by omega
        rcases rest1 with _ | ⟨y, rest1⟩
        · have hk1 := drop_nil hp01
          repeat' first
            | apply AW.seq | apply AW.region | apply AW.ret | apply AW.block | apply AW.skip | apply AW.exit | apply AW.scope | apply AW.label | apply AWL.nil | apply D.nil
            | refine W.draw cx_mixed (by decide +kernel) ?_
            | ((first | (apply W.step cx_ok; decide) | (apply D.step cx_ok; decide; decide) | apply W.store cx_ok | (apply W.gS; rfl; decide) | (apply D.gS; rfl; decide; decide) | apply AW.cond); (simp (disch := omega) only [push_cast, simprocAttr, hS1, hZ1, hk1] <;> rfl); all_goals try ((with_reducible intro hI); try first | (cases hI; done) | (simp only [INTS, zL] at hI; try first | (exfalso; omega) | (have hT : True := hI; clear hT hI))))
            | ((first | apply W.ret1 | apply W.end1); (iterate 2 (try (simp (disch := omega) only [push_cast, simprocAttr, hS1, hZ1, hk1] <;> rfl))))
          all_goals (show _ = _; rw [← hp11]; rfl)
        · obtain ⟨hk1, hg1, hd1, hl1, hm1, hx1⟩ := drop_cons hp01 eSight []
          by_cases hq : inB y.seen 0 1073741823 = true
          · by_cases hq2 : y.strike ∈ idsOf r0
            · rw [sightsE, if_pos hq, if_pos hq2] at hp11
              have hI2 : ¬ strikeI y.strike 0 r0.strikes < 0 := by
                have := (strikeI_ge (k := 0) (n := y.strike) (l := r0.strikes) (by simp) hq2)
                omega
              repeat' first
                | apply AW.seq | apply AW.region | apply AW.ret | apply AW.block | apply AW.skip | apply AW.exit | apply AW.scope | apply AW.label | apply AWL.nil | apply D.nil
                | refine W.draw cx_mixed (by decide +kernel) ?_
                | ((first | (apply W.step cx_ok; decide) | (apply D.step cx_ok; decide; decide) | apply W.store cx_ok | (apply W.gS; rfl; decide) | (apply D.gS; rfl; decide; decide) | apply AW.cond); (simp (disch := omega) only [push_cast, simprocAttr, hS1, hZ1, hk1, hg1, hx1, hq, hI2] <;> rfl); all_goals try ((with_reducible intro hI); try first | (cases hI; done) | (simp only [INTS, zL] at hI; try first | (exfalso; omega) | (have hT : True := hI; clear hT hI))))
                | ((first | (apply W.callv cx_ok; decide) | (apply D.callv cx_ok; decide; decide)); (iterate 2 (simp (disch := omega) only [push_cast, simprocAttr, hS1, hZ1, hk1, hg1, hx1, hq, hI2] <;> rfl)); (with_reducible first | exact rspan_ok _ _ _ | exact rstrike_ok _ _ (by omega)); try first | rfl | (simp (disch := omega) only [push_cast, simprocAttr, hS1, hZ1, hk1, hg1, hx1, hq, hI2] <;> rfl))
                | ((first | apply W.ret1 | apply W.end1); (iterate 2 (try (simp (disch := omega) only [push_cast, simprocAttr, hS1, hZ1, hk1, hg1, hx1, hq, hI2] <;> rfl))))
              all_goals (refine ⟨rest1.length, ?_, k1 + 1, rest1, rfl, hd1, hp11, ?_, ?_, ?_, ?_⟩; ((simp only [List.length_cons] at *; omega)); all_goals first | (simp (disch := omega) only [push_cast, simprocAttr, hS1, hZ1, hk1, hg1, hx1, hq, hI2] <;> first | rfl | omega) | omega)
            · rw [sightsE, if_pos hq, if_neg hq2] at hp11
              have hI2 : strikeI y.strike 0 r0.strikes < 0 := strikeI_none hq2
              repeat' first
                | apply AW.seq | apply AW.region | apply AW.ret | apply AW.block | apply AW.skip | apply AW.exit | apply AW.scope | apply AW.label | apply AWL.nil | apply D.nil
                | refine W.draw cx_mixed (by decide +kernel) ?_
                | ((first | (apply W.step cx_ok; decide) | (apply D.step cx_ok; decide; decide) | apply W.store cx_ok | (apply W.gS; rfl; decide) | (apply D.gS; rfl; decide; decide) | apply AW.cond); (simp (disch := omega) only [push_cast, simprocAttr, hS1, hZ1, hk1, hg1, hx1, hq, hI2] <;> rfl); all_goals try ((with_reducible intro hI); try first | (cases hI; done) | (simp only [INTS, zL] at hI; try first | (exfalso; omega) | (have hT : True := hI; clear hT hI))))
                | ((first | (apply W.callv cx_ok; decide) | (apply D.callv cx_ok; decide; decide)); (iterate 2 (simp (disch := omega) only [push_cast, simprocAttr, hS1, hZ1, hk1, hg1, hx1, hq, hI2] <;> rfl)); (with_reducible first | exact rspan_ok _ _ _ | exact rstrike_ok _ _ (by omega)); try first | rfl | (simp (disch := omega) only [push_cast, simprocAttr, hS1, hZ1, hk1, hg1, hx1, hq, hI2] <;> rfl))
                | ((first | apply W.ret1 | apply W.end1); (iterate 2 (try (simp (disch := omega) only [push_cast, simprocAttr, hS1, hZ1, hk1, hg1, hx1, hq, hI2] <;> rfl))))
              all_goals (show _ = _; rw [← hp11])
          · rw [sightsE, if_neg hq] at hp11
            have hq' : inB y.seen 0 1073741823 = false := by simpa using hq
            repeat' first
              | apply AW.seq | apply AW.region | apply AW.ret | apply AW.block | apply AW.skip | apply AW.exit | apply AW.scope | apply AW.label | apply AWL.nil | apply D.nil
              | refine W.draw cx_mixed (by decide +kernel) ?_
              | ((first | (apply W.step cx_ok; decide) | (apply D.step cx_ok; decide; decide) | apply W.store cx_ok | (apply W.gS; rfl; decide) | (apply D.gS; rfl; decide; decide) | apply AW.cond); (simp (disch := omega) only [push_cast, simprocAttr, hS1, hZ1, hk1, hg1, hx1, hq'] <;> rfl); all_goals try ((with_reducible intro hI); try first | (cases hI; done) | (simp only [INTS, zL] at hI; try first | (exfalso; omega) | (have hT : True := hI; clear hT hI))))
              | ((first | (apply W.callv cx_ok; decide) | (apply D.callv cx_ok; decide; decide)); (iterate 2 (simp (disch := omega) only [push_cast, simprocAttr, hS1, hZ1, hk1, hg1, hx1, hq'] <;> rfl)); (with_reducible first | exact rspan_ok _ _ _ | exact rstrike_ok _ _ (by omega)); try first | rfl | (simp (disch := omega) only [push_cast, simprocAttr, hS1, hZ1, hk1, hg1, hx1, hq'] <;> rfl))
              | ((first | apply W.ret1 | apply W.end1); (iterate 2 (try (simp (disch := omega) only [push_cast, simprocAttr, hS1, hZ1, hk1, hg1, hx1, hq'] <;> rfl))))
            all_goals (show _ = _; rw [← hp11])
      · obtain ⟨hk, hg, hd', hl', hm, hx⟩ := drop_cons hp0 eStrike []
        by_cases hq : strikeB r0.s.zero.lo r0.s.fin.hi x = true
        · have hqq := hq
          unfold strikeB at hqq
          simp only [Bool.and_eq_true, decide_eq_true_eq] at hqq
          have q1 := hqq.1.1
          have q2 := hqq.1.2
          have q3 := hqq.2
          by_cases hq2 : x.id ∈ (r0.strikes.take k).map (·.id)
          · rw [strikesE, if_pos hq, if_pos hq2] at hp1
            rw [← hp1, if_pos (by decide)]
            have hI2 : strikeI x.id 0 r0.strikes < (k : Int) := (strikeI_lt hq2).1
            repeat' first
              | apply AW.seq | apply AW.region | apply AW.ret | apply AW.block | apply AW.skip | apply AW.exit | apply AW.scope | apply AW.label | apply AWL.nil | apply D.nil
              | refine W.draw cx_mixed (by decide +kernel) ?_
              | ((first | (apply W.step cx_ok; decide) | (apply D.step cx_ok; decide; decide) | apply W.store cx_ok | (apply W.gS; rfl; decide) | (apply D.gS; rfl; decide; decide) | apply AW.cond); (simp (disch := omega) only [push_cast, simprocAttr, hS, hZ, hk, hg, hx, q1, q2, q3, hI2] <;> rfl); all_goals try ((with_reducible intro hI); try first | (cases hI; done) | (simp only [INTS, zL] at hI; try first | (exfalso; omega) | (have hT : True := hI; clear hT hI))))
              | ((first | (apply W.callv cx_ok; decide) | (apply D.callv cx_ok; decide; decide)); (iterate 2 (simp (disch := omega) only [push_cast, simprocAttr, hS, hZ, hk, hg, hx, q1, q2, q3, hI2] <;> rfl)); (with_reducible first | exact rspan_ok _ _ _ | exact rstrike_ok _ _ (by omega)); try first | rfl | (simp (disch := omega) only [push_cast, simprocAttr, hS, hZ, hk, hg, hx, q1, q2, q3, hI2] <;> rfl))
              | ((first | apply W.ret1 | apply W.end1); (iterate 2 (try (simp (disch := omega) only [push_cast, simprocAttr, hS, hZ, hk, hg, hx, q1, q2, q3, hI2] <;> rfl))))
            all_goals (show _ = _; rfl)
          · rw [strikesE, if_pos hq, if_neg hq2, take_ids hp0] at hp1
            have hI2 : ¬ strikeI x.id 0 r0.strikes < (k : Int) := by
              have := strikeI_ge hq2 (List.mem_map.2 ⟨x, hm, rfl⟩)
              omega
            repeat' first
              | apply AW.seq | apply AW.region | apply AW.ret | apply AW.block | apply AW.skip | apply AW.exit | apply AW.scope | apply AW.label | apply AWL.nil | apply D.nil
              | refine W.draw cx_mixed (by decide +kernel) ?_
              | ((first | (apply W.step cx_ok; decide) | (apply D.step cx_ok; decide; decide) | apply W.store cx_ok | (apply W.gS; rfl; decide) | (apply D.gS; rfl; decide; decide) | apply AW.cond); (simp (disch := omega) only [push_cast, simprocAttr, hS, hZ, hk, hg, hx, q1, q2, q3, hI2] <;> rfl); all_goals try ((with_reducible intro hI); try first | (cases hI; done) | (simp only [INTS, zL] at hI; try first | (exfalso; omega) | (have hT : True := hI; clear hT hI))))
              | ((first | (apply W.callv cx_ok; decide) | (apply D.callv cx_ok; decide; decide)); (iterate 2 (simp (disch := omega) only [push_cast, simprocAttr, hS, hZ, hk, hg, hx, q1, q2, q3, hI2] <;> rfl)); (with_reducible first | exact rspan_ok _ _ _ | exact rstrike_ok _ _ (by omega)); try first | rfl | (simp (disch := omega) only [push_cast, simprocAttr, hS, hZ, hk, hg, hx, q1, q2, q3, hI2] <;> rfl))
              | ((first | apply W.ret1 | apply W.end1); (iterate 2 (try (simp (disch := omega) only [push_cast, simprocAttr, hS, hZ, hk, hg, hx, q1, q2, q3, hI2] <;> rfl))))
            all_goals (refine ⟨rest.length, ?_, k + 1, rest, rfl, hd', hp1, ?_, ?_, ?_, ?_⟩; ((simp only [List.length_cons] at *; omega)); all_goals first | (simp (disch := omega) only [push_cast, simprocAttr, hS, hZ, hk, hg, hx, q1, q2, q3, hI2] <;> first | rfl | omega) | omega)
        · rw [strikesE, if_neg hq] at hp1
          rw [← hp1, if_pos (by decide)]
          repeat' first
            | apply AW.seq | apply AW.region | apply AW.ret | apply AW.block | apply AW.skip | apply AW.exit | apply AW.scope | apply AW.label | apply AWL.nil | apply D.nil
            | refine W.draw cx_mixed (by decide +kernel) ?_
            | ((first | (apply W.step cx_ok; decide) | (apply D.step cx_ok; decide; decide) | apply W.store cx_ok | (apply W.gS; rfl; decide) | (apply D.gS; rfl; decide; decide) | apply AW.cond); (simp (disch := omega) only [push_cast, simprocAttr, hS, hZ, hk, hg, hx] <;> rfl); all_goals try ((with_reducible intro hI); try first | (cases hI; done) | (simp only [INTS, zL] at hI; try first | (exfalso; omega) | (have hT : True := hI; clear hT hI))))
            | ((first | (apply W.callv cx_ok; decide) | (apply D.callv cx_ok; decide; decide)); (iterate 2 (simp (disch := omega) only [push_cast, simprocAttr, hS, hZ, hk, hg, hx] <;> rfl)); (with_reducible first | exact rspan_ok _ _ _ | exact rstrike_ok _ _ (by omega)); try first | rfl | (simp (disch := omega) only [push_cast, simprocAttr, hS, hZ, hk, hg, hx] <;> rfl))
            | ((first | apply W.ret1 | apply W.end1); (iterate 2 (try (simp (disch := omega) only [push_cast, simprocAttr, hS, hZ, hk, hg, hx] <;> rfl))))
          all_goals first | (show _ = _; rfl) | (exfalso; apply hq; unfold strikeB; simp only [Bool.and_eq_true, decide_eq_true_eq]; exact ⟨⟨by omega, by omega⟩, by assumption⟩)
  · have e : checkE r0 = sessE r0.s := if_pos hs
    rw [e]
    refine OKat.of_body (rs := [2]) Try.func21 rfl (by decide +kernel) rfl (by simp [Try.ntmps21]) ?_
    simp only [Try.ntmps21]
    repeat' first
      | apply AW.seq | apply AW.region | apply AW.ret | apply AW.block | apply AW.skip | apply AW.exit | apply AW.scope | apply AW.label | apply AWL.nil | apply D.nil
      | refine W.draw cx_mixed (by decide +kernel) ?_
      | ((first | (apply W.step cx_ok; decide) | (apply D.step cx_ok; decide; decide) | apply W.store cx_ok | (apply W.gS; rfl; decide) | (apply D.gS; rfl; decide; decide) | apply AW.cond); (simp (disch := omega) only [push_cast, simprocAttr, hs] <;> rfl); all_goals try ((with_reducible intro hI); try first | (cases hI; done) | (simp only [INTS, zL] at hI; try first | (exfalso; omega) | (have hT : True := hI; clear hT hI))))
      | ((first | (apply W.callv cx_ok; decide) | (apply D.callv cx_ok; decide; decide)); (iterate 2 (simp (disch := omega) only [push_cast, simprocAttr, hs] <;> rfl)); (with_reducible first | exact session_ok r0.s); try first | rfl | (simp (disch := omega) only [push_cast, simprocAttr, hs] <;> rfl))
      | ((first | apply W.ret1 | apply W.end1); (iterate 2 (try (simp (disch := omega) only [push_cast, simprocAttr, hs] <;> rfl))))
    all_goals (show _ = _; rfl)
end Go.Proofs.Ks

namespace Go.Pg
open Go Go.RowKit
section
variable {B0 : Nat} {S0 : Fr} {w w' : World} {H : Nat → Option AO} {σ : Sg}
def flatE (es : List (List AV)) : Prop := ∀ e ∈ es, ∀ c ∈ e, ∃ x, c = .v x
theorem repL_flat {σ1 σ2 : Sg} {w1 w2 : World} {cs : List AV} {f : Nat → Option Value} (hf : ∀ c ∈ cs, ∃ x, c = .v x) (h : RepL σ1 w1 cs f) : RepL σ2 w2 cs f := by
  rw [repL_iff'] at h ⊢
  intro i c hc
  obtain ⟨u, h1, h2⟩ := h i c hc
  refine ⟨u, h1, ?_⟩
  obtain ⟨x, rfl⟩ := hf c (List.mem_of_getElem? hc)
  simpa [Rep] using h2
theorem Inv.le_take (hi : Inv B0 S0 w H σ) {id b n k cap : Nat} (hf : H id = none) (hw : Below w.heap.size w w') (hb : w.heap.size ≤ b) : Le σ (σ.push b id n k cap) w w' := by
  refine ⟨fun _ h => h, fun b h => hw.block b (hi.S_lt b h).1, fun b' i h => ?_, fun _ h => .inr h, fun i ha => ?_⟩
  · have hb' := (hi.own_lt b' i h).2
    have hne : i ≠ id := fun e => (hi.fresh id hf).2 b' (e ▸ h)
    refine ⟨hi.al_of_own h, ?_, ?_, ?_⟩
    · simp only [Sg.push]; rw [if_neg (by omega)]; exact h
    · simp only [Sg.push]; rw [if_neg hne]
    · simp only [Sg.push]; rw [if_neg (by omega)]; exact Nat.le_refl _
  · have hne : i ≠ id := fun e => by subst e; exact (hi.al i).1 ha hf
    refine .inl ⟨by simp only [Sg.push]; rw [if_neg hne], by simp only [Sg.push]; rw [if_neg hne], fun b' hb' => ?_⟩
    have hlt : b' < w.heap.size := by
      cases ho : H i with
      | none => exact absurd ho ((hi.al i).1 ha)
      | some o =>
        cases o with
        | row r => exact (hi.own_lt b' i ((hi.row i r ho).cur b' hb').1).2
        | mp kt et es =>
          obtain ⟨b2, _, _, a1, a2, _⟩ := (hi.mp i kt et es ho).cur
          rw [a1] at hb'; cases hb'
          exact (hi.own_lt b' i a2).2
    simp only [Sg.push]; rw [if_neg (by omega)]
theorem Inv.take (hi : Inv B0 S0 w H σ) {id b : Nat} (hf : H id = none) (hB : B0 ≤ w.heap.size) (hw : Below w.heap.size w w') (hb1 : w.heap.size ≤ b) (hb2 : b < w'.heap.size) (r : Row) (cap : Nat) (arr : Array Value)
    (hbl : w'.heap[b]? = some (.cells arr r.ty (0, 0))) (hcap : r.es.length ≤ cap) (hmax : cap ≤ maxLen) (hsz : arr.size = cap * r.k) (hg : r.fro = false) (hlo : r.lo ≤ r.es.length)
    (each : ∀ e ∈ r.es, e.length = r.k ∧ ∀ c ∈ e, c.cell = true) (hflat : flatE r.es)
    {σ' : Sg} (hcon : ∀ i (hi : i < r.es.length), RepL σ' w' r.es[i] (fun j => w'.cell? ⟨b, i * r.k + j, none⟩)) :
    Inv B0 S0 w' (updH H id (.row r)) (σ.push b id r.es.length r.k cap) := by
  have hle := hi.le_take (n := r.es.length) (k := r.k) (cap := cap) hf hw hb1
  have hS : ¬ σ.S b := fun h => by have := (hi.S_lt _ h).1; omega
  have hsize := hw.size
  refine ⟨fun i => ?_, fun i hn => ?_, fun b h => ⟨by have := (hi.S_lt b h).1; omega, (hi.S_lt b h).2⟩, fun b' i h => ?_, fun i r' h => ?_, fun i kt et es h => ?_, S0.mono _ _ _ _ hle hi.fr⟩
  · simp only [Sg.push, updH]
    by_cases e : i = id
    · simp [e]
    · simp [e, hi.al]
  · simp only [updH] at hn
    have e : i ≠ id := fun e => by simp [e] at hn
    rw [if_neg e] at hn
    obtain ⟨h1, h2⟩ := hi.fresh i hn
    refine ⟨by simp only [Sg.push]; rw [if_neg e]; exact h1, fun b' hb => ?_⟩
    simp only [Sg.push] at hb
    split at hb
    · injection hb with hb; exact e hb.symm
    · exact h2 b' hb
  · simp only [Sg.push] at h
    split at h
    · subst b'; exact ⟨by omega, hb2⟩
    · have := hi.own_lt b' i h; exact ⟨this.1, by omega⟩
  · simp only [updH] at h
    by_cases e : i = id
    · subst e
      rw [if_pos rfl] at h; injection h with h; injection h with h; subst h
      have hnew : ∀ b', (σ.push b i r.es.length r.k cap).own b' = some i → b' = b := fun b' hb => by
        simp only [Sg.push] at hb
        split at hb
        · assumption
        · exact absurd hb ((hi.fresh i hf).2 b')
      refine ⟨by simp [Sg.push], by simp [Sg.push], each, hlo, fun b' hb => ?_, fun hc => by simp [Sg.push] at hc, fun b' hb => ?_, fun b' hb j h1 => ?_⟩
      · simp only [Sg.push, if_true] at hb; injection hb with hb; subst hb
        exact ⟨by simp [Sg.push], by simp [Sg.push], by simpa [Sg.push] using hcap, by simpa [Sg.push] using hmax, arr, hbl, by simpa [Sg.push] using hsz⟩
      · have := hnew b' hb; subst this
        exact ⟨.inl (by simp [Sg.push]), by simp [Sg.push], fun h => (by rw [hg] at h; cases h), fun _ => hS⟩
      · simp only [Sg.push, if_true] at hb; injection hb with hb; subst hb
        exact repL_flat (hflat _ (List.getElem_mem h1)) (hcon j h1)
    · rw [if_neg e] at h
      have hr := hi.row i r' h
      have hown : ∀ b', (σ.push b id r.es.length r.k cap).own b' = some i → σ.own b' = some i ∧ b' ≠ b := fun b' hb => by
        simp only [Sg.push] at hb
        split at hb
        · injection hb with hb; exact absurd hb.symm e
        · exact ⟨hb, by assumption⟩
      have hx : ∀ b', b' ≠ b → (σ.push b id r.es.length r.k cap).ext b' = σ.ext b' := fun b' hb => by simp only [Sg.push]; rw [if_neg hb]
      have hcx : (σ.push b id r.es.length r.k cap).cur i = σ.cur i := by simp only [Sg.push]; rw [if_neg e]
      have hax : ∀ b', b' ≠ b → (σ.push b id r.es.length r.k cap).cap b' = σ.cap b' := fun b' hb => by simp only [Sg.push]; rw [if_neg hb]
      refine ⟨by simp only [Sg.push]; rw [if_neg e]; exact hr.len, by simp only [Sg.push]; rw [if_neg e]; exact hr.k, hr.each, hr.lo, fun b' hb => ?_, fun hc => hr.empty (by rw [← hcx]; exact hc), fun b' hb => ?_, fun b' hb j h1 => ?_⟩
      · rw [hcx] at hb
        obtain ⟨a1, a2, a3, a4, ar, a5, a6⟩ := hr.cur b' hb
        have hlt := (hi.own_lt b' i a1).2
        exact ⟨by simp only [Sg.push]; rw [if_neg (by omega)]; exact a1, by rw [hx b' (by omega)]; exact a2, by rw [hax b' (by omega)]; exact a3, by rw [hax b' (by omega)]; exact a4, ar, (hw.block b' hlt).trans a5, by rw [hax b' (by omega)]; exact a6⟩
      · obtain ⟨h1, h2⟩ := hown b' hb
        rw [hx b' h2, hcx]; exact hr.own b' h1
      · rw [hcx] at hb
        refine RepL.mono hle _ _ _ (fun m u hu => ?_) (hr.con b' hb j h1)
        rw [cell_of_heap (w := w) (hw.block b' (hi.own_lt b' i (hr.cur b' hb).1).2)]; exact hu
  · simp only [updH] at h
    by_cases e : i = id
    · subst e; simp at h
    · rw [if_neg e] at h
      have hm := hi.mp i kt et es h
      obtain ⟨b', clock, xs, a1, a2, a3, a4, a5, a6⟩ := hm.cur
      have hlt := (hi.own_lt b' i a2).2
      refine ⟨by simp only [Sg.push]; rw [if_neg e]; exact hm.len, ⟨b', clock, xs, by simp only [Sg.push]; rw [if_neg e]; exact a1, by simp only [Sg.push]; rw [if_neg (by omega)]; exact a2, a3, (hw.block b' hlt).trans a4, a5, RepL.mono hle _ _ _ (fun _ _ h => h) a6⟩, fun b2 hb => ?_⟩
      simp only [Sg.push] at hb
      split at hb
      · injection hb with hb; exact absurd hb.symm e
      · rename_i hne
        obtain ⟨h1, h2⟩ := hm.one b2 hb
        exact ⟨by simp only [Sg.push]; rw [if_neg e]; exact h1, by simp only [Sg.push]; rw [if_neg hne]; exact h2⟩
end
section
variable {C : Cx} {N : Nat} {Q : Exit → St → Prop} {s : St} {ops : Array Oper} {rest : List Oper} {o : Oper}
def NewRow (Qr : Row → Prop) (r : AV) (H : Nat → Option AO) (_ : Nat) : Prop := ∃ i row, r = .ref i 0 row.es.length ∧ rowAt H i = some row ∧ row.fro = false ∧ flatE row.es ∧ row.es ≠ [] ∧ Qr row
theorem AWL.calln (hC : C.OK) (hg : o.guard = none) {d : Nat} (hd : o.dst = some d) (hN : d < N) {fo : Operand} {args : Array Operand} {tys : Array TypeId} (ho : o.op = .call { callee := .value fo, args := args, argTypes := tys })
    {f : FuncId} {vs : List AV} (hf : s.ev fo = .clo f []) (hv : viewL s.H (evsA args.toList s.ev) = some vs) (hids : idsL (evsA args.toList s.ev) = []) {Qr : Row → Prop} (hok : OKm C f vs (fun _ => none) 0 (NewRow Qr))
    (k : ∀ row, Qr row → AWL C N ops Q rest { tm := upd s.tm d (.ref s.nx 0 row.es.length), H := updH s.H s.nx (.row row), nx := s.nx + 1 }) : AWL C N ops Q (o :: rest) s := by
  rintro S0 w0 a w hE ⟨σ, hσ⟩
  obtain ⟨⟨fn, hfn, hname, hbody⟩, hcall⟩ := hok
  have hfo := hσ.ev fo
  rw [hf] at hfo
  simp only [Rep] at hfo
  obtain ⟨ca, hca, hcs, hcr⟩ := hfo
  have hce : ca = #[] := by simpa using hcs
  subst hce
  have hargs : RepL σ w (evsA args.toList s.ev) (fun i => (args.map a.eval)[i]?) := repL_evs (σ := σ) (w := w) (fun x => hσ.ev x) args
  obtain ⟨g1, _, g3⟩ := viewL_sound hσ.inv (S' := σ.S) (fun b h => h) _ _ vs hv (fun id hid b hb => by rw [hids] at hid; cases hid) hargs
  have hEw : C.E w := hC.E _ _ hσ.below hE
  have hi0 : Inv w.heap.size (Fr.of σ.S) w (fun _ => none) (pureSg σ.S) :=
    ⟨fun id => by simp [pureSg], fun id _ => ⟨rfl, fun b h => by simp [pureSg] at h⟩, fun b h => ⟨(hσ.inv.S_lt b h).1, .inl h⟩, fun b id h => by simp [pureSg] at h, fun id r h => by simp at h, fun id kt et es h => by simp at h, trivial⟩
  have hsz : (args.map a.eval).size = vs.length := by rw [← g1]; simp [evsA_map]
  have hc := hcall (Fr.of σ.S) w w (pureSg σ.S) (args.map a.eval) hEw hi0 (fun _ _ => rfl) (Below.refl _ _) hsz g3
  refine wpListIn_plain hg fun K hK => Oper.wpIn_of_wp C.hF (fun c e => by rw [ho] at e; cases e) ?_
  have hexec : (execOp a.eval o).run C.P w = .ok (.enter f (args.map a.eval)) w := by
    have hb : (fn.name == "runtime.NumGoroutine") ≠ true := by simp [hname]
    simp only [execOp, ho, resolve, hca, Deferred.ofValue, Sem.run_bind, Sem.run_pure, Result.andThen_ok, invoke, callFunc, run_program, hfn, if_neg hb, hbody, Bool.false_eq_true, if_false]
    simp
  simp only [Oper.wp, hexec, Oper.upon]
  refine hc.mono ?_
  rintro e w' ⟨v, r, σ', H', nx', rfl, ⟨i, row, rfl, hrow, hfro, hflat, hne, hq⟩, hb, hi', hnx', hle', hrep⟩
  dsimp only
  rw [hd]
  have hH : H' i = some (.row row) := by
    unfold rowAt at hrow
    split at hrow
    · rename_i r' hr'; injection hrow with hrow; subst hrow; exact hr'
    · cases hrow
  have hri := hi'.row i row hH
  obtain ⟨bb, hcur⟩ : ∃ b, σ'.cur i = some b := by
    cases hcq : σ'.cur i with
    | none => exact absurd (hri.empty hcq) hne
    | some b => exact ⟨b, rfl⟩
  obtain ⟨a1, a2, a3, a4, arr, a5, a6⟩ := hri.cur bb hcur
  have hbb := hi'.own_lt bb i a1
  have hnone : s.H s.nx = none := hσ.nx _ (Nat.le_refl _)
  have hinv := hσ.inv.take hnone hσ.size hb hbb.1 hbb.2 row (σ'.cap bb) arr a5 a3 a4 a6 hfro hri.lo hri.each hflat (hri.con bb hcur)
  have hlet := hσ.inv.le_take (n := row.es.length) (k := row.k) (cap := σ'.cap bb) hnone hb hbb.1
  have hbel : Below w0.heap.size w w' := hb.mono hσ.size
  refine hK _ _ (k row hq S0 w0 _ w' hE ⟨_, hσ.put hN (s' := { tm := upd s.tm d (.ref s.nx 0 row.es.length), H := updH s.H s.nx (.row row), nx := s.nx + 1 }) hinv (fun id hid => ?_) hlet hbel ?_ rfl⟩)
  · show updH s.H s.nx _ id = none
    have hid' : s.nx + 1 ≤ id := hid
    simp only [updH]; rw [if_neg (by omega)]; exact hσ.nx id (by omega)
  · simp only [Rep] at hrep ⊢
    obtain ⟨_, A, cap, hvv, h1, h2, h3, h4⟩ := hrep
    obtain ⟨b2, q1, q2, q3⟩ : ∃ b, σ'.cur i = some b ∧ A = some ⟨b, 0, none⟩ ∧ cap = σ'.cap b := by
      rcases h4 trivial hri.len.symm with h | h
      · rw [hcur] at h; cases h.1
      · exact h
    rw [hcur] at q1
    injection q1 with q1
    subst q1
    refine ⟨.inl rfl, A, cap, hvv, h1, h2, fun _ => ⟨bb, by rw [q2]; simp, by simp [Sg.push], by simp [Sg.push]⟩, fun _ _ => .inr ⟨bb, by simp [Sg.push], q2, by rw [q3]; simp [Sg.push]⟩⟩
end
end Go.Pg

namespace Go.Proofs.Ks
open Go Go.Pg Go.Proofs
theorem viewLL_ints (H : Nat → Option AO) (l : List Int) : viewLL H (l.map eInt) = some (l.map eInt) := viewLL_map H eInt (fun _ => rfl) l
theorem pure_ints (l : List Int) : (l.map eInt).all pureL = true := pure_map (fun _ => rfl) l
theorem idsLL_ints (l : List Int) : idsLL (l.map eInt) = [] := idsLL_map eInt (fun _ => rfl) l
theorem all_ints (l : List Int) : (∀ c ∈ l.map eInt, c.length = 1) = True := eq_true fun c hc => by obtain ⟨x, _, rfl⟩ := List.mem_map.1 hc; rfl
theorem viewLL_spans (H : Nat → Option AO) (l : List Span) : viewLL H (l.map eSpan) = some (l.map eSpan) := viewLL_map H eSpan (fun _ => rfl) l
theorem pure_spans (l : List Span) : (l.map eSpan).all pureL = true := pure_map (fun _ => rfl) l
theorem idsLL_spans (l : List Span) : idsLL (l.map eSpan) = [] := idsLL_map eSpan (fun _ => rfl) l
theorem all_spans (l : List Span) : (∀ c ∈ l.map eSpan, c.length = 2) = True := eq_true fun c hc => by obtain ⟨x, _, rfl⟩ := List.mem_map.1 hc; rfl
theorem viewLL_stops (H : Nat → Option AO) (l : List Stop) : viewLL H (l.map eStop) = some (l.map eStop) := viewLL_map H eStop (fun _ => rfl) l
theorem pure_stops (l : List Stop) : (l.map eStop).all pureL = true := pure_map (fun _ => rfl) l
theorem idsLL_stops (l : List Stop) : idsLL (l.map eStop) = [] := idsLL_map eStop (fun _ => rfl) l
theorem all_stops (l : List Stop) : (∀ c ∈ l.map eStop, c.length = 3) = True := eq_true fun c hc => by obtain ⟨x, _, rfl⟩ := List.mem_map.1 hc; rfl
theorem viewLL_strikes (H : Nat → Option AO) (l : List Strike) : viewLL H (l.map eStrike) = some (l.map eStrike) := viewLL_map H eStrike (fun _ => rfl) l
theorem pure_strikes (l : List Strike) : (l.map eStrike).all pureL = true := pure_map (fun _ => rfl) l
theorem idsLL_strikes (l : List Strike) : idsLL (l.map eStrike) = [] := idsLL_map eStrike (fun _ => rfl) l
theorem all_strikes (l : List Strike) : (∀ c ∈ l.map eStrike, c.length = 3) = True := eq_true fun c hc => by obtain ⟨x, _, rfl⟩ := List.mem_map.1 hc; rfl
theorem viewLL_sights (H : Nat → Option AO) (l : List Sight) : viewLL H (l.map eSight) = some (l.map eSight) := viewLL_map H eSight (fun _ => rfl) l
theorem pure_sights (l : List Sight) : (l.map eSight).all pureL = true := pure_map (fun _ => rfl) l
theorem idsLL_sights (l : List Sight) : idsLL (l.map eSight) = [] := idsLL_map eSight (fun _ => rfl) l
theorem all_sights (l : List Sight) : (∀ c ∈ l.map eSight, c.length = 3) = True := eq_true fun c hc => by obtain ⟨x, _, rfl⟩ := List.mem_map.1 hc; rfl
theorem viewLL_links (H : Nat → Option AO) (l : List Lk) : viewLL H (l.map eLink) = some (l.map eLink) := viewLL_map H eLink (fun _ => rfl) l
theorem pure_links (l : List Lk) : (l.map eLink).all pureL = true := pure_map (fun _ => rfl) l
theorem idsLL_links (l : List Lk) : idsLL (l.map eLink) = [] := idsLL_map eLink (fun _ => rfl) l
theorem all_links (l : List Lk) : (∀ c ∈ l.map eLink, c.length = 3) = True := eq_true fun c hc => by obtain ⟨x, _, rfl⟩ := List.mem_map.1 hc; rfl
theorem viewLL_nodes (H : Nat → Option AO) (l : List Node) : viewLL H (l.map eNode) = some (l.map eNode) := viewLL_map H eNode (fun _ => rfl) l
theorem pure_nodes (l : List Node) : (l.map eNode).all pureL = true := pure_map (fun _ => rfl) l
theorem idsLL_nodes (l : List Node) : idsLL (l.map eNode) = [] := idsLL_map eNode (fun _ => rfl) l
theorem all_nodes (l : List Node) : (∀ c ∈ l.map eNode, c.length = 2) = True := eq_true fun c hc => by obtain ⟨x, _, rfl⟩ := List.mem_map.1 hc; rfl
theorem viewLL_legs (H : Nat → Option AO) (l : List Leg) : viewLL H (l.map eLeg) = some (l.map eLeg) := viewLL_map H eLeg (fun _ => rfl) l
theorem pure_legs (l : List Leg) : (l.map eLeg).all pureL = true := pure_map (fun _ => rfl) l
theorem idsLL_legs (l : List Leg) : idsLL (l.map eLeg) = [] := idsLL_map eLeg (fun _ => rfl) l
theorem all_legs (l : List Leg) : (∀ c ∈ l.map eLeg, c.length = 2) = True := eq_true fun c hc => by obtain ⟨x, _, rfl⟩ := List.mem_map.1 hc; rfl
theorem takeM {α β : Type} (f : α → β) (l : List α) (k : Nat) : (l.map f).take k = (l.take k).map f := List.map_take.symm
theorem dropM {α β : Type} (f : α → β) (l : List α) (k : Nat) : (l.map f).drop k = (l.drop k).map f := List.map_drop.symm
theorem getD_eInt (l : List Int) (k : Nat) (h : k < l.length) : (l.map eInt).getD k [] = [ai (l.getD k 0)] := getD_map eInt l k [] 0 h
theorem get_eInt (l : List Int) (k : Nat) (h : k < l.length) : (l.map eInt)[k]? = some [ai (l.getD k 0)] := get_map eInt l k 0 h
theorem rowAt_frzG (H : Nat → Option AO) (ids : List Nat) (j : Nat) : Pg.rowAt (frz' H ids) j = if j ∈ ids then (Pg.rowAt H j).map (fun r => { r with fro := true }) else Pg.rowAt H j := by
  unfold frz' frz Pg.rowAt
  cases ids with
  | nil => simp
  | cons i ids =>
    simp only [List.isEmpty_cons, Bool.false_eq_true, if_false]
    by_cases h : j ∈ i :: ids
    · simp only [h, if_true]
      cases hh : H j with
      | none => rfl
      | some o => cases o <;> rfl
    · simp only [h, if_false]
theorem isEmpty_map {α β : Type} (f : α → β) (l : List α) : (l.map f).isEmpty = l.isEmpty := by cases l <;> rfl
theorem lo_len {α : Type} (l : List α) : (if l.isEmpty = true then 0 else l.length) = l.length := by cases l <;> rfl
theorem lo_gen {α : Type} (l : List α) (a b : Nat) (h : l.length = 0 → a = b) : (if l.isEmpty = true then a else b) = b := by
  split
  · rename_i he; exact h (by rw [List.isEmpty_iff.1 he]; rfl)
  · rfl
theorem leT {a b : Nat} (h : a ≤ b) : (a ≤ b) = True := eq_true h
theorem maxNx (a : Nat) : max a (a + 1) = a + 1 := by omega
theorem take_mapLen {α : Type} (f : α → List AV) (l : List α) (n : Nat) (h : n = l.length) : (l.map f).take n = l.map f := by rw [List.take_of_length_le (by simp [h])]
attribute [push_cast] all_ints viewLL_ints pure_ints idsLL_ints all_spans viewLL_spans pure_spans idsLL_spans all_stops viewLL_stops pure_stops idsLL_stops all_strikes viewLL_strikes pure_strikes idsLL_strikes all_sights viewLL_sights pure_sights idsLL_sights all_links viewLL_links pure_links idsLL_links all_nodes viewLL_nodes pure_nodes idsLL_nodes all_legs viewLL_legs pure_legs idsLL_legs maxNx get_eInt getD_eInt isEmpty_map lo_len lo_gen rowAt_frzG List.map_set List.length_set List.drop_zero Nat.zero_le List.mem_cons List.not_mem_nil or_false or_self Nat.add_assoc List.length_append List.map_append List.append_assoc List.isEmpty_cons List.isEmpty_nil List.map_cons List.map_nil List.length_cons List.length_nil List.nil_append List.cons_append
end Go.Proofs.Ks

namespace Go.Proofs.Ks
open Go Go.Pg Go.Proofs
def insI (n : Int) : List Int → List Int
  | [] => [n]
  | x :: r => if x < n then x :: insI n r else if x = n then x :: r else n :: x :: r
theorem insI_len (n : Int) : ∀ l : List Int, (insI n l).length ≤ l.length + 1
  | [] => by simp [insI]
  | x :: r => by
    have := insI_len n r
    unfold insI
    split
    · simp; omega
    · split <;> simp
theorem take_drop_cons {α : Type} {l : List α} {k : Nat} {x : α} {rest : List α} (h : l.drop k = x :: rest) : l.take (k + 1) = l.take k ++ [x] := by
  have h2 : l[k]? = some x := by
    have := congrArg (fun m => m[0]?) h
    simpa using this
  rw [List.take_add_one, h2]; rfl
theorem insert_ok (l : List Int) (n0 : Int) (hl : l.length ≤ 1099511627776) : OKv cx 101 [lInt l, ai n0] (lInt (insI n0 l)) := by
  refine OKat.of_body (rs := [4]) Try.func101 rfl (by decide +kernel) rfl (by simp [Try.ntmps101]) ?_
  simp only [Try.ntmps101]
  repeat' first
    | apply AW.seq | apply AW.region | apply AW.ret | apply AW.block | apply AW.skip | apply AW.exit | apply AW.scope | apply AW.label | apply AWL.nil
    | ((first | (apply W.step cx_ok; decide) | (apply W.gS; rfl; decide) | apply AW.cond); (simp (disch := omega) only [push_cast, simprocAttr] <;> rfl); all_goals try ((with_reducible intro hI); try first | (cases hI; done) | (simp only [INTS, zL] at hI; try first | (exfalso; omega) | (have hT : True := hI; clear hT hI))))
    | ((first | apply W.ret1 | apply W.end1); (iterate 2 (try (simp (disch := omega) only [push_cast, simprocAttr] <;> rfl))))
  refine AW.loop (fun n s => ∃ (k : Nat) (rest : List Int), n = rest.length ∧ (l.drop k = rest) ∧ (l.take k ++ insI n0 rest = insI n0 l) ∧ (k ≤ l.length) ∧ s.tm 0 = lInt l ∧ s.tm 1 = ai n0 ∧ s.tm 5 = ai k) (l.length) ⟨0, l, rfl, rfl, rfl, (Nat.zero_le _), ?_, ?_, ?_⟩ ?_
  iterate 3 (first | (simp (disch := omega) only [push_cast, simprocAttr] <;> first | rfl | omega) | omega)
  rintro n s ⟨k, rest, hn, hp0, hp1, hp2, hS⟩
  rcases rest with _ | ⟨x, rest⟩
  · have hk := drop_nil hp0
    have hkl : l.length ≤ k := List.drop_eq_nil_iff.1 hp0
    have hfin : insI n0 l = l ++ [n0] := by rw [← hp1, List.take_of_length_le hkl]; rfl
    have ht : l.take k = l := List.take_of_length_le hkl
    rw [hfin]
    repeat' first
      | apply AW.seq | apply AW.region | apply AW.ret | apply AW.block | apply AW.skip | apply AW.exit | apply AW.scope | apply AW.label | apply AWL.nil
      | ((first | (apply W.step cx_ok; decide) | (apply W.gS; rfl; decide) | apply AW.cond); (simp (disch := (first | omega | (simp only [zE, zF, zD, zC, zA, zB]; omega))) only [push_cast, simprocAttr, takeM, dropM, zK, zA, zB, zN, zQ, zR, zO, zP, zT, zS, zU, leT, zH, pureL, pureA, hS, hk, hp2, ht, hp0] <;> rfl); all_goals try ((with_reducible intro hI); try first | (cases hI; done) | (simp only [INTS, zL] at hI; try first | (exfalso; omega) | (have hT : True := hI; clear hT hI))))
      | (apply W.append cx_ok; decide; rfl; rfl; rfl; decide; (iterate 3 (simp (disch := (first | omega | (simp only [zE, zF, zD, zC, zA, zB]; omega))) only [push_cast, simprocAttr, takeM, dropM, zK, zA, zB, zN, zQ, zR, zO, zP, zT, zS, zU, leT, zH, pureL, pureA, hS, hk, hp2, ht, hp0] <;> rfl)); (first | (focus (simp; done)) | (intro c hc; obtain ⟨x, _, rfl⟩ := List.mem_map.1 hc; rfl)); ((first | rfl | simp (disch := omega) only [push_cast])); ((try dsimp only); (try simp only [zF, zE, zD, zC, zA, zB]); omega); ((try dsimp only); (try simp only [zF, zE, zD, zC, zA, zB]); omega))
      | ((first | apply W.ret1 | apply W.end1); (iterate 2 (try (simp (disch := (first | omega | (simp only [zE, zF, zD, zC, zA, zB]; omega))) only [push_cast, simprocAttr, takeM, dropM, zK, zA, zB, zN, zQ, zR, zO, zP, zT, zS, zU, leT, zH, pureL, pureA, hS, hk, hp2, ht, hp0] <;> rfl))))
    all_goals (show _ = _; simp)
  · obtain ⟨hk, hg, hd', hl', hm, hx⟩ := drop_cons hp0 eInt []
    by_cases hlt : x < n0
    · rw [insI, if_pos hlt] at hp1
      repeat' first
        | apply AW.seq | apply AW.region | apply AW.ret | apply AW.block | apply AW.skip | apply AW.exit | apply AW.scope | apply AW.label | apply AWL.nil
        | ((first | (apply W.step cx_ok; decide) | (apply W.gS; rfl; decide) | apply AW.cond); (simp (disch := omega) only [push_cast, simprocAttr, hS, hk, hg, hx, hlt] <;> rfl); all_goals try ((with_reducible intro hI); try first | (cases hI; done) | (simp only [INTS, zL] at hI; try first | (exfalso; omega) | (have hT : True := hI; clear hT hI))))
        | ((first | apply W.ret1 | apply W.end1); (iterate 2 (try (simp (disch := omega) only [push_cast, simprocAttr, hS, hk, hg, hx, hlt] <;> rfl))))
      all_goals (refine ⟨rest.length, ?_, k + 1, rest, rfl, hd', (by rw [take_drop_cons hp0, List.append_assoc]; exact hp1), (by omega), ?_, ?_, ?_⟩; ((simp only [List.length_cons] at *; omega)); all_goals first | (simp (disch := omega) only [push_cast, simprocAttr, hS, hk, hg, hx, hlt] <;> first | rfl | omega) | omega)
    · by_cases heq : x = n0
      · have heT : (x = n0) = True := eq_true heq
        rw [insI, if_neg hlt, if_pos heq, ← hp0, List.take_append_drop] at hp1
        rw [← hp1]
        repeat' first
          | apply AW.seq | apply AW.region | apply AW.ret | apply AW.block | apply AW.skip | apply AW.exit | apply AW.scope | apply AW.label | apply AWL.nil
          | ((first | (apply W.step cx_ok; decide) | (apply W.gS; rfl; decide) | apply AW.cond); (simp (disch := (first | omega | (simp only [zE, zF, zD, zC, zA, zB]; omega))) only [push_cast, simprocAttr, takeM, dropM, zK, zA, zB, zN, zQ, zR, zO, zP, zT, zS, zU, leT, zH, pureL, pureA, hS, hk, hg, hx, hlt, heT] <;> rfl); all_goals try ((with_reducible intro hI); try first | (cases hI; done) | (simp only [INTS, zL] at hI; try first | (exfalso; omega) | (have hT : True := hI; clear hT hI))))
          | (apply W.append cx_ok; decide; rfl; rfl; rfl; decide; (iterate 3 (simp (disch := (first | omega | (simp only [zE, zF, zD, zC, zA, zB]; omega))) only [push_cast, simprocAttr, takeM, dropM, zK, zA, zB, zN, zQ, zR, zO, zP, zT, zS, zU, leT, zH, pureL, pureA, hS, hk, hg, hx, hlt, heT] <;> rfl)); (first | (focus (simp; done)) | (intro c hc; obtain ⟨x, _, rfl⟩ := List.mem_map.1 hc; rfl)); ((first | rfl | simp (disch := omega) only [push_cast])); ((try dsimp only); (try simp only [zF, zE, zD, zC, zA, zB]); omega); ((try dsimp only); (try simp only [zF, zE, zD, zC, zA, zB]); omega))
          | ((first | apply W.ret1 | apply W.end1); (iterate 2 (try (simp (disch := (first | omega | (simp only [zE, zF, zD, zC, zA, zB]; omega))) only [push_cast, simprocAttr, takeM, dropM, zK, zA, zB, zN, zQ, zR, zO, zP, zT, zS, zU, leT, zH, pureL, pureA, hS, hk, hg, hx, hlt, heT] <;> rfl))))
        all_goals (show _ = _; rfl)
      · have heF : (x = n0) = False := eq_false heq
        rw [insI, if_neg hlt, if_neg heq, ← hp0] at hp1
        rw [← hp1]
        repeat' first
          | apply AW.seq | apply AW.region | apply AW.ret | apply AW.block | apply AW.skip | apply AW.exit | apply AW.scope | apply AW.label | apply AWL.nil
          | ((first | (apply W.step cx_ok; decide) | (apply W.gS; rfl; decide) | apply AW.cond); (simp (disch := (first | omega | (simp only [zE, zF, zD, zC, zA, zB]; omega))) only [push_cast, simprocAttr, takeM, dropM, zK, zA, zB, zN, zQ, zR, zO, zP, zT, zS, zU, leT, zH, pureL, pureA, hS, hk, hg, hx, hlt, heF, hp2] <;> rfl); all_goals try ((with_reducible intro hI); try first | (cases hI; done) | (simp only [INTS, zL] at hI; try first | (exfalso; omega) | (have hT : True := hI; clear hT hI))))
          | (apply W.append cx_ok; decide; rfl; rfl; rfl; decide; (iterate 3 (simp (disch := (first | omega | (simp only [zE, zF, zD, zC, zA, zB]; omega))) only [push_cast, simprocAttr, takeM, dropM, zK, zA, zB, zN, zQ, zR, zO, zP, zT, zS, zU, leT, zH, pureL, pureA, hS, hk, hg, hx, hlt, heF, hp2] <;> rfl)); (first | (focus (simp; done)) | (intro c hc; obtain ⟨x, _, rfl⟩ := List.mem_map.1 hc; rfl)); ((first | rfl | simp (disch := omega) only [push_cast])); ((try dsimp only); (try simp only [zF, zE, zD, zC, zA, zB]); omega); ((try dsimp only); (try simp only [zF, zE, zD, zC, zA, zB]); omega))
          | ((first | apply W.ret1 | apply W.end1); (iterate 2 (try (simp (disch := (first | omega | (simp only [zE, zF, zD, zC, zA, zB]; omega))) only [push_cast, simprocAttr, takeM, dropM, zK, zA, zB, zN, zQ, zR, zO, zP, zT, zS, zU, leT, zH, pureL, pureA, hS, hk, hg, hx, hlt, heF, hp2] <;> rfl))))
        all_goals (show _ = _; simp)
end Go.Proofs.Ks

namespace Go.Proofs.Ks
open Go Go.Pg Go.Proofs
def insS : List Strike → List Int → List Int
  | [], l => l
  | x :: r, l => insS r (insI (x.pos.hi + 1) (insI x.pos.lo l))
def insM : List Int → List Int → List Int
  | [], l => l
  | x :: r, l => insM r (insI x l)
def marksR (r : Rec) (more : List Int) : List Int := insM more (insS r.strikes (insI (r.s.fin.hi + 1) (insI r.s.fin.lo (insI (r.s.zero.hi + 1) (insI r.s.zero.lo [])))))
structure Rec.V (r : Rec) : Prop where
  ok : checkE r = 0
  z : 0 ≤ r.s.zero.lo ∧ r.s.zero.lo ≤ r.s.zero.hi ∧ r.s.zero.hi ≤ 43199
  f : r.s.zero.lo ≤ r.s.fin.lo ∧ r.s.fin.lo ≤ r.s.fin.hi ∧ r.s.fin.hi ≤ 43199
  zf : r.s.zero.hi ≤ r.s.fin.hi
  inn : 0 ≤ r.s.inn.lo ∧ r.s.inn.lo ≤ r.s.inn.hi ∧ r.s.inn.hi ≤ 1073741823
  out : 0 ≤ r.s.out.lo ∧ r.s.out.lo ≤ r.s.out.hi ∧ r.s.out.hi ≤ 1073741823
  rate : 900000 ≤ r.s.rate.lo ∧ r.s.rate.lo ≤ r.s.rate.hi ∧ r.s.rate.hi ≤ 1100000
  nstops : r.s.stops.length ≤ 4
  stops : ∀ x ∈ r.s.stops, r.s.zero.hi < x.pos ∧ x.pos < r.s.fin.lo ∧ 0 ≤ x.secs.lo ∧ x.secs.lo ≤ x.secs.hi ∧ x.secs.hi ≤ 36000
  nstrikes : r.strikes.length ≤ 12
  strikes : ∀ x ∈ r.strikes, 1 ≤ x.id ∧ x.id ≤ 1099511627776 ∧ r.s.zero.lo ≤ x.pos.lo ∧ x.pos.lo ≤ x.pos.hi ∧ x.pos.hi ≤ r.s.fin.hi
  ids : (r.strikes.map (·.id)).Nodup
  nsights : r.sights.length ≤ 12
  sights : ∀ x ∈ r.sights, 0 ≤ x.seen.lo ∧ x.seen.lo ≤ x.seen.hi ∧ x.seen.hi ≤ 1073741823 ∧ x.strike ∈ r.strikes.map (·.id)
theorem stopsE_zero {fin : Int} : ∀ (l : List Stop) (b : Int), stopsE fin b l = 0 → ∀ x ∈ l, b < x.pos ∧ x.pos < fin ∧ 0 ≤ x.secs.lo ∧ x.secs.lo ≤ x.secs.hi ∧ x.secs.hi ≤ 36000
  | [], _, _, x, hx => by simp at hx
  | y :: l, b, h, x, hx => by
    unfold stopsE at h
    split at h
    · exact absurd h (by decide)
    · rename_i hn
      have h3 : inB y.secs 0 36000 = true := by
        cases h : inB y.secs 0 36000 with
        | true => rfl
        | false => exact absurd (.inr (.inr h)) hn
      have h4 := inB_iff.1 h3
      have h5 : b < y.pos ∧ y.pos < fin := by omega
      rcases List.mem_cons.1 hx with rfl | hx
      · exact ⟨h5.1, h5.2, h4⟩
      · have := stopsE_zero l y.pos h x hx
        omega
theorem sightsE_zero {ids : List Int} : ∀ (l : List Sight), sightsE ids l = 0 → ∀ x ∈ l, 0 ≤ x.seen.lo ∧ x.seen.lo ≤ x.seen.hi ∧ x.seen.hi ≤ 1073741823 ∧ x.strike ∈ ids
  | [], _, x, hx => by simp at hx
  | y :: l, h, x, hx => by
    unfold sightsE at h
    split at h
    · rename_i h1
      split at h
      · rename_i h2
        rcases List.mem_cons.1 hx with rfl | hx
        · obtain ⟨a, b, c⟩ := inB_iff.1 h1
          exact ⟨a, b, c, h2⟩
        · exact sightsE_zero l h x hx
      · exact absurd h (by decide)
    · exact absurd h (by decide)
theorem checkE_V {r : Rec} (h : checkE r = 0) : r.V := by
  have h0 := h
  unfold checkE at h
  split at h
  · exact absurd h (by assumption)
  · rename_i hs
    split at h
    · exact absurd h (by decide)
    · rename_i hl
      split at h
      · rename_i hq; exact absurd h hq
      · rename_i hq
        have hs' : sessE r.s = 0 := by simpa using hs
        have hq' : strikesE r.s.zero.lo r.s.fin.hi [] r.strikes = 0 := by simpa using hq
        unfold sessE at hs'
        split at hs'
        · exact absurd hs' (by decide)
        · rename_i h4
          split at hs'
          · rename_i hB
            obtain ⟨b1, b2, b3, b4, b5, b6, b7, b8⟩ := sessB_facts hB
            have hk : (∀ x ∈ r.strikes, strikeB r.s.zero.lo r.s.fin.hi x = true) ∧ (r.strikes.map (·.id)).Nodup := by
              rcases strikesE_ids _ _ r.strikes [] hq' with h1 | h1
              · simpa using h1
              · exact absurd List.nodup_nil h1
            refine ⟨h0, inB_iff.1 b5, inB_iff.1 b6, b7, inB_iff.1 b3, inB_iff.1 b4, inB_iff.1 b8, by omega, stopsE_zero _ _ hs', by omega, fun x hx => ?_, hk.2, by omega, sightsE_zero _ h⟩
            have h1 := hk.1 x hx
            unfold strikeB at h1
            simp only [Bool.and_eq_true, decide_eq_true_eq] at h1
            obtain ⟨⟨h2, h3⟩, h4⟩ := h1
            exact ⟨h2, h3, inB_iff.1 h4⟩
          · exact absurd hs' (by decide)
theorem insert0_ok (n0 : Int) : OKv cx 101 [.lst [], ai n0] (lInt (insI n0 [])) := insert_ok [] n0 (by decide)
theorem rmarked_ok (r0 : Rec) (more : List Int) (hv : r0.V) (hm : more.length ≤ 1048576) : OKv cx 110 [.agg (eRec r0), lInt more] (lInt (marksR r0 more)) := by
  obtain ⟨z1, z2, z3⟩ := hv.z
  obtain ⟨f1, f2, f3⟩ := hv.f
  have hns := hv.nstrikes
  obtain ⟨L1, h1⟩ : ∃ x, insI r0.s.zero.lo [] = x := ⟨_, rfl⟩
  obtain ⟨L2, h2⟩ : ∃ x, insI (r0.s.zero.hi + 1) L1 = x := ⟨_, rfl⟩
  obtain ⟨L3, h3⟩ : ∃ x, insI r0.s.fin.lo L2 = x := ⟨_, rfl⟩
  obtain ⟨L4, h4⟩ : ∃ x, insI (r0.s.fin.hi + 1) L3 = x := ⟨_, rfl⟩
  have n1 : L1.length ≤ 1 := by rw [← h1]; exact insI_len _ _
  have n2 : L2.length ≤ 2 := by rw [← h2]; have := insI_len (r0.s.zero.hi + 1) L1; omega
  have n3 : L3.length ≤ 3 := by rw [← h3]; have := insI_len r0.s.fin.lo L2; omega
  have n4 : L4.length ≤ 4 := by rw [← h4]; have := insI_len (r0.s.fin.hi + 1) L3; omega
  obtain ⟨R1, hR1⟩ : ∃ x, insS r0.strikes L4 = x := ⟨_, rfl⟩
  obtain ⟨R2, hR2⟩ : ∃ x, insM more R1 = x := ⟨_, rfl⟩
  have e : marksR r0 more = R2 := by unfold marksR; rw [h1, h2, h3, h4, hR1, hR2]
  rw [e]
  refine OKat.of_body (rs := [4]) Try.func110 rfl (by decide +kernel) rfl (by simp [Try.ntmps110]) ?_
  simp only [Try.ntmps110]
  repeat' first
    | apply AW.seq | apply AW.region | apply AW.ret | apply AW.block | apply AW.skip | apply AW.exit | apply AW.scope | apply AW.label | apply AWL.nil
    | ((first | (apply W.step cx_ok; decide) | apply W.store cx_ok | apply AW.cond); (simp (disch := omega) only [push_cast, simprocAttr, h1, h2, h3, h4, zW] <;> rfl); all_goals try ((with_reducible intro hI); try first | (cases hI; done) | (simp only [INTS, zL] at hI; try first | (exfalso; omega) | (have hT : True := hI; clear hT hI))))
    | ((apply W.callv cx_ok; decide); (iterate 2 (simp (disch := omega) only [push_cast, simprocAttr, h1, h2, h3, h4, zW] <;> rfl)); (with_reducible first | exact insert0_ok _ | exact insert_ok _ _ (by omega)); try first | rfl | (simp (disch := omega) only [push_cast, simprocAttr, h1, h2, h3, h4, zW] <;> rfl))
    | ((first | apply W.ret1 | apply W.end1); (iterate 2 (try (simp (disch := omega) only [push_cast, simprocAttr, h1, h2, h3, h4, zW] <;> rfl))))
  refine AW.loop (fun n s => ∃ (k : Nat) (M : List Int) (rest : List Strike), n = rest.length ∧ (r0.strikes.drop k = rest) ∧ (insS rest M = R1) ∧ (M.length ≤ 4 + 2 * k) ∧ (k ≤ r0.strikes.length) ∧ 1 ≤ s.nx ∧ s.tm 1 = lInt more ∧ s.tm 2 = .ptr 0 0 0 1 ∧ s.tm 6 = lInt M ∧ s.tm 7 = ai k ∧ Pg.rowAt s.H (0) = some ({ k := 14, es := [eRec r0], ty := 30 })) (r0.strikes.length) ⟨0, L4, r0.strikes, rfl, rfl, hR1, (by omega), (Nat.zero_le _), ?_, ?_, ?_, ?_, ?_, ?_⟩ ?_
  iterate 6 (first | (simp (disch := omega) only [push_cast, simprocAttr, h1, h2, h3, h4] <;> first | rfl | omega) | omega)
  rintro n s ⟨k, M, rest, hn, hp0, hp1, hp2, hp3, hnl, hS⟩
  have hZ : (0 : Nat) ≠ s.nx ∧ s.nx ≠ (0 : Nat) := by omega
  rcases rest with _ | ⟨x, rest⟩
  · have hk := drop_nil hp0
    have hM : M = R1 := hp1
    subst hM
    have hMl : M.length ≤ 28 := by omega
    repeat' first
      | apply AW.seq | apply AW.region | apply AW.ret | apply AW.block | apply AW.skip | apply AW.exit | apply AW.scope | apply AW.label | apply AWL.nil
      | ((first | (apply W.step cx_ok; decide) | apply W.store cx_ok | apply AW.cond); (simp (disch := omega) only [push_cast, simprocAttr, hS, hZ, hk] <;> rfl); all_goals try ((with_reducible intro hI); try first | (cases hI; done) | (simp only [INTS, zL] at hI; try first | (exfalso; omega) | (have hT : True := hI; clear hT hI))))
      | ((first | apply W.ret1 | apply W.end1); (iterate 2 (try (simp (disch := omega) only [push_cast, simprocAttr, hS, hZ, hk] <;> rfl))))
    refine AW.loop (fun n s => ∃ (k : Nat) (M : List Int) (rest : List Int), n = rest.length ∧ (more.drop k = rest) ∧ (insM rest M = R2) ∧ (M.length ≤ 28 + k) ∧ s.tm 1 = lInt more ∧ s.tm 6 = lInt M ∧ s.tm 8 = ai k) (more.length) ⟨0, M, more, rfl, rfl, hR2, (by omega), ?_, ?_, ?_⟩ ?_
    iterate 3 (first | (simp (disch := omega) only [push_cast, simprocAttr, hS, hZ, hk] <;> first | rfl | omega) | omega)
    rintro n1 s1 ⟨k1, M1, rest1, hn1, hp01, hp11, hp21, hS1⟩
    rcases rest1 with _ | ⟨y, rest1⟩
    · have hk1 := drop_nil hp01
      repeat' first
        | apply AW.seq | apply AW.region | apply AW.ret | apply AW.block | apply AW.skip | apply AW.exit | apply AW.scope | apply AW.label | apply AWL.nil
        | ((first | (apply W.step cx_ok; decide) | apply W.store cx_ok | apply AW.cond); (simp (disch := omega) only [push_cast, simprocAttr, hS1, hk1] <;> rfl); all_goals try ((with_reducible intro hI); try first | (cases hI; done) | (simp only [INTS, zL] at hI; try first | (exfalso; omega) | (have hT : True := hI; clear hT hI))))
        | ((first | apply W.ret1 | apply W.end1); (iterate 2 (try (simp (disch := omega) only [push_cast, simprocAttr, hS1, hk1] <;> rfl))))
      all_goals (show _ = _; rw [← hp11]; rfl)
    · obtain ⟨hk1, hg1, hd1, hl1, hm1, hx1⟩ := drop_cons hp01 eInt []
      have hn1 := insI_len y M1
      repeat' first
        | apply AW.seq | apply AW.region | apply AW.ret | apply AW.block | apply AW.skip | apply AW.exit | apply AW.scope | apply AW.label | apply AWL.nil
        | ((first | (apply W.step cx_ok; decide) | apply W.store cx_ok | apply AW.cond); (simp (disch := omega) only [push_cast, simprocAttr, hS1, hk1, hg1, hx1] <;> rfl); all_goals try ((with_reducible intro hI); try first | (cases hI; done) | (simp only [INTS, zL] at hI; try first | (exfalso; omega) | (have hT : True := hI; clear hT hI))))
        | ((apply W.callv cx_ok; decide); (iterate 2 (simp (disch := omega) only [push_cast, simprocAttr, hS1, hk1, hg1, hx1] <;> rfl)); (with_reducible first | exact insert_ok _ _ (by omega)); try first | rfl | (simp (disch := omega) only [push_cast, simprocAttr, hS1, hk1, hg1, hx1] <;> rfl))
        | ((first | apply W.ret1 | apply W.end1); (iterate 2 (try (simp (disch := omega) only [push_cast, simprocAttr, hS1, hk1, hg1, hx1] <;> rfl))))
      all_goals (refine ⟨rest1.length, ?_, k1 + 1, (insI y M1), rest1, rfl, hd1, hp11, (by omega), ?_, ?_, ?_⟩; ((simp only [List.length_cons] at *; omega)); all_goals first | (simp (disch := omega) only [push_cast, simprocAttr, hS1, hk1, hg1, hx1] <;> first | rfl | omega) | omega)
  · obtain ⟨hk, hg, hd', hl', hm', hx⟩ := drop_cons hp0 eStrike []
    have hb := hv.strikes x hm'
    obtain ⟨M1, hM1⟩ : ∃ z, insI x.pos.lo M = z := ⟨_, rfl⟩
    have hn1 : M1.length ≤ M.length + 1 := by rw [← hM1]; exact insI_len _ _
    have hn2 := insI_len (x.pos.hi + 1) M1
    rw [insS, hM1] at hp1
    repeat' first
      | apply AW.seq | apply AW.region | apply AW.ret | apply AW.block | apply AW.skip | apply AW.exit | apply AW.scope | apply AW.label | apply AWL.nil
      | ((first | (apply W.step cx_ok; decide) | apply W.store cx_ok | apply AW.cond); (simp (disch := omega) only [push_cast, simprocAttr, hS, hZ, hk, hg, hx, hM1] <;> rfl); all_goals try ((with_reducible intro hI); try first | (cases hI; done) | (simp only [INTS, zL] at hI; try first | (exfalso; omega) | (have hT : True := hI; clear hT hI))))
      | ((apply W.callv cx_ok; decide); (iterate 2 (simp (disch := omega) only [push_cast, simprocAttr, hS, hZ, hk, hg, hx, hM1] <;> rfl)); (with_reducible first | exact insert_ok _ _ (by omega)); try first | rfl | (simp (disch := omega) only [push_cast, simprocAttr, hS, hZ, hk, hg, hx, hM1] <;> rfl))
      | ((first | apply W.ret1 | apply W.end1); (iterate 2 (try (simp (disch := omega) only [push_cast, simprocAttr, hS, hZ, hk, hg, hx, hM1] <;> rfl))))
    all_goals (refine ⟨rest.length, ?_, k + 1, (insI (x.pos.hi + 1) M1), rest, rfl, hd', hp1, (by omega), (by omega), ?_, ?_, ?_, ?_, ?_, ?_⟩; ((simp only [List.length_cons] at *; omega)); all_goals first | (simp (disch := omega) only [push_cast, simprocAttr, hS, hZ, hk, hg, hx, hM1] <;> first | rfl | omega) | omega)
end Go.Proofs.Ks
