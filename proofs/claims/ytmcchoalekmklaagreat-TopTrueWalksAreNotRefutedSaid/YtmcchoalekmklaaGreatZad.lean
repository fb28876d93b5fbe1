/-
  Contracts of functions, proved by going through their code. No conditions.
-/
import Derived.Deep.LoopGhost
import Derived.Scope
import Derived.OrdersIn
import Derived.TacticsIn
import Derived.LoopNIn
import Derived.RangeFuncCalls
import Derived.RangeFuncLeaves
import Derived.Maps.AppendAt
import Derived.Test.YtmcchoalekmklaaGreatZac
set_option linter.unusedVariables false
set_option linter.unusedSimpArgs false
namespace Go.Pg
open Go Go.RowKit
def builtA (T : TypeId → Option Ty) (t : TypeId) (parts : List (Nat × AV)) : Option AV :=
  match T t with
  | some { d := .st fs, zero, .. } =>
    if fs.all (fun p => (T p.2).isSome) then (fillA (fun i => (fs[i]?).map fun p => (p.1, ((T p.2).map (·.size)).getD 0)) zero parts).map .agg else none
  | some { d := .arr _ e, zero, .. } => match T e with
    | some y => (fillA (fun i => some (i * y.size, y.size)) zero parts).map .agg
    | none => none
  | _ => none
def listA : List (Nat × Operand) → (Operand → AV) → List (Nat × AV)
  | [], _ => []
  | p :: ps, ev => (p.1, ev p.2) :: listA ps ev
def evsA : List Operand → (Operand → AV) → List AV
  | [], _ => []
  | p :: ps, ev => ev p :: evsA ps ev
def stepA (T : TypeId → Option Ty) (eqT : TypeId → Bool) (H : Nat → Option AO) (ev : Operand → AV) (key : Nat) : Op → Option (AV × Option Row)
  | .move x => some (ev x, none)
  | .assign x => some (ev x, none)
  | .pick c a b => match ev c with
    | .v (.bool t) => some (if t then ev a else ev b, none)
    | _ => none
  | .alloc t => match T t with
    | some y => some (.ptr key 0 0 1, some { k := y.size, es := [y.zero], ty := t })
    | none => none
  | .box t x => match cellsA (ev x) with
    | some cs => some (.ptr key 0 0 1, some { k := cs.length, es := [cs], ty := t })
    | none => none
  | .build t parts => (builtA T t (listA parts.toList ev)).map (·, none)
  | .buildSlice t len parts => match T t with
    | some { d := .slice e, .. } => match T e with
      | some y => if 0 < y.size ∧ len * y.size ≤ 16777216 then (fillE y.size (List.replicate len y.zero) (listA parts.toList ev)).map fun es => (.ref key 0 len, some { k := y.size, es := es, ty := e }) else none
      | none => none
    | _ => none
  | .load t a => (loadA T H t (ev a)).map (·, none)
  | .nilCheck x => match ev x with
    | .iptr e j => some (.iptr e j, none)
    | .ptr id i j tag => some (.ptr id i j tag, none)
    | _ => none
  | .binOp op t x y _ => (binA T eqT op t (ev x) (ev y)).map (·, none)
  | .unOp op _ x => (unA op (ev x)).map (·, none)
  | .convert s d x => (convA T s d (ev x)).map (·, none)
  | .makeFunc (.func f) first cs => if first.size = 0 then some (.clo f (evsA cs.toList ev), none) else (if cs.size = 0 then some (.bnd f (evsA first.toList ev), none) else none)
  | .makeSlice t l c => match T t, ev l, ev c with
    | some { d := .slice e, .. }, .v (.int _ n), .v (.int _ m) => match T e with
      | some y => if 0 ≤ n ∧ n = m ∧ n * y.bytes ≤ 281474976710656 ∧ n ≤ 281474976710656 then some (.ref key 0 n.toNat, some { k := y.size, es := List.replicate n.toNat y.zero, ty := e }) else none
      | none => none
    | _, _, _ => none
  | .slice t x lo hi none => (sliceA T H t (ev x) (lo.map ev) (hi.map ev)).map (·, none)
  | .fieldAddr s x f => (fieldAddrA T s (ev x) f).map (·, none)
  | .field s x f => (fieldA T s (ev x) f).map (·, none)
  | .indexAddr t x i => (indexAddrA T H t (ev x) (ev i)).map (·, none)
  | .index t x i => (indexA T t (ev x) (ev i)).map (·, none)
  | .extract t i => (extractA (ev t) i).map (·, none)
  | .lookup t m k ok => (lookupA T eqT H t (ev m) (ev k) ok).map (·, none)
  | .call { callee := .builtin .len, args, argTypes } => match args.toList, argTypes.toList with
    | [x], [t] => (lenA T t (ev x)).map (·, none)
    | _, _ => none
  | .call { callee := .builtin .min, args, .. } => (minA .min (evsA args.toList ev)).map (·, none)
  | .call { callee := .builtin .max, args, .. } => (minA .max (evsA args.toList ev)).map (·, none)
  | _ => none
section
variable {P : Program} {T : TypeId → Option Ty} {B0 : Nat} {S0 : Fr} {w : World} {H : Nat → Option AO} {σ : Sg}
theorem boundA_sound {x : Option AV} {v : Option Value} {d n : Nat} (hx : ∀ a, x = some a → ∃ u, v = some u ∧ Rep σ w a u) (hn : x = none → v = none) (h : boundA x d = some n) :
    (v = none ∧ n = d) ∨ ∃ k, v = some (.int k (n : Int)) := by
  unfold boundA at h
  split at h
  · injection h with h; exact .inl ⟨hn rfl, h.symm⟩
  · rename_i k i
    split at h
    · rename_i hi
      injection h with h
      obtain ⟨u, hu, hr⟩ := hx _ rfl
      simp only [Rep] at hr; subst hr
      refine .inr ⟨k, ?_⟩
      rw [hu]; congr 2; omega
    · cases h
  · cases h
theorem run_bounds {b : Bool} {len cap l h : Nat} {lo hi : Option Value} (h1 : (lo = none ∧ l = 0) ∨ ∃ k, lo = some (.int k (l : Int))) (h2 : (hi = none ∧ h = len) ∨ ∃ k, hi = some (.int k (h : Int)))
    (hl : l ≤ h) (hh : h ≤ cap) : (Instr.sliceBounds b len cap lo hi none).run P w = .ok (l, h, cap) w := by
  rcases h1 with ⟨rfl, rfl⟩ | ⟨k1, rfl⟩ <;> rcases h2 with ⟨rfl, rfl⟩ | ⟨k2, rfl⟩ <;> simp [Instr.sliceBounds, Instr.sliceBound, asIntOf, hl, hh]
theorem sliceA_sound (hT : TyOK P T) (hi : Inv B0 S0 w H σ) {t : TypeId} {x r : AV} {u : Value} {lo hi' : Option AV} {vlo vhi : Option Value} (hr : Rep σ w x u)
    (hlo : ∀ a, lo = some a → ∃ u, vlo = some u ∧ Rep σ w a u) (nlo : lo = none → vlo = none) (hhi : ∀ a, hi' = some a → ∃ u, vhi = some u ∧ Rep σ w a u) (nhi : hi' = none → vhi = none)
    (h : sliceA T H t x lo hi' = some r) : ∃ v, (Instr.sliceAt t u vlo vhi none).run P w = .ok v w ∧ Rep σ w r v := by
  unfold sliceA at h
  split at h
  · rename_i s ht
    split at h
    · rename_i l hh hl1 hh1
      split at h
      · rename_i hc
        injection h with h; subst h
        simp only [Rep] at hr; subst hr
        have hu := (hT t _ ht).str rfl
        refine ⟨.string (s.extract l hh), ?_, rfl⟩
        have hb := run_bounds (P := P) (w := w) (b := false) (len := s.size) (cap := s.size) (boundA_sound hlo nlo hl1) (boundA_sound hhi nhi hh1) hc.1 hc.2
        simp [Instr.sliceAt, Instr.slice, run_underlying hu, hb]
      · cases h
    · cases h
  · rename_i e es ht
    split at h
    · rename_i y l hh hy hl1 hh1
      split at h
      · rename_i hc
        obtain ⟨hc1, hc2, hc3⟩ := hc
        injection h with h; subst h
        simp only [Rep] at hr
        obtain ⟨A, cap, k, rfl, g1, g2, g3, g4⟩ := hr
        have hu := (hT t _ ht).slice rfl
        have hb := run_bounds (P := P) (w := w) (b := true) (len := es.length) (cap := cap) (boundA_sound hlo nlo hl1) (boundA_sound hhi nhi hh1) hc1 (by omega)
        refine ⟨_, by simp only [Instr.sliceAt, Instr.slice, run_underlying hu, Sem.run_bind, Result.andThen_ok, hb, (hT e y hy).run_size, Sem.run_pure]; rfl, ?_⟩
        simp only [Rep]
        have hlen : ((es.take hh).drop l).length = hh - l := by simp; omega
        refine ⟨_, cap - l, k, by rw [hlen], by omega, by omega, fun e he => g3 e (List.mem_of_mem_take (List.mem_of_mem_drop he)), fun hne => ?_⟩
        have hpos : l < hh := by
          rcases Nat.lt_or_ge l hh with h | h
          · exact h
          · exact absurd (List.eq_nil_of_length_eq_zero (by omega)) hne
        obtain ⟨b, o, rfl, hS, hR⟩ := g4 (fun he => by subst he; simp at hc2; omega)
        have hk : k = y.size := by
          have hm : es[0]'(by omega) ∈ es := List.getElem_mem _
          rw [← (g3 _ hm).1]; exact hc3 _ hm
        refine ⟨b, o + l * k, by rw [if_neg (by omega)]; simp [Addr.add_lit, hk], hS, ?_⟩
        rw [repLL_iff] at hR ⊢
        intro i hi
        have := hR (l + i) (by omega)
        have he : ((es.take hh).drop l)[i] = es[l + i]'(by omega) := by simp
        rw [he]
        refine RepL.congr (fun j hj => ?_) this
        congr 2
        rw [Nat.add_mul]; omega
      · cases h
    · cases h
  · rename_i e id off n ht
    split at h
    · rename_i y r' l hh hy hrow hl1 hh1
      split at h
      · rename_i hc
        obtain ⟨hc1, hc2, hc3⟩ := hc
        injection h with h; subst h
        simp only [Rep] at hr
        obtain ⟨hal, A, cap, rfl, g1, g2, g3, g4⟩ := hr
        have hR := hi.row id r' (rowAt_eq hrow)
        have hu := (hT t _ ht).slice rfl
        have hb := run_bounds (P := P) (w := w) (b := true) (len := n) (cap := cap) (boundA_sound hlo nlo hl1) (boundA_sound hhi nhi hh1) hc1 (by omega)
        refine ⟨_, by simp only [Instr.sliceAt, Instr.slice, run_underlying hu, Sem.run_bind, Result.andThen_ok, hb, (hT e y hy).run_size, Sem.run_pure]; rfl, ?_⟩
        simp only [Rep]
        refine ⟨hal, _, cap - l, rfl, by omega, by omega, fun hne => ?_, fun h0 hl' => ?_⟩
        · obtain ⟨b, rfl, hown, hext⟩ := g3 (by omega)
          refine ⟨b, by rw [if_neg (by clear g3 g4; omega)]; simp [Addr.add_lit, hR.k, hc3, Nat.add_mul], hown, by clear g3 g4; omega⟩
        · have hl0 : l = 0 := by omega
          have hoff : off = 0 := by omega
          subst hl0; subst hoff
          have hn : n = σ.len id := by
            have h1 : n ≤ σ.len id := by
              by_cases hn0 : n = 0
              · clear g3 g4; omega
              · obtain ⟨b, _, hown, hext⟩ := g3 hn0
                have := (hR.own b hown).2.1; rw [hR.len]; clear g3 g4; omega
            clear g3 g4; omega
          rcases g4 rfl hn with ⟨a1, a2, rfl, a4⟩ | ⟨b, a1, rfl, a3⟩
          · exact .inl ⟨a1, by omega, by simp, by omega⟩
          · exact .inr ⟨b, a1, by simp [Addr.add], by omega⟩
      · cases h
    · cases h
  · cases h
theorem listA_len (ps : List (Nat × Operand)) (ev : Operand → AV) : (listA ps ev).length = ps.length := by
  induction ps <;> simp_all [listA]
theorem listA_get (ps : List (Nat × Operand)) (ev : Operand → AV) : ∀ i (h : i < (listA ps ev).length) (h' : i < ps.length), (listA ps ev)[i] = (ps[i].1, ev ps[i].2) := by
  induction ps with
  | nil => intro i h; simp [listA] at h
  | cons p ps ih =>
    intro i h h'
    cases i with
    | zero => rfl
    | succ i => simpa [listA] using ih i (by simpa [listA] using h) (by simpa using h')
theorem evsA_map (ps : List Operand) (ev : Operand → AV) : evsA ps ev = ps.map ev := by
  induction ps <;> simp_all [evsA]
theorem places_run (hT : TyOK P T) (fs : Array Field) (hall : (fs.toList.map fun f => (f.offset, f.type)).all (fun p => (T p.2).isSome) = true) :
    (fs.mapM fun f => (do pure (f.offset, ← sizeOf f.type) : Sem (Nat × Nat))).run P w = .ok (fs.map fun f => (f.offset, ((T f.type).map (·.size)).getD 0)) w := by
  rw [Array.mapM_eq_mapM_toList]
  have key : ∀ l : List Field, (l.map fun f => (f.offset, f.type)).all (fun p => (T p.2).isSome) = true →
      (l.mapM fun f => (do pure (f.offset, ← sizeOf f.type) : Sem (Nat × Nat))).run P w = .ok (l.map fun f => (f.offset, ((T f.type).map (·.size)).getD 0)) w := by
    intro l
    induction l with
    | nil => intro _; simp
    | cons f l ih =>
      intro h
      simp only [List.map_cons, List.all_cons, Bool.and_eq_true] at h
      obtain ⟨h1, h2⟩ := h
      obtain ⟨y, hy⟩ := Option.isSome_iff_exists.1 h1
      simp only [List.mapM_cons, Sem.run_bind, (hT _ y hy).run_size, Result.andThen_ok, Sem.run_pure, ih h2, List.map_cons, hy, Option.map_some, Option.getD_some]
  simp only [Sem.run_map, key _ hall, Result.andThen_ok]
  congr 1
  rw [← Array.toList_inj]; simp
theorem builtA_sound (hT : TyOK P T) {a : Act} {ev : Operand → AV} (hev : ∀ x, Rep σ w (ev x) (a.eval x)) {t : TypeId} {parts : Array (Nat × Operand)} {r : AV} (h : builtA T t (listA parts.toList ev) = some r) :
    ∃ v, (Instr.build t (parts.map fun ((i, x) : Nat × Operand) => (i, a.eval x))).run P w = .ok v w ∧ Rep σ w r v := by
  have hvs : ∀ i (h : i < (listA parts.toList ev).length) (h' : i < (parts.map fun ((i, x) : Nat × Operand) => (i, a.eval x)).toList.length), ((parts.map fun ((i, x) : Nat × Operand) => (i, a.eval x)).toList[i]).1 = (listA parts.toList ev)[i].1 ∧ Rep σ w (listA parts.toList ev)[i].2 ((parts.map fun ((i, x) : Nat × Operand) => (i, a.eval x)).toList[i]).2 := by
    intro i h h'
    rw [listA_get _ _ i h (by rw [listA_len] at h; exact h)]
    simp only [Array.toList_map, List.getElem_map, true_and]
    exact hev _
  have hlen : (parts.map fun ((i, x) : Nat × Operand) => (i, a.eval x)).toList.length = (listA parts.toList ev).length := by rw [listA_len]; simp
  unfold builtA at h
  split at h
  · rename_i sz by_ z fs ht
    split at h
    · rename_i hall
      simp only [Option.map_eq_some_iff] at h
      obtain ⟨cs, hcs, rfl⟩ := h
      have hf := hT t _ ht
      obtain ⟨fa, hu, hm⟩ := hf.st rfl
      obtain ⟨zv, hz, hzc⟩ := hf.run_zero w
      subst hm
      simp only at hzc
      have h0 := repL_const1 σ w zv.cells.toList
      rw [hzc] at h0
      have hzl : zv.cells.size = z.length := by rw [← hzc]; simp
      have hpl : (fun (i : Nat) => ((fa.toList.map fun f => (f.offset, f.type))[i]?).map fun (p : Nat × TypeId) => (p.1, ((T p.2).map (·.size)).getD 0)) = fun i => (fa.map fun f => (f.offset, ((T f.type).map (·.size)).getD 0))[i]? := by
        funext i
        simp only [List.getElem?_map, Array.getElem?_map, Array.getElem?_toList]
        cases fa[i]? <;> rfl
      rw [hpl] at hcs
      obtain ⟨arr', g1, g2, g3, g4⟩ := fillA_sound (σ := σ) (w := w) (listA parts.toList ev) (parts.map fun ((i, x) : Nat × Operand) => (i, a.eval x)).toList z zv.cells cs hlen hvs hzl (fun c hc => List.all_eq_true.1 hf.cell c hc) (by simpa using h0) hcs
      refine ⟨.agg arr', ?_, by simp only [Rep]; exact ⟨arr', rfl, g2, g3, g4⟩⟩
      simp only [Instr.build, Sem.run_bind, hz, Result.andThen_ok, run_underlying hu, places_run hT fa hall, g1, Sem.run_pure]
    · cases h
  · rename_i sz by_ z n e ht
    split at h
    · rename_i y hy
      simp only [Option.map_eq_some_iff] at h
      obtain ⟨cs, hcs, rfl⟩ := h
      have hf := hT t _ ht
      have hu := hf.arr rfl
      obtain ⟨zv, hz, hzc⟩ := hf.run_zero w
      simp only at hzc
      have h0 := repL_const1 σ w zv.cells.toList
      rw [hzc] at h0
      have hzl : zv.cells.size = z.length := by rw [← hzc]; simp
      obtain ⟨arr', g1, g2, g3, g4⟩ := fillA_sound (σ := σ) (w := w) (listA parts.toList ev) (parts.map fun ((i, x) : Nat × Operand) => (i, a.eval x)).toList z zv.cells cs hlen hvs hzl (fun c hc => List.all_eq_true.1 hf.cell c hc) (by simpa using h0) hcs
      refine ⟨.agg arr', ?_, by simp only [Rep]; exact ⟨arr', rfl, g2, g3, g4⟩⟩
      simp only [Instr.build, Sem.run_bind, hz, Result.andThen_ok, run_underlying hu, (hT e y hy).run_size, g1, Sem.run_pure]
    · cases h
  · cases h
theorem repL_evs {a : Act} {ev : Operand → AV} (hev : ∀ x, Rep σ w (ev x) (a.eval x)) (ps : Array Operand) : RepL σ w (evsA ps.toList ev) (fun i => (ps.map a.eval)[i]?) := by
  rw [repL_iff', evsA_map]
  intro i c hc
  simp only [List.getElem?_map, Option.map_eq_some_iff] at hc
  obtain ⟨x, hx, rfl⟩ := hc
  rw [Array.getElem?_toList] at hx
  exact ⟨a.eval x, by simp [hx], hev x⟩
theorem makeA_sound (hT : TyOK P T) (hi : Inv B0 S0 w H σ) (hB : B0 ≤ w.heap.size) {key : Nat} (hf : H key = none) {t e : TypeId} {sz by_ : Nat} {z : List AV} {y : Ty} {k1 k2 : IntKind} {n : Int}
    (ht : T t = some { size := sz, bytes := by_, zero := z, d := .slice e }) (hy : T e = some y) (h0 : 0 ≤ n) (hb : n * y.bytes ≤ 281474976710656) (hm : n ≤ 281474976710656) :
    Does P B0 S0 w H σ key (Instr.makeSlice t (.int k1 n) (.int k2 n)) (.ref key 0 n.toNat) (some { k := y.size, es := List.replicate n.toNat y.zero, ty := e }) := by
  have hfy := hT e y hy
  obtain ⟨i, zv, g1, g2, g3, g4, g5⟩ := hfy.get
  have hel := made_elems (σ := σ) (w := w) hfy g5 n.toNat
  have hrun := run_make (P := P) w t e i zv ((hT t _ ht).slice rfl) g1 g4 k1 k2 n n h0 (Int.le_refl _) (by rw [g3, Int.mul_comm]; exact hb) (by omega)
  have hlr : (List.replicate n.toNat y.zero).length = n.toNat := by simp
  rw [g2] at hrun
  have hmx : (List.replicate n.toNat y.zero).length ≤ maxLen := by rw [hlr]; simp only [maxLen]; omega
  exact Does.push (t := e) hi hB hf hel hmx hrun (.inl ⟨by rw [hlr], by rw [hlr]⟩)
theorem sliceLitA_sound (hT : TyOK P T) (hi : Inv B0 S0 w H σ) (hB : B0 ≤ w.heap.size) {key : Nat} (hf : H key = none) {a : Act} {ev : Operand → AV} (hev : ∀ x, Rep σ w (ev x) (a.eval x)) {t e : TypeId} {sz by_ len : Nat} {z : List AV} {y : Ty}
    {parts : Array (Nat × Operand)} {es : List (List AV)} (ht : T t = some { size := sz, bytes := by_, zero := z, d := .slice e }) (hy : T e = some y) (hc1 : 0 < y.size) (hc2 : len * y.size ≤ 16777216)
    (hes : fillE y.size (List.replicate len y.zero) (listA parts.toList ev) = some es) :
    Does P B0 S0 w H σ key (Instr.buildSlice t len (parts.map fun ((i, x) : Nat × Operand) => (i, a.eval x))) (.ref key 0 len) (some { k := y.size, es := es, ty := e }) := by
  have hfy := hT e y hy
  obtain ⟨zv, hz, hzc⟩ := hfy.run_zero w
  have hel := made_elems (σ := σ) (w := w) hfy hzc len
  obtain ⟨arr', g1, g2, g3⟩ := fillE_sound hc1 (listA parts.toList ev) (parts.map fun ((i, x) : Nat × Operand) => (i, a.eval x)).toList (List.replicate len y.zero) _ es (by rw [listA_len]; simp)
    (fun i h h' => by
      rw [listA_get _ _ i h (by rw [listA_len] at h; exact h)]
      simp only [Array.toList_map, List.getElem_map, true_and]
      exact hev _) hel hes
  have hlen : es.length = len := by simpa using g3
  subst hlen
  have hmax : es.length ≤ maxLen := by
    have : es.length ≤ es.length * y.size := Nat.le_mul_of_pos_right _ hc1
    simp only [maxLen]; omega
  refine Does.push (arr := arr') (t := e) hi hB hf g2 hmax ?_ (.inl ⟨rfl, rfl⟩)
  simp only [Instr.buildSlice, Sem.run_bind, run_underlying ((hT t _ ht).slice rfl), Result.andThen_ok, hfy.run_size]
  rw [if_neg (by omega)]
  by_cases h0 : es.length * y.size = 0
  · have : es.length = 0 := by
      rcases Nat.mul_eq_zero.1 h0 with h | h
      · exact h
      · omega
    have e0 : Array.range 0 = #[] := rfl
    rw [this, Nat.zero_mul, e0, Array.map_empty] at g1
    rw [this, Nat.zero_mul, e0]
    simp only [if_true, Sem.run_bind, Sem.run_pure, Result.andThen_ok, Array.map_empty, g1, newRow, run_newObj, World.alloc_eq]
  · simp only [h0, if_false, Sem.run_bind, hz, Result.andThen_ok, Sem.run_pure, g1, newRow, run_newObj, World.alloc_eq]
set_option maxHeartbeats 2000000 in
theorem stepA_sound (hT : TyOK P T) {eqT : TypeId → Bool} (hE : ∀ t, eqT t = true → EqFact P t) (hi : Inv B0 S0 w H σ) (hB : B0 ≤ w.heap.size) {key : Nat} (hf : H key = none) {a : Act} {ev : Operand → AV}
    (hev : ∀ x, Rep σ w (ev x) (a.eval x)) {o : Oper} {r : AV} {nr : Option Row} (h : stepA T eqT H ev key o.op = some (r, nr)) :
    ∃ v w' σ', (execOp a.eval o).run P w = .ok (.value v) w' ∧ Below B0 w w' ∧ Le σ σ' w w' ∧ Inv B0 S0 w' (putH H key nr) σ' ∧ Rep σ' w' r v := by
  obtain ⟨dst, op, type, pos, after, guard⟩ := o
  have wrap : ∀ {x : Sem Value}, (execOp a.eval ⟨dst, op, type, pos, after, guard⟩ = (do pure (.value (← x)) : Sem Next)) → Does P B0 S0 w H σ key x r nr →
      ∃ v w' σ', (execOp a.eval ⟨dst, op, type, pos, after, guard⟩).run P w = .ok (.value v) w' ∧ Below B0 w w' ∧ Le σ σ' w w' ∧ Inv B0 S0 w' (putH H key nr) σ' ∧ Rep σ' w' r v := by
    rintro x hx ⟨v, w', σ', h1, h2⟩
    exact ⟨v, w', σ', by rw [hx]; simp [h1], h2⟩
  have quiet : ∀ {x : Sem Value} {c : Option AV}, (execOp a.eval ⟨dst, op, type, pos, after, guard⟩ = (do pure (.value (← x)) : Sem Next)) → c.map (fun y => (y, (none : Option Row))) = some (r, nr) →
      (∀ y, c = some y → ∃ v, x.run P w = .ok v w ∧ Rep σ w y v) → ∃ v w' σ', (execOp a.eval ⟨dst, op, type, pos, after, guard⟩).run P w = .ok (.value v) w' ∧ Below B0 w w' ∧ Le σ σ' w w' ∧ Inv B0 S0 w' (putH H key nr) σ' ∧ Rep σ' w' r v := by
    intro x c hx hc hs
    simp only [Option.map_eq_some_iff, Prod.mk.injEq] at hc
    obtain ⟨y, hy, rfl, rfl⟩ := hc
    exact wrap hx (Does.quiet hi (hs y hy))
  have same : ∀ {v : Value}, (execOp a.eval ⟨dst, op, type, pos, after, guard⟩).run P w = .ok (.value v) w → Rep σ w r v → nr = none → ∃ v w' σ', (execOp a.eval ⟨dst, op, type, pos, after, guard⟩).run P w = .ok (.value v) w' ∧ Below B0 w w' ∧ Le σ σ' w w' ∧ Inv B0 S0 w' (putH H key nr) σ' ∧ Rep σ' w' r v := by
    intro v h1 h2 h3
    subst h3
    exact ⟨v, w, σ, h1, Below.refl _ _, hi.le_heap (fun _ _ => rfl), hi, h2⟩
  simp only at h
  unfold stepA at h
  split at h
  · injection h with h; simp only [Prod.mk.injEq] at h; obtain ⟨rfl, rfl⟩ := h
    exact same (v := a.eval _) rfl (hev _) rfl
  · injection h with h; simp only [Prod.mk.injEq] at h; obtain ⟨rfl, rfl⟩ := h
    exact same (v := a.eval _) rfl (hev _) rfl
  · rename_i c x y
    try dsimp only at h
    split at h
    · rename_i t ht
      injection h with h; simp only [Prod.mk.injEq] at h; obtain ⟨rfl, rfl⟩ := h
      have hc := hev c
      rw [ht] at hc
      simp only [Rep] at hc
      refine same (v := if t then a.eval x else a.eval y) ?_ ?_ rfl
      · simp [execOp, hc, asBool]
      · cases t <;> simp [hev]
    · cases h
  · rename_i t
    try dsimp only at h
    split at h
    · rename_i y ht
      injection h with h; simp only [Prod.mk.injEq] at h; obtain ⟨rfl, rfl⟩ := h
      have hfy := hT t y ht
      obtain ⟨z, hz, hzc⟩ := hfy.run_zero w
      have hzs : z.cells.size = y.size := by rw [← hfy.size, ← hzc]; simp
      refine wrap (x := Instr.alloc t true (.tuple #[])) rfl (Does.push (arr := z.cells) (t := t) hi hB hf ⟨by simp [hzs], ?_, ?_⟩ (by simp [maxLen]) ?_ (.inr ⟨rfl, rfl, rfl⟩))
      · intro e he
        simp only [List.mem_singleton] at he; subst he
        exact ⟨hfy.size, fun c hc => List.all_eq_true.1 hfy.cell c hc⟩
      · intro i hi'
        simp only [List.length_singleton] at hi'
        obtain rfl : i = 0 := by omega
        have h0 := repL_const1 σ w z.cells.toList
        rw [hzc] at h0
        simpa using h0
      · simp [Instr.alloc, hz, newVar, newRow]
    · cases h
  · rename_i t x
    try dsimp only at h
    split at h
    · rename_i cs hcs
      injection h with h; simp only [Prod.mk.injEq] at h; obtain ⟨rfl, rfl⟩ := h
      obtain ⟨e1, e2, e3, e4⟩ := cellsA_spec hcs (hev x)
      refine wrap (x := Instr.box t (a.eval x)) rfl (Does.push (arr := (a.eval x).cells) (t := t) hi hB hf ⟨by simp [e1], ?_, ?_⟩ (by simp [maxLen]) ?_ (.inr ⟨rfl, rfl, rfl⟩))
      · intro e he
        simp only [List.mem_singleton] at he; subst he
        exact ⟨rfl, e2⟩
      · intro i hi'
        simp only [List.length_singleton] at hi'
        obtain rfl : i = 0 := by omega
        simpa using e3
      · simp [Instr.box, newVar, newRow]
    · cases h
  · rename_i t parts
    exact quiet (x := Instr.build t (parts.map fun ((i, x) : Nat × Operand) => (i, a.eval x))) rfl h (fun y hy => builtA_sound hT hev hy)
  · rename_i t len parts
    try dsimp only at h
    split at h
    · rename_i sz by_ z e ht
      split at h
      · rename_i y hy
        split at h
        · rename_i hc
          simp only [Option.map_eq_some_iff, Prod.mk.injEq] at h
          obtain ⟨es, hes, rfl, rfl⟩ := h
          have hd := sliceLitA_sound hT hi hB hf hev ht hy hc.1 hc.2 hes
          refine wrap (x := Instr.buildSlice t len (parts.map fun (p : Nat × Operand) => (p.1, a.eval p.2))) ?_ hd
          simp only [execOp]
        · cases h
      · cases h
    · cases h
  · rename_i t x
    exact quiet (x := Instr.loadAt t (a.eval x)) rfl h (fun y hy => loadA_sound hT hi (hev x) hy)
  · rename_i x
    have hx := hev x
    try dsimp only at h
    split at h
    · rename_i e j hx'
      injection h with h; simp only [Prod.mk.injEq] at h; obtain ⟨rfl, rfl⟩ := h
      rw [hx'] at hx
      refine same (v := a.eval x) ?_ hx rfl
      simp only [Rep] at hx
      obtain ⟨b, o, hv, _⟩ := hx
      simp [execOp, hv]
    · rename_i id i j tag hx'
      injection h with h; simp only [Prod.mk.injEq] at h; obtain ⟨rfl, rfl⟩ := h
      rw [hx'] at hx
      refine same (v := a.eval x) ?_ hx rfl
      simp only [Rep] at hx
      obtain ⟨b, hv, _⟩ := hx
      simp [execOp, hv]
    · cases h
  · rename_i bop t x y yt
    exact quiet (x := do eqGuard bop t x y (a.eval x) (a.eval y); binOp bop t (a.eval x) (a.eval y)) rfl h (fun z hz => binA_sound hT hE (hev x) (hev y) hz)
  · rename_i uop t x
    exact quiet (x := Op.unary uop (a.eval x)) rfl h (fun z hz => unA_sound (hev x) hz)
  · rename_i s d x
    exact quiet (x := convert s d (a.eval x)) rfl h (fun z hz => convA_sound hT (hev x) hz)
  · rename_i f first cs
    try dsimp only at h
    split at h
    · rename_i h0
      injection h with h; simp only [Prod.mk.injEq] at h; obtain ⟨rfl, rfl⟩ := h
      have he : first = #[] := Array.eq_empty_of_size_eq_zero h0
      subst he
      refine same (v := .func (.func f) #[] (cs.map a.eval)) (by simp [execOp, Instr.makeFunc]) ?_ rfl
      simp only [Rep]
      exact ⟨_, rfl, by simp [evsA_map], repL_evs hev cs⟩
    · split at h
      · rename_i h0
        injection h with h; simp only [Prod.mk.injEq] at h; obtain ⟨rfl, rfl⟩ := h
        have he : cs = #[] := Array.eq_empty_of_size_eq_zero h0
        subst he
        refine same (v := .func (.func f) (first.map a.eval) #[]) (by simp [execOp, Instr.makeFunc]) ?_ rfl
        simp only [Rep]
        exact ⟨_, rfl, by simp [evsA_map], repL_evs hev first⟩
      · cases h
  · rename_i t l c
    try dsimp only at h
    split at h
    · rename_i sz by_ z e k1 n k2 m ht hl hc
      split at h
      · rename_i y hy
        split at h
        · rename_i hc'
          obtain ⟨h0, rfl, hb, hm⟩ := hc'
          injection h with h; simp only [Prod.mk.injEq] at h; obtain ⟨rfl, rfl⟩ := h
          have hfy := hT e y hy
          have hvl := hev l
          have hvc := hev c
          rw [hl] at hvl; rw [hc] at hvc
          simp only [Rep] at hvl hvc
          have hd := makeA_sound (P := P) (k1 := k1) (k2 := k2) hT hi hB hf ht hy h0 hb hm
          rw [← hvl, ← hvc] at hd
          exact wrap (x := Instr.makeSlice t (a.eval l) (a.eval c)) rfl hd
        · cases h
      · cases h
    · cases h
  · rename_i t x lo hi'
    refine quiet (x := Instr.sliceAt t (a.eval x) (lo.map a.eval) (hi'.map a.eval) none) rfl h (fun z hz => sliceA_sound hT hi (hev x) ?_ ?_ ?_ ?_ hz)
    · intro y hy; simp only [Option.map_eq_some_iff] at hy; obtain ⟨p, rfl, rfl⟩ := hy; exact ⟨_, rfl, hev p⟩
    · intro hy; simp only [Option.map_eq_none_iff] at hy; subst hy; rfl
    · intro y hy; simp only [Option.map_eq_some_iff] at hy; obtain ⟨p, rfl, rfl⟩ := hy; exact ⟨_, rfl, hev p⟩
    · intro hy; simp only [Option.map_eq_none_iff] at hy; subst hy; rfl
  · rename_i s x f
    exact quiet (x := Instr.fieldAt s (a.eval x) f) rfl h (fun z hz => fieldAddrA_sound hT (hev x) hz)
  · rename_i s x f
    exact quiet (x := Instr.field s (a.eval x) f) rfl h (fun z hz => fieldA_sound hT (hev x) hz)
  · rename_i t x i
    exact quiet (x := Instr.indexAt t (a.eval x) (a.eval i)) rfl h (fun z hz => indexAddrA_sound hT hi (hev x) (hev i) hz)
  · rename_i t x i
    exact quiet (x := Instr.index t (a.eval x) (a.eval i)) rfl h (fun z hz => indexA_sound hT (hev x) (hev i) hz)
  · rename_i t i
    exact quiet (x := Instr.extract (a.eval t) i) rfl h (fun z hz => extractA_sound (hev t) hz)
  · rename_i t m k ok
    exact quiet (x := Instr.lookup t (a.eval m) (a.eval k) ok) rfl h (fun z hz => lookupA_sound hT hE hi (hev m) (hev k) hz)
  · rename_i args argTypes
    try dsimp only at h
    split at h
    · rename_i x t hx ht
      obtain rfl : args = #[x] := by rw [← Array.toList_inj]; simpa using hx
      obtain rfl : argTypes = #[t] := by rw [← Array.toList_inj]; simpa using ht
      simp only [Option.map_eq_some_iff, Prod.mk.injEq] at h
      obtain ⟨y, hy, rfl, rfl⟩ := h
      obtain ⟨v, hv, hrv⟩ := lenA_sound (ty := type) hT (hev x) hy
      exact same (v := v) (by simp [execOp, resolve, invoke, builtin, hv]) hrv rfl
    · cases h
  · rename_i args argTypes
    simp only [Option.map_eq_some_iff, Prod.mk.injEq] at h
    obtain ⟨y, hy, rfl, rfl⟩ := h
    obtain ⟨v, hv, hrv⟩ := minA_sound (P := P) (tys := argTypes) (t := type) (us := (args.map a.eval).toList) (.inl rfl) (by simp [evsA_map]) (by simpa using repL_evs hev args) hy
    rw [Array.toArray_toList] at hv
    refine same (v := v) ?_ hrv rfl
    simp only [execOp, resolve, invoke, Sem.run_bind, Sem.run_pure, Result.andThen_ok]
    exact hv _
  · rename_i args argTypes
    simp only [Option.map_eq_some_iff, Prod.mk.injEq] at h
    obtain ⟨y, hy, rfl, rfl⟩ := h
    obtain ⟨v, hv, hrv⟩ := minA_sound (P := P) (tys := argTypes) (t := type) (us := (args.map a.eval).toList) (.inr rfl) (by simp [evsA_map]) (by simpa using repL_evs hev args) hy
    rw [Array.toArray_toList] at hv
    refine same (v := v) ?_ hrv rfl
    simp only [execOp, resolve, invoke, Sem.run_bind, Sem.run_pure, Result.andThen_ok]
    exact hv _
  · cases h
end
end Go.Pg

namespace Go
variable {F : Fence} {n : Nat} {P : Program}
def Fence.Open (F : Fence) : Prop := F = Fence.wide ∨ ∃ l, F = Fence.wide.inRound l
theorem Fence.Open.fn {F : Fence} (h : F.Open) (f : FuncId) : F.fn f := by
  rcases h with rfl | ⟨l, rfl⟩ <;> trivial
theorem Fence.Open.depth {F : Fence} (h : F.Open) : F.depth = none := by
  rcases h with rfl | ⟨l, rfl⟩ <;> rfl
theorem Fence.Open.calls {F : Fence} (h : F.Open) {f : FuncId} {args : Array Value} {w : World} {R : Ending → World → Prop} : CallsIn F n P f args w R ↔ Calls P f args w R := by
  rcases h with rfl | ⟨l, rfl⟩
  · exact callsIn_wide
  · exact ⟨fun h => callsIn_wide.1 (CallsIn.outOfRound h), fun h => CallsIn.inRound l (callsIn_wide.2 h)⟩
theorem Fence.Open.roundIn {F : Fence} (h : F.Open) {l : Nat} {f : FuncId} {tmps : Array Value} {assign body : Code} {w : World} {R : Ending → World → Prop} : RoundIn F n P l f tmps assign body w R ↔ RoundIn Fence.wide n P l f tmps assign body w R := by
  rcases h with rfl | ⟨l, rfl⟩ <;> exact Iff.rfl
theorem Oper.wpIn_of_wp (hF : F.Open) {o : Oper} (hd : ∀ c, o.op ≠ .defer c) {a : Act} {w : World} {K : Act → World → Prop} {Q : Exit → Act → World → Prop} (h : o.wp P a w K Q) : o.wpIn F n P a w K Q := by
  refine ⟨fun f _ => hF.fn f, ?_⟩
  have hs : o.semAt F.round a.eval = execOp a.eval o := by
    cases hr : F.round with
    | none => rfl
    | some l => exact Oper.semAt_some l _ o hd
  rw [hs]
  unfold Oper.wp at h
  generalize (execOp a.eval o).run P w = r at *
  have h1 : F.depth.isSome = true → 1 ≤ n := fun hq => by rw [hF.depth] at hq; cases hq
  cases r with
  | ok x w' =>
    cases x <;> simp only [Oper.upon, Oper.uponIn] at h ⊢
    all_goals first
      | exact h
      | exact ⟨h1, hF.calls.2 h⟩
      | exact h.elim
      | skip
    case row row args =>
      refine ⟨h1, ?_⟩
      intro c cs hroom
      obtain ⟨v, w'', hR, hst⟩ := h c cs
      refine ⟨v, w'', hR, ?_⟩
      rcases hF with rfl | ⟨l, rfl⟩
      · exact stepsIn_wide.2 hst
      · exact (show StepsIn (Machine.fenced P Fence.wide) P _ _ from stepsIn_wide.2 hst)
  | halt x w' => cases x <;> simp only [Oper.upon, Oper.uponIn] at h ⊢ <;> first | exact h | exact h.elim
theorem wpIn_loop_ghost {Q : Exit → Act → World → Prop} {a : Act} {w : World} {c : Code} (I : Nat → Act → World → Prop) (n₀ : Nat) (h₀ : I n₀ a w)
    (round : ∀ k a w, I k a w → c.wpIn F n P (Exit.then (fun a' w' => ∃ k', k' < k ∧ I k' a' w') Q) a w) : (Code.loop c).wpIn F n P Q a w := by
  refine wpIn_loop (fun a w => ∃ n, I n a w) (fun a w => leastOf (fun n => I n a w)) ⟨n₀, h₀⟩ ?_
  intro a w hI
  refine wpIn_mono (round _ a w (leastOf_spec hI).1) ?_
  intro e a' w' hq
  cases e with
  | normal =>
    obtain ⟨n', hlt, hI'⟩ := hq
    exact show (∃ n, I n a' w') ∧ leastOf (fun n => I n a' w') < leastOf (fun n => I n a w) from ⟨⟨n', hI'⟩, Nat.lt_of_le_of_lt ((leastOf_spec ⟨n', hI'⟩).2 n' hI') hlt⟩
  | exit id => exact hq
  | goto l => exact hq
  | ret => exact hq
  | panic ch => exact hq
  | outgrown => exact hq
theorem wpIn_scope_wide {Q : Exit → Act → World → Prop} {a : Act} {w : World} {c : Code} (h : c.wpIn Fence.wide n P (Exit.noGoto Q) a w) : (Code.scope c).wpIn Fence.wide n P Q a w := wpIn_wide.2 (wp_scope_straight (wpIn_wide.1 h))
end Go

namespace Go.Pg
open Go Go.RowKit
structure St where
  tm : Nat → AV
  H : Nat → Option AO
  nx : Nat
def upd (f : Nat → AV) (t : Nat) (x : AV) : Nat → AV := fun u => if u = t then x else f u
def St.ev (s : St) : Operand → AV
  | .tmp t => s.tm t
  | .const v => constA v
  | .func f => .clo f []
  | .global _ => .junk
def St.put (s : St) (d : Nat) (r : AV) (nr : Option Row) : St :=
  { tm := upd s.tm d r, H := putH s.H s.nx nr, nx := match nr with | none => s.nx | some _ => s.nx + 1 }
structure Cx where
  P : Program
  T : TypeId → Option Ty
  eqT : TypeId → Bool
  E : World → Prop
  F' : { F : Fence // F.Open } := ⟨Fence.wide, .inl rfl⟩
abbrev Cx.F (C : Cx) : Fence := C.F'.1
theorem Cx.hF (C : Cx) : C.F.Open := C.F'.2
class Cx.Wide (C : Cx) : Prop where
  h : C.F = Fence.wide
structure Cx.OK (C : Cx) : Prop where
  T : TyOK C.P C.T
  eqT : ∀ t, C.eqT t = true → EqFact C.P t
  E : ∀ w w', Below w.heap.size w w' → C.E w → C.E w'
structure SimG (S0 : Fr) (w0 : World) (N : Nat) (a : Act) (w : World) (s : St) (σ : Sg) : Prop where
  inv : Inv w0.heap.size S0 w s.H σ
  nx : ∀ id, s.nx ≤ id → s.H id = none
  tm : ∀ t, Rep σ w (s.tm t) (a.tmps.getD t undef)
  N : a.tmps.size = N
  d : a.defers = S0.ds
  below : Below w0.heap.size w0 w
def Sim (S0 : Fr) (w0 : World) (N : Nat) (a : Act) (w : World) (s : St) : Prop := ∃ σ, SimG S0 w0 N a w s σ
section
variable {S0 : Fr} {w0 : World} {N : Nat} {a : Act} {w : World} {s : St} {σ : Sg}
theorem SimG.ev (h : SimG S0 w0 N a w s σ) (x : Operand) : Rep σ w (s.ev x) (a.eval x) := by
  cases x with
  | tmp t => exact h.tm t
  | const v => exact rep_constA σ w v
  | global g => trivial
  | func f => simp only [St.ev, Act.eval, Rep]; exact ⟨#[], rfl, rfl, trivial⟩
theorem SimG.size (h : SimG S0 w0 N a w s σ) : w0.heap.size ≤ w.heap.size := h.below.size
theorem getD_set (xs : Array Value) (d t : Nat) (v : Value) (hd : d < xs.size) : (xs.setIfInBounds d v).getD t undef = if t = d then v else xs.getD t undef := by
  simp only [Array.getD_eq_getD_getElem?, Array.getElem?_setIfInBounds]
  by_cases h : d = t
  · subst h; simp [hd]
  · rw [if_neg h, if_neg (fun e => h e.symm)]
theorem SimG.put (h : SimG S0 w0 N a w s σ) {d : Nat} (hd : d < N) {w' : World} {σ' : Sg} {s' : St} {r : AV} {v : Value} (hinv : Inv w0.heap.size S0 w' s'.H σ') (hnx : ∀ id, s'.nx ≤ id → s'.H id = none)
    (hle : Le σ σ' w w') (hb : Below w0.heap.size w w') (hr : Rep σ' w' r v) (htm : s'.tm = upd s.tm d r) : SimG S0 w0 N (a.put (some d) v) w' s' σ' := by
  refine ⟨hinv, hnx, fun t => ?_, by simp [Act.put, h.N], h.d, h.below.trans hb⟩
  simp only [Act.put]
  rw [getD_set _ _ _ _ (by rw [h.N]; exact hd), htm]
  unfold upd
  split
  · exact hr
  · exact Rep.mono hle _ _ (h.tm t)
end
def AW (C : Cx) (N : Nat) (c : Code) (Q : Exit → St → Prop) (s : St) : Prop :=
  ∀ S0 w0 a w, C.E w0 → Sim S0 w0 N a w s → c.wpIn C.F 0 C.P (fun e a' w' => ∃ s', Sim S0 w0 N a' w' s' ∧ Q e s') a w
def AWL (C : Cx) (N : Nat) (ops : Array Oper) (Q : Exit → St → Prop) (l : List Oper) (s : St) : Prop :=
  ∀ S0 w0 a w, C.E w0 → Sim S0 w0 N a w s → wpListIn C.F 0 C.P ops (fun e a' w' => ∃ s', Sim S0 w0 N a' w' s' ∧ Q e s') l a w
section
variable {C : Cx} {N : Nat} {Q Q' : Exit → St → Prop} {s : St}
theorem AW.mono {c : Code} (h : AW C N c Q s) (hq : ∀ e s, Q e s → Q' e s) : AW C N c Q' s := by
  intro S0 w0 a w hE hs
  exact wpIn_mono (h S0 w0 a w hE hs) fun e a w ⟨s', h1, h3⟩ => ⟨s', h1, hq _ _ h3⟩
theorem AW.skip (h : Q .normal s) : AW C N .skip Q s := fun _ _ _ _ hE hs => wpIn_skip ⟨s, hs, h⟩
theorem AW.label {l : Nat} (h : Q .normal s) : AW C N (.label l) Q s := fun _ _ _ _ hE hs => wpIn_label ⟨s, hs, h⟩
theorem AW.exit {id : Nat} (h : Q (.exit id) s) : AW C N (.exit id) Q s := fun _ _ _ _ hE hs => wpIn_exit ⟨s, hs, h⟩
theorem AW.ret (h : Q .ret s) : AW C N .ret Q s := fun _ _ _ _ hE hs => wpIn_ret ⟨s, hs, h⟩
def thenQ (K : St → Prop) (Q : Exit → St → Prop) : Exit → St → Prop
  | .normal, s => K s
  | e, s => Q e s
theorem AW.seq {x y : Code} (h : AW C N x (thenQ (AW C N y Q) Q) s) : AW C N (.seq x y) Q s := by
  intro S0 w0 a w hE hs
  refine wpIn_seq (wpIn_mono (h S0 w0 a w hE hs) ?_)
  rintro e a' w' ⟨s', h1, h3⟩
  cases e <;> simp only [thenQ, Exit.then] at h3 ⊢
  · exact h3 S0 w0 a' w' hE h1
  all_goals exact ⟨s', h1, h3⟩
theorem AW.cond {c : Operand} {x y : Code} {b : Bool} (hc : s.ev c = .v (.bool b)) (ht : b = true → AW C N x Q s) (hf : b = false → AW C N y Q s) : AW C N (.cond c x y) Q s := by
  intro S0 w0 a w hE hs
  obtain ⟨σ, hσ⟩ := hs
  have := hσ.ev c
  rw [hc] at this
  simp only [Rep] at this
  refine wpIn_cond_split this (fun h => ht h S0 w0 a w hE ⟨σ, hσ⟩) (fun h => hf h S0 w0 a w hE ⟨σ, hσ⟩)
def blockQ (id : Nat) (Q : Exit → St → Prop) : Exit → St → Prop
  | .exit id', s => if id' = id then Q .normal s else Q (.exit id') s
  | e, s => Q e s
theorem AW.block {id : Nat} {c : Code} (h : AW C N c (blockQ id Q) s) : AW C N (.block id c) Q s := by
  intro S0 w0 a w hE hs
  refine wpIn_block (wpIn_mono (h S0 w0 a w hE hs) ?_)
  rintro e a' w' ⟨s', h1, h3⟩
  cases e <;> simp only [blockQ, Exit.inBlock] at h3 ⊢
  case exit i =>
    split at h3 <;> rename_i hi <;> simp only [hi, if_true, if_false] <;> exact ⟨s', h1, h3⟩
  all_goals exact ⟨s', h1, h3⟩
def scopeQ (Q : Exit → St → Prop) : Exit → St → Prop
  | .goto _, _ => False
  | e, s => Q e s
theorem AW.scope [hW : C.Wide] {c : Code} (h : AW C N c (scopeQ Q) s) : AW C N (.scope c) Q s := by
  intro S0 w0 a w hE hs
  have h2 := h S0 w0 a w hE hs
  rw [hW.h] at h2 ⊢
  refine wpIn_scope_wide (wpIn_mono h2 ?_)
  rintro e a' w' ⟨s', h1, h3⟩
  cases e <;> simp only [scopeQ, Exit.noGoto] at h3 ⊢
  all_goals first | exact h3.elim | exact ⟨s', h1, h3⟩
def loopQ (I : Nat → St → Prop) (n : Nat) (Q : Exit → St → Prop) : Exit → St → Prop
  | .normal, s => ∃ m, m < n ∧ I m s
  | e, s => Q e s
theorem AW.loop {c : Code} (I : Nat → St → Prop) (n : Nat) (h0 : I n s) (h : ∀ n s, I n s → AW C N c (loopQ I n Q) s) : AW C N (.loop c) Q s := by
  intro S0 w0 a w hE hs
  refine wpIn_loop_ghost (fun n a w => ∃ s, Sim S0 w0 N a w s ∧ I n s) n ⟨s, hs, h0⟩ ?_
  rintro n a w ⟨s, hs, hI⟩
  refine wpIn_mono (h n s hI S0 w0 a w hE hs) ?_
  rintro e a' w' ⟨s', h1, h3⟩
  cases e <;> simp only [loopQ, Exit.then] at h3 ⊢
  · obtain ⟨m, hm, hI'⟩ := h3; exact ⟨m, hm, s', h1, hI'⟩
  all_goals exact ⟨s', h1, h3⟩
theorem AW.region {id : Nat} {l : List Oper} (h : AWL C N l.toArray Q l s) : AW C N (.region id l.toArray false) Q s := by
  intro S0 w0 a w hE hs
  exact wpIn_region_lit (h S0 w0 a w hE hs)
variable {ops : Array Oper} {rest : List Oper} {o : Oper} {S0 : Fr} {w0 w : World} {a : Act} {σ : Sg}
theorem AWL.nil (h : Q .normal s) : AWL C N ops Q [] s := fun _ _ _ _ hE hs => wpListIn_nil ⟨s, hs, h⟩
theorem put_nx {H : Nat → Option AO} {nx : Nat} (h : ∀ id, nx ≤ id → H id = none) (nr : Option Row) : ∀ id, (match nr with | none => nx | some _ => nx + 1) ≤ id → putH H nx nr id = none := by
  intro id hid
  cases nr with
  | none => exact h id hid
  | some r => simp only [putH, updH]; rw [if_neg (by simp at hid; omega)]; exact h id (by simp at hid; omega)
theorem stepA_nodefer {T : TypeId → Option Ty} {eqT : TypeId → Bool} {H : Nat → Option AO} {ev : Operand → AV} {key : Nat} {op : Op} {r : AV × Option Row} (h : stepA T eqT H ev key op = some r) : ∀ c, op ≠ .defer c := by
  rintro c rfl; simp [stepA] at h
theorem AWL.step (hC : C.OK) (hg : o.guard = none) {d : Nat} (hd : o.dst = some d) (hN : d < N) {r : AV} {nr : Option Row} (h : stepA C.T C.eqT s.H s.ev s.nx o.op = some (r, nr)) (k : AWL C N ops Q rest (s.put d r nr)) :
    AWL C N ops Q (o :: rest) s := by
  rintro S0 w0 a w hE ⟨σ, hσ⟩
  obtain ⟨v, w', σ', h1, h2, h3, h4, h5⟩ := stepA_sound hC.T hC.eqT hσ.inv hσ.size (hσ.nx _ (Nat.le_refl _)) (fun x => hσ.ev x) h
  refine wpListIn_plain hg fun K hK => Oper.wpIn_of_wp C.hF (stepA_nodefer h) ?_
  simp only [Oper.wp, Oper.upon, h1]
  rw [hd]
  have hs' := hσ.put hN (s' := s.put d r nr) h4 (put_nx hσ.nx nr) h3 h2 h5 rfl
  exact hK _ _ (k S0 w0 _ w' hE ⟨σ', hs'⟩)
theorem yielded_of (hσ : SimG S0 w0 N a w s σ) {j d : Nat} {b : Bool} (hd : (ops[j]?).bind (·.dst) = some d) (hb : s.tm d = .v (.bool b)) : yielded ops a.tmps j = some b := by
  have h := hσ.tm d
  rw [hb] at h
  simp only [Rep, Array.getD_eq_getD_getElem?] at h
  unfold yielded
  rw [hd]
  simp only [Option.bind_some]
  cases hx : a.tmps[d]? with
  | none => rw [hx] at h; simp [undef] at h
  | some u => rw [hx] at h; simp only [Option.getD_some] at h; subst h; rfl
theorem yielded_undef (hσ : SimG S0 w0 N a w s σ) {j d : Nat} (hd : (ops[j]?).bind (·.dst) = some d) (hb : s.tm d = .v undef) : yielded ops a.tmps j = none := by
  have h := hσ.tm d
  rw [hb] at h
  simp only [Rep, Array.getD_eq_getD_getElem?] at h
  unfold yielded
  rw [hd]
  simp only [Option.bind_some]
  cases hx : a.tmps[d]? with
  | none => rfl
  | some u => rw [hx] at h; simp only [Option.getD_some] at h; subst h; rfl
theorem AWL.guardU {j d t : Nat} {want : Bool} (hg : o.guard = some (j, want)) (ht : (ops[j]?).bind (·.dst) = some t) (hb : s.tm t = .v undef) (hd : o.dst = some d) (hN : d < N)
    (k : AWL C N ops Q rest { s with tm := upd s.tm d (.v undef) }) : AWL C N ops Q (o :: rest) s := by
  rintro S0 w0 a w hE ⟨σ, hσ⟩
  have hy := yielded_undef (ops := ops) hσ ht hb
  unfold wpListIn
  rw [if_neg (by simp [Region.wanted, hg, hy])]
  rw [hd]
  refine ⟨fun f _ => C.hF.fn f, k S0 w0 _ w hE ⟨σ, ?_⟩⟩
  exact hσ.put hN (s' := { s with tm := upd s.tm d (.v undef) }) (r := .v undef) hσ.inv hσ.nx (hσ.inv.le_heap (fun _ _ => rfl)) (Below.refl _ _) rfl rfl
theorem AWL.guard {j d t : Nat} {want b : Bool} (hg : o.guard = some (j, want)) (ht : (ops[j]?).bind (·.dst) = some t) (hb : s.tm t = .v (.bool b)) (hd : o.dst = some d) (hN : d < N)
    (k1 : b = want → AWL C N ops Q ({ o with guard := none } :: rest) s) (k2 : b = !want → AWL C N ops Q rest { s with tm := upd s.tm d (.v undef) }) : AWL C N ops Q (o :: rest) s := by
  rintro S0 w0 a w hE ⟨σ, hσ⟩
  have hy := yielded_of (ops := ops) hσ ht hb
  by_cases hbw : b = want
  · have h := k1 hbw S0 w0 a w hE ⟨σ, hσ⟩
    unfold wpListIn at h ⊢
    rw [if_pos (by simp [Region.wanted, hg, hy, hbw])]
    rw [if_pos (by simp [Region.wanted])] at h
    exact h
  · have hbn : b = !want := by cases b <;> cases want <;> simp_all
    unfold wpListIn
    rw [if_neg (by simp [Region.wanted, hg, hy, hbw])]
    rw [hd]
    refine ⟨fun f _ => C.hF.fn f, k2 hbn S0 w0 _ w hE ⟨σ, ?_⟩⟩
    exact hσ.put hN (s' := { s with tm := upd s.tm d (.v undef) }) (r := .v undef) hσ.inv hσ.nx (hσ.inv.le_heap (fun _ _ => rfl)) (Below.refl _ _) rfl rfl
end
end Go.Pg
