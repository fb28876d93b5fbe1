/-
  Contracts of functions, proved by going through their code. No conditions.
-/
import Derived.Test.YtbeiiipphicdlaaGreatDoorTac
set_option linter.unusedVariables false
set_option linter.unusedSimpArgs false
namespace Go.Pg
open Go Go.RowKit
def spliceL (cs : List AV) (off : Nat) (ds : List AV) : List AV := cs.take off ++ ds ++ cs.drop (off + ds.length)
def fillA (place : Nat → Option (Nat × Nat)) : List AV → List (Nat × AV) → Option (List AV)
  | cs, [] => some cs
  | cs, (i, x) :: rest => match place i, cellsA x with
    | some (off, size), some ds => if ds.length = size ∧ off + size ≤ cs.length then fillA place (spliceL cs off ds) rest else none
    | _, _ => none
def normC : AV → AV
  | .v (.slice none 0 0) => .lst []
  | x => x
theorem normC_rep {σ : Sg} {w : World} {c : AV} {u : Value} (h : Rep σ w c u) : Rep σ w (normC c) u := by
  unfold normC
  split
  · simp only [Rep] at h ⊢; subst h
    exact ⟨none, 0, 0, rfl, by simp, by simp [maxLen], by simp, by simp⟩
  · exact h
theorem normC_cell {c : AV} (h : c.cell = true) : (normC c).cell = true := by
  unfold normC
  split
  · rfl
  · exact h
theorem normL_rep {σ : Sg} {w : World} {cs : List AV} {f : Nat → Option Value} (h : RepL σ w cs f) : RepL σ w (cs.map normC) f := by
  rw [repL_iff'] at h ⊢
  intro i c hc
  simp only [List.getElem?_map, Option.map_eq_some_iff] at hc
  obtain ⟨d, hd, rfl⟩ := hc
  obtain ⟨u, hu, hr⟩ := h i d hd
  exact ⟨u, hu, normC_rep hr⟩
def fillE (size : Nat) : List (List AV) → List (Nat × AV) → Option (List (List AV))
  | es, [] => some es
  | es, (i, x) :: rest => match cellsA x with
    | some ds => if ds.length = size ∧ i < es.length then fillE size (es.set i (ds.map normC)) rest else none
    | none => none
theorem spliceL_get (cs : List AV) (off : Nat) (ds : List AV) (h : off + ds.length ≤ cs.length) (j : Nat) :
    (spliceL cs off ds)[j]? = if off ≤ j ∧ j < off + ds.length then ds[j - off]? else cs[j]? := by
  have ht : (cs.take off).length = off := by simp; omega
  unfold spliceL
  rw [List.append_assoc, List.getElem?_append, ht]
  by_cases h1 : j < off
  · rw [if_pos h1, if_neg (by omega), List.getElem?_take, if_pos h1]
  · rw [if_neg h1, List.getElem?_append]
    by_cases h2 : j < off + ds.length
    · rw [if_pos (by omega), if_pos (by omega)]
    · rw [if_neg (by omega), if_neg (by omega), List.getElem?_drop]
      congr 1; omega
theorem fold_set (off : Nat) : ∀ (l : List Value) (s : Nat) (cells : Array Value),
    ((l.zipIdx s).foldl (fun (cs : Array Value) p => cs.setIfInBounds (off + p.2) p.1) cells).size = cells.size ∧
    ∀ i, ((l.zipIdx s).foldl (fun (cs : Array Value) p => cs.setIfInBounds (off + p.2) p.1) cells)[i]? = if off + s ≤ i ∧ i < off + s + l.length ∧ i < cells.size then l[i - (off + s)]? else cells[i]? := by
  intro l
  induction l with
  | nil => intro s cells; exact ⟨rfl, fun i => by simp; omega⟩
  | cons v l ih =>
    intro s cells
    simp only [List.zipIdx_cons, List.foldl_cons]
    obtain ⟨h1, h2⟩ := ih (s + 1) (cells.setIfInBounds (off + s) v)
    refine ⟨by rw [h1]; simp, fun i => ?_⟩
    rw [h2]
    simp only [Array.size_setIfInBounds, Array.getElem?_setIfInBounds, List.length_cons]
    by_cases hi : i < cells.size
    · by_cases h3 : i = off + s
      · subst h3
        rw [if_neg (by omega), if_pos (by omega), if_pos (by omega)]
        simp [hi]
      · by_cases h4 : off + s ≤ i ∧ i < off + s + (l.length + 1)
        · rw [if_pos (by omega), if_pos (by omega)]
          have : i - (off + s) = (i - (off + (s + 1))) + 1 := by omega
          rw [this, List.getElem?_cons_succ]
        · rw [if_neg (by omega), if_neg (by omega), if_neg (by omega)]
    · have hn : cells[i]? = none := Array.getElem?_eq_none (by omega)
      simp only [hi, and_false, if_false, hn]
      split
      · rw [if_neg (by omega)]
      · rfl
theorem foldCells (v : Value) (off : Nat) (cells : Array Value) :
    (v.cells.zipIdx.foldl (fun cs (c, j) => cs.setIfInBounds (off + j) c) cells).size = cells.size ∧
    ∀ i, (v.cells.zipIdx.foldl (fun cs (c, j) => cs.setIfInBounds (off + j) c) cells)[i]? = if off ≤ i ∧ i < off + v.cells.size ∧ i < cells.size then v.cells[i - off]? else cells[i]? := by
  have h := fold_set off v.cells.toList 0 cells
  have e : v.cells.zipIdx.foldl (fun cs (c, j) => cs.setIfInBounds (off + j) c) cells = (v.cells.toList.zipIdx 0).foldl (fun (cs : Array Value) p => cs.setIfInBounds (off + p.2) p.1) cells := by
    rw [← Array.foldl_toList, Array.toList_zipIdx]
  rw [e]
  simpa using h
section
variable {P : Program} {T : TypeId → Option Ty} {B0 : Nat} {S0 : Fr} {w : World} {H : Nat → Option AO} {σ : Sg}
theorem fillA_sound {place : Nat → Option (Nat × Nat)} : ∀ (parts : List (Nat × AV)) (vs : List (Nat × Value)) (cs : List AV) (arr : Array Value) (r : List AV),
    vs.length = parts.length → (∀ i (h : i < parts.length) (h' : i < vs.length), vs[i].1 = parts[i].1 ∧ Rep σ w parts[i].2 vs[i].2) →
    arr.size = cs.length → (∀ c ∈ cs, c.cell = true) → RepL σ w cs (fun i => arr[i]?) → fillA place cs parts = some r →
    ∃ arr' : Array Value, Instr.fill place arr vs = some arr' ∧ arr'.size = r.length ∧ (∀ c ∈ r, c.cell = true) ∧ RepL σ w r (fun i => arr'[i]?)
  | [], [], cs, arr, r, _, _, h1, h2, h3, h => by
    simp only [fillA, Option.some.injEq] at h; subst h
    exact ⟨arr, rfl, h1, h2, h3⟩
  | (i, x) :: parts, (i', v) :: vs, cs, arr, r, hlen, hv, h1, h2, h3, h => by
    have h0 := hv 0 (by simp) (by simp)
    simp only [List.getElem_cons_zero] at h0
    obtain ⟨rfl, hrx⟩ := h0
    simp only [fillA] at h
    split at h
    · rename_i off size ds hpl hds
      split at h
      · rename_i hc
        obtain ⟨e1, e2, e3, e4⟩ := cellsA_spec hds hrx
        obtain ⟨f1, f2⟩ := foldCells v off arr
        have hsz : (spliceL cs off ds).length = cs.length := by simp [spliceL]; omega
        obtain ⟨arr', g1, g2, g3, g4⟩ := fillA_sound parts vs (spliceL cs off ds) (v.cells.zipIdx.foldl (fun cs (c, j) => cs.setIfInBounds (off + j) c) arr) r (by simpa using hlen)
          (fun j a b => by have := hv (j + 1) (by simp; omega) (by simp; omega); simpa using this)
          (by rw [f1, hsz, h1])
          (fun c hcm => by
            simp only [spliceL, List.mem_append] at hcm
            rcases hcm with (hcm | hcm) | hcm
            · exact h2 c (List.mem_of_mem_take hcm)
            · exact e2 c hcm
            · exact h2 c (List.mem_of_mem_drop hcm))
          (by
            rw [repL_iff'] at h3 e3 ⊢
            intro j c hj
            rw [spliceL_get cs off ds (by omega)] at hj
            rw [f2]
            split at hj
            · rename_i hin
              obtain ⟨u, hu, hr⟩ := e3 _ c hj
              exact ⟨u, by rw [if_pos ⟨hin.1, by omega, by omega⟩]; exact hu, hr⟩
            · rename_i hin
              obtain ⟨u, hu, hr⟩ := h3 _ c hj
              exact ⟨u, by rw [if_neg (by omega)]; exact hu, hr⟩)
          h
        refine ⟨arr', ?_, g2, g3, g4⟩
        simp only [Instr.fill, hpl]
        rw [if_neg (by simp; omega)]
        exact g1
      · cases h
    · cases h
  | [], _ :: _, _, _, _, hl, _, _, _, _, _ => by simp at hl
  | _ :: _, [], _, _, _, hl, _, _, _, _, _ => by simp at hl
def ElemsIn (σ : Sg) (w : World) (k : Nat) (es : List (List AV)) (arr : Array Value) : Prop :=
  arr.size = es.length * k ∧ (∀ e ∈ es, e.length = k ∧ ∀ c ∈ e, c.cell = true) ∧ ∀ i (h : i < es.length), RepL σ w es[i] (fun j => arr[i * k + j]?)
theorem fillE_sound {k : Nat} (hk : 0 < k) : ∀ (parts : List (Nat × AV)) (vs : List (Nat × Value)) (es : List (List AV)) (arr : Array Value) (r : List (List AV)),
    vs.length = parts.length → (∀ i (h : i < parts.length) (h' : i < vs.length), vs[i].1 = parts[i].1 ∧ Rep σ w parts[i].2 vs[i].2) →
    ElemsIn σ w k es arr → fillE k es parts = some r →
    ∃ arr' : Array Value, Instr.fill (fun i => some (i * k, k)) arr vs = some arr' ∧ ElemsIn σ w k r arr' ∧ r.length = es.length
  | [], [], es, arr, r, _, _, h1, h => by
    simp only [fillE, Option.some.injEq] at h; subst h
    exact ⟨arr, rfl, h1, rfl⟩
  | (i, x) :: parts, (i', v) :: vs, es, arr, r, hlen, hv, ⟨h1, h2, h3⟩, h => by
    have h0 := hv 0 (by simp) (by simp)
    simp only [List.getElem_cons_zero] at h0
    obtain ⟨rfl, hrx⟩ := h0
    simp only [fillE] at h
    split at h
    · rename_i ds hds
      split at h
      · rename_i hc
        obtain ⟨e1, e2, e3, e4⟩ := cellsA_spec hds hrx
        obtain ⟨f1, f2⟩ := foldCells v (i' * k) arr
        have hle : i' * k + k ≤ arr.size := by
          rw [h1]
          have : (i' + 1) * k ≤ es.length * k := Nat.mul_le_mul_right _ (by omega)
          rw [Nat.add_mul] at this; omega
        obtain ⟨arr', g1, g2, g3⟩ := fillE_sound hk parts vs (es.set i' (ds.map normC)) (v.cells.zipIdx.foldl (fun cs (c, j) => cs.setIfInBounds (i' * k + j) c) arr) r (by simpa using hlen)
          (fun j a b => by have := hv (j + 1) (by simp; omega) (by simp; omega); simpa using this)
          ⟨by rw [f1]; simpa using h1, fun e he => by
              rcases List.mem_or_eq_of_mem_set he with he | rfl
              · exact h2 e he
              · exact ⟨by simpa using hc.1, fun c hc' => by
                  simp only [List.mem_map] at hc'
                  obtain ⟨d, hd, rfl⟩ := hc'
                  exact normC_cell (e2 d hd)⟩, fun j hj => by
              simp only [List.length_set] at hj
              rw [List.getElem_set]
              split
              · rename_i he
                subst he
                refine RepL.congr (fun m hm => ?_) (normL_rep e3)
                rw [List.length_map] at hm
                rw [f2, if_pos ⟨by omega, by omega, by omega⟩]
                congr 1; omega
              · rename_i hne
                refine RepL.congr (fun m hm => ?_) (h3 j hj)
                rw [(h2 _ (List.getElem_mem hj)).1] at hm
                rw [f2, if_neg]
                intro ⟨a1, a2, _⟩
                have : v.cells.size = k := by omega
                rcases Nat.lt_or_gt_of_ne hne with hlt | hgt
                · have : (i' + 1) * k ≤ j * k := Nat.mul_le_mul_right _ hlt
                  rw [Nat.add_mul] at this; omega
                · have : (j + 1) * k ≤ i' * k := Nat.mul_le_mul_right _ hgt
                  rw [Nat.add_mul] at this; omega⟩
          h
        refine ⟨arr', ?_, g2, by simpa using g3⟩
        simp only [Instr.fill]
        rw [if_neg (by simp; omega)]
        exact g1
      · cases h
    · cases h
  | [], _ :: _, _, _, _, hl, _, _, _ => by simp at hl
  | _ :: _, [], _, _, _, hl, _, _, _ => by simp at hl
theorem made_at (z : Array Value) (n k i j : Nat) (hz : z.size = k) (hi : i < n) (hj : j < k) :
    (((Array.range (n * k)).map (z[· % z.size]!) : Array Value)[i * k + j]?) = z[j]? := by
  have hlt : i * k + j < n * k := by
    have : (i + 1) * k ≤ n * k := Nat.mul_le_mul_right _ hi
    rw [Nat.add_mul] at this; omega
  have hmod : (i * k + j) % z.size = j := by rw [hz, Nat.mul_comm, Nat.mul_add_mod]; exact Nat.mod_eq_of_lt hj
  rw [Array.getElem?_eq_getElem (by simpa using hlt), Array.getElem?_eq_getElem (by omega)]
  simp only [Array.getElem_map, Array.getElem_range, hmod]
  rw [getElem!_pos z j (by omega)]
theorem made_elems {t : TypeId} {y : Ty} (hf : TyFact P t y) {z : Value} (hz : z.cells.toList.map const1 = y.zero) (n : Nat) :
    ElemsIn σ w y.size (List.replicate n y.zero) ((Array.range (n * y.size)).map (z.cells[· % z.cells.size]!)) := by
  have hzs : z.cells.size = y.size := by rw [← hf.size, ← hz]; simp
  refine ⟨by simp, fun e he => ?_, fun i hi => ?_⟩
  · rw [List.mem_replicate] at he
    rw [he.2]
    exact ⟨hf.size, fun c hc => List.all_eq_true.1 hf.cell c hc⟩
  · simp only [List.length_replicate] at hi
    rw [List.getElem_replicate]
    have h0 := repL_const1 σ w z.cells.toList
    rw [hz] at h0
    refine RepL.congr (fun j hj => ?_) h0
    rw [hf.size] at hj
    rw [made_at _ _ _ _ _ hzs hi hj]
    simp
def putH (H : Nat → Option AO) (key : Nat) : Option Row → Nat → Option AO
  | none => H
  | some r => updH H key (.row r)
def Does (P : Program) (B0 : Nat) (S0 : Fr) (w : World) (H : Nat → Option AO) (σ : Sg) (key : Nat) (x : Sem Value) (r : AV) (nr : Option Row) : Prop :=
  ∃ v w' σ', x.run P w = .ok v w' ∧ Below B0 w w' ∧ Le σ σ' w w' ∧ Inv B0 S0 w' (putH H key nr) σ' ∧ Rep σ' w' r v
theorem Does.quiet (hi : Inv B0 S0 w H σ) {key : Nat} {x : Sem Value} {r : AV} (h : ∃ v, x.run P w = .ok v w ∧ Rep σ w r v) : Does P B0 S0 w H σ key x r none := by
  obtain ⟨v, h1, h2⟩ := h
  exact ⟨v, w, σ, h1, Below.refl _ _, hi.le_heap (fun _ _ => rfl), hi, h2⟩
theorem Does.push (hi : Inv B0 S0 w H σ) (hB : B0 ≤ w.heap.size) {key : Nat} (hf : H key = none) {k : Nat} {es : List (List AV)} {t : TypeId} {arr : Array Value} {x : Sem Value} {r : AV} {v : Value}
    (hE : ElemsIn σ w k es arr) (hlen : es.length ≤ maxLen)
    (hrun : x.run P w = .ok v (w.alloc (.cells arr t)))
    (hv : (r = .ref key 0 es.length ∧ v = .slice (some ⟨w.heap.size, 0, none⟩) es.length es.length) ∨ (r = .ptr key 0 0 1 ∧ es.length = 1 ∧ v = .pointer (some ⟨w.heap.size, 0, none⟩))) :
    Does P B0 S0 w H σ key x r (some { k := k, es := es, ty := t }) := by
  obtain ⟨h1, h2, h3⟩ := hE
  have hinv := hi.push hf hB { k := k, es := es, ty := t } es.length arr (Nat.le_refl _) hlen h1 rfl rfl h2 h3
  refine ⟨v, w.alloc (.cells arr t), _, hrun, (Below.refl _ _).alloc hB _, hi.le_push hf _, hinv, ?_⟩
  rcases hv with ⟨rfl, rfl⟩ | ⟨rfl, hone, rfl⟩
  · simp only [Rep]
    refine ⟨.inl rfl, some ⟨w.heap.size, 0, none⟩, es.length, rfl, Nat.le_refl _, hlen, fun hn => ⟨w.heap.size, by simp [Sg.push], by simp [Sg.push], by simp [Sg.push]⟩, fun _ _ => .inr ⟨w.heap.size, by simp [Sg.push], rfl, by simp [Sg.push]⟩⟩
  · simp only [Rep]
    exact ⟨w.heap.size, by simp [Sg.push], by simp [Sg.push], by omega, by simp [Sg.push, hone]⟩
end
end Go.Pg

namespace Go.Pg
open Go Go.RowKit
def builtA (T : TypeId → Option Ty) (t : TypeId) (parts : List (Nat × AV)) : Option AV :=
  match T t with
  | some { d := .st fs, zero, .. } =>
    if fs.all (fun p => (T p.2).isSome) then (fillA (fun i => (fs[i]?).map fun p => (p.1, ((T p.2).map (·.size)).getD 0)) zero parts).map .agg else none
  | some { d := .arr _ e, zero, .. } => match T e with
    | some y => (fillA (fun i => some (i * y.size, y.size)) zero parts).map .agg
    | none => none
  | _ => none
def listA : List (Nat × Operand) → (Operand → AV) → List (Nat × AV)
  | [], _ => []
  | p :: ps, ev => (p.1, ev p.2) :: listA ps ev
def evsA : List Operand → (Operand → AV) → List AV
  | [], _ => []
  | p :: ps, ev => ev p :: evsA ps ev
def stepA (T : TypeId → Option Ty) (eqT : TypeId → Bool) (H : Nat → Option AO) (ev : Operand → AV) (key : Nat) : Op → Option (AV × Option Row)
  | .move x => some (ev x, none)
  | .assign x => some (ev x, none)
  | .pick c a b => match ev c with
    | .v (.bool t) => some (if t then ev a else ev b, none)
    | _ => none
  | .alloc t => match T t with
    | some y => some (.ptr key 0 0 1, some { k := y.size, es := [y.zero], ty := t })
    | none => none
  | .box t x => match cellsA (ev x) with
    | some cs => some (.ptr key 0 0 1, some { k := cs.length, es := [cs], ty := t })
    | none => none
  | .build t parts => (builtA T t (listA parts.toList ev)).map (·, none)
  | .buildSlice t len parts => match T t with
    | some { d := .slice e, .. } => match T e with
      | some y => if 0 < y.size ∧ len * y.size ≤ 16777216 then (fillE y.size (List.replicate len y.zero) (listA parts.toList ev)).map fun es => (.ref key 0 len, some { k := y.size, es := es, ty := e }) else none
      | none => none
    | _ => none
  | .load t a => (loadA T H t (ev a)).map (·, none)
  | .nilCheck x => match ev x with
    | .iptr e j => some (.iptr e j, none)
    | .ptr id i j tag => some (.ptr id i j tag, none)
    | _ => none
  | .binOp op t x y _ => (binA T eqT op t (ev x) (ev y)).map (·, none)
  | .unOp op _ x => (unA op (ev x)).map (·, none)
  | .convert s d x => (convA T s d (ev x)).map (·, none)
  | .makeFunc (.func f) first cs => if first.size = 0 then some (.clo f (evsA cs.toList ev), none) else (if cs.size = 0 then some (.bnd f (evsA first.toList ev), none) else none)
  | .makeSlice t l c => match T t, ev l, ev c with
    | some { d := .slice e, .. }, .v (.int _ n), .v (.int _ m) => match T e with
      | some y => if 0 ≤ n ∧ n = m ∧ n * y.bytes ≤ 281474976710656 ∧ n ≤ 281474976710656 then some (.ref key 0 n.toNat, some { k := y.size, es := List.replicate n.toNat y.zero, ty := e }) else none
      | none => none
    | _, _, _ => none
  | .slice t x lo hi none => (sliceA T H t (ev x) (lo.map ev) (hi.map ev)).map (·, none)
  | .fieldAddr s x f => (fieldAddrA T s (ev x) f).map (·, none)
  | .field s x f => (fieldA T s (ev x) f).map (·, none)
  | .indexAddr t x i => (indexAddrA T H t (ev x) (ev i)).map (·, none)
  | .index t x i => (indexA T t (ev x) (ev i)).map (·, none)
  | .extract t i => (extractA (ev t) i).map (·, none)
  | .lookup t m k ok => (lookupA T eqT H t (ev m) (ev k) ok).map (·, none)
  | .call { callee := .builtin .len, args, argTypes } => match args.toList, argTypes.toList with
    | [x], [t] => (lenA T t (ev x)).map (·, none)
    | _, _ => none
  | .call { callee := .builtin .min, args, .. } => (minA .min (evsA args.toList ev)).map (·, none)
  | .call { callee := .builtin .max, args, .. } => (minA .max (evsA args.toList ev)).map (·, none)
  | _ => none
section
variable {P : Program} {T : TypeId → Option Ty} {B0 : Nat} {S0 : Fr} {w : World} {H : Nat → Option AO} {σ : Sg}
theorem boundA_sound {x : Option AV} {v : Option Value} {d n : Nat} (hx : ∀ a, x = some a → ∃ u, v = some u ∧ Rep σ w a u) (hn : x = none → v = none) (h : boundA x d = some n) :
    (v = none ∧ n = d) ∨ ∃ k, v = some (.int k (n : Int)) := by
  unfold boundA at h
  split at h
  · injection h with h; exact .inl ⟨hn rfl, h.symm⟩
  · rename_i k i
    split at h
    · rename_i hi
      injection h with h
      obtain ⟨u, hu, hr⟩ := hx _ rfl
      simp only [Rep] at hr; subst hr
      refine .inr ⟨k, ?_⟩
      rw [hu]; congr 2; omega
    · cases h
  · cases h
theorem run_bounds {b : Bool} {len cap l h : Nat} {lo hi : Option Value} (h1 : (lo = none ∧ l = 0) ∨ ∃ k, lo = some (.int k (l : Int))) (h2 : (hi = none ∧ h = len) ∨ ∃ k, hi = some (.int k (h : Int)))
    (hl : l ≤ h) (hh : h ≤ cap) : (Instr.sliceBounds b len cap lo hi none).run P w = .ok (l, h, cap) w := by
  rcases h1 with ⟨rfl, rfl⟩ | ⟨k1, rfl⟩ <;> rcases h2 with ⟨rfl, rfl⟩ | ⟨k2, rfl⟩ <;> simp [Instr.sliceBounds, Instr.sliceBound, asIntOf, hl, hh]
theorem sliceA_sound (hT : TyOK P T) (hi : Inv B0 S0 w H σ) {t : TypeId} {x r : AV} {u : Value} {lo hi' : Option AV} {vlo vhi : Option Value} (hr : Rep σ w x u)
    (hlo : ∀ a, lo = some a → ∃ u, vlo = some u ∧ Rep σ w a u) (nlo : lo = none → vlo = none) (hhi : ∀ a, hi' = some a → ∃ u, vhi = some u ∧ Rep σ w a u) (nhi : hi' = none → vhi = none)
    (h : sliceA T H t x lo hi' = some r) : ∃ v, (Instr.sliceAt t u vlo vhi none).run P w = .ok v w ∧ Rep σ w r v := by
  unfold sliceA at h
  split at h
  · rename_i s ht
    split at h
    · rename_i l hh hl1 hh1
      split at h
      · rename_i hc
        injection h with h; subst h
        simp only [Rep] at hr; subst hr
        have hu := (hT t _ ht).str rfl
        refine ⟨.string (s.extract l hh), ?_, rfl⟩
        have hb := run_bounds (P := P) (w := w) (b := false) (len := s.size) (cap := s.size) (boundA_sound hlo nlo hl1) (boundA_sound hhi nhi hh1) hc.1 hc.2
        simp [Instr.sliceAt, Instr.slice, run_underlying hu, hb]
      · cases h
    · cases h
  · rename_i e es ht
    split at h
    · rename_i y l hh hy hl1 hh1
      split at h
      · rename_i hc
        obtain ⟨hc1, hc2, hc3⟩ := hc
        injection h with h; subst h
        simp only [Rep] at hr
        obtain ⟨A, cap, k, rfl, g1, g2, g3, g4⟩ := hr
        have hu := (hT t _ ht).slice rfl
        have hb := run_bounds (P := P) (w := w) (b := true) (len := es.length) (cap := cap) (boundA_sound hlo nlo hl1) (boundA_sound hhi nhi hh1) hc1 (by omega)
        refine ⟨_, by simp only [Instr.sliceAt, Instr.slice, run_underlying hu, Sem.run_bind, Result.andThen_ok, hb, (hT e y hy).run_size, Sem.run_pure]; rfl, ?_⟩
        simp only [Rep]
        have hlen : ((es.take hh).drop l).length = hh - l := by simp; omega
        refine ⟨_, cap - l, k, by rw [hlen], by omega, by omega, fun e he => g3 e (List.mem_of_mem_take (List.mem_of_mem_drop he)), fun hne => ?_⟩
        have hpos : l < hh := by
          rcases Nat.lt_or_ge l hh with h | h
          · exact h
          · exact absurd (List.eq_nil_of_length_eq_zero (by omega)) hne
        obtain ⟨b, o, rfl, hS, hR⟩ := g4 (fun he => by subst he; simp at hc2; omega)
        have hk : k = y.size := by
          have hm : es[0]'(by omega) ∈ es := List.getElem_mem _
          rw [← (g3 _ hm).1]; exact hc3 _ hm
        refine ⟨b, o + l * k, by rw [if_neg (by omega)]; simp [Addr.add_lit, hk], hS, ?_⟩
        rw [repLL_iff] at hR ⊢
        intro i hi
        have := hR (l + i) (by omega)
        have he : ((es.take hh).drop l)[i] = es[l + i]'(by omega) := by simp
        rw [he]
        refine RepL.congr (fun j hj => ?_) this
        congr 2
        rw [Nat.add_mul]; omega
      · cases h
    · cases h
  · rename_i e id off n ht
    split at h
    · rename_i y r' l hh hy hrow hl1 hh1
      split at h
      · rename_i hc
        obtain ⟨hc1, hc2, hc3⟩ := hc
        injection h with h; subst h
        simp only [Rep] at hr
        obtain ⟨hal, A, cap, rfl, g1, g2, g3, g4⟩ := hr
        have hR := hi.row id r' (rowAt_eq hrow)
        have hu := (hT t _ ht).slice rfl
        have hb := run_bounds (P := P) (w := w) (b := true) (len := n) (cap := cap) (boundA_sound hlo nlo hl1) (boundA_sound hhi nhi hh1) hc1 (by omega)
        refine ⟨_, by simp only [Instr.sliceAt, Instr.slice, run_underlying hu, Sem.run_bind, Result.andThen_ok, hb, (hT e y hy).run_size, Sem.run_pure]; rfl, ?_⟩
        simp only [Rep]
        refine ⟨hal, _, cap - l, rfl, by omega, by omega, fun hne => ?_, fun h0 hl' => ?_⟩
        · obtain ⟨b, rfl, hown, hext⟩ := g3 (by omega)
          refine ⟨b, by rw [if_neg (by clear g3 g4; omega)]; simp [Addr.add_lit, hR.k, hc3, Nat.add_mul], hown, by clear g3 g4; omega⟩
        · have hl0 : l = 0 := by omega
          have hoff : off = 0 := by omega
          subst hl0; subst hoff
          have hn : n = σ.len id := by
            have h1 : n ≤ σ.len id := by
              by_cases hn0 : n = 0
              · clear g3 g4; omega
              · obtain ⟨b, _, hown, hext⟩ := g3 hn0
                have := (hR.own b hown).2.1; rw [hR.len]; clear g3 g4; omega
            clear g3 g4; omega
          rcases g4 rfl hn with ⟨a1, a2, rfl, a4⟩ | ⟨b, a1, rfl, a3⟩
          · exact .inl ⟨a1, by omega, by simp, by omega⟩
          · exact .inr ⟨b, a1, by simp [Addr.add], by omega⟩
      · cases h
    · cases h
  · cases h
theorem listA_len (ps : List (Nat × Operand)) (ev : Operand → AV) : (listA ps ev).length = ps.length := by
  induction ps <;> simp_all [listA]
theorem listA_get (ps : List (Nat × Operand)) (ev : Operand → AV) : ∀ i (h : i < (listA ps ev).length) (h' : i < ps.length), (listA ps ev)[i] = (ps[i].1, ev ps[i].2) := by
  induction ps with
  | nil => intro i h; simp [listA] at h
  | cons p ps ih =>
    intro i h h'
    cases i with
    | zero => rfl
    | succ i => simpa [listA] using ih i (by simpa [listA] using h) (by simpa using h')
theorem evsA_map (ps : List Operand) (ev : Operand → AV) : evsA ps ev = ps.map ev := by
  induction ps <;> simp_all [evsA]
theorem places_run (hT : TyOK P T) (fs : Array Field) (hall : (fs.toList.map fun f => (f.offset, f.type)).all (fun p => (T p.2).isSome) = true) :
    (fs.mapM fun f => (do pure (f.offset, ← sizeOf f.type) : Sem (Nat × Nat))).run P w = .ok (fs.map fun f => (f.offset, ((T f.type).map (·.size)).getD 0)) w := by
  rw [Array.mapM_eq_mapM_toList]
  have key : ∀ l : List Field, (l.map fun f => (f.offset, f.type)).all (fun p => (T p.2).isSome) = true →
      (l.mapM fun f => (do pure (f.offset, ← sizeOf f.type) : Sem (Nat × Nat))).run P w = .ok (l.map fun f => (f.offset, ((T f.type).map (·.size)).getD 0)) w := by
    intro l
    induction l with
    | nil => intro _; simp
    | cons f l ih =>
      intro h
      simp only [List.map_cons, List.all_cons, Bool.and_eq_true] at h
      obtain ⟨h1, h2⟩ := h
      obtain ⟨y, hy⟩ := Option.isSome_iff_exists.1 h1
      simp only [List.mapM_cons, Sem.run_bind, (hT _ y hy).run_size, Result.andThen_ok, Sem.run_pure, ih h2, List.map_cons, hy, Option.map_some, Option.getD_some]
  simp only [Sem.run_map, key _ hall, Result.andThen_ok]
  congr 1
  rw [← Array.toList_inj]; simp
theorem builtA_sound (hT : TyOK P T) {a : Act} {ev : Operand → AV} (hev : ∀ x, Rep σ w (ev x) (a.eval x)) {t : TypeId} {parts : Array (Nat × Operand)} {r : AV} (h : builtA T t (listA parts.toList ev) = some r) :
    ∃ v, (Instr.build t (parts.map fun ((i, x) : Nat × Operand) => (i, a.eval x))).run P w = .ok v w ∧ Rep σ w r v := by
  have hvs : ∀ i (h : i < (listA parts.toList ev).length) (h' : i < (parts.map fun ((i, x) : Nat × Operand) => (i, a.eval x)).toList.length), ((parts.map fun ((i, x) : Nat × Operand) => (i, a.eval x)).toList[i]).1 = (listA parts.toList ev)[i].1 ∧ Rep σ w (listA parts.toList ev)[i].2 ((parts.map fun ((i, x) : Nat × Operand) => (i, a.eval x)).toList[i]).2 := by
    intro i h h'
    rw [listA_get _ _ i h (by rw [listA_len] at h; exact h)]
    simp only [Array.toList_map, List.getElem_map, true_and]
    exact hev _
  have hlen : (parts.map fun ((i, x) : Nat × Operand) => (i, a.eval x)).toList.length = (listA parts.toList ev).length := by rw [listA_len]; simp
  unfold builtA at h
  split at h
  · rename_i sz by_ z fs ht
    split at h
    · rename_i hall
      simp only [Option.map_eq_some_iff] at h
      obtain ⟨cs, hcs, rfl⟩ := h
      have hf := hT t _ ht
      obtain ⟨fa, hu, hm⟩ := hf.st rfl
      obtain ⟨zv, hz, hzc⟩ := hf.run_zero w
      subst hm
      simp only at hzc
      have h0 := repL_const1 σ w zv.cells.toList
      rw [hzc] at h0
      have hzl : zv.cells.size = z.length := by rw [← hzc]; simp
      have hpl : (fun (i : Nat) => ((fa.toList.map fun f => (f.offset, f.type))[i]?).map fun (p : Nat × TypeId) => (p.1, ((T p.2).map (·.size)).getD 0)) = fun i => (fa.map fun f => (f.offset, ((T f.type).map (·.size)).getD 0))[i]? := by
        funext i
        simp only [List.getElem?_map, Array.getElem?_map, Array.getElem?_toList]
        cases fa[i]? <;> rfl
      rw [hpl] at hcs
      obtain ⟨arr', g1, g2, g3, g4⟩ := fillA_sound (σ := σ) (w := w) (listA parts.toList ev) (parts.map fun ((i, x) : Nat × Operand) => (i, a.eval x)).toList z zv.cells cs hlen hvs hzl (fun c hc => List.all_eq_true.1 hf.cell c hc) (by simpa using h0) hcs
      refine ⟨.agg arr', ?_, by simp only [Rep]; exact ⟨arr', rfl, g2, g3, g4⟩⟩
      simp only [Instr.build, Sem.run_bind, hz, Result.andThen_ok, run_underlying hu, places_run hT fa hall, g1, Sem.run_pure]
    · cases h
  · rename_i sz by_ z n e ht
    split at h
    · rename_i y hy
      simp only [Option.map_eq_some_iff] at h
      obtain ⟨cs, hcs, rfl⟩ := h
      have hf := hT t _ ht
      have hu := hf.arr rfl
      obtain ⟨zv, hz, hzc⟩ := hf.run_zero w
      simp only at hzc
      have h0 := repL_const1 σ w zv.cells.toList
      rw [hzc] at h0
      have hzl : zv.cells.size = z.length := by rw [← hzc]; simp
      obtain ⟨arr', g1, g2, g3, g4⟩ := fillA_sound (σ := σ) (w := w) (listA parts.toList ev) (parts.map fun ((i, x) : Nat × Operand) => (i, a.eval x)).toList z zv.cells cs hlen hvs hzl (fun c hc => List.all_eq_true.1 hf.cell c hc) (by simpa using h0) hcs
      refine ⟨.agg arr', ?_, by simp only [Rep]; exact ⟨arr', rfl, g2, g3, g4⟩⟩
      simp only [Instr.build, Sem.run_bind, hz, Result.andThen_ok, run_underlying hu, (hT e y hy).run_size, g1, Sem.run_pure]
    · cases h
  · cases h
theorem repL_evs {a : Act} {ev : Operand → AV} (hev : ∀ x, Rep σ w (ev x) (a.eval x)) (ps : Array Operand) : RepL σ w (evsA ps.toList ev) (fun i => (ps.map a.eval)[i]?) := by
  rw [repL_iff', evsA_map]
  intro i c hc
  simp only [List.getElem?_map, Option.map_eq_some_iff] at hc
  obtain ⟨x, hx, rfl⟩ := hc
  rw [Array.getElem?_toList] at hx
  exact ⟨a.eval x, by simp [hx], hev x⟩
theorem makeA_sound (hT : TyOK P T) (hi : Inv B0 S0 w H σ) (hB : B0 ≤ w.heap.size) {key : Nat} (hf : H key = none) {t e : TypeId} {sz by_ : Nat} {z : List AV} {y : Ty} {k1 k2 : IntKind} {n : Int}
    (ht : T t = some { size := sz, bytes := by_, zero := z, d := .slice e }) (hy : T e = some y) (h0 : 0 ≤ n) (hb : n * y.bytes ≤ 281474976710656) (hm : n ≤ 281474976710656) :
    Does P B0 S0 w H σ key (Instr.makeSlice t (.int k1 n) (.int k2 n)) (.ref key 0 n.toNat) (some { k := y.size, es := List.replicate n.toNat y.zero, ty := e }) := by
  have hfy := hT e y hy
  obtain ⟨i, zv, g1, g2, g3, g4, g5⟩ := hfy.get
  have hel := made_elems (σ := σ) (w := w) hfy g5 n.toNat
  have hrun := run_make (P := P) w t e i zv ((hT t _ ht).slice rfl) g1 g4 k1 k2 n n h0 (Int.le_refl _) (by rw [g3, Int.mul_comm]; exact hb) (by omega)
  have hlr : (List.replicate n.toNat y.zero).length = n.toNat := by simp
  rw [g2] at hrun
  have hmx : (List.replicate n.toNat y.zero).length ≤ maxLen := by rw [hlr]; simp only [maxLen]; omega
  exact Does.push (t := e) hi hB hf hel hmx hrun (.inl ⟨by rw [hlr], by rw [hlr]⟩)
theorem sliceLitA_sound (hT : TyOK P T) (hi : Inv B0 S0 w H σ) (hB : B0 ≤ w.heap.size) {key : Nat} (hf : H key = none) {a : Act} {ev : Operand → AV} (hev : ∀ x, Rep σ w (ev x) (a.eval x)) {t e : TypeId} {sz by_ len : Nat} {z : List AV} {y : Ty}
    {parts : Array (Nat × Operand)} {es : List (List AV)} (ht : T t = some { size := sz, bytes := by_, zero := z, d := .slice e }) (hy : T e = some y) (hc1 : 0 < y.size) (hc2 : len * y.size ≤ 16777216)
    (hes : fillE y.size (List.replicate len y.zero) (listA parts.toList ev) = some es) :
    Does P B0 S0 w H σ key (Instr.buildSlice t len (parts.map fun ((i, x) : Nat × Operand) => (i, a.eval x))) (.ref key 0 len) (some { k := y.size, es := es, ty := e }) := by
  have hfy := hT e y hy
  obtain ⟨zv, hz, hzc⟩ := hfy.run_zero w
  have hel := made_elems (σ := σ) (w := w) hfy hzc len
  obtain ⟨arr', g1, g2, g3⟩ := fillE_sound hc1 (listA parts.toList ev) (parts.map fun ((i, x) : Nat × Operand) => (i, a.eval x)).toList (List.replicate len y.zero) _ es (by rw [listA_len]; simp)
    (fun i h h' => by
      rw [listA_get _ _ i h (by rw [listA_len] at h; exact h)]
      simp only [Array.toList_map, List.getElem_map, true_and]
      exact hev _) hel hes
  have hlen : es.length = len := by simpa using g3
  subst hlen
  have hmax : es.length ≤ maxLen := by
    have : es.length ≤ es.length * y.size := Nat.le_mul_of_pos_right _ hc1
    simp only [maxLen]; omega
  refine Does.push (arr := arr') (t := e) hi hB hf g2 hmax ?_ (.inl ⟨rfl, rfl⟩)
  simp only [Instr.buildSlice, Sem.run_bind, run_underlying ((hT t _ ht).slice rfl), Result.andThen_ok, hfy.run_size]
  rw [if_neg (by omega)]
  by_cases h0 : es.length * y.size = 0
  · have : es.length = 0 := by
      rcases Nat.mul_eq_zero.1 h0 with h | h
      · exact h
      · omega
    have e0 : Array.range 0 = #[] := rfl
    rw [this, Nat.zero_mul, e0, Array.map_empty] at g1
    rw [this, Nat.zero_mul, e0]
    simp only [if_true, Sem.run_bind, Sem.run_pure, Result.andThen_ok, Array.map_empty, g1, newRow, run_newObj, World.alloc_eq]
  · simp only [h0, if_false, Sem.run_bind, hz, Result.andThen_ok, Sem.run_pure, g1, newRow, run_newObj, World.alloc_eq]
set_option maxHeartbeats 2000000 in
theorem stepA_sound (hT : TyOK P T) {eqT : TypeId → Bool} (hE : ∀ t, eqT t = true → EqFact P t) (hi : Inv B0 S0 w H σ) (hB : B0 ≤ w.heap.size) {key : Nat} (hf : H key = none) {a : Act} {ev : Operand → AV}
    (hev : ∀ x, Rep σ w (ev x) (a.eval x)) {o : Oper} {r : AV} {nr : Option Row} (h : stepA T eqT H ev key o.op = some (r, nr)) :
    ∃ v w' σ', (execOp a.eval o).run P w = .ok (.value v) w' ∧ Below B0 w w' ∧ Le σ σ' w w' ∧ Inv B0 S0 w' (putH H key nr) σ' ∧ Rep σ' w' r v := by
  obtain ⟨dst, op, type, pos, after, guard⟩ := o
  have wrap : ∀ {x : Sem Value}, (execOp a.eval ⟨dst, op, type, pos, after, guard⟩ = (do pure (.value (← x)) : Sem Next)) → Does P B0 S0 w H σ key x r nr →
      ∃ v w' σ', (execOp a.eval ⟨dst, op, type, pos, after, guard⟩).run P w = .ok (.value v) w' ∧ Below B0 w w' ∧ Le σ σ' w w' ∧ Inv B0 S0 w' (putH H key nr) σ' ∧ Rep σ' w' r v := by
    rintro x hx ⟨v, w', σ', h1, h2⟩
    exact ⟨v, w', σ', by rw [hx]; simp [h1], h2⟩
  have quiet : ∀ {x : Sem Value} {c : Option AV}, (execOp a.eval ⟨dst, op, type, pos, after, guard⟩ = (do pure (.value (← x)) : Sem Next)) → c.map (fun y => (y, (none : Option Row))) = some (r, nr) →
      (∀ y, c = some y → ∃ v, x.run P w = .ok v w ∧ Rep σ w y v) → ∃ v w' σ', (execOp a.eval ⟨dst, op, type, pos, after, guard⟩).run P w = .ok (.value v) w' ∧ Below B0 w w' ∧ Le σ σ' w w' ∧ Inv B0 S0 w' (putH H key nr) σ' ∧ Rep σ' w' r v := by
    intro x c hx hc hs
    simp only [Option.map_eq_some_iff, Prod.mk.injEq] at hc
    obtain ⟨y, hy, rfl, rfl⟩ := hc
    exact wrap hx (Does.quiet hi (hs y hy))
  have same : ∀ {v : Value}, (execOp a.eval ⟨dst, op, type, pos, after, guard⟩).run P w = .ok (.value v) w → Rep σ w r v → nr = none → ∃ v w' σ', (execOp a.eval ⟨dst, op, type, pos, after, guard⟩).run P w = .ok (.value v) w' ∧ Below B0 w w' ∧ Le σ σ' w w' ∧ Inv B0 S0 w' (putH H key nr) σ' ∧ Rep σ' w' r v := by
    intro v h1 h2 h3
    subst h3
    exact ⟨v, w, σ, h1, Below.refl _ _, hi.le_heap (fun _ _ => rfl), hi, h2⟩
  simp only at h
  unfold stepA at h
  split at h
  · injection h with h; simp only [Prod.mk.injEq] at h; obtain ⟨rfl, rfl⟩ := h
    exact same (v := a.eval _) rfl (hev _) rfl
  · injection h with h; simp only [Prod.mk.injEq] at h; obtain ⟨rfl, rfl⟩ := h
    exact same (v := a.eval _) rfl (hev _) rfl
  · rename_i c x y
    try dsimp only at h
    split at h
    · rename_i t ht
      injection h with h; simp only [Prod.mk.injEq] at h; obtain ⟨rfl, rfl⟩ := h
      have hc := hev c
      rw [ht] at hc
      simp only [Rep] at hc
      refine same (v := if t then a.eval x else a.eval y) ?_ ?_ rfl
      · simp [execOp, hc, asBool]
      · cases t <;> simp [hev]
    · cases h
  · rename_i t
    try dsimp only at h
    split at h
    · rename_i y ht
      injection h with h; simp only [Prod.mk.injEq] at h; obtain ⟨rfl, rfl⟩ := h
      have hfy := hT t y ht
      obtain ⟨z, hz, hzc⟩ := hfy.run_zero w
      have hzs : z.cells.size = y.size := by rw [← hfy.size, ← hzc]; simp
      refine wrap (x := Instr.alloc t true (.tuple #[])) rfl (Does.push (arr := z.cells) (t := t) hi hB hf ⟨by simp [hzs], ?_, ?_⟩ (by simp [maxLen]) ?_ (.inr ⟨rfl, rfl, rfl⟩))
      · intro e he
        simp only [List.mem_singleton] at he; subst he
        exact ⟨hfy.size, fun c hc => List.all_eq_true.1 hfy.cell c hc⟩
      · intro i hi'
        simp only [List.length_singleton] at hi'
        obtain rfl : i = 0 := by omega
        have h0 := repL_const1 σ w z.cells.toList
        rw [hzc] at h0
        simpa using h0
      · simp [Instr.alloc, hz, newVar, newRow]
    · cases h
  · rename_i t x
    try dsimp only at h
    split at h
    · rename_i cs hcs
      injection h with h; simp only [Prod.mk.injEq] at h; obtain ⟨rfl, rfl⟩ := h
      obtain ⟨e1, e2, e3, e4⟩ := cellsA_spec hcs (hev x)
      refine wrap (x := Instr.box t (a.eval x)) rfl (Does.push (arr := (a.eval x).cells) (t := t) hi hB hf ⟨by simp [e1], ?_, ?_⟩ (by simp [maxLen]) ?_ (.inr ⟨rfl, rfl, rfl⟩))
      · intro e he
        simp only [List.mem_singleton] at he; subst he
        exact ⟨rfl, e2⟩
      · intro i hi'
        simp only [List.length_singleton] at hi'
        obtain rfl : i = 0 := by omega
        simpa using e3
      · simp [Instr.box, newVar, newRow]
    · cases h
  · rename_i t parts
    exact quiet (x := Instr.build t (parts.map fun ((i, x) : Nat × Operand) => (i, a.eval x))) rfl h (fun y hy => builtA_sound hT hev hy)
  · rename_i t len parts
    try dsimp only at h
    split at h
    · rename_i sz by_ z e ht
      split at h
      · rename_i y hy
        split at h
        · rename_i hc
          simp only [Option.map_eq_some_iff, Prod.mk.injEq] at h
          obtain ⟨es, hes, rfl, rfl⟩ := h
          have hd := sliceLitA_sound hT hi hB hf hev ht hy hc.1 hc.2 hes
          refine wrap (x := Instr.buildSlice t len (parts.map fun (p : Nat × Operand) => (p.1, a.eval p.2))) ?_ hd
          simp only [execOp]
        · cases h
      · cases h
    · cases h
  · rename_i t x
    exact quiet (x := Instr.loadAt t (a.eval x)) rfl h (fun y hy => loadA_sound hT hi (hev x) hy)
  · rename_i x
    have hx := hev x
    try dsimp only at h
    split at h
    · rename_i e j hx'
      injection h with h; simp only [Prod.mk.injEq] at h; obtain ⟨rfl, rfl⟩ := h
      rw [hx'] at hx
      refine same (v := a.eval x) ?_ hx rfl
      simp only [Rep] at hx
      obtain ⟨b, o, hv, _⟩ := hx
      simp [execOp, hv]
    · rename_i id i j tag hx'
      injection h with h; simp only [Prod.mk.injEq] at h; obtain ⟨rfl, rfl⟩ := h
      rw [hx'] at hx
      refine same (v := a.eval x) ?_ hx rfl
      simp only [Rep] at hx
      obtain ⟨b, hv, _⟩ := hx
      simp [execOp, hv]
    · cases h
  · rename_i bop t x y yt
    exact quiet (x := do eqGuard bop t x y (a.eval x) (a.eval y); binOp bop t (a.eval x) (a.eval y)) rfl h (fun z hz => binA_sound hT hE (hev x) (hev y) hz)
  · rename_i uop t x
    exact quiet (x := Op.unary uop (a.eval x)) rfl h (fun z hz => unA_sound (hev x) hz)
  · rename_i s d x
    exact quiet (x := convert s d (a.eval x)) rfl h (fun z hz => convA_sound hT (hev x) hz)
  · rename_i f first cs
    try dsimp only at h
    split at h
    · rename_i h0
      injection h with h; simp only [Prod.mk.injEq] at h; obtain ⟨rfl, rfl⟩ := h
      have he : first = #[] := Array.eq_empty_of_size_eq_zero h0
      subst he
      refine same (v := .func (.func f) #[] (cs.map a.eval)) (by simp [execOp, Instr.makeFunc]) ?_ rfl
      simp only [Rep]
      exact ⟨_, rfl, by simp [evsA_map], repL_evs hev cs⟩
    · split at h
      · rename_i h0
        injection h with h; simp only [Prod.mk.injEq] at h; obtain ⟨rfl, rfl⟩ := h
        have he : cs = #[] := Array.eq_empty_of_size_eq_zero h0
        subst he
        refine same (v := .func (.func f) (first.map a.eval) #[]) (by simp [execOp, Instr.makeFunc]) ?_ rfl
        simp only [Rep]
        exact ⟨_, rfl, by simp [evsA_map], repL_evs hev first⟩
      · cases h
  · rename_i t l c
    try dsimp only at h
    split at h
    · rename_i sz by_ z e k1 n k2 m ht hl hc
      split at h
      · rename_i y hy
        split at h
        · rename_i hc'
          obtain ⟨h0, rfl, hb, hm⟩ := hc'
          injection h with h; simp only [Prod.mk.injEq] at h; obtain ⟨rfl, rfl⟩ := h
          have hfy := hT e y hy
          have hvl := hev l
          have hvc := hev c
          rw [hl] at hvl; rw [hc] at hvc
          simp only [Rep] at hvl hvc
          have hd := makeA_sound (P := P) (k1 := k1) (k2 := k2) hT hi hB hf ht hy h0 hb hm
          rw [← hvl, ← hvc] at hd
          exact wrap (x := Instr.makeSlice t (a.eval l) (a.eval c)) rfl hd
        · cases h
      · cases h
    · cases h
  · rename_i t x lo hi'
    refine quiet (x := Instr.sliceAt t (a.eval x) (lo.map a.eval) (hi'.map a.eval) none) rfl h (fun z hz => sliceA_sound hT hi (hev x) ?_ ?_ ?_ ?_ hz)
    · intro y hy; simp only [Option.map_eq_some_iff] at hy; obtain ⟨p, rfl, rfl⟩ := hy; exact ⟨_, rfl, hev p⟩
    · intro hy; simp only [Option.map_eq_none_iff] at hy; subst hy; rfl
    · intro y hy; simp only [Option.map_eq_some_iff] at hy; obtain ⟨p, rfl, rfl⟩ := hy; exact ⟨_, rfl, hev p⟩
    · intro hy; simp only [Option.map_eq_none_iff] at hy; subst hy; rfl
  · rename_i s x f
    exact quiet (x := Instr.fieldAt s (a.eval x) f) rfl h (fun z hz => fieldAddrA_sound hT (hev x) hz)
  · rename_i s x f
    exact quiet (x := Instr.field s (a.eval x) f) rfl h (fun z hz => fieldA_sound hT (hev x) hz)
  · rename_i t x i
    exact quiet (x := Instr.indexAt t (a.eval x) (a.eval i)) rfl h (fun z hz => indexAddrA_sound hT hi (hev x) (hev i) hz)
  · rename_i t x i
    exact quiet (x := Instr.index t (a.eval x) (a.eval i)) rfl h (fun z hz => indexA_sound hT (hev x) (hev i) hz)
  · rename_i t i
    exact quiet (x := Instr.extract (a.eval t) i) rfl h (fun z hz => extractA_sound (hev t) hz)
  · rename_i t m k ok
    exact quiet (x := Instr.lookup t (a.eval m) (a.eval k) ok) rfl h (fun z hz => lookupA_sound hT hE hi (hev m) (hev k) hz)
  · rename_i args argTypes
    try dsimp only at h
    split at h
    · rename_i x t hx ht
      obtain rfl : args = #[x] := by rw [← Array.toList_inj]; simpa using hx
      obtain rfl : argTypes = #[t] := by rw [← Array.toList_inj]; simpa using ht
      simp only [Option.map_eq_some_iff, Prod.mk.injEq] at h
      obtain ⟨y, hy, rfl, rfl⟩ := h
      obtain ⟨v, hv, hrv⟩ := lenA_sound (ty := type) hT (hev x) hy
      exact same (v := v) (by simp [execOp, resolve, invoke, builtin, hv]) hrv rfl
    · cases h
  · rename_i args argTypes
    simp only [Option.map_eq_some_iff, Prod.mk.injEq] at h
    obtain ⟨y, hy, rfl, rfl⟩ := h
    obtain ⟨v, hv, hrv⟩ := minA_sound (P := P) (tys := argTypes) (t := type) (us := (args.map a.eval).toList) (.inl rfl) (by simp [evsA_map]) (by simpa using repL_evs hev args) hy
    rw [Array.toArray_toList] at hv
    refine same (v := v) ?_ hrv rfl
    simp only [execOp, resolve, invoke, Sem.run_bind, Sem.run_pure, Result.andThen_ok]
    exact hv _
  · rename_i args argTypes
    simp only [Option.map_eq_some_iff, Prod.mk.injEq] at h
    obtain ⟨y, hy, rfl, rfl⟩ := h
    obtain ⟨v, hv, hrv⟩ := minA_sound (P := P) (tys := argTypes) (t := type) (us := (args.map a.eval).toList) (.inr rfl) (by simp [evsA_map]) (by simpa using repL_evs hev args) hy
    rw [Array.toArray_toList] at hv
    refine same (v := v) ?_ hrv rfl
    simp only [execOp, resolve, invoke, Sem.run_bind, Sem.run_pure, Result.andThen_ok]
    exact hv _
  · cases h
end
end Go.Pg
