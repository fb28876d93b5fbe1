/-
  Contracts of functions, proved by going through their code. No conditions.
-/
import Derived.Sort.Grow
import Derived.Lib.SlicesCompact
import Derived.Shelf.GgSortFunc.RowK
import Derived.Test.YtmcchoalekmklaaGreatZaj
set_option linter.unusedVariables false
set_option linter.unusedSimpArgs false
namespace Go.Pg
open Go Go.RowKit Go.Sort
def SortC (P : Program) (f : FuncId) : Prop :=
  ∀ (blk off cap : Nat) (zs : List Int) (w : World), Holds (Value.int .i64) w blk off zs.toArray → blk < w.heap.size → zs.length < 4611686018427387904 →
    Calls P f #[.slice (some ⟨blk, off, none⟩) zs.length cap] w fun e w' => e = .returned (.tuple #[]) ∧ ∃ n os, w' = grow (putRow (Value.int .i64) (Sort.ahead w n) blk off (zs.mergeSort fun x y => decide (x ≤ y)).toArray) os
def CompactC (P : Program) (f : FuncId) : Prop :=
  ∀ (blk off cap : Nat) (zs : List Int) (w : World), Holds (Value.int .i64) w blk off zs.toArray → zs.length ≤ 9223372036854775807 → zs.length ≤ cap →
    Calls P f #[.slice (some ⟨blk, off, none⟩) zs.length cap] w fun e w' => e = .returned (.slice (some ⟨blk, off, none⟩) (Lib.compact zs).length cap) ∧ ∃ q, w' = putRow (Value.int .i64) (Sort.ahead w q) blk off (Lib.compact zs ++ List.replicate (zs.length - (Lib.compact zs).length) 0).toArray
theorem arr_get (l : List Int) (i : Nat) (h : i < l.length) : l.toArray[i]! = l[i] := by
  rw [getElem!_pos _ i (by simpa using h)]; simp
theorem compact_len (l : List Int) : (Lib.compact l).length ≤ l.length := by
  unfold Lib.compact Lib.compactUpTo
  rw [List.length_map]
  exact Nat.le_trans (List.length_filter_le _ _) (by simp)
section
variable {B0 : Nat} {S0 : Fr} {w : World} {H : Nat → Option AO} {σ : Sg} {id b lo : Nat} {ty : TypeId} {l : List Int}
theorem Inv.holdsI (hi : Inv B0 S0 w H σ) (h : rowAt H id = some { k := 1, es := l.map fun n => [.v (.int .i64 n)], ty := ty, lo := lo }) (hcur : σ.cur id = some b) : Holds (Value.int .i64) w b 0 l.toArray := by
  have hR := hi.row id _ (rowAt_eq h)
  obtain ⟨a1, a2, a3, a4, arr, a5, a6⟩ := hR.cur b hcur
  intro j hj
  have hj' : j < l.length := by simpa using hj
  refine ⟨?_, ?_⟩
  · have hcon := hR.con b hcur j (by simpa using hj')
    simp only [List.getElem_map, RepL] at hcon
    obtain ⟨⟨u, hu, hru⟩, _⟩ := hcon
    simp only [Rep] at hru
    subst hru
    rw [arr_get l j hj', ← hu]
    simp
  · simp [World.frozen?, a5]
theorem Inv.putInts (hi : Inv B0 S0 w H σ) (h : rowAt H id = some { k := 1, es := l.map fun n => [.v (.int .i64 n)], ty := ty, lo := lo }) (hcur : σ.cur id = some b) {d : List Int} (hsl : d.length = l.length) (n : Nat) (os : Array Obj) :
    Le σ (σ.renew b id l.length (σ.cap b)) w (grow (putRow (Value.int .i64) (Sort.ahead w n) b 0 d.toArray) os) ∧
    Inv B0 S0 (grow (putRow (Value.int .i64) (Sort.ahead w n) b 0 d.toArray) os) (updH H id (.row { k := 1, es := d.map fun n => [.v (.int .i64 n)], ty := ty, lo := lo })) (σ.renew b id l.length (σ.cap b)) ∧
    Below B0 w (grow (putRow (Value.int .i64) (Sort.ahead w n) b 0 d.toArray) os) := by
  have hH := rowAt_eq h
  have hR := hi.row id _ hH
  obtain ⟨a1, a2, a3, a4, arr, a5, a6⟩ := hR.cur b hcur
  have hlt := (hi.own_lt b id a1).2
  have hB := (hi.own_lt b id a1).1
  have hoth : ∀ k, k < w.heap.size → k ≠ b → (grow (putRow (Value.int .i64) (Sort.ahead w n) b 0 d.toArray) os).heap[k]? = w.heap[k]? := by
    intro k hk hne
    simp only [grow, putRow, mapBlock, Sort.ahead]
    rw [Array.getElem?_append_left (by simpa using hk), Array.getElem?_modify, if_neg (fun e => hne e.symm)]
  have hsame : (grow (putRow (Value.int .i64) (Sort.ahead w n) b 0 d.toArray) os).heap[b]? = some (.cells (putCells (Value.int .i64) 0 d.toArray arr) ty (0, 0)) := by
    simp only [grow, putRow, mapBlock, Sort.ahead]
    rw [Array.getElem?_append_left (by simpa using hlt), Array.getElem?_modify, if_pos rfl, a5]
    rfl
  have hsize : w.heap.size ≤ (grow (putRow (Value.int .i64) (Sort.ahead w n) b 0 d.toArray) os).heap.size := by simp [grow, putRow, mapBlock, Sort.ahead]
  have hk := hi.renew (r' := { k := 1, es := d.map fun n => [.v (.int .i64 n)], ty := ty, lo := lo }) (w' := grow (putRow (Value.int .i64) (Sort.ahead w n) b 0 d.toArray) os) hH rfl rfl rfl (.inl hcur) hsame hsize
    (fun k hk _ hne => hoth k hk hne) (.inr ⟨by simp [hsl], rfl, hcur, rfl⟩) (by simpa [hsl] using a3) a4 (by simpa [putCells] using a6)
    (fun e he => by obtain ⟨x, _, rfl⟩ := List.mem_map.1 he; exact ⟨rfl, fun c hc => by simp at hc; subst hc; rfl⟩)
    (fun i hi' => by
      have hi2 : i < d.length := by simpa using hi'
      have hi3 : i < arr.size := by
        have e1 : arr.size = σ.cap b := by simpa using a6
        have e2 : l.length ≤ σ.cap b := by simpa using a3
        omega
      simp only [List.getElem_map, RepL, and_true]
      refine ⟨.int .i64 d[i], ?_, rfl⟩
      simp only [putCells, Array.getElem?_mapIdx, Nat.mul_one, Nat.add_zero]
      rw [Array.getElem?_eq_getElem hi3]
      simp only [Option.map_some, Option.some.injEq]
      rw [if_pos ⟨Nat.zero_le _, by simpa using hi2⟩, Nat.sub_zero, arr_get d i hi2])
  rw [show ({ k := 1, es := d.map fun n => [.v (.int .i64 n)], ty := ty, lo := lo } : Row).es.length = l.length by simp [hsl]] at hk
  exact ⟨hk.1, hk.2, rfl, rfl, rfl, hsize, fun k hk => hoth k (by omega) (by omega)⟩
end
theorem refs_arg {H : Nat → Option AO} {w : World} {B0 : Nat} {S0 : Fr} {σ : Sg} (hi : Inv B0 S0 w H σ) {l : List Int} (hl : l ≠ []) {id lo : Nat} {ty : TypeId} (h : rowAt H id = some { k := 1, es := l.map fun n => [.v (.int .i64 n)], ty := ty, lo := lo })
    {vals : Array Value} (hs : vals.size = 1) (hr : RepL σ w [.ref id 0 l.length] (fun i => vals[i]?)) : ∃ b, σ.cur id = some b ∧ vals = #[.slice (some ⟨b, 0, none⟩) l.length (σ.cap b)] ∧ b < w.heap.size := by
  have hR := hi.row id _ (rowAt_eq h)
  simp only [RepL] at hr
  obtain ⟨⟨u, hu, hru⟩, _⟩ := hr
  simp only [Rep] at hru
  obtain ⟨hal, A, cap, rfl, h1, h2, h3, h4⟩ := hru
  have hpos : l.length ≠ 0 := fun e => hl (List.eq_nil_of_length_eq_zero e)
  obtain ⟨b, hcur, rfl, rfl⟩ := (h4 trivial (by rw [hR.len]; simp)).resolve_left (fun hh => hpos hh.2.1)
  refine ⟨b, hcur, ?_, (hi.own_lt b id (hR.cur b hcur).1).2⟩
  apply Array.ext
  · simpa using hs
  · intro i hi1 hi2
    have : i = 0 := by simp at hi2; omega
    subst this
    rw [Array.getElem?_eq_getElem hi1] at hu
    injection hu
theorem OKm.sorts {C : Cx} {f : FuncId} (hent : Enters C.P f) (hc : SortC C.P f) {l : List Int} (hl : l ≠ []) (hmax : l.length < 4611686018427387904) {id : Nat} {H : Nat → Option AO} {nx lo : Nat} {ty : TypeId}
    (h : rowAt H id = some { k := 1, es := l.map fun n => [.v (.int .i64 n)], ty := ty, lo := lo }) :
    OKm C f [.ref id 0 l.length] H nx (fun v H' nx' => v = .tup [] ∧ H' = updH H id (.row { k := 1, es := (l.mergeSort fun x y => decide (x ≤ y)).map fun n => [.v (.int .i64 n)], ty := ty, lo := lo }) ∧ nx' = nx) := by
  refine ⟨hent, fun S0 w0 w σ vals hE hi hnx hb hs hr => ?_⟩
  obtain ⟨b, hcur, rfl, hlt⟩ := refs_arg hi hl h (by simpa using hs) hr
  refine (hc b 0 (σ.cap b) l w (hi.holdsI h hcur) hlt hmax).mono ?_
  rintro e w' ⟨rfl, n, os, rfl⟩
  have hsl : (l.mergeSort fun x y => decide (x ≤ y)).length = l.length := List.length_mergeSort _
  obtain ⟨hle, hinv, hbel⟩ := hi.putInts h hcur hsl n os
  exact ⟨_, .tup [], _, _, nx, rfl, ⟨rfl, rfl, rfl⟩, hb.trans hbel, hinv, updH_nx hnx (by rw [rowAt_eq h]; simp), hle, by simp [Rep, RepL]⟩
theorem OKm.compacts {C : Cx} {f : FuncId} (hent : Enters C.P f) (hc : CompactC C.P f) {l : List Int} (hl : l ≠ []) (hmax : l.length ≤ 9223372036854775807) {id : Nat} {H : Nat → Option AO} {nx lo : Nat} {ty : TypeId}
    (h : rowAt H id = some { k := 1, es := l.map fun n => [.v (.int .i64 n)], ty := ty, lo := lo }) :
    OKm C f [.ref id 0 l.length] H nx (fun v H' nx' => v = .lst ((Lib.compact l).map fun n => [.v (.int .i64 n)]) ∧ (∀ j, j ≠ id → H' j = H j) ∧ nx' = nx) := by
  refine ⟨hent, fun S0 w0 w σ vals hE hi hnx hb hs hr => ?_⟩
  obtain ⟨b, hcur, rfl, hlt⟩ := refs_arg hi hl h (by simpa using hs) hr
  obtain ⟨a1, a2, a3, a4, arr, a5, a6⟩ := (hi.row id _ (rowAt_eq h)).cur b hcur
  have hcap : l.length ≤ σ.cap b := by simpa using a3
  refine (hc b 0 (σ.cap b) l w (hi.holdsI h hcur) hmax hcap).mono ?_
  rintro e w' ⟨rfl, n, rfl⟩
  have hcl := compact_len l
  have hsl : (Lib.compact l ++ List.replicate (l.length - (Lib.compact l).length) 0).length = l.length := by simp; omega
  obtain ⟨hle, hinv, hbel⟩ := hi.putInts h hcur hsl n #[]
  rw [grow_empty] at hle hinv hbel
  have hget : ∀ i (h : i < (Lib.compact l).length), (Lib.compact l ++ List.replicate (l.length - (Lib.compact l).length) 0)[i]? = some (Lib.compact l)[i] := fun i h => by
    rw [List.getElem?_append_left h, List.getElem?_eq_getElem h]
  generalize Lib.compact l ++ List.replicate (l.length - (Lib.compact l).length) 0 = D at hle hinv hbel hsl hget
  have hrow : ∀ i ∈ [id], ∃ r, rowAt (updH H id (.row { k := 1, es := D.map fun n => [.v (.int .i64 n)], ty := ty, lo := lo })) i = some r := by
    intro i hi'
    rw [List.mem_singleton] at hi'; subst hi'
    exact ⟨{ k := 1, es := D.map fun n => [.v (.int .i64 n)], ty := ty, lo := lo }, by simp [rowAt, updH]⟩
  have hinv2 := hinv.frz hrow
  have hle2 := hle.trans (hinv.le_frz [id])
  refine ⟨_, .lst _, _, _, nx, rfl, ⟨rfl, fun j hj => ?_, rfl⟩, hb.trans hbel, hinv2, fun i hi' => ?_, hle2, ?_⟩
  · simp [Pg.frz, hj, updH]
  · have hne : i ≠ id := fun e => by subst e; have := hnx i hi'; rw [rowAt_eq h] at this; cases this
    simp [Pg.frz, hne, updH, hnx i hi']
  · simp only [Rep]
    refine ⟨some ⟨b, 0, none⟩, σ.cap b, 1, by simp, by simp; omega, a4, fun e he => ?_, fun _ => ⟨b, 0, rfl, .inr ⟨id, by simp, ?_⟩, ?_⟩⟩
    · obtain ⟨x, _, rfl⟩ := List.mem_map.1 he; exact ⟨rfl, fun c hc => by simp at hc; subst hc; rfl⟩
    · simp [Sg.renew]
    · rw [repLL_iff]
      intro i hi'
      have hi2 : i < (Lib.compact l).length := by simpa using hi'
      have hi3 : i < D.length := by omega
      have hR2 := hinv.row id { k := 1, es := D.map fun n => [.v (.int .i64 n)], ty := ty, lo := lo } (by simp [updH])
      have hcon := hR2.con b (by simp [Sg.renew]) i (by simpa using hi3)
      simp only [List.getElem_map, RepL] at hcon ⊢
      obtain ⟨⟨u, hu, hru⟩, _⟩ := hcon
      refine ⟨⟨u, ?_, ?_⟩, trivial⟩
      · rw [← hu]; simp
      · simp only [Rep] at hru ⊢
        have := hget i hi2
        rw [List.getElem?_eq_getElem hi3] at this
        injection this with this
        rw [hru, this]
end Go.Pg

namespace Go.Pg
open Go Go.RowKit
def delM (k : Key) : List (Key × AV) → List (Key × AV)
  | [] => []
  | e :: es => if k.same e.1 then es else e :: delM k es
theorem delM_case (k : Key) : ∀ es : List (Key × AV), ((∀ d ∈ es, k.same d.1 = false) ∧ delM k es = es) ∨
    ∃ (j : Nat) (d : Key × AV), es[j]? = some d ∧ k.same d.1 = true ∧ (∀ j', j' < j → ∀ d, es[j']? = some d → k.same d.1 = false) ∧ delM k es = es.eraseIdx j
  | [] => .inl ⟨(fun d h => by cases h), rfl⟩
  | e :: es => by
    unfold delM
    by_cases hk : k.same e.1 = true
    · rw [if_pos hk]; exact .inr ⟨0, e, rfl, hk, fun j' h => absurd h (Nat.not_lt_zero _), rfl⟩
    · have hk' : k.same e.1 = false := by simpa using hk
      rw [if_neg hk]
      rcases delM_case k es with ⟨h1, h2⟩ | ⟨j, d, h1, h2, h3, h4⟩
      · refine .inl ⟨fun d hd => ?_, by rw [h2]⟩
        rcases List.mem_cons.1 hd with rfl | hd
        · exact hk'
        · exact h1 d hd
      · refine .inr ⟨j + 1, d, by simpa using h1, h2, fun j' hj d' hd' => ?_, by rw [h4]; rfl⟩
        cases j' with
        | zero => simp at hd'; subst hd'; exact hk'
        | succ j' => exact h3 j' (by omega) d' (by simpa using hd')
theorem mapErase {α β : Type} (f : α → β) : ∀ (l : List α) (i : Nat), (l.map f).eraseIdx i = (l.eraseIdx i).map f
  | [], _ => rfl
  | _ :: _, 0 => rfl
  | x :: l, i + 1 => by simp [mapErase f l i]
theorem delM_mem (k : Key) : ∀ (es : List (Key × AV)) (d : Key × AV), d ∈ delM k es → d ∈ es
  | e :: es, d, h => by
    unfold delM at h
    split at h
    · exact List.mem_cons_of_mem _ h
    · rcases List.mem_cons.1 h with rfl | h
      · simp
      · exact List.mem_cons_of_mem _ (delM_mem k es d h)
def mapDelA (T : TypeId → Option Ty) (eqT : TypeId → Bool) (H : Nat → Option AO) (t : TypeId) (m k : AV) : Option (Nat × AO) :=
  match T t, m with
  | some { d := .map kt _, .. }, .map id => match keyA T eqT kt k, H id with
    | some key, some (.mp (.map sh) b es) => if key.sh = sh then some (id, .mp (.map sh) b (delM key es)) else none
    | _, _ => none
  | _, _ => none
def mapLenA (T : TypeId → Option Ty) (H : Nat → Option AO) (t : TypeId) (m : AV) : Option AV :=
  match T t, m with
  | some { d := .map _ _, .. }, .map id => match H id with
    | some (.mp (.map _) _ es) => some (.v (.int .i64 es.length))
    | _ => none
  | _, _ => none
section
variable {C : Cx} {N : Nat} {Q : Exit → St → Prop} {s : St} {ops : Array Oper} {rest : List Oper} {o : Oper}
theorem AWL.mapDelete (hC : C.OK) (hg : o.guard = none) (hd : o.dst = none) {t tk : TypeId} {m kk : Operand} (ho : o.op = .call { callee := .builtin .delete, args := #[m, kk], argTypes := #[t, tk] }) {id : Nat} {ao : AO} (h : mapDelA C.T C.eqT s.H t (s.ev m) (s.ev kk) = some (id, ao))
    (k : AWL C N ops Q rest { s with H := updH s.H id ao }) : AWL C N ops Q (o :: rest) s := by
  rintro S0 w0 a w hE ⟨σ, hσ⟩
  unfold mapDelA at h
  split at h
  · rename_i sz by_ z kt et id' ht hm
    split at h
    · rename_i key sh kb es hkey hH
      split at h
      · rename_i hsh
        injection h with h; injection h with h1 h2; subst h1; subst h2
        have hmv := hσ.ev m
        rw [hm] at hmv
        obtain ⟨hkv, hko⟩ := keyA_sound hC.T hC.eqT (hσ.ev kk) hkey
        obtain ⟨b, clock, xs, hmb, a1, a2, a3, a4, a5, a5', a6⟩ := map_block hσ.inv hH hmv
        have hu := (hC.T t _ ht).map rfl
        have hobj : (getObj b).run C.P w = .ok (.map xs clock) w := MapKept.run_getObj_map a4
        obtain ⟨f1, f2⟩ := findKey_case hko w a5 (fun d hd => (a5' d hd).trans hsh.symm)
        have key : ∃ (xs' : Array MapEntry), (Builtin.delete_ #[t, tk] o.type #[a.eval m, a.eval kk]).run C.P w = .ok (.tuple #[]) (ChangeMaps.setBlock w b (.map xs' clock)) ∧
            xs'.toList.map (·.key) = (delM key es).map (fun e => e.1.val) ∧ RepL σ w ((delM key es).map (·.2)) (fun i => (xs'[i]?).map (·.val)) := by
          rcases delM_case key es with ⟨b3, b4⟩ | ⟨j, d', b3, b4, b5, b6⟩
          · refine ⟨xs, ?_, by rw [b4]; exact a5, by rw [b4]; exact a6⟩
            rw [hmb, hkv]
            simp [Builtin.delete_, run_underlying hu, hobj, hko.check, f1 b3, MapKept.run_setObj_map _ a4, ChangeMaps.setBlock]
          · have hlj : j < xs.toList.length := by
              have h1 := (List.getElem?_eq_some_iff.1 b3).1
              have h2 := congrArg List.length a5
              rw [List.length_map, List.length_map] at h2
              omega
            obtain ⟨e, he⟩ : ∃ e, xs.toList[j]? = some e := ⟨_, List.getElem?_eq_getElem hlj⟩
            have hxl : (xs.eraseIdxIfInBounds j).toList = xs.toList.eraseIdx j := by
              unfold Array.eraseIdxIfInBounds
              rw [dif_pos (by simpa using hlj)]
              simp
            refine ⟨xs.eraseIdxIfInBounds j, ?_, ?_, ?_⟩
            · rw [hmb, hkv]
              simp [Builtin.delete_, run_underlying hu, hobj, hko.check, f2 j e d' he b3 b4 b5, MapKept.run_setObj_map _ a4, ChangeMaps.setBlock]
            · rw [hxl, b6, ← mapErase, ← mapErase, a5]
            · rw [b6]
              rw [repL_iff'] at a6 ⊢
              intro i c hc
              rw [← mapErase, List.getElem?_eraseIdx] at hc
              have hx : (xs.eraseIdxIfInBounds j)[i]? = if i < j then xs[i]? else xs[i + 1]? := by
                rw [← Array.getElem?_toList, hxl, List.getElem?_eraseIdx]
                split <;> rw [Array.getElem?_toList]
              rw [hx]
              split at hc
              · rename_i hij; rw [if_pos hij]; exact a6 i c hc
              · rename_i hij; rw [if_neg hij]; exact a6 (i + 1) c hc
        obtain ⟨xs', hrun, hk1, hk2⟩ := key
        have hsame : (ChangeMaps.setBlock w b (.map xs' clock)).heap[b]? = some (.map xs' clock) := ChangeMaps.heap_setBlock_same a4 _
        have hoth : ∀ k, k ≠ b → (ChangeMaps.setBlock w b (.map xs' clock)).heap[k]? = w.heap[k]? := fun k hk => ChangeMaps.heap_setBlock_other a4 _ hk
        have hsz : (ChangeMaps.setBlock w b (.map xs' clock)).heap.size = w.heap.size := by simp [ChangeMaps.setBlock]
        obtain ⟨hle, hinv⟩ := hσ.inv.remap (kt' := .map sh) hH rfl rfl (fun b hb d hd => by
          obtain ⟨x, hx, rfl⟩ := List.mem_map.1 hd
          exact hb _ (List.mem_map.2 ⟨x, delM_mem _ _ _ hx, rfl⟩)) a1 hsame hsz hoth hk1 hk2
        refine wpListIn_plain hg fun K hK => Oper.wpIn_of_wp C.hF (fun c e => by rw [ho] at e; cases e) ?_
        have hrun' : (execOp a.eval o).run C.P w = .ok (.value (.tuple #[])) (ChangeMaps.setBlock w b (.map xs' clock)) := by
          simp only [execOp, ho, resolve, invoke, builtin, Sem.run_bind, Sem.run_pure, Result.andThen_ok, List.map_toArray, List.map_cons, List.map_nil, hrun]
        simp only [Oper.wp, hrun', Oper.upon, hd]
        refine hK _ _ (k S0 w0 _ _ hE ⟨σ, hinv, fun i' hi' => ?_, fun t' => Rep.mono hle _ _ (hσ.tm t'), hσ.N, hσ.d, hσ.below.trans ⟨rfl, rfl, rfl, by rw [hsz]; exact Nat.le_refl _, fun k' hk' => hoth k' (fun e => ?_)⟩⟩)
        · simp only [updH]
          split
          · rename_i e; subst e; rw [hσ.nx i' hi'] at hH; cases hH
          · exact hσ.nx i' hi'
        · subst e; have := (hσ.inv.own_lt k' id' a2).1; omega
      · cases h
    · cases h
  · cases h
theorem AWL.mapLen (hC : C.OK) (hg : o.guard = none) {d : Nat} (hd : o.dst = some d) (hN : d < N) {t : TypeId} {m : Operand} (ho : o.op = .call { callee := .builtin .len, args := #[m], argTypes := #[t] }) {x : AV} (h : mapLenA C.T s.H t (s.ev m) = some x)
    (k : AWL C N ops Q rest { s with tm := upd s.tm d x }) : AWL C N ops Q (o :: rest) s := by
  rintro S0 w0 a w hE ⟨σ, hσ⟩
  unfold mapLenA at h
  split at h
  · rename_i sz by_ z kt et id' ht hm
    split at h
    · rename_i sh kb es hH
      injection h with h; subst h
      have hmv := hσ.ev m
      rw [hm] at hmv
      obtain ⟨b, clock, xs, hmb, a1, a2, a3, a4, a5, a5', a6⟩ := map_block hσ.inv hH hmv
      have hu := (hC.T t _ ht).map rfl
      have hobj : (getObj b).run C.P w = .ok (.map xs clock) w := MapKept.run_getObj_map a4
      have hlen : xs.size = es.length := by
        have := congrArg List.length a5
        simpa using this
      have hrun : (Builtin.len_ #[t] o.type #[a.eval m]).run C.P w = .ok (.int .i64 (es.length : Int)) w := by
        rw [hmb, ← hlen]
        simp [Builtin.len_, run_underlying hu, hobj, goInt]
      refine wpListIn_plain hg fun K hK => Oper.wpIn_of_wp C.hF (fun c e => by rw [ho] at e; cases e) ?_
      have hrun' : (execOp a.eval o).run C.P w = .ok (.value (.int .i64 (es.length : Int))) w := by
        simp only [execOp, ho, resolve, invoke, builtin, Sem.run_bind, Sem.run_pure, Result.andThen_ok, List.map_toArray, List.map_cons, List.map_nil, hrun]
      simp only [Oper.wp, hrun', Oper.upon]
      rw [hd]
      refine hK _ _ (k S0 w0 _ _ hE ⟨σ, hσ.put hN (s' := { s with tm := upd s.tm d (.v (.int .i64 es.length)) }) hσ.inv hσ.nx (hσ.inv.le_heap (fun _ _ => rfl)) (Below.refl _ _) ?_ rfl⟩)
      simp only [Rep]
    · cases h
  · cases h
variable {ty : TypeId} {ps : String} {af : Array Edge} {d : Nat}
theorem W.mapDelete (hC : C.OK) {t tk : TypeId} {m kk : Operand} {id : Nat} {ao : AO} (h : mapDelA C.T C.eqT s.H t (s.ev m) (s.ev kk) = some (id, ao)) (k : AWL C N ops Q rest { s with H := updH s.H id ao }) :
    AWL C N ops Q (⟨none, .call { callee := .builtin .delete, args := #[m, kk], argTypes := #[t, tk] }, ty, ps, af, none⟩ :: rest) s := AWL.mapDelete hC rfl rfl rfl h k
theorem W.mapLen (hC : C.OK) (hN : d < N) {t : TypeId} {m : Operand} {x : AV} (h : mapLenA C.T s.H t (s.ev m) = some x) (k : AWL C N ops Q rest { s with tm := upd s.tm d x }) :
    AWL C N ops Q (⟨some d, .call { callee := .builtin .len, args := #[m], argTypes := #[t] }, ty, ps, af, none⟩ :: rest) s := AWL.mapLen hC rfl rfl hN rfl h k
end
end Go.Pg

namespace Go.Pg
open Go Go.RowKit
section
variable {C : Cx}
theorem leavesXt {S0 : Fr} {B0 : Nat} {fn : Func} {tmps : Array Value} {tm : Nat → AV} {R : Ending → World → Prop} : ∀ (bs : List (Nat × Nat)) (w : World) (H : Nat → Option AO) (σ : Sg), Inv B0 S0 w H σ → (∀ t, Rep σ w (tm t) (tmps.getD t undef)) → Marks bs H →
    (∀ w' H' σ', Inv B0 S0 w' H' σ' → (∀ t, Rep σ' w' (tm t) (tmps.getD t undef)) → Below B0 w w' → (∀ i, rowAt H' i = rowAt H i) → (∀ i, H' i = none ↔ H i = none) → (∀ i, (∀ D ds, H i ≠ some (.mp (.dfr D ds) 0 [])) → H' i = H i) → ∃ v, (results fn tmps).run C.P w' = .ok v w' ∧ R (.returned v) w') →
    LeavesInM Fence.wide 0 C.P fn tmps R (bs.map fun p => mark p.1) .returning w
  | [], w, H, σ, hi, ht, _, fin => fin w H σ hi ht (Below.refl _ _) (fun _ => rfl) (fun _ => Iff.rfl) (fun _ _ => rfl)
  | (D, id) :: bs, w, H, σ, hi, ht, hm, fin => by
    obtain ⟨hm1, hm2⟩ := hm
    have hH : H id = some (.mp (.dfr D (some [])) 0 []) := hm2 (D, id) (by simp)
    obtain ⟨g1, g2⟩ := hi.shut hH
    obtain ⟨f1, f2, f3⟩ := g2 none
    simp only [List.map_cons, List.nodup_cons] at hm1
    refine ⟨by simp, .inl ⟨D, _, rfl, run_takeDeferred g1, ?_⟩⟩
    refine leavesXt bs _ _ σ f2 (fun t => Rep.mono f1 _ _ (ht t)) ⟨hm1.2, fun p hp => ?_⟩ fun w' H' σ' h1 h2 h3 h4 h5 h6 => fin w' H' σ' h1 h2 (f3.trans h3) (fun i => ?_) (fun i => ?_) (fun i hnd => ?_)
    · have hne : p.2 ≠ id := fun e => hm1.1 (e ▸ List.mem_map_of_mem (f := (·.2)) hp)
      simp only [updH]; rw [if_neg hne]; exact hm2 p (by simp [hp])
    · rw [h4, rowAt_updM]
      split
      · rename_i e; subst e; simp [rowAt, hH]
      · rfl
    · rw [h5]
      simp only [updH]
      split
      · rename_i e; subst e; simp [hH]
      · rfl
    · have hne : i ≠ id := fun e => by subst e; exact hnd _ _ hH
      have hu : updH H id (.mp (.dfr D none) 0 []) i = H i := by simp only [updH]; rw [if_neg hne]
      rw [h6 i (fun D' ds' => by rw [hu]; exact hnd D' ds'), hu]
def endXt (C : Cx) (rs : List ResultVar) (Q : AV → (Nat → Option AO) → Nat → Prop) (e : Exit) (s : St) : Prop :=
  ∀ H', (∀ i, rowAt H' i = rowAt s.H i) → (∀ i, (∀ D ds, s.H i ≠ some (.mp (.dfr D ds) 0 [])) → H' i = s.H i) → endM C rs Q e { s with H := H' }
theorem OKm.of_bodyXt [hW : C.Wide] (hC : C.OK) {f : FuncId} {fn : Func} {c : Code} {args : List AV} {rs : List ResultVar} {H : Nat → Option AO} {nx : Nat} {Q : AV → (Nat → Option AO) → Nat → Prop} (hf : C.P.funcs[f]? = some fn) (hb : fn.body = some c) (hn : (fn.name == "runtime.NumGoroutine") = false)
    (hr : fn.results = rs.toArray) (hN : args.length ≤ fn.ntmps) (h : AWx C fn.ntmps c (endXt C rs Q) { tm := fun t => args.getD t .junk, H := H, nx := nx }) : OKm C f args H nx Q := by
  refine ⟨⟨fn, hf, hn, by rw [hb]; rfl⟩, fun S0 w0 w σ vals hE hi hnx hbel hsz hrep => ?_⟩
  refine callsIn_wide.1 (callsIn_of_wp_marks (n := 0) hf hb trivial ?_)
  have hs : Sim (S0.from σ w) w0 fn.ntmps { tmps := vals ++ Array.replicate (fn.ntmps - vals.size) undef, defers := [] } w { tm := fun t => args.getD t .junk, H := H, nx := nx } := by
    refine ⟨σ, hi.from, hnx, fun t => ?_, by simp; omega, rfl, hbel⟩
    show Rep σ w (args.getD t .junk) ((vals ++ Array.replicate (fn.ntmps - vals.size) undef).getD t undef)
    by_cases ht : t < args.length
    · rw [repL_iff] at hrep
      obtain ⟨u, hu, hru⟩ := hrep t ht
      have : (vals ++ Array.replicate (fn.ntmps - vals.size) undef).getD t undef = u := by
        rw [Array.getD_eq_getD_getElem?, Array.getElem?_append_left (by omega), hu]; rfl
      rw [this, List.getD_eq_getElem?_getD, List.getElem?_eq_getElem ht]; exact hru
    · have : args.getD t .junk = .junk := by rw [List.getD_eq_getElem?_getD, List.getElem?_eq_none (by omega)]; rfl
      rw [this]; trivial
  have h2 := h (S0.from σ w) w0 _ w rfl hE hs
  rw [hW.h] at h2
  refine wpIn_mono h2 ?_
  rintro e a' w' ⟨s', bs, ⟨σ', hσ'⟩, hm, hq⟩
  have fin : (∀ H', (∀ i, rowAt H' i = rowAt s'.H i) → (∀ i, (∀ D ds, s'.H i ≠ some (.mp (.dfr D ds) 0 [])) → H' i = s'.H i) → ∃ vs, resVs C.T { s' with H := H' } rs = some vs ∧ Q (bundle vs) H' s'.nx) →
      LeavesInM Fence.wide 0 C.P fn a'.tmps (fun e w' => ∃ v r σ' H' nx', e = .returned v ∧ Q r H' nx' ∧ Below w0.heap.size w0 w' ∧ Inv w0.heap.size S0 w' H' σ' ∧ (∀ id, nx' ≤ id → H' id = none) ∧ Le σ σ' w w' ∧ Rep σ' w' r v) a'.defers .returning w' := by
    intro hq
    rw [show a'.defers = bs.map (fun p => mark p.1) from hσ'.d]
    refine leavesXt bs w' s'.H σ' hσ'.inv hσ'.tm hm fun w2 H2 σ2 h1 h2 h3 h4 h5 h6 => ?_
    obtain ⟨vs, hvs, hq⟩ := hq H2 h4 h6
    have hs2 : SimG { (S0.from σ w) with ds := bs.map (fun p => mark p.1) } w0 fn.ntmps a' w2 { s' with H := H2 } σ2 := ⟨h1, fun id hid => (h5 id).2 (hσ'.nx id hid), h2, hσ'.N, hσ'.d, hσ'.below.trans h3⟩
    obtain ⟨v, hv, hrv⟩ := run_results_of hC hs2 hr hvs
    have hi2 : Inv w0.heap.size (S0.from σ w) w2 H2 σ2 := ⟨h1.al, h1.fresh, h1.S_lt, h1.own_lt, h1.row, h1.mp, h1.fr⟩
    obtain ⟨hi', hle⟩ := hi2.unfrom
    exact ⟨v, hv, v, _, σ2, H2, s'.nx, rfl, hq, hs2.below, hi', hs2.nx, hle, hrv⟩
  cases e with
  | normal => exact fin hq
  | ret => exact fin hq
  | exit id => exact (hq s'.H (fun _ => rfl) (fun _ _ => rfl)).elim
  | goto l => exact (hq s'.H (fun _ => rfl) (fun _ _ => rfl)).elim
  | panic c => exact (hq s'.H (fun _ => rfl) (fun _ _ => rfl)).elim
  | outgrown => exact (hq s'.H (fun _ => rfl) (fun _ _ => rfl)).elim
end
end Go.Pg

namespace Go.Pg
open Go Go.RowKit
section
variable {C : Cx} {N : Nat} {Q : Exit → St → Prop} {s : St} {ops : Array Oper} {rest : List Oper} {o : Oper}
def NewR (row : Row) (r : AV) (H : Nat → Option AO) (nx : Nat) : Prop :=
  NewRow (· = row) r H nx ∨ (row.es = [] ∧ row.lo = 0 ∧ row.fro = false ∧ (r = .v (.slice none 0 0) ∨ ∃ i, r = .ref i 0 0 ∧ rowAt H i = some row))
end
section
variable {C : Cx} {N : Nat} {Q : Exit → St → Prop} {s : St} {ops : Array Oper} {rest : List Oper} {ty : TypeId} {ps : String} {af : Array Edge} {d : Nat}
variable {H0 : Nat → Option AO} {b : Nat} {tg mk av : List Nat} {Fin : St → Prop} {i : Nat}
end
end Go.Pg

namespace Go.Pg
open Go Go.RowKit Go.Sort
def SortKC (P : Program) (f g : FuncId) {α : Type} [Inhabited α] (enc : α → List Value) (k : Nat) (le : α → α → Prop) : Prop :=
  ∀ (blk cap : Nat) (zs : List α) (w : World), HoldsK enc k w blk 0 zs.toArray → blk < w.heap.size → zs.length < 4611686018427387904 →
    Calls P f #[.slice (some ⟨blk, 0, none⟩) zs.length cap, .func (.func g) #[] #[]] w fun e w' => e = .returned (.tuple #[]) ∧ ∃ ds : List α, ∃ n os, ds.Perm zs ∧ ds.Pairwise le ∧ w' = grow (putRowK enc k (Sort.ahead w n) blk 0 ds.toArray) os
section
variable {α : Type} [Inhabited α] {enc : α → List Value} {k : Nat}
variable {B0 : Nat} {S0 : Fr} {w : World} {H : Nat → Option AO} {σ : Sg} {id b lo : Nat} {ty : TypeId} {l : List α}
abbrev rowK (enc : α → List Value) (k : Nat) (ty : TypeId) (lo : Nat) (l : List α) : Row := { k := k, es := l.map fun x => (enc x).map AV.v, ty := ty, lo := lo }
theorem arrK_get (l : List α) (i : Nat) (h : i < l.length) : l.toArray[i]! = l[i] := by
  rw [getElem!_pos _ i (by simpa using h)]; simp
theorem list_get! {l : List Value} {j : Nat} (h : j < l.length) : l[j]! = l[j] := getElem!_pos l j h
theorem Inv.holdsK (hi : Inv B0 S0 w H σ) (hk : ∀ x, (enc x).length = k) (h : rowAt H id = some (rowK enc k ty lo l)) (hcur : σ.cur id = some b) : HoldsK enc k w b 0 l.toArray := by
  have hR := hi.row id _ (rowAt_eq h)
  obtain ⟨a1, a2, a3, a4, arr, a5, a6⟩ := hR.cur b hcur
  intro t ht
  rw [size_flatK] at ht
  have ht' : t < l.length * k := by simpa using ht
  have hkp : 0 < k := by
    rcases Nat.eq_zero_or_pos k with h0 | h0
    · subst h0; simp at ht'
    · exact h0
  have hi1 : t / k < l.length := Nat.div_lt_of_lt_mul (by rw [Nat.mul_comm]; exact ht')
  have hi2 : t % k < k := Nat.mod_lt _ hkp
  rw [get_flatK _ _ _ _ ht, arrK_get l _ hi1]
  refine ⟨?_, by simp [World.frozen?, a5]⟩
  have hcon := hR.con b hcur (t / k) (by simpa using hi1)
  rw [repL_iff] at hcon
  obtain ⟨u, hu, hru⟩ := hcon (t % k) (by simp [hk]; exact hi2)
  simp only [List.getElem_map, Rep] at hru
  subst hru
  rw [Nat.div_add_mod'] at hu
  rw [Nat.zero_add, hu, list_get! (by rw [hk]; exact hi2)]
  rfl
theorem Inv.putK (hi : Inv B0 S0 w H σ) (hk : ∀ x, (enc x).length = k) (hone : ∀ x, ∀ v ∈ enc x, v.oneCell' = true) (h : rowAt H id = some (rowK enc k ty lo l)) (hcur : σ.cur id = some b) {d : List α} (hsl : d.length = l.length) (n : Nat) (os : Array Obj) :
    Le σ (σ.renew b id l.length (σ.cap b)) w (grow (putRowK enc k (Sort.ahead w n) b 0 d.toArray) os) ∧
    Inv B0 S0 (grow (putRowK enc k (Sort.ahead w n) b 0 d.toArray) os) (updH H id (.row (rowK enc k ty lo d))) (σ.renew b id l.length (σ.cap b)) ∧
    Below B0 w (grow (putRowK enc k (Sort.ahead w n) b 0 d.toArray) os) := by
  have hH := rowAt_eq h
  have hR := hi.row id _ hH
  obtain ⟨a1, a2, a3, a4, arr, a5, a6⟩ := hR.cur b hcur
  have hlt := (hi.own_lt b id a1).2
  have hB := (hi.own_lt b id a1).1
  have hoth : ∀ j, j < w.heap.size → j ≠ b → (grow (putRowK enc k (Sort.ahead w n) b 0 d.toArray) os).heap[j]? = w.heap[j]? := by
    intro j hj hne
    simp only [grow, putRowK, putRow, mapBlock, Sort.ahead]
    rw [Array.getElem?_append_left (by simpa using hj), Array.getElem?_modify, if_neg (fun e => hne e.symm)]
  have hsame : (grow (putRowK enc k (Sort.ahead w n) b 0 d.toArray) os).heap[b]? = some (.cells (putCells _root_.id 0 (flatK enc k d.toArray) arr) ty (0, 0)) := by
    simp only [grow, putRowK, putRow, mapBlock, Sort.ahead]
    rw [Array.getElem?_append_left (by simpa using hlt), Array.getElem?_modify, if_pos rfl, a5]
    rfl
  have hsize : w.heap.size ≤ (grow (putRowK enc k (Sort.ahead w n) b 0 d.toArray) os).heap.size := by simp [grow, putRowK, putRow, mapBlock, Sort.ahead]
  have hq := hi.renew (r' := rowK enc k ty lo d) (w' := grow (putRowK enc k (Sort.ahead w n) b 0 d.toArray) os) hH rfl rfl rfl (.inl hcur) hsame hsize
    (fun j hj _ hne => hoth j hj hne) (.inr ⟨by simp [rowK, hsl], rfl, hcur, rfl⟩) (by simpa [rowK, hsl] using a3) a4 (by simpa [putCells] using a6)
    (fun e he => by
      obtain ⟨x, _, rfl⟩ := List.mem_map.1 he
      refine ⟨by simp [hk, rowK], fun c hc => ?_⟩
      obtain ⟨v, hv, rfl⟩ := List.mem_map.1 hc
      exact hone x v hv)
    (fun i hi' => by
      have hi2 : i < d.length := by simpa [rowK] using hi'
      have e1 : arr.size = σ.cap b * k := a6
      have e2 : l.length ≤ σ.cap b := by simpa [rowK] using a3
      rw [repL_iff]
      intro j hj
      have hj2 : j < k := by simpa [rowK, hk] using hj
      have hkp : 0 < k := by omega
      have hm : i * k + j < d.length * k := by
        have := Nat.mul_le_mul_right k (show i + 1 ≤ d.length from hi2)
        rw [Nat.add_mul, Nat.one_mul] at this; omega
      have hm2 : i * k + j < arr.size := by
        have := Nat.mul_le_mul_right k (show d.length ≤ σ.cap b by omega)
        omega
      have q1 : (i * k + j) / k = i := by
        rw [Nat.mul_comm, Nat.mul_add_div hkp, Nat.div_eq_of_lt hj2, Nat.add_zero]
      have q2 : (i * k + j) % k = j := by
        rw [Nat.mul_comm, Nat.mul_add_mod, Nat.mod_eq_of_lt hj2]
      refine ⟨(enc d[i])[j]'(by rw [hk]; exact hj2), ?_, ?_⟩
      · simp only [putCells, Array.getElem?_mapIdx]
        rw [Array.getElem?_eq_getElem hm2]
        simp only [Option.map_some, Option.some.injEq]
        rw [if_pos ⟨Nat.zero_le _, by rw [size_flatK, Nat.zero_add]; simpa using hm⟩, Nat.sub_zero, get_flatK _ _ _ _ (by simpa using hm), q1, q2, arrK_get d i hi2, list_get! (by rw [hk]; exact hj2)]
        rfl
      · simp [rowK, Rep])
  rw [show (rowK enc k ty lo d : Row).es.length = l.length by simp [rowK, hsl]] at hq
  exact ⟨hq.1, hq.2, rfl, rfl, rfl, hsize, fun j hj => hoth j (by omega) (by omega)⟩
theorem OKm.sortK {C : Cx} {f g : FuncId} {le : α → α → Prop} (hent : Enters C.P f) (hc : SortKC C.P f g enc k le) (hk : ∀ x, (enc x).length = k) (hone : ∀ x, ∀ v ∈ enc x, v.oneCell' = true) (hl : l ≠ []) (hmax : l.length < 4611686018427387904) {nx : Nat}
    (h : rowAt H id = some (rowK enc k ty lo l)) :
    OKm C f [.ref id 0 l.length, .clo g []] H nx (fun v H' nx' => v = .tup [] ∧ nx' = nx ∧ ∃ m : List α, m.Perm l ∧ m.Pairwise le ∧ H' = updH H id (.row (rowK enc k ty lo m))) := by
  refine ⟨hent, fun S0 w0 w σ vals hE hi hnx hb hs hr => ?_⟩
  have hR := hi.row id _ (rowAt_eq h)
  simp only [RepL] at hr
  obtain ⟨⟨u, hu, hru⟩, ⟨u2, hu2, hru2⟩, _⟩ := hr
  simp only [Rep] at hru hru2
  obtain ⟨hal, A, cap, rfl, h1, h2, h3, h4⟩ := hru
  obtain ⟨ca, rfl, hca, _⟩ := hru2
  have hce : ca = #[] := by simpa using hca
  subst hce
  have hpos : l.length ≠ 0 := fun e => hl (List.eq_nil_of_length_eq_zero e)
  obtain ⟨b, hcur, rfl, rfl⟩ := (h4 trivial (by rw [hR.len]; simp [rowK])).resolve_left (fun hh => hpos hh.2.1)
  have hlt := (hi.own_lt b id (hR.cur b hcur).1).2
  have hvals : vals = #[.slice (some ⟨b, 0, none⟩) l.length (σ.cap b), .func (.func g) #[] #[]] := by
    apply Array.ext
    · simpa using hs
    · intro i hi1 hi2
      simp at hi2
      rcases (show i = 0 ∨ i = 1 by omega) with rfl | rfl
      · rw [Array.getElem?_eq_getElem hi1] at hu
        injection hu
      · have hu2' : vals[1]? = _ := hu2
        rw [Array.getElem?_eq_getElem hi1] at hu2'
        injection hu2'
  subst hvals
  refine (hc b (σ.cap b) l w (hi.holdsK hk h hcur) hlt hmax).mono ?_
  rintro e w' ⟨rfl, ds, n, os, hp, hpw, rfl⟩
  obtain ⟨hle, hinv, hbel⟩ := hi.putK hk hone h hcur hp.length_eq n os
  exact ⟨_, .tup [], _, _, nx, rfl, ⟨rfl, rfl, ds, hp, hpw, rfl⟩, hb.trans hbel, hinv, updH_nx hnx (by rw [rowAt_eq h]; simp), hle, by simp [Rep, RepL]⟩
def SortKC0 (P : Program) (f : FuncId) : Prop := ∀ (p : Option Addr) (cap : Nat) (fv : Value) (w : World), Calls P f #[.slice p 0 cap, fv] w fun e w' => e = .returned (.tuple #[]) ∧ w' = w
theorem OKm.sortK0 {C : Cx} {f g : FuncId} (hent : Enters C.P f) (hc : SortKC0 C.P f) {x : AV} (hx : x = .v (.slice none 0 0) ∨ ∃ id, x = .ref id 0 0) {H : Nat → Option AO} {nx : Nat} :
    OKm C f [x, .clo g []] H nx (fun v H' nx' => v = .tup [] ∧ H' = H ∧ nx' = nx) := by
  refine ⟨hent, fun S0 w0 w σ vals hE hi hnx hb hs hr => ?_⟩
  simp only [RepL] at hr
  obtain ⟨⟨u, hu, hru⟩, ⟨u2, hu2, hru2⟩, _⟩ := hr
  have h1 : ∃ A cap, u = .slice A 0 cap := by
    rcases hx with rfl | ⟨id, rfl⟩
    · simp only [Rep] at hru; exact ⟨none, 0, hru⟩
    · simp only [Rep] at hru
      obtain ⟨_, A, cap, h, _⟩ := hru
      exact ⟨A, cap, h⟩
  obtain ⟨A, cap, rfl⟩ := h1
  have hv : vals = #[.slice A 0 cap, u2] := by
    apply Array.ext
    · simpa using hs
    · intro i hi1 hi2
      simp at hi2
      rcases (show i = 0 ∨ i = 1 by omega) with rfl | rfl
      · rw [Array.getElem?_eq_getElem hi1] at hu
        injection hu
      · have hu2' : vals[1]? = _ := hu2
        rw [Array.getElem?_eq_getElem hi1] at hu2'
        injection hu2'
  subst hv
  refine (hc A cap u2 w).mono ?_
  rintro e w' ⟨rfl, rfl⟩
  exact ⟨_, .tup [], σ, H, nx, rfl, ⟨rfl, rfl, rfl⟩, hb, hi, hnx, Le.refl σ _ (fun b id h => hi.al_of_own h), by simp [Rep, RepL]⟩
end
end Go.Pg
