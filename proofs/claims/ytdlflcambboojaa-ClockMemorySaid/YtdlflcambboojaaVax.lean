/-
  Contracts of functions, proved by going through their code. No conditions.
-/
import Derived.Sort.Grow
import Derived.Lib.SlicesCompact
import Derived.Shelf.Sort.Plain
import Derived.Shelf.Slices.Reverse
import Derived.Shelf.Slices.CompactI
import Derived.Shelf.Slices.In.SortNone
import Derived.Test.YtdlflcambboojaaProg
import Derived.Test.YtdlflcambboojaaVaa
import Derived.Test.YtdlflcambboojaaVaj
import Derived.Test.YtdlflcambboojaaVao
import Derived.Test.YtdlflcambboojaaVat
import Derived.Test.YtdlflcambboojaaVau
import Derived.Test.YtdlflcambboojaaVaw
set_option linter.unusedVariables false
set_option linter.unusedSimpArgs false
namespace Go.Pg
open Go Go.RowKit Go.Sort
def SortC (P : Program) (f : FuncId) : Prop :=
  ∀ (blk off cap : Nat) (zs : List Int) (w : World), Holds (Value.int .i64) w blk off zs.toArray → blk < w.heap.size → zs.length < 4611686018427387904 →
    Calls P f #[.slice (some ⟨blk, off, none⟩) zs.length cap] w fun e w' => e = .returned (.tuple #[]) ∧ ∃ n os, w' = grow (putRow (Value.int .i64) (Sort.ahead w n) blk off (zs.mergeSort fun x y => decide (x ≤ y)).toArray) os
def CompactC (P : Program) (f : FuncId) : Prop :=
  ∀ (blk off cap : Nat) (zs : List Int) (w : World), Holds (Value.int .i64) w blk off zs.toArray → zs.length ≤ 9223372036854775807 → zs.length ≤ cap →
    Calls P f #[.slice (some ⟨blk, off, none⟩) zs.length cap] w fun e w' => e = .returned (.slice (some ⟨blk, off, none⟩) (Lib.compact zs).length cap) ∧ ∃ q, w' = putRow (Value.int .i64) (Sort.ahead w q) blk off (Lib.compact zs ++ List.replicate (zs.length - (Lib.compact zs).length) 0).toArray
theorem arr_get (l : List Int) (i : Nat) (h : i < l.length) : l.toArray[i]! = l[i] := by
  rw [getElem!_pos _ i (by simpa using h)]; simp
theorem compact_len (l : List Int) : (Lib.compact l).length ≤ l.length := by
  unfold Lib.compact Lib.compactUpTo
  rw [List.length_map]
  exact Nat.le_trans (List.length_filter_le _ _) (by simp)
section
variable {B0 : Nat} {S0 : Fr} {w : World} {H : Nat → Option AO} {σ : Sg} {id b lo : Nat} {ty : TypeId} {l : List Int}
theorem Inv.holdsI (hi : Inv B0 S0 w H σ) (h : rowAt H id = some { k := 1, es := l.map fun n => [.v (.int .i64 n)], ty := ty, lo := lo }) (hcur : σ.cur id = some b) : Holds (Value.int .i64) w b 0 l.toArray := by
  have hR := hi.row id _ (rowAt_eq h)
  obtain ⟨a1, a2, a3, a4, arr, a5, a6⟩ := hR.cur b hcur
  intro j hj
  have hj' : j < l.length := by simpa using hj
  refine ⟨?_, ?_⟩
  · have hcon := hR.con b hcur j (by simpa using hj')
    simp only [List.getElem_map, RepL] at hcon
    obtain ⟨⟨u, hu, hru⟩, _⟩ := hcon
    simp only [Rep] at hru
    subst hru
    rw [arr_get l j hj', ← hu]
    simp
  · simp [World.frozen?, a5]
theorem Inv.putInts (hi : Inv B0 S0 w H σ) (h : rowAt H id = some { k := 1, es := l.map fun n => [.v (.int .i64 n)], ty := ty, lo := lo }) (hcur : σ.cur id = some b) {d : List Int} (hsl : d.length = l.length) (n : Nat) (os : Array Obj) :
    Le σ (σ.renew b id l.length (σ.cap b)) w (grow (putRow (Value.int .i64) (Sort.ahead w n) b 0 d.toArray) os) ∧
    Inv B0 S0 (grow (putRow (Value.int .i64) (Sort.ahead w n) b 0 d.toArray) os) (updH H id (.row { k := 1, es := d.map fun n => [.v (.int .i64 n)], ty := ty, lo := lo })) (σ.renew b id l.length (σ.cap b)) ∧
    Below B0 w (grow (putRow (Value.int .i64) (Sort.ahead w n) b 0 d.toArray) os) := by
  have hH := rowAt_eq h
  have hR := hi.row id _ hH
  obtain ⟨a1, a2, a3, a4, arr, a5, a6⟩ := hR.cur b hcur
  have hlt := (hi.own_lt b id a1).2
  have hB := (hi.own_lt b id a1).1
  have hoth : ∀ k, k < w.heap.size → k ≠ b → (grow (putRow (Value.int .i64) (Sort.ahead w n) b 0 d.toArray) os).heap[k]? = w.heap[k]? := by
    intro k hk hne
    simp only [grow, putRow, mapBlock, Sort.ahead]
    rw [Array.getElem?_append_left (by simpa using hk), Array.getElem?_modify, if_neg (fun e => hne e.symm)]
  have hsame : (grow (putRow (Value.int .i64) (Sort.ahead w n) b 0 d.toArray) os).heap[b]? = some (.cells (putCells (Value.int .i64) 0 d.toArray arr) ty (0, 0)) := by
    simp only [grow, putRow, mapBlock, Sort.ahead]
    rw [Array.getElem?_append_left (by simpa using hlt), Array.getElem?_modify, if_pos rfl, a5]
    rfl
  have hsize : w.heap.size ≤ (grow (putRow (Value.int .i64) (Sort.ahead w n) b 0 d.toArray) os).heap.size := by simp [grow, putRow, mapBlock, Sort.ahead]
  have hk := hi.renew (r' := { k := 1, es := d.map fun n => [.v (.int .i64 n)], ty := ty, lo := lo }) (w' := grow (putRow (Value.int .i64) (Sort.ahead w n) b 0 d.toArray) os) hH rfl rfl rfl (.inl hcur) hsame hsize
    (fun k hk _ hne => hoth k hk hne) (.inr ⟨by simp [hsl], rfl, hcur, rfl⟩) (by simpa [hsl] using a3) a4 (by simpa [putCells] using a6)
    (fun e he => by obtain ⟨x, _, rfl⟩ := List.mem_map.1 he; exact ⟨rfl, fun c hc => by simp at hc; subst hc; rfl⟩)
    (fun i hi' => by
      have hi2 : i < d.length := by simpa using hi'
      have hi3 : i < arr.size := by
        have e1 : arr.size = σ.cap b := by simpa using a6
        have e2 : l.length ≤ σ.cap b := by simpa using a3
        omega
      simp only [List.getElem_map, RepL, and_true]
      refine ⟨.int .i64 d[i], ?_, rfl⟩
      simp only [putCells, Array.getElem?_mapIdx, Nat.mul_one, Nat.add_zero]
      rw [Array.getElem?_eq_getElem hi3]
      simp only [Option.map_some, Option.some.injEq]
      rw [if_pos ⟨Nat.zero_le _, by simpa using hi2⟩, Nat.sub_zero, arr_get d i hi2])
  rw [show ({ k := 1, es := d.map fun n => [.v (.int .i64 n)], ty := ty, lo := lo } : Row).es.length = l.length by simp [hsl]] at hk
  exact ⟨hk.1, hk.2, rfl, rfl, rfl, hsize, fun k hk => hoth k (by omega) (by omega)⟩
end
theorem refs_arg {H : Nat → Option AO} {w : World} {B0 : Nat} {S0 : Fr} {σ : Sg} (hi : Inv B0 S0 w H σ) {l : List Int} (hl : l ≠ []) {id lo : Nat} {ty : TypeId} (h : rowAt H id = some { k := 1, es := l.map fun n => [.v (.int .i64 n)], ty := ty, lo := lo })
    {vals : Array Value} (hs : vals.size = 1) (hr : RepL σ w [.ref id 0 l.length] (fun i => vals[i]?)) : ∃ b, σ.cur id = some b ∧ vals = #[.slice (some ⟨b, 0, none⟩) l.length (σ.cap b)] ∧ b < w.heap.size := by
  have hR := hi.row id _ (rowAt_eq h)
  simp only [RepL] at hr
  obtain ⟨⟨u, hu, hru⟩, _⟩ := hr
  simp only [Rep] at hru
  obtain ⟨hal, A, cap, rfl, h1, h2, h3, h4⟩ := hru
  have hpos : l.length ≠ 0 := fun e => hl (List.eq_nil_of_length_eq_zero e)
  obtain ⟨b, hcur, rfl, rfl⟩ := (h4 trivial (by rw [hR.len]; simp)).resolve_left (fun hh => hpos hh.2.1)
  refine ⟨b, hcur, ?_, (hi.own_lt b id (hR.cur b hcur).1).2⟩
  apply Array.ext
  · simpa using hs
  · intro i hi1 hi2
    have : i = 0 := by simp at hi2; omega
    subst this
    rw [Array.getElem?_eq_getElem hi1] at hu
    injection hu
theorem OKm.sorts {C : Cx} {f : FuncId} (hent : Enters C.P f) (hc : SortC C.P f) {l : List Int} (hl : l ≠ []) (hmax : l.length < 4611686018427387904) {id : Nat} {H : Nat → Option AO} {nx lo : Nat} {ty : TypeId}
    (h : rowAt H id = some { k := 1, es := l.map fun n => [.v (.int .i64 n)], ty := ty, lo := lo }) :
    OKm C f [.ref id 0 l.length] H nx (fun v H' nx' => v = .tup [] ∧ H' = updH H id (.row { k := 1, es := (l.mergeSort fun x y => decide (x ≤ y)).map fun n => [.v (.int .i64 n)], ty := ty, lo := lo }) ∧ nx' = nx) := by
  refine ⟨hent, fun S0 w0 w σ vals hE hi hnx hb hs hr => ?_⟩
  obtain ⟨b, hcur, rfl, hlt⟩ := refs_arg hi hl h (by simpa using hs) hr
  refine (hc b 0 (σ.cap b) l w (hi.holdsI h hcur) hlt hmax).mono ?_
  rintro e w' ⟨rfl, n, os, rfl⟩
  have hsl : (l.mergeSort fun x y => decide (x ≤ y)).length = l.length := List.length_mergeSort _
  obtain ⟨hle, hinv, hbel⟩ := hi.putInts h hcur hsl n os
  exact ⟨_, .tup [], _, _, nx, rfl, ⟨rfl, rfl, rfl⟩, hb.trans hbel, hinv, updH_nx hnx (by rw [rowAt_eq h]; simp), hle, by simp [Rep, RepL]⟩
theorem OKm.compacts {C : Cx} {f : FuncId} (hent : Enters C.P f) (hc : CompactC C.P f) {l : List Int} (hl : l ≠ []) (hmax : l.length ≤ 9223372036854775807) {id : Nat} {H : Nat → Option AO} {nx lo : Nat} {ty : TypeId}
    (h : rowAt H id = some { k := 1, es := l.map fun n => [.v (.int .i64 n)], ty := ty, lo := lo }) :
    OKm C f [.ref id 0 l.length] H nx (fun v H' nx' => v = .lst ((Lib.compact l).map fun n => [.v (.int .i64 n)]) ∧ (∀ j, j ≠ id → H' j = H j) ∧ nx' = nx) := by
  refine ⟨hent, fun S0 w0 w σ vals hE hi hnx hb hs hr => ?_⟩
  obtain ⟨b, hcur, rfl, hlt⟩ := refs_arg hi hl h (by simpa using hs) hr
  obtain ⟨a1, a2, a3, a4, arr, a5, a6⟩ := (hi.row id _ (rowAt_eq h)).cur b hcur
  have hcap : l.length ≤ σ.cap b := by simpa using a3
  refine (hc b 0 (σ.cap b) l w (hi.holdsI h hcur) hmax hcap).mono ?_
  rintro e w' ⟨rfl, n, rfl⟩
  have hcl := compact_len l
  have hsl : (Lib.compact l ++ List.replicate (l.length - (Lib.compact l).length) 0).length = l.length := by simp; omega
  obtain ⟨hle, hinv, hbel⟩ := hi.putInts h hcur hsl n #[]
  rw [grow_empty] at hle hinv hbel
  have hget : ∀ i (h : i < (Lib.compact l).length), (Lib.compact l ++ List.replicate (l.length - (Lib.compact l).length) 0)[i]? = some (Lib.compact l)[i] := fun i h => by
    rw [List.getElem?_append_left h, List.getElem?_eq_getElem h]
  generalize Lib.compact l ++ List.replicate (l.length - (Lib.compact l).length) 0 = D at hle hinv hbel hsl hget
  have hrow : ∀ i ∈ [id], ∃ r, rowAt (updH H id (.row { k := 1, es := D.map fun n => [.v (.int .i64 n)], ty := ty, lo := lo })) i = some r := by
    intro i hi'
    rw [List.mem_singleton] at hi'; subst hi'
    exact ⟨{ k := 1, es := D.map fun n => [.v (.int .i64 n)], ty := ty, lo := lo }, by simp [rowAt, updH]⟩
  have hinv2 := hinv.frz hrow
  have hle2 := hle.trans (hinv.le_frz [id])
  refine ⟨_, .lst _, _, _, nx, rfl, ⟨rfl, fun j hj => ?_, rfl⟩, hb.trans hbel, hinv2, fun i hi' => ?_, hle2, ?_⟩
  · simp [Pg.frz, hj, updH]
  · have hne : i ≠ id := fun e => by subst e; have := hnx i hi'; rw [rowAt_eq h] at this; cases this
    simp [Pg.frz, hne, updH, hnx i hi']
  · simp only [Rep]
    refine ⟨some ⟨b, 0, none⟩, σ.cap b, 1, by simp, by simp; omega, a4, fun e he => ?_, fun _ => ⟨b, 0, rfl, .inr ⟨id, by simp, ?_⟩, ?_⟩⟩
    · obtain ⟨x, _, rfl⟩ := List.mem_map.1 he; exact ⟨rfl, fun c hc => by simp at hc; subst hc; rfl⟩
    · simp [Sg.renew]
    · rw [repLL_iff]
      intro i hi'
      have hi2 : i < (Lib.compact l).length := by simpa using hi'
      have hi3 : i < D.length := by omega
      have hR2 := hinv.row id { k := 1, es := D.map fun n => [.v (.int .i64 n)], ty := ty, lo := lo } (by simp [updH])
      have hcon := hR2.con b (by simp [Sg.renew]) i (by simpa using hi3)
      simp only [List.getElem_map, RepL] at hcon ⊢
      obtain ⟨⟨u, hu, hru⟩, _⟩ := hcon
      refine ⟨⟨u, ?_, ?_⟩, trivial⟩
      · rw [← hu]; simp
      · simp only [Rep] at hru ⊢
        have := hget i hi2
        rw [List.getElem?_eq_getElem hi3] at this
        injection this with this
        rw [hru, this]
end Go.Pg

namespace Go.Proofs
open Go.Shelf
def Try.lays189_ren : Go.Shelf.Ren := ⟨fun | 189 => 99 | 125 => 118 | 257 => 117 | 128 => 137 | 129 => 138 | 294 => 128 | 295 => 129 | 296 => 130 | 297 => 131 | 298 => 132 | 299 => 133 | 216 => 134 | 300 => 135 | 301 => 136 | 328 => 139 | 329 => 140 | 330 => 141 | 331 => 142 | 332 => 143 | 215 => 144 | 343 => 145 | n => n, fun | 28 => 41 | 3 => 3 | 46 => 164 | 0 => 0 | 51 => 182 | 53 => 184 | 4 => 4 | 183 => 174 | 182 => 173 | 131 => 179 | 5 => 5 | 9 => 9 | 218 => 185 | 222 => 189 | 228 => 191 | 229 => 114 | n => n, fun | n => n⟩
theorem Try.lays189 : Go.Proofs.Lays.n189 Try.prog Try.lays189_ren := {
  mixed := by kernel_rfl
  f125 := Try.func118.trans (congrArg some (by kernel_rfl))
  f128 := Try.func137.trans (congrArg some (by kernel_rfl))
  f129 := Try.func138.trans (congrArg some (by kernel_rfl))
  f189 := Try.func99.trans (congrArg some (by kernel_rfl))
  f215 := Try.func144.trans (congrArg some (by kernel_rfl))
  f216 := Try.func134.trans (congrArg some (by kernel_rfl))
  f257 := Try.func117.trans (congrArg some (by kernel_rfl))
  f294 := Try.func128.trans (congrArg some (by kernel_rfl))
  f295 := Try.func129.trans (congrArg some (by kernel_rfl))
  f296 := Try.func130.trans (congrArg some (by kernel_rfl))
  f297 := Try.func131.trans (congrArg some (by kernel_rfl))
  f298 := Try.func132.trans (congrArg some (by kernel_rfl))
  f299 := Try.func133.trans (congrArg some (by kernel_rfl))
  f300 := Try.func135.trans (congrArg some (by kernel_rfl))
  f301 := Try.func136.trans (congrArg some (by kernel_rfl))
  f328 := Try.func139.trans (congrArg some (by kernel_rfl))
  f329 := Try.func140.trans (congrArg some (by kernel_rfl))
  f330 := Try.func141.trans (congrArg some (by kernel_rfl))
  f331 := Try.func142.trans (congrArg some (by kernel_rfl))
  f332 := Try.func143.trans (congrArg some (by kernel_rfl))
  f343 := Try.func145.trans (congrArg some (by kernel_rfl))
  t0 := Try.underlying0
  a0 := Try.isAgg0
  z0 := Try.sizeOf0
  v0 := Try.zeroValue0
  t3 := Try.underlying3
  a3 := Try.isAgg3
  z3 := Try.sizeOf3
  v3 := Try.zeroValue3
  t4 := Try.underlying4
  a4 := Try.isAgg4
  z4 := Try.sizeOf4
  v4 := Try.zeroValue4
  t5 := Try.underlying5
  a5 := Try.isAgg5
  z5 := Try.sizeOf5
  v5 := Try.zeroValue5
  t9 := Try.underlying9
  a9 := Try.isAgg9
  z9 := Try.sizeOf9
  v9 := Try.zeroValue9
  t28 := Try.underlying41
  a28 := Try.isAgg41
  z28 := Try.sizeOf41
  v28 := Try.zeroValue41
  t46 := Try.underlying164
  a46 := Try.isAgg164
  z46 := Try.sizeOf164
  v46 := Try.zeroValue164
  t51 := Try.underlying182
  a51 := Try.isAgg182
  z51 := Try.sizeOf182
  v51 := Try.zeroValue182
  t53 := Try.underlying184
  a53 := Try.isAgg184
  z53 := Try.sizeOf184
  v53 := Try.zeroValue184
  t131 := Try.underlying179
  a131 := Try.isAgg179
  z131 := Try.sizeOf179
  v131 := Try.zeroValue179
  t182 := Try.underlying173
  a182 := Try.isAgg173
  z182 := Try.sizeOf173
  v182 := Try.zeroValue173
  t183 := Try.underlying174
  a183 := Try.isAgg174
  z183 := Try.sizeOf174
  v183 := Try.zeroValue174
  t218 := Try.underlying185
  a218 := Try.isAgg185
  z218 := Try.sizeOf185
  v218 := Try.zeroValue185
  t222 := Try.underlying189
  a222 := Try.isAgg189
  z222 := Try.sizeOf189
  v222 := Try.zeroValue189
  t228 := Try.underlying191
  a228 := Try.isAgg191
  z228 := Try.sizeOf191
  v228 := Try.zeroValue191
  t229 := Try.underlying114
  a229 := Try.isAgg114
  z229 := Try.sizeOf114
  v229 := Try.zeroValue114 }
open Go.Sort Go.RowKit in
theorem Try.slices_Sort_int (blk off cap : Nat) (zs : List Int) (w : World) (hH : Holds (Value.int .i64) w blk off zs.toArray) (hblk : blk < w.heap.size) (hsz : zs.length < 4611686018427387904) :
    Calls Try.prog 99 #[.slice (some ⟨blk, off, none⟩) zs.length cap] w fun e w' =>
      e = .returned (.tuple #[]) ∧ ∃ n os, w' = grow (putRow (Value.int .i64) (Sort.ahead w n) blk off (zs.mergeSort fun x y => decide (x ≤ y)).toArray) os := Any.slices_Sort_int Try.lays189 blk off cap zs w hH hblk hsz
def Try.lays112_ren : Go.Shelf.Ren := ⟨fun | 112 => 89 | n => n, fun | 28 => 41 | 3 => 3 | 4 => 4 | 0 => 0 | n => n, fun | n => n⟩
theorem Try.lays112 : Go.Proofs.Lays.n112 Try.prog Try.lays112_ren := {
  mixed := by kernel_rfl
  f112 := Try.func89.trans (congrArg some (by kernel_rfl))
  t0 := Try.underlying0
  a0 := Try.isAgg0
  z0 := Try.sizeOf0
  v0 := Try.zeroValue0
  t3 := Try.underlying3
  a3 := Try.isAgg3
  z3 := Try.sizeOf3
  v3 := Try.zeroValue3
  t4 := Try.underlying4
  a4 := Try.isAgg4
  z4 := Try.sizeOf4
  v4 := Try.zeroValue4
  t28 := Try.underlying41
  a28 := Try.isAgg41
  z28 := Try.sizeOf41
  v28 := Try.zeroValue41 }
open Go.RowKit Go.Lib Go.Sort in
open Go.RowKit Go.Lib Go.Sort in
theorem Try.slices_Reverse_int (blk off cap : Nat) (zs : List Int) (w : World) (hH : Holds (Value.int .i64) w blk off zs.toArray) (hsz : zs.length ≤ 9223372036854775807) :
    Calls Try.prog 89 #[.slice (some ⟨blk, off, none⟩) zs.length cap] w fun e w' => e = .returned (.tuple #[]) ∧ ∃ n, w' = putRow (Value.int .i64) (Sort.ahead w n) blk off zs.reverse.toArray := Any.slices_Reverse_int Try.lays112 blk off cap zs w hH hsz
open Go.RowKit Go.Lib Go.Sort in
def Try.laysNm220_ren : Go.Shelf.Ren := ⟨fun | 20 => 120 | n => n, fun | 22 => 41 | 3 => 3 | 4 => 4 | 0 => 0 | n => n, fun | n => n⟩
theorem Try.laysNm220 : Go.Proofs.Lays2.n20 Try.prog Try.laysNm220_ren := {
  mixed := by kernel_rfl
  f20 := Try.func120.trans (congrArg some (by kernel_rfl))
  t0 := Try.underlying0
  a0 := Try.isAgg0
  z0 := Try.sizeOf0
  v0 := Try.zeroValue0
  t3 := Try.underlying3
  a3 := Try.isAgg3
  z3 := Try.sizeOf3
  v3 := Try.zeroValue3
  t4 := Try.underlying4
  a4 := Try.isAgg4
  z4 := Try.sizeOf4
  v4 := Try.zeroValue4
  t22 := Try.underlying41
  a22 := Try.isAgg41
  z22 := Try.sizeOf41
  v22 := Try.zeroValue41
  i3 := by kernel_rfl }
open Go.RowKit Go.Lib Go.Sort in
open Go.RowKit Go.Lib Go.Sort in
theorem Try.slices_Compact_int (blk off cap : Nat) (zs : List Int) (w : World) (hH : Holds (Value.int .i64) w blk off zs.toArray) (hsz : zs.length ≤ 9223372036854775807) (hcap : zs.length ≤ cap) :
    Calls Try.prog 120 #[.slice (some ⟨blk, off, none⟩) zs.length cap] w fun e w' => e = .returned (.slice (some ⟨blk, off, none⟩) (Lib.compact zs).length cap) ∧ ∃ q, w' = putRow (Value.int .i64) (Sort.ahead w q) blk off (Lib.compact zs ++ List.replicate (zs.length - (Lib.compact zs).length) 0).toArray := Any.slices_Compact_int Try.laysNm220 blk off cap zs w hH hsz hcap
open Go.RowKit Go.Lib Go.Sort in
open Go.RowKit Go.Sort in
theorem Try.slices_Sort_int_none (p : Option Addr) (cap : Nat) (w : World) :
    Calls Try.prog 99 #[.slice p 0 cap] w fun e w' => e = .returned (.tuple #[]) ∧ w' = w := Any.slices_Sort_int_none Try.lays189 p cap w
end Go.Proofs

set_option maxHeartbeats 8000000
set_option maxRecDepth 10000
namespace Go.Proofs.Ks
open Go Go.Pg Go.Proofs
def markP (r : Rec) (more : List Int) (k : Nat) : List Int := [r.s.zero.lo, r.s.zero.hi + 1, r.s.fin.lo, r.s.fin.hi + 1] ++ (more ++ (r.strikes.take k).flatMap fun x => [x.pos.lo, x.pos.hi + 1])
theorem markP_succ {r : Rec} {more : List Int} {k : Nat} {x : Strike} {rest : List Strike} (h : r.strikes.drop k = x :: rest) : markP r more (k + 1) = markP r more k ++ [x.pos.lo, x.pos.hi + 1] := by
  unfold markP
  rw [take_snoc h, List.flatMap_append]
  simp
theorem markP_len {r : Rec} {more : List Int} : ∀ {k : Nat}, k ≤ r.strikes.length → (markP r more k).length = 4 + more.length + 2 * k := by
  intro k hk
  unfold markP
  have : ∀ l : List Strike, (l.flatMap fun x => [x.pos.lo, x.pos.hi + 1]).length = 2 * l.length := by
    intro l
    induction l with
    | nil => rfl
    | cons y l ih => rw [List.flatMap_cons, List.length_append, ih]; simp only [zD, zC]; omega
  rw [List.length_append, List.length_append, this, List.length_take, Nat.min_eq_left hk]
  simp only [zD, zC]; omega
theorem markP_all (r : Rec) (more : List Int) : markP r more r.strikes.length = markL r more := by
  unfold markP markL
  rw [List.take_length]
theorem marked0_ok (r : Rec) (more : List Int) (hv : r.V) (hm : more.length ≤ 8) (hs : SortC cx.P 99) (hc : CompactC cx.P 120) : OKv cx 112 [.agg (eRec r), lInt more] (lInt (marksR r more)) := by
  obtain ⟨z1, z2, z3⟩ := hv.z
  obtain ⟨f1, f2, f3⟩ := hv.f
  have hns := hv.nstrikes
  have hl0 := markP_len (r := r) (more := more) (Nat.zero_le _)
  refine OKat.of_body (rs := [4]) Try.func112 rfl (by decide +kernel) rfl (by simp [Try.ntmps112]) ?_
  simp only [Try.ntmps112]
  repeat' first
    | apply jA | apply jB | apply jC | apply jD | apply jE | apply jF | apply jG | apply jH | apply jI
    | ((first | (apply jK cx_ok; decide) | apply jM cx_ok | apply jR); (simp (disch := (first | omega | (simp only [vC, markP_len]; omega))) only [push_cast, simprocAttr, takeM, dropM, zK, zA, zB, zN, zQ, zR, zO, zP, zT, zS, zU, leT, zH, natNe, zI, zG, zJ, isEmpty_map, zE, zD, zC, zV, zM] <;> rfl); all_goals try ((with_reducible intro hI); try first | (cases hI; done) | (simp only [INTS, zL] at hI; try first | (exfalso; omega) | (have hT : True := hI; clear hT hI))))
    | (apply jT cx_ok; decide; rfl; rfl; rfl; decide; (iterate 3 (simp (disch := (first | omega | (simp only [vC, markP_len]; omega))) only [push_cast, simprocAttr, takeM, dropM, zK, zA, zB, zN, zQ, zR, zO, zP, zT, zS, zU, leT, zH, natNe, zI, zG, zJ, isEmpty_map, zE, zD, zC, zV, zM] <;> rfl)); (first | (focus (simp; done)) | (intro c hc; obtain ⟨x, _, rfl⟩ := List.mem_map.1 hc; rfl)); ((first | rfl | simp (disch := omega) only [push_cast])); ((try dsimp only); (try simp only [vC, markP_len]); omega); ((try dsimp only); (try simp only [vC, markP_len]); omega))
    | ((first | apply jf | apply jg); (iterate 2 (try (simp (disch := (first | omega | (simp only [vC, markP_len]; omega))) only [push_cast, simprocAttr, takeM, dropM, zK, zA, zB, zN, zQ, zR, zO, zP, zT, zS, zU, leT, zH, natNe, zI, zG, zJ, isEmpty_map, zE, zD, zC, zV, zM] <;> rfl))))

  refine AW.loop (fun n s => ∃ (k lw : Nat) (rest : List Strike), n = rest.length ∧ (r.strikes.drop k = rest) ∧ (lw ≤ 4 + more.length + 2 * k) ∧ (k ≤ r.strikes.length) ∧ 3 ≤ s.nx ∧ s.tm 2 = .ptr 0 0 0 1 ∧ s.tm 6 = .ref 2 0 (4 + more.length + 2 * k) ∧ s.tm 29 = lStrike r.strikes ∧ s.tm 30 = ai r.strikes.length ∧ s.tm 31 = ai k ∧ Pg.rowAt s.H 2 = some { k := 1, es := (markP r more k).map eInt, ty := 3, lo := lw }) (r.strikes.length) ⟨0, (if more.isEmpty = true then 0 else 4 + more.length), r.strikes, rfl, rfl, (by split <;> omega), (Nat.zero_le _), ?_, ?_, ?_, ?_, ?_, ?_, ?_⟩ ?_
  iterate 7 (first | (simp (disch := omega) only [push_cast, simprocAttr, natNe, zI, zG, zJ, isEmpty_map, zE, zD, zC, zV, zM, markP, List.take_zero, List.flatMap_nil, zZ, zY, zX, zW, yB, yA] <;> first | rfl | omega) | omega)
  rintro n s ⟨k, lw, rest, hn, hp0, hp1, hp2, hnl, hS⟩
  have hl := markP_len (r := r) (more := more) hp2
  rcases rest with _ | ⟨x, rest⟩
  rotate_left
  · obtain ⟨hk, hg, hd', hl', hm', hx⟩ := drop_cons hp0 eStrike []
    have hsx := markP_succ (more := more) hp0
    obtain ⟨y1, y2, y3, y4⟩ := hv.strikes x hm'
    repeat' first
      | apply jA | apply jB | apply jC | apply jD | apply jE | apply jF | apply jG | apply jH | apply jI
      | ((first | (apply jK cx_ok; decide) | apply jM cx_ok | apply jR); (simp (disch := (first | omega | (simp only [vC, hl]; omega))) only [push_cast, simprocAttr, takeM, dropM, zK, zA, zB, zN, zQ, zR, zO, zP, zT, zS, zU, leT, zH, natNe, zI, zG, zJ, isEmpty_map, zE, zD, zC, zV, zM, hS, hk, hg, hx, hl] <;> rfl); all_goals try ((with_reducible intro hI); try first | (cases hI; done) | (simp only [INTS, zL] at hI; try first | (exfalso; omega) | (have hT : True := hI; clear hT hI))))
      | (apply jT cx_ok; decide; rfl; rfl; rfl; decide; (iterate 3 (simp (disch := (first | omega | (simp only [vC, hl]; omega))) only [push_cast, simprocAttr, takeM, dropM, zK, zA, zB, zN, zQ, zR, zO, zP, zT, zS, zU, leT, zH, natNe, zI, zG, zJ, isEmpty_map, zE, zD, zC, zV, zM, hS, hk, hg, hx, hl] <;> rfl)); (first | (focus (simp; done)) | (intro c hc; obtain ⟨x, _, rfl⟩ := List.mem_map.1 hc; rfl)); ((first | rfl | simp (disch := omega) only [push_cast])); ((try dsimp only); (try simp only [vC, hl]); omega); ((try dsimp only); (try simp only [vC, hl]); omega))
      | ((first | apply jf | apply jg); (iterate 2 (try (simp (disch := (first | omega | (simp only [vC, hl]; omega))) only [push_cast, simprocAttr, takeM, dropM, zK, zA, zB, zN, zQ, zR, zO, zP, zT, zS, zU, leT, zH, natNe, zI, zG, zJ, isEmpty_map, zE, zD, zC, zV, zM, hS, hk, hg, hx, hl] <;> rfl))))

    all_goals (refine ⟨rest.length, ?_, k + 1, (4 + more.length + 2 * k + 2), rest, rfl, hd', (by omega), (by omega), ?_, ?_, ?_, ?_, ?_, ?_, ?_⟩; ((simp only [zD] at *; omega)); all_goals first | (simp (disch := omega) only [push_cast, simprocAttr, hS, natNe, zI, zG, zJ, isEmpty_map, zE, zD, zC, zV, zM, hk, hg, hx, hl, hsx, zY, zX, zW, yB, yA] <;> first | rfl | omega) | omega)
  have hk := drop_nil hp0
  have hkS : k = r.strikes.length := by have := List.drop_eq_nil_iff.1 hp0; omega
  subst hkS
  rw [markP_all] at hS hl
  have hne : markL r more ≠ [] := by unfold markL; simp
  have hmL : (markL r more).length < 4611686018427387904 := by omega
  have hcut := markL_cut r more
  have hsl : ((markL r more).mergeSort fun x y => decide (x ≤ y)).length = (markL r more).length := List.length_mergeSort _
  obtain ⟨SL, hSL⟩ : ∃ z, (markL r more).mergeSort (fun x y => decide (x ≤ y)) = z := ⟨_, rfl⟩
  rw [hSL] at hcut hsl
  have hneS : SL ≠ [] := fun e => by rw [e] at hsl; rw [hl] at hsl; simp only [zC] at hsl; omega
  have hs1 : ∀ {args : List AV} {H : Nat → Option AO} {nx : Nat}, args = [.ref 2 0 (4 + (more.length + 2 * r.strikes.length))] → Pg.rowAt H 2 = some { k := 1, es := (markL r more).map eInt, ty := 3, lo := lw } →
      OKm cx 99 args H nx (fun v H' nx' => v = .tup [] ∧ H' = updH H 2 (.row { k := 1, es := SL.map eInt, ty := 3, lo := lw }) ∧ nx' = nx) := by
    rintro _ H nx rfl h
    rw [show 4 + (more.length + 2 * r.strikes.length) = (markL r more).length by omega, ← hSL]
    exact OKm.sorts ⟨_, Try.func99, by decide +kernel, rfl⟩ hs hne hmL h
  have hc1 : ∀ {args : List AV} {H : Nat → Option AO} {nx : Nat}, args = [.ref 2 0 (4 + (more.length + 2 * r.strikes.length))] → Pg.rowAt H 2 = some { k := 1, es := SL.map eInt, ty := 3, lo := lw } →
      OKm cx 120 args H nx (fun v H' nx' => v = lInt (marksR r more) ∧ (∀ j, j ≠ 2 → H' j = H j) ∧ nx' = nx) := by
    rintro _ H nx rfl h
    rw [show 4 + (more.length + 2 * r.strikes.length) = SL.length by omega, ← hcut]
    exact OKm.compacts ⟨_, Try.func120, by decide +kernel, rfl⟩ hc hneS (by omega) h
  repeat' first
    | apply jA | apply jB | apply jC | apply jD | apply jE | apply jF | apply jG | apply jH | apply jI
    | ((first | (apply jK cx_ok; decide) | apply jM cx_ok | apply jR); (simp (disch := (first | omega | (simp only [vC, hl]; omega))) only [push_cast, simprocAttr, takeM, dropM, zK, zA, zB, zN, zQ, zR, zO, zP, zT, zS, zU, leT, zH, natNe, zI, zG, zJ, isEmpty_map, zE, zD, zC, zV, zM, hS, hk] <;> rfl); all_goals try ((with_reducible intro hI); try first | (cases hI; done) | (simp only [INTS, zL] at hI; try first | (exfalso; omega) | (have hT : True := hI; clear hT hI))))
    | (apply jT cx_ok; decide; rfl; rfl; rfl; decide; (iterate 3 (simp (disch := (first | omega | (simp only [vC, hl]; omega))) only [push_cast, simprocAttr, takeM, dropM, zK, zA, zB, zN, zQ, zR, zO, zP, zT, zS, zU, leT, zH, natNe, zI, zG, zJ, isEmpty_map, zE, zD, zC, zV, zM, hS, hk] <;> rfl)); (first | (focus (simp; done)) | (intro c hc; obtain ⟨x, _, rfl⟩ := List.mem_map.1 hc; rfl)); ((first | rfl | simp (disch := omega) only [push_cast])); ((try dsimp only); (try simp only [vC, hl]); omega); ((try dsimp only); (try simp only [vC, hl]); omega))
    | ((first | apply jf | apply jg); (iterate 2 (try (simp (disch := (first | omega | (simp only [vC, hl]; omega))) only [push_cast, simprocAttr, takeM, dropM, zK, zA, zB, zN, zQ, zR, zO, zP, zT, zS, zU, leT, zH, natNe, zI, zG, zJ, isEmpty_map, zE, zD, zC, zV, zM, hS, hk] <;> rfl))))

  refine W.callm cx_ok (by decide) (f := 99) (caps := []) (by simp (disch := omega) only [push_cast, simprocAttr, natNe, zI, zG, zJ, isEmpty_map, zE, zD, zC, zV, zM, hS, hk] <;> rfl) (hs1 (by simp (disch := omega) only [push_cast, simprocAttr, natNe, zI, zG, zJ, isEmpty_map, zE, zD, zC, zV, zM, hS, hk] <;> rfl) (by simp (disch := omega) only [push_cast, simprocAttr, natNe, zI, zG, zJ, isEmpty_map, zE, zD, zC, zV, zM, hS, hk] <;> rfl)) ?_
  rintro _ _ _ ⟨rfl, rfl, rfl⟩
  repeat' first
    | apply jA | apply jB | apply jC | apply jD | apply jE | apply jF | apply jG | apply jH | apply jI
    | ((first | (apply jK cx_ok; decide) | apply jM cx_ok | apply jR); (simp (disch := (first | omega | (simp only [vC, hl]; omega))) only [push_cast, simprocAttr, takeM, dropM, zK, zA, zB, zN, zQ, zR, zO, zP, zT, zS, zU, leT, zH, natNe, zI, zG, zJ, isEmpty_map, zE, zD, zC, zV, zM, hS, hk] <;> rfl); all_goals try ((with_reducible intro hI); try first | (cases hI; done) | (simp only [INTS, zL] at hI; try first | (exfalso; omega) | (have hT : True := hI; clear hT hI))))
    | (apply jT cx_ok; decide; rfl; rfl; rfl; decide; (iterate 3 (simp (disch := (first | omega | (simp only [vC, hl]; omega))) only [push_cast, simprocAttr, takeM, dropM, zK, zA, zB, zN, zQ, zR, zO, zP, zT, zS, zU, leT, zH, natNe, zI, zG, zJ, isEmpty_map, zE, zD, zC, zV, zM, hS, hk] <;> rfl)); (first | (focus (simp; done)) | (intro c hc; obtain ⟨x, _, rfl⟩ := List.mem_map.1 hc; rfl)); ((first | rfl | simp (disch := omega) only [push_cast])); ((try dsimp only); (try simp only [vC, hl]); omega); ((try dsimp only); (try simp only [vC, hl]); omega))
    | ((first | apply jf | apply jg); (iterate 2 (try (simp (disch := (first | omega | (simp only [vC, hl]; omega))) only [push_cast, simprocAttr, takeM, dropM, zK, zA, zB, zN, zQ, zR, zO, zP, zT, zS, zU, leT, zH, natNe, zI, zG, zJ, isEmpty_map, zE, zD, zC, zV, zM, hS, hk] <;> rfl))))

  refine W.callm cx_ok (by decide) (f := 120) (caps := []) (by simp (disch := omega) only [push_cast, simprocAttr, natNe, zI, zG, zJ, isEmpty_map, zE, zD, zC, zV, zM, hS, hk] <;> rfl) (hc1 (by simp (disch := omega) only [push_cast, simprocAttr, natNe, zI, zG, zJ, isEmpty_map, zE, zD, zC, zV, zM, hS, hk] <;> rfl) (by simp (disch := omega) only [push_cast, simprocAttr, natNe, zI, zG, zJ, isEmpty_map, zE, zD, zC, zV, zM, hS, hk] <;> rfl)) ?_
  rintro _ H3 _ ⟨rfl, hH3, rfl⟩
  repeat' first
    | apply jA | apply jB | apply jC | apply jD | apply jE | apply jF | apply jG | apply jH | apply jI
    | ((first | (apply jK cx_ok; decide) | apply jM cx_ok | apply jR); (simp (disch := (first | omega | (simp only [vC, hl]; omega))) only [push_cast, simprocAttr, takeM, dropM, zK, zA, zB, zN, zQ, zR, zO, zP, zT, zS, zU, leT, zH, natNe, zI, zG, zJ, isEmpty_map, zE, zD, zC, zV, zM, hS, hk] <;> rfl); all_goals try ((with_reducible intro hI); try first | (cases hI; done) | (simp only [INTS, zL] at hI; try first | (exfalso; omega) | (have hT : True := hI; clear hT hI))))
    | (apply jT cx_ok; decide; rfl; rfl; rfl; decide; (iterate 3 (simp (disch := (first | omega | (simp only [vC, hl]; omega))) only [push_cast, simprocAttr, takeM, dropM, zK, zA, zB, zN, zQ, zR, zO, zP, zT, zS, zU, leT, zH, natNe, zI, zG, zJ, isEmpty_map, zE, zD, zC, zV, zM, hS, hk] <;> rfl)); (first | (focus (simp; done)) | (intro c hc; obtain ⟨x, _, rfl⟩ := List.mem_map.1 hc; rfl)); ((first | rfl | simp (disch := omega) only [push_cast])); ((try dsimp only); (try simp only [vC, hl]); omega); ((try dsimp only); (try simp only [vC, hl]); omega))
    | ((first | apply jf | apply jg); (iterate 2 (try (simp (disch := (first | omega | (simp only [vC, hl]; omega))) only [push_cast, simprocAttr, takeM, dropM, zK, zA, zB, zN, zQ, zR, zO, zP, zT, zS, zU, leT, zH, natNe, zI, zG, zJ, isEmpty_map, zE, zD, zC, zV, zM, hS, hk] <;> rfl))))

  all_goals (show _ = _; rfl)
theorem sort99 : SortC cx.P 99 := fun blk off cap zs w h1 h2 h3 => Try.slices_Sort_int blk off cap zs w h1 h2 h3
theorem compact120 : CompactC cx.P 120 := fun blk off cap zs w h1 h2 h3 => Try.slices_Compact_int blk off cap zs w h1 h2 h3
theorem marked_ok (r : Rec) (more : List Int) (hv : r.V) (hm : more.length ≤ 8) : OKv cx 112 [.agg (eRec r), lInt more] (lInt (marksR r more)) := marked0_ok r more hv hm sort99 compact120
end Go.Proofs.Ks

namespace Go.Proofs.Ks
open Go Go.Pg Go.Proofs
theorem rnd_ok (l : Nat) : (cx.rnd l).OK := ⟨cx_ok.T, cx_ok.eqT, cx_ok.E⟩
theorem rnd_mixed (l : Nat) : (cx.rnd l).P.follows .mixedOrders = true := cx_mixed
theorem new_strike (k : Nat) : (⟨3, (k : Int)⟩ : Node) ∉ nd0 ++ ndS k := by
  intro h
  rcases List.mem_append.1 h with h | h
  · simp [nd0] at h
  · unfold ndS at h
    obtain ⟨i, hi, e⟩ := List.mem_map.1 h
    rw [List.mem_range] at hi
    injection e with _ e2
    omega
theorem new_mark {l : List Int} (hs : l.Pairwise (· < ·)) {k S : Nat} {x : Int} {rest : List Int} (h : l.drop k = x :: rest) : (⟨4, x⟩ : Node) ∉ nd0 ++ ndS S ++ ndM (l.take k) := by
  intro hm
  rcases List.mem_append.1 hm with hm | hm
  · rcases List.mem_append.1 hm with hm | hm
    · simp [nd0] at hm
    · unfold ndS at hm
      obtain ⟨i, hi, e⟩ := List.mem_map.1 hm
      injection e with e1 _
      exact absurd e1 (by decide)
  · unfold ndM at hm
    obtain ⟨y, hy, e⟩ := List.mem_map.1 hm
    injection e with _ e2
    subst e2
    rw [← List.take_append_drop k l, h, List.pairwise_append] at hs
    have := hs.2.2 y hy y (by simp)
    omega
structure Bd (H0 : Nat → Option AO) (nx : Nat) (r : Rec) (N : List Node) (H : Nat → Option AO) : Prop where
  sys : SysB H (nx + 3) (nx + 2) (nx + 4) (nx + 1) N (.ref (nx + 5) 0 0)
  rc : Pg.rowAt H nx = some { k := 14, es := [eRec r], ty := 30 }
  lk : Pg.rowAt H (nx + 5) = some { k := 3, es := [], ty := 66 }
  fr : ∀ j, j < nx → H j = H0 j
theorem addB {H0 H : Nat → Option AO} {nx m : Nat} {r : Rec} {N : List Node} (n : Node) {args : List AV} (ha : args = [.agg (eNode n), .ptr (nx + 3) 0 0 1]) (hB : Bd H0 nx r N H) (hnew : n ∉ N) (hl : N.length ≤ 1000000) (hm : nx + 6 ≤ m) :
    OKm cx 111 args H m (fun _ H' m' => Bd H0 nx r (N ++ [n]) H' ∧ m ≤ m') := by
  subst ha
  refine OKm.mono (add_m N n hl hnew hB.sys ⟨by omega, by omega, by omega⟩ ⟨by omega, by omega, by omega⟩ (by omega) (by omega) (by omega) (by omega)) ?_
  rintro v H' m' ⟨hS, hle, hf⟩
  exact ⟨⟨hS, (rowAt_eqH (hf nx (by omega) (by omega) (by omega) (by omega))).trans hB.rc, (rowAt_eqH (hf (nx + 5) (by omega) (by omega) (by omega) (by omega))).trans hB.lk, fun j hj => (hf j (by omega) (by omega) (by omega) (by omega)).trans (hB.fr j hj)⟩, hle⟩
structure SysM (H : Nat → Option AO) (g nd m lk : Nat) (N : List Node) (L : List Lk) : Prop where
  g : Pg.rowAt H g = some { k := 3, es := [[.ref nd 0 N.length, .map m, .ref lk 0 L.length]], ty := 135 }
  nd : Pg.rowAt H nd = some { k := 2, es := N.map eNode, ty := 144, lo := N.length }
  m : H m = some (.mp (.map .pair) 0 (ixM N))
  lk : ∃ lw, lw ≤ L.length ∧ Pg.rowAt H lk = some { k := 3, es := L.map eLink, ty := 66, lo := lw }
structure JB (H0 : Nat → Option AO) (nx e : Nat) (r : Rec) (PL : List Int) (N : List Node) (l D : Nat) (L : Loop) (tm : Nat → AV) (p : List Lk) (H : Nat → Option AO) : Prop where
  sy : SysY H (e + 1) e (e + 2) (nx + 2) (nx + 1) r PL N
  sm : SysM H (nx + 2) (nx + 4) (nx + 1) (nx + 5) N p
  c : Pg.rowAt H (nx + 3) = some { k := 1, es := [[.ptr (nx + 2) 0 0 1]], ty := 122 }
  fr : ∀ j, j < nx → H j = H0 j
  dfr : H (e + 3) = some (.mp (.dfr D (some [])) 0 [])
  rcd : H (e + 4) = some (.mp (.loop l L) 0 (keepT 66 tm))
theorem JB.frame {H0 : Nat → Option AO} {nx e₀ : Nat} {r : Rec} {PL : List Int} {N : List Node} {l D : Nat} {L : Loop} {tm : Nat → AV} (he : nx + 6 ≤ e₀) (p : List Lk) (H : Nat → Option AO) (id : Nat) (o : AO) (h : JB H0 nx e₀ r PL N l D L tm p H) (hid : e₀ + 5 ≤ id) : JB H0 nx e₀ r PL N l D L tm p (updH H id o) := by
  have e : ∀ j, j < e₀ + 5 → updH H id o j = H j := fun j hj => by simp only [updH]; rw [if_neg (by omega)]
  have eR : ∀ j, j < e₀ + 5 → Pg.rowAt (updH H id o) j = Pg.rowAt H j := fun j hj => rowAt_eqH (e j hj)
  obtain ⟨⟨a1, a2, a3, a4, a5⟩, ⟨b1, b2, b3, lw, b4, b5⟩, h3, h4, h5, h6⟩ := h
  refine ⟨⟨(eR _ (by omega)).trans a1, (eR _ (by omega)).trans a2, (eR _ (by omega)).trans a3, ?_, (e _ (by omega)).trans a5⟩, ⟨(eR _ (by omega)).trans b1, (eR _ (by omega)).trans b2, (e _ (by omega)).trans b3, lw, b4, (eR _ (by omega)).trans b5⟩, (eR _ (by omega)).trans h3, fun j hj => (e _ (by omega)).trans (h4 j hj), (e _ (by omega)).trans h5, (e _ (by omega)).trans h6⟩
  obtain ⟨x, y, hxy⟩ := a4
  exact ⟨x, y, (eR _ (by omega)).trans hxy⟩
def dropS1 : Nat → Code → Code
  | 0, .seq _ b => b
  | n + 1, .seq _ b => dropS1 n b
  | _, c => c
theorem awk_gen {C : Cx} {N : Nat} {y z : Code} {Q : Exit → St → Prop} {s : St} (G : St → Prop) (hG : G s) (h : ∀ t, G t → AWk C N y z Q t) : AWk C N y z Q s := h s hG
noncomputable def tail87 : Code := dropS1 9 (Try.f87.body.getD .skip)
end Go.Proofs.Ks
