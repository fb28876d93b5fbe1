/-
  Contracts of functions, proved by going through their code. No conditions.
-/
import Derived.Test.YtkdiplkmcilkmaaGreatDoorTEqA
import Derived.Test.YtkdiplkmcilkmaaGreatDoorTEqShelf
set_option linter.unusedVariables false
set_option linter.unusedSimpArgs false
set_option maxRecDepth 100000
set_option maxHeartbeats 4000000
namespace Go.Proofs.Dz
open Go Go.Pg Go.Proofs Go.Proofs.Ds Go.RowKit Go.Tx
structure Env (w : World) : Prop where
  tabs : Tabs w
  max : ∃ m, w.cell? ⟨1, 0, none⟩ = some (.int .i64 m)
  syn : ∃ te pe, w.cell? ⟨2, 0, none⟩ = some (.iface te pe)
  rng : ∃ te pe, w.cell? ⟨3, 0, none⟩ = some (.iface te pe)
theorem cell_below {w w' : World} (hb : RowKit.Below w.heap.size w w') {g : Nat} {x : Value} (h : w.cell? ⟨g, 0, none⟩ = some x) : w'.cell? ⟨g, 0, none⟩ = some x :=
  (hb.cell (show (⟨g, 0, none⟩ : Addr).block < w.heap.size from World.block_lt_of_cell? _ _ h)).trans h
theorem Env.mono {w w' : World} (hb : RowKit.Below w.heap.size w w') (h : Env w) : Env w' := by
  obtain ⟨h0, ⟨m, h1⟩, ⟨t, p, h2⟩, ⟨t', p', h3⟩⟩ := h
  exact ⟨h0.mono hb, ⟨m, cell_below hb h1⟩, ⟨t, p, cell_below hb h2⟩, ⟨t', p', cell_below hb h3⟩⟩
noncomputable def cy : Cx := { P := Tryz.prog, T := T, eqT := eqT, E := Env }
attribute [push_cast] cy
instance : Cx.Wide cy := ⟨rfl⟩
theorem cy_ok : cy.OK := ⟨T_ok, eqT_ok, fun _ _ hb h => h.mono hb⟩
theorem cy_mixed : cy.P.follows .mixedOrders = true := rfl
theorem up {f : FuncId} {args : List AV} {Q : AV → Prop} (h : OKat cx f args Q) : OKat cy f args Q := ⟨h.1, fun w S vals hE hS hsz hr => h.2 w S vals hE.tabs hS hsz hr⟩
theorem upv {f : FuncId} {args : List AV} {r : AV} (h : OKv cx f args r) : OKv cy f args r := up h
theorem trim_ok (s : ByteArray) (hs : s.size ≤ 9223372036854775807) : OKv cy 56 [at_ s, at_ (ByteArray.mk #[10])] (at_ (bareB s)) := by
  refine ⟨⟨_, Tryz.func56, by decide, by kernel_rfl⟩, fun w S vals hE hS hsz hrep => ?_⟩
  obtain ⟨u, v, rfl, hu, hv⟩ := vals2 hsz hrep
  simp only [Rep] at hu hv
  subst hu hv
  refine (Tryz.strings_TrimSuffix s (ByteArray.mk #[10]) w hs).mono ?_
  rintro e w' ⟨rfl, rfl⟩
  exact ⟨Below.refl _ _, _, _, rfl, rfl, rfl⟩
theorem index_ok (s : ByteArray) : OKv cy 78 [at_ s, .v (.int .u8 10)] (ai (lnI s)) := by
  refine ⟨⟨_, Tryz.func78, by decide, by kernel_rfl⟩, fun w S vals hE hS hsz hrep => ?_⟩
  obtain ⟨u, v, rfl, hu, hv⟩ := vals2 hsz hrep
  simp only [Rep] at hu hv
  subst hu hv
  refine (Tryz.strings_IndexByte s 10 w).mono ?_
  rintro e w' ⟨rfl, rfl⟩
  exact ⟨Below.refl _ _, _, _, rfl, rfl, rfl⟩
theorem repLL_strs {S : Nat → Prop} {w : World} (l : List ByteArray) (b : Nat) (arr : Array Value) (t : TypeId) (hb : w.heap[b]? = some (.cells arr t (0, 0))) : ∀ (r : List ByteArray) (o : Nat), (∀ i x, r[i]? = some x → arr[o + i]? = some (.string x)) →
    RepLL (pureSg S) w (r.map eStr) (fun i j => w.cell? ⟨b, o + i * 1 + j, none⟩) := by
  intro r o h
  rw [repLL_iff]
  intro i hi
  have hi' : i < r.length := by simpa using hi
  rw [List.getElem_map]
  simp only [RepL, Rep, and_true]
  refine ⟨_, ?_, rfl⟩
  rw [cell_of_row w b _ arr t (0, 0) hb]
  simpa using h i r[i] (List.getElem?_eq_getElem hi')
theorem split_ok (s : ByteArray) (hs : s.size < 4294967281) : OKv cy 55 [at_ s, at_ (ByteArray.mk #[32])] (.lst ((wordsB 32 s).map eStr)) := by
  refine ⟨⟨_, Tryz.func55, by decide, by kernel_rfl⟩, fun w S vals hE hS hsz hrep => ?_⟩
  obtain ⟨u, v, rfl, hu, hv⟩ := vals2 hsz hrep
  simp only [Rep] at hu hv
  subst hu hv
  obtain ⟨m, hm⟩ := hE.max
  refine (Tryz.strings_Split s (ByteArray.mk #[32]) m w hs hm (by decide)).mono ?_
  rintro e w' ⟨rfl, rfl⟩
  have hlen : (wordsB 32 s).length = Lib.countB s (ByteArray.mk #[32]) + 1 := Lib.splitB_all _ (by decide) 0 _ s rfl
  have hle := Lib.countB_le (ByteArray.mk #[32]) (by decide) s.size s (Nat.le_refl _)
  refine ⟨(Below.refl _ _).alloc (Nat.le_refl _) _, _, _, rfl, rfl, ?_⟩
  simp only [Rep]
  refine ⟨some ⟨w.heap.size, 0, none⟩, Lib.countB s (ByteArray.mk #[32]) + 1, 1, ?_, ?_, ?_, fun e he => ?_, fun _ => ⟨w.heap.size, 0, rfl, .inr ⟨Nat.le_refl _, by simp⟩, ?_⟩⟩
  · rw [List.length_map, hlen]
  · rw [List.length_map, hlen]; exact Nat.le_refl _
  · unfold maxLen; omega
  · obtain ⟨x, _, rfl⟩ := List.mem_map.1 he
    exact ⟨rfl, fun c hc => by rw [List.mem_singleton.1 hc]; rfl⟩
  · refine repLL_strs (wordsB 32 s) _ _ _ (heap_alloc_new w _) _ 0 fun i x hx => ?_
    rw [Nat.zero_add, List.getElem?_toArray, List.getElem?_map]
    exact congrArg (Option.map Value.string) hx
theorem number_calls (s : ByteArray) (hs : s.size ≤ 281474976710656) (w : World) (hE : Env w) : Calls Tryz.prog 57 #[.string s] w fun e w' => e = .returned (.int .i64 (numI s)) ∧ Below w.heap.size w w' := by
  have mixed : Tryz.prog.follows .mixedOrders = true := rfl
  obtain ⟨_, _, ⟨t1, p1, h1⟩, ⟨t2, p2, h2⟩⟩ := hE
  cases h : Lib.atoiAll (bl s)
  · rename_i v
    have hn : numI s = v := by unfold numI; rw [h]
    rw [hn]
    have hA := Tryz.strconv_Atoi_ok s (by omega) v h w
    go_enter Tryz.func57, Tryz.ntmps57
    go_wp2_with (go_at_call 81; refine hA.mono ?_; rintro e W1 ⟨rfl, hW⟩)
    go_wp2
    go_ret
    refine ⟨rfl, ?_⟩
    rcases hW with rfl | ⟨t, rfl⟩
    · exact Below.refl _ _
    · exact Lib.bytesWorld_below _ _ _
  · have hn : numI s = -1 := by unfold numI; rw [h]
    rw [hn]
    have hA := Tryz.strconv_Atoi_syntax s hs h _ w h1 (.inr ⟨t1, p1, rfl⟩)
    go_enter Tryz.func57, Tryz.ntmps57
    go_wp2_with (go_at_call 81; refine hA.mono ?_; rintro e W1 ⟨N, rfl, hW1, hW2, hW3⟩)
    go_wp2
    go_ret
    exact ⟨rfl, hW3⟩
  · have hn : numI s = -1 := by unfold numI; rw [h]
    rw [hn]
    have hA := Tryz.strconv_Atoi_range s hs h _ w h2 (.inr ⟨t2, p2, rfl⟩)
    go_enter Tryz.func57, Tryz.ntmps57
    go_wp2_with (go_at_call 81; refine hA.mono ?_; rintro e W1 ⟨N, rfl, hW1, hW2, hW3⟩)
    go_wp2
    go_ret
    exact ⟨rfl, hW3⟩
theorem number_ok (s : ByteArray) (hs : s.size ≤ 281474976710656) : OKv cy 57 [at_ s] (ai (numI s)) := by
  refine ⟨⟨_, Tryz.func57, by decide, by kernel_rfl⟩, fun w S vals hE hS hsz hrep => ?_⟩
  obtain ⟨u, rfl, hu⟩ := vals1 hsz hrep
  simp only [Rep] at hu
  subst hu
  refine (number_calls s hs w hE).mono ?_
  rintro e w' ⟨rfl, hb⟩
  exact ⟨hb, _, _, rfl, rfl, rfl⟩
end Go.Proofs.Dz
