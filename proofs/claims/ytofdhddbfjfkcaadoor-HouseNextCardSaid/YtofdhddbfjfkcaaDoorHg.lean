/-
  From the row's input to plain data: what comes in reads as a house, a list of steps, a number. No conditions.
-/
import Derived.ProofKit
import Derived.LaidMore
import Derived.OpenShut
import Derived.Carry
import Derived.Stop.Joined
import Derived.Test.YtofdhddbfjfkcaaDoorChecked
import Derived.Test.YtofdhddbfjfkcaaDoorRows
import Derived.ChangeCalls
import Derived.Test.YtofdhddbfjfkcaaDoorTie
import Derived.Test.YtofdhddbfjfkcaaDoorCards
import Derived.LaidSub
import Derived.MakeChecks
import Derived.Test.YtofdhddbfjfkcaaDoorHa
set_option maxRecDepth 100000
set_option linter.unusedVariables false
set_option linter.unusedSimpArgs false
namespace Go.Proofs.Hs
open Go Go.Pg Go.Proofs Go.ChangeShapes Go.WideShapes Go.RowKit

section
variable {H : Type} {enc : TypeId × Value → H} {W : World} {spare : Nat → Bool} {held : Bool}

abbrev Old (W : World) : Nat → Prop := fun b => b < W.heap.size

/-- Cells that can be read at a type are what some plain thing is laid out as. -/
def Reads (enc : TypeId × Value → H) (W : World) (spare : Nat → Bool) (held : Bool) (t : TypeId) {α : Type} (e : α → List AV) (good : α → Prop) : Prop :=
  ∀ fuel cs x, DataW.trod enc Tryd.prog W 0 spare held fuel t cs = some x → ∃ a, good a ∧ cs.length = (e a).length ∧ (∀ c ∈ e a, c.cell = true) ∧ RepL (pureSg (Old W)) W (e a) (fun i => cs[i]?)

theorem Reads.int {t : TypeId} {k : IntKind} (ht : Tryd.prog.underlying t = some (.int k)) : Reads enc W spare held t (fun n : Int => [AV.v (.int k n)]) (fun n => (Lit.int k n).wf = true) := by
  intro fuel cs x h
  obtain ⟨n, rfl, _, hw⟩ := DataW.trod_int ht h
  exact ⟨n, hw, rfl, by simp [AV.cell, Value.oneCell'], by simp [RepL, Rep]⟩

theorem Reads.bool {t : TypeId} (ht : Tryd.prog.underlying t = some .bool) : Reads enc W spare held t (fun b : Bool => [AV.v (.bool b)]) (fun _ => True) := by
  intro fuel cs x h
  obtain ⟨n, rfl, _⟩ := DataW.trod_bool ht h
  exact ⟨n, trivial, rfl, by simp [AV.cell, Value.oneCell'], by simp [RepL, Rep]⟩

theorem Reads.str {t : TypeId} (ht : Tryd.prog.underlying t = some .string) : Reads enc W spare held t (fun s : ByteArray => [AV.v (.string s)]) (fun s => s.size ≤ 9223372036854775807) := by
  intro fuel cs x h
  obtain ⟨n, rfl, _, hn⟩ := DataW.trod_string ht h
  exact ⟨n, by simpa [maxLen] using hn, rfl, by simp [AV.cell, Value.oneCell'], by simp [RepL, Rep]⟩

theorem Reads.slice {t e : TypeId} {α : Type} {f : α → List AV} {good : α → Prop} {k : Nat} (ht : Tryd.prog.underlying t = some (.slice e)) (hc : Tryd.prog.cellsOf e = k) (hk : 0 < k) (hlen : ∀ a, (f a).length = k)
    (hR : Reads enc W spare held e f good) : Reads enc W spare held t (fun l : List α => [AV.lst (l.map f)]) (fun l => (∀ a ∈ l, good a) ∧ l.length ≤ 9223372036854775807) := by
  intro fuel cs x h
  rcases DataW.trod_slice ht h with ⟨rfl, _⟩ | ⟨a, len, cap, elems, rest, n, _, rfl, _, _, hle, hcap, hlen', hel, _, _⟩
  · refine ⟨[], by simp, rfl, by simp [AV.cell], ?_⟩
    simp only [RepL, List.map_nil]
    refine ⟨⟨_, rfl, ?_⟩, trivial⟩
    simp only [Rep]
    exact ⟨none, 0, 0, rfl, by simp, by simp [maxLen], by simp, by simp⟩
  · rw [hc] at hel
    have key : ∀ i, i < len → ∃ b, good b ∧ (∀ c ∈ f b, c.cell = true) ∧ (∀ j, j < k → ∃ u, W.cell? ((a.add (i * k)).add j) = some u) ∧ RepL (pureSg (Old W)) W (f b) (fun j => W.cell? ((a.add (i * k)).add j)) := by
      intro i hi
      have := hel i hi
      obtain ⟨y, hy⟩ : ∃ y, elems[i]? = some y := ⟨_, List.getElem?_eq_getElem (by omega)⟩
      rw [hy] at this
      simp only [Option.bind_eq_some_iff] at this
      obtain ⟨cs', h1, h2⟩ := this
      obtain ⟨_, g2, g3⟩ := World.cells?_some h1
      obtain ⟨b, b1, b2, b3, b4⟩ := hR n cs' y h2
      refine ⟨b, b1, b3, fun j hj => ⟨cs'[j]'(by omega), by rw [g3 j hj, List.getElem?_eq_getElem (by omega)]⟩, RepL.congr (fun j hj => ?_) b4⟩
      rw [hlen] at hj
      exact (g3 j hj).symm
    let g : Fin len → α := fun i => Classical.choose (key i.1 i.2)
    have hg : ∀ i : Fin len, good (g i) ∧ (∀ c ∈ f (g i), c.cell = true) ∧ (∀ j, j < k → ∃ u, W.cell? ((a.add (i.1 * k)).add j) = some u) ∧ RepL (pureSg (Old W)) W (f (g i)) (fun j => W.cell? ((a.add (i.1 * k)).add j)) := fun i => Classical.choose_spec (key i.1 i.2)
    have hll : (List.ofFn g).length = len := by simp
    have hlm : ((List.ofFn g).map f).length = len := by simp
    refine ⟨List.ofFn g, ⟨fun b hb => ?_, by rw [hll]; simp only [maxLen] at hcap; omega⟩, rfl, by simp [AV.cell], ?_⟩
    · obtain ⟨i, hi⟩ := (List.mem_ofFn).1 hb
      rw [← hi]; exact (hg i).1
    · simp only [RepL]
      refine ⟨⟨_, rfl, ?_⟩, trivial⟩
      simp only [Rep]
      refine ⟨some a, cap, k, by rw [hlm], by rw [hlm]; exact hle, hcap, fun e he => ?_, fun hne => ?_⟩
      · obtain ⟨b, hb, rfl⟩ := List.mem_map.1 he
        obtain ⟨i, hi⟩ := (List.mem_ofFn).1 hb
        rw [← hi]; exact ⟨hlen _, (hg i).2.1⟩
      · have hpos : 0 < len := by
          rcases Nat.eq_zero_or_pos len with h0 | h0
          · exact absurd (List.eq_nil_of_length_eq_zero (by rw [hlm, h0])) hne
          · exact h0
        obtain ⟨u, hu⟩ := (hg ⟨0, hpos⟩).2.2.1 0 hk
        obtain ⟨b, o, spot⟩ := a
        have hspot : spot = none := by simpa [Addr.add] using World.cell?_spot hu
        subst hspot
        refine ⟨b, o, rfl, ?_, ?_⟩
        · show b < W.heap.size
          rcases Nat.lt_or_ge b W.heap.size with hb | hb
          · exact hb
          · have : W.heap[b]? = none := Array.getElem?_eq_none hb
            simp [World.cell?, Addr.add, this] at hu
        · rw [repLL_iff]
          intro i hi
          rw [hlm] at hi
          have he : ((List.ofFn g).map f)[i]'(by rw [hlm]; exact hi) = f (g ⟨i, hi⟩) := by simp
          rw [he]
          refine RepL.congr (fun j _ => ?_) (hg ⟨i, hi⟩).2.2.2
          rw [Addr.add_lit, Addr.add_lit]

/-- A field of one cell. -/
theorem Reads.field {ft : TypeId} {α : Type} {e : α → AV} {good : α → Prop} {n off i : Nat} {cs : List Value} {xs : List (DataW H × List MemPlace)}
    (hR : Reads enc W spare held ft (fun a => [e a]) good) (h : DataW.trod enc Tryd.prog W 0 spare held n ft ((cs.drop off).take (Tryd.prog.cellsOf ft)) = xs[i]?) (hi : i < xs.length) :
    ∃ a, good a ∧ (e a).cell = true ∧ ∃ u, cs[off]? = some u ∧ Rep (pureSg (Old W)) W (e a) u := by
  rw [List.getElem?_eq_getElem hi] at h
  obtain ⟨a, h1, h2, h3, h4⟩ := hR _ _ _ h
  refine ⟨a, h1, h3 _ (by simp), ?_⟩
  simp only [RepL] at h4
  obtain ⟨⟨u, hu, hr⟩, _⟩ := h4
  refine ⟨u, ?_, hr⟩
  rw [List.getElem?_take] at hu
  split at hu
  · simpa using hu
  · cases hu

theorem i3 : Reads enc W spare held 3 eInt (fun n => (Lit.int .i64 n).wf = true) := Reads.int Tryd.underlying3

theorem span_reads : Reads enc W spare held 38 eSpan (fun _ => True) := by
  intro fuel cs x h
  obtain ⟨xs, n, _, _, hl, hn, hf⟩ := DataW.trod_struct Tryd.underlying38 h
  have hn' : xs.length = 2 := hn
  obtain ⟨a, _, c1, u1, h1, r1⟩ := Reads.field (e := fun n : Int => ai n) i3 (hf 0 _ rfl) (by omega)
  obtain ⟨b, _, c2, u2, h2, r2⟩ := Reads.field (e := fun n : Int => ai n) i3 (hf 1 _ rfl) (by omega)
  refine ⟨⟨a, b⟩, trivial, hl.trans (by kernel_rfl), by simp [c1, c2], ?_⟩
  simp only [RepL]
  exact ⟨⟨u1, h1, r1⟩, ⟨u2, h2, r2⟩, trivial⟩

theorem spans_reads : Reads enc W spare held 91 (fun l : List Span => [lSpan l]) (fun l => (∀ a ∈ l, True) ∧ l.length ≤ 9223372036854775807) :=
  Reads.slice Tryd.underlying91 (k := 2) (by kernel_rfl) (by decide) (fun _ => rfl) span_reads

theorem door_reads : Reads enc W spare held 98 eDoor (fun _ => True) := by
  intro fuel cs x h
  obtain ⟨xs, n, _, _, hl, hn, hf⟩ := DataW.trod_struct Tryd.underlying98 h
  have hn' : xs.length = 2 := hn
  obtain ⟨a, _, c1, u1, h1, r1⟩ := Reads.field (e := fun l : List Span => lSpan l) spans_reads (hf 0 _ rfl) (by omega)
  obtain ⟨b, _, c2, u2, h2, r2⟩ := Reads.field (e := fun l : List Span => lSpan l) spans_reads (hf 1 _ rfl) (by omega)
  refine ⟨⟨a, b⟩, trivial, hl.trans (by kernel_rfl), by simp [c1, c2], ?_⟩
  simp only [RepL]
  exact ⟨⟨u1, h1, r1⟩, ⟨u2, h2, r2⟩, trivial⟩

theorem room_reads : Reads enc W spare held 112 eRoom (fun r => r.name.size ≤ 9223372036854775807) := by
  intro fuel cs x h
  obtain ⟨xs, n, _, _, hl, hn, hf⟩ := DataW.trod_struct Tryd.underlying112 h
  have hn' : xs.length = 2 := hn
  obtain ⟨a, ha, c1, u1, h1, r1⟩ := Reads.field (e := fun s : ByteArray => at_ s) (Reads.str Tryd.underlying9) (hf 0 _ rfl) (by omega)
  obtain ⟨b, _, c2, u2, h2, r2⟩ := Reads.field (e := fun n : Int => ai n) i3 (hf 1 _ rfl) (by omega)
  refine ⟨⟨a, b⟩, ha, hl.trans (by kernel_rfl), by simp [c1, c2], ?_⟩
  simp only [RepL]
  exact ⟨⟨u1, h1, r1⟩, ⟨u2, h2, r2⟩, trivial⟩

theorem way_reads : Reads enc W spare held 76 eWay (fun _ => True) := by
  intro fuel cs x h
  obtain ⟨xs, n, _, _, hl, hn, hf⟩ := DataW.trod_struct Tryd.underlying76 h
  have hn' : xs.length = 5 := hn
  obtain ⟨a0, _, c0, u0, h0, r0⟩ := Reads.field (e := fun n : Int => ai n) i3 (hf 0 _ rfl) (by omega)
  obtain ⟨a1, _, c1, u1, h1, r1⟩ := Reads.field (e := fun n : Int => ai n) i3 (hf 1 _ rfl) (by omega)
  obtain ⟨a2, _, c2, u2, h2, r2⟩ := Reads.field (e := fun n : Int => ai n) i3 (hf 2 _ rfl) (by omega)
  obtain ⟨a3, _, c3, u3, h3, r3⟩ := Reads.field (e := fun n : Int => ai n) i3 (hf 3 _ rfl) (by omega)
  obtain ⟨a4, _, c4, u4, h4, r4⟩ := Reads.field (e := fun n : Int => ai n) i3 (hf 4 _ rfl) (by omega)
  refine ⟨⟨a0, a1, a2, a3, a4⟩, trivial, hl.trans (by kernel_rfl), by simp [c0, c1, c2, c3, c4], ?_⟩
  simp only [RepL]
  exact ⟨⟨u0, h0, r0⟩, ⟨u1, h1, r1⟩, ⟨u2, h2, r2⟩, ⟨u3, h3, r3⟩, ⟨u4, h4, r4⟩, trivial⟩

theorem step_reads : Reads enc W spare held 84 eStep (fun _ => True) := by
  intro fuel cs x h
  obtain ⟨xs, n, _, _, hl, hn, hf⟩ := DataW.trod_struct Tryd.underlying84 h
  have hn' : xs.length = 3 := hn
  obtain ⟨a0, _, c0, u0, h0, r0⟩ := Reads.field (e := fun n : Int => ai n) i3 (hf 0 _ rfl) (by omega)
  obtain ⟨a1, _, c1, u1, h1, r1⟩ := Reads.field (e := fun b : Bool => ab b) (Reads.bool Tryd.underlying4) (hf 1 _ rfl) (by omega)
  obtain ⟨a2, _, c2, u2, h2, r2⟩ := Reads.field (e := fun n : Int => ai n) i3 (hf 2 _ rfl) (by omega)
  refine ⟨⟨a0, a1, a2⟩, trivial, hl.trans (by kernel_rfl), by simp [c0, c1, c2], ?_⟩
  simp only [RepL]
  exact ⟨⟨u0, h0, r0⟩, ⟨u1, h1, r1⟩, ⟨u2, h2, r2⟩, trivial⟩

/-- What is known of a house that came in. -/
structure House.In (h : House) : Prop where
  names : ∀ r ∈ h.rooms, r.name.size ≤ 9223372036854775807

theorem house_reads : Reads enc W spare held 26 eHouse House.In := by
  intro fuel cs x h
  obtain ⟨xs, n, _, _, hl, hn, hf⟩ := DataW.trod_struct Tryd.underlying26 h
  have hn' : xs.length = 3 := hn
  obtain ⟨a0, g0, c0, u0, h0, r0⟩ := Reads.field (e := fun l : List Room => .lst (l.map eRoom)) (Reads.slice Tryd.underlying22 (k := 2) (by kernel_rfl) (by decide) (fun _ => rfl) room_reads) (hf 0 _ rfl) (by omega)
  obtain ⟨a1, _, c1, u1, h1, r1⟩ := Reads.field (e := fun l : List Door => .lst (l.map eDoor)) (Reads.slice Tryd.underlying23 (k := 2) (by kernel_rfl) (by decide) (fun _ => rfl) door_reads) (hf 1 _ rfl) (by omega)
  obtain ⟨a2, _, c2, u2, h2, r2⟩ := Reads.field (e := fun l : List Way => .lst (l.map eWay)) (Reads.slice Tryd.underlying24 (k := 5) (by kernel_rfl) (by decide) (fun _ => rfl) way_reads) (hf 2 _ rfl) (by omega)
  refine ⟨⟨a0, a1, a2⟩, ⟨g0.1⟩, hl.trans (by kernel_rfl), by simp [AV.cell], ?_⟩
  simp only [RepL]
  exact ⟨⟨u0, h0, r0⟩, ⟨u1, h1, r1⟩, ⟨u2, h2, r2⟩, trivial⟩

/-! ## Arguments -/
variable {r : Reach} {base : Nat} {v : Value} {d : DataW H} {ps : List MemPlace}

theorem arg_house (hv : Value.okWide Tryd.prog W r base 26 v) (h : DataW.Trod enc Tryd.prog W 0 spare held 26 v d ps) : ∃ h : House, h.In ∧ Rep (pureSg (Old W)) W (.agg (eHouse h)) v := by
  obtain ⟨arr, rfl, _⟩ := okWide_struct Tryd.underlying26 hv
  obtain ⟨fuel, hf⟩ := h
  obtain ⟨a, g, g1, g2, g3⟩ := house_reads _ _ _ hf
  refine ⟨a, g, ?_⟩
  simp only [Rep]
  exact ⟨arr, rfl, by simpa [Value.cells] using g1, g2, by simpa [Value.cells] using g3⟩

theorem arg_span (hv : Value.okWide Tryd.prog W r base 38 v) (h : DataW.Trod enc Tryd.prog W 0 spare held 38 v d ps) : ∃ s : Span, Rep (pureSg (Old W)) W (.agg (eSpan s)) v := by
  obtain ⟨arr, rfl, _⟩ := okWide_struct Tryd.underlying38 hv
  obtain ⟨fuel, hf⟩ := h
  obtain ⟨a, g, g1, g2, g3⟩ := span_reads _ _ _ hf
  refine ⟨a, ?_⟩
  simp only [Rep]
  exact ⟨arr, rfl, by simpa [Value.cells] using g1, g2, by simpa [Value.cells] using g3⟩

theorem arg_one {t : TypeId} {α : Type} {e : α → AV} {good : α → Prop} (hR : Reads enc W spare held t (fun a => [e a]) good) (hv : v.cells = #[v]) (h : DataW.Trod enc Tryd.prog W 0 spare held t v d ps) : ∃ a, good a ∧ Rep (pureSg (Old W)) W (e a) v := by
  obtain ⟨fuel, hf⟩ := h
  rw [hv] at hf
  obtain ⟨a, g, g1, g2, g3⟩ := hR _ _ _ hf
  refine ⟨a, g, ?_⟩
  simp only [RepL] at g3
  obtain ⟨⟨u, hu, hr⟩, _⟩ := g3
  simp at hu
  subst hu; exact hr

theorem arg_int (hv : Value.okWide Tryd.prog W r base 3 v) (h : DataW.Trod enc Tryd.prog W 0 spare held 3 v d ps) : ∃ n : Int, (Lit.int .i64 n).wf = true ∧ Rep (pureSg (Old W)) W (ai n) v := by
  obtain ⟨n, rfl⟩ := okWide_int Tryd.underlying3 hv
  exact arg_one (e := fun n : Int => ai n) i3 rfl h
theorem arg_bool (hv : Value.okWide Tryd.prog W r base 4 v) (h : DataW.Trod enc Tryd.prog W 0 spare held 4 v d ps) : ∃ b : Bool, Rep (pureSg (Old W)) W (ab b) v := by
  obtain ⟨n, rfl⟩ := okWide_bool Tryd.underlying4 hv
  obtain ⟨b, _, h⟩ := arg_one (e := fun b : Bool => ab b) (Reads.bool Tryd.underlying4) rfl h
  exact ⟨b, h⟩
theorem arg_string (hv : Value.okWide Tryd.prog W r base 9 v) (h : DataW.Trod enc Tryd.prog W 0 spare held 9 v d ps) : ∃ s : ByteArray, s.size ≤ 9223372036854775807 ∧ Rep (pureSg (Old W)) W (at_ s) v := by
  obtain ⟨n, rfl⟩ := okWide_string Tryd.underlying9 hv
  exact arg_one (e := fun s : ByteArray => at_ s) (Reads.str Tryd.underlying9) rfl h
theorem arg_steps (hv : Value.okWide Tryd.prog W r base 27 v) (h : DataW.Trod enc Tryd.prog W 0 spare held 27 v d ps) : ∃ l : List Step, l.length ≤ 9223372036854775807 ∧ Rep (pureSg (Old W)) W (.lst (l.map eStep)) v := by
  obtain ⟨a, len, cap, rfl⟩ := okWide_slice Tryd.underlying27 hv
  obtain ⟨l, g, h⟩ := arg_one (e := fun l : List Step => .lst (l.map eStep)) (Reads.slice Tryd.underlying27 (k := 3) (by kernel_rfl) (by decide) (fun _ => rfl) step_reads) rfl h
  exact ⟨l, g.2, h⟩
theorem arg_ints (hv : Value.okWide Tryd.prog W r base 43 v) (h : DataW.Trod enc Tryd.prog W 0 spare held 43 v d ps) : ∃ l : List Int, l.length ≤ 9223372036854775807 ∧ (∀ n ∈ l, (Lit.int .i64 n).wf = true) ∧ Rep (pureSg (Old W)) W (lInt l) v := by
  obtain ⟨a, len, cap, rfl⟩ := okWide_slice Tryd.underlying43 hv
  obtain ⟨l, g, h⟩ := arg_one (e := fun l : List Int => lInt l) (Reads.slice Tryd.underlying43 (k := 1) (by kernel_rfl) (by decide) (fun _ => rfl) i3) rfl h
  exact ⟨l, g.2, g.1, h⟩
end
end Go.Proofs.Hs

/-
  From a contract on plain data to the row's conclusion. No conditions.
-/
namespace Go.Proofs.Hs
open Go Go.Pg Go.Proofs Go.ChangeShapes Go.WideShapes Go.ChangeAt Go.RowKit

section
variable {H : Type} {enc : TypeId × Value → H} {P : Program}

/-- A call that lays new blocks only, and hands back plain data. -/
theorem post_below {f : Func} {s : ChangeSpec} {apart fresh handsOn again : Bool} {W W' : World} {args : Array Value} {v : Value} {ds gs : List (DataW H)} {before pa pv : List MemPlace}
    (hW : DataW.Whole enc P f.params.toList s.vars apart W args.toList ds gs before)
    (hres : ∀ (b : Nat) (sp : Nat → Bool) (hd : Bool), DataW.TrodAll enc P W' b sp hd f.resultTypes.toList (v.resultList f.resultTypes.size) (s.fn H (ds ++ gs)).results [])
    (hargs : ∀ sp : Nat → Bool, (∀ p ∈ before, sp p.block = true) → DataW.TrodAll enc P W' 0 sp true f.params.toList args.toList (s.fn H (ds ++ gs)).args pa)
    (hvars : ∀ sp : Nat → Bool, (∀ p ∈ before, sp p.block = true) → DataW.TrodVars enc P W' sp s.vars (s.fn H (ds ++ gs)).vars pv)
    (hps : before = pa ++ pv) (hb : Below W.heap.size W W')
    (hok : ∀ (j : Nat) (t : TypeId) (r : Value), f.resultTypes[j]? = some t → (v.resultList f.resultTypes.size)[j]? = some r → Value.okWide P W' .any 0 t r) :
    s.post enc P f apart fresh handsOn again W args v W' := by
  have hlt := hW.lt
  have hold : ∀ p ∈ before, (fun b => decide (b < W.heap.size)) p.block = true := fun p hp => by simpa using hlt p hp
  refine ⟨ds, gs, before, [], pa, pv, hW, hres _ _ _, hargs _ hold, hvars _ hold, World.keptBut_mono (fun p hp => ⟨hp, ?_⟩) (hb.frame (· ∈ before)), fun _ => ?_⟩
  · rw [hps, List.mem_append] at hp
    exact Or.inr hp
  · obtain ⟨_, _, _, _, _, hz, hn⟩ := hW
    refine ⟨hok, _, _, ([] ++ pa) ++ pv, ⟨[] ++ pa, pv, trodAll_append (hargs _ (fun _ _ => rfl)) (hres _ _ _), hvars _ (fun _ _ => rfl), rfl, ?_, ?_⟩, ?_⟩
    · intro b off hp
      have hp' : MemPlace.cell b off ∈ before := by rw [hps]; simpa using hp
      rw [hb.frozen (p := ⟨b, off, none⟩) (hlt _ hp')]
      exact hz b off hp'
    · intro ha
      have := hn ha
      rw [hps] at this
      simpa using this
    · intro p hp _
      rw [hps]
      simpa using hp

theorem laid_out : laidOutB Tryd.prog = true := by kernel_rfl

theorem stays_all {W W' : World} (hb : Below W.heap.size W W') (sp : Nat → Bool) : ∀ (ts : List TypeId) (vs : List Value) (ds : List (DataW H)) (ps : List MemPlace),
    (∀ t ∈ ts, Tryd.prog.readableRec t = true ∧ t < Tryd.prog.types.size) → DataW.TrodAll enc Tryd.prog W 0 (fun _ => true) true ts vs ds ps → (∀ x ∈ ps, x.block < W.heap.size) → (∀ x ∈ ps, sp x.block = true) →
    DataW.TrodAll enc Tryd.prog W' 0 sp true ts vs ds ps
  | [], [], [], ps, _, h, _, _ => h
  | t :: ts, v :: vs, d :: ds, ps, ht, ⟨p, q, h1, h2, e⟩, hlt, hsp => by
    subst e
    refine ⟨p, q, ?_, ?_, rfl⟩
    · exact WideElems.Trod_stays laid_out (ht t (by simp)).1 (ht t (by simp)).2 h1 (fun x hx => hb.same (hlt x (by simp [hx]))) (fun x hx => hsp x (by simp [hx]))
    · exact stays_all hb sp ts vs ds q (fun u hu => ht u (by simp [hu])) h2 (fun x hx => hlt x (by simp [hx])) (fun x hx => hsp x (by simp [hx]))
  | [], _ :: _, _, _, _, h, _, _ => h.elim
  | [], [], _ :: _, _, _, h, _, _ => h.elim
  | _ :: _, [], _, _, _, h, _, _ => h.elim
  | _ :: _, _ :: _, [], _, _, h, _, _ => h.elim

/-- A law that says true, and lays new blocks only. -/
theorem law_post {fn : Func} {s : ChangeSpec} (hvars : s.vars = []) (hres : fn.resultTypes = #[4]) (hparams : (fn.params.toList.all fun t => Tryd.prog.readableRec t && decide (t < Tryd.prog.types.size)) = true)
    (hfn : ∀ ds : List (DataW H), ds.length = fn.params.toList.length → s.fn H ds = { results := [.lit (.bool true)], args := ds })
    {W W' : World} {args : Array Value} {ds gs : List (DataW H)} {before : List MemPlace} (hW : DataW.Whole enc Tryd.prog fn.params.toList s.vars false W args.toList ds gs before) (hb : Below W.heap.size W W') :
    s.post enc Tryd.prog fn false true false false W args (.bool true) W' := by
  have hlt := hW.lt
  have hW0 := hW
  obtain ⟨p, q, hA0, hV0, e, hfz, hnd⟩ := hW
  have hA : DataW.TrodAll enc Tryd.prog W 0 (fun _ => true) true fn.params.toList args.toList ds p := hA0
  have hV : DataW.TrodVars enc Tryd.prog W (fun _ => true) s.vars gs q := hV0
  rw [hvars] at hV
  obtain ⟨rfl, rfl⟩ := trodVars_none hV
  rw [List.append_nil] at e
  subst e
  have hs : s.fn H (ds ++ []) = { results := [.lit (.bool true)], args := ds } := by rw [List.append_nil]; exact hfn ds (Go.trodAll_length hA).2
  refine post_below (pa := before) (pv := []) hW0 (fun b sp hd => ?_) (fun sp hsp => ?_) (fun sp _ => ?_) (by simp) hb (ok_one hres rfl (okWide_bool_mk Tryd.underlying4 _))
  · rw [hs, hres]; exact trodAll_mk1 (shut_bool Tryd.underlying4 true)
  · rw [hs]
    refine stays_all hb sp _ _ _ _ (fun t ht => ?_) hA hlt hsp
    have := List.all_eq_true.1 hparams t ht
    simpa using this
  · rw [hs, hvars]; rfl

/-- A contract on plain data, run. -/
theorem run_true {f : FuncId} {avs : List AV} {W : World} {args : Array Value} (hok : OKv cx f avs (ab true)) (hE : cx.E W) (hs : args.size = avs.length) (hr : RepL (pureSg (Old W)) W avs (fun i => args[i]?)) :
    Calls Tryd.prog f args W fun e W' => e = .returned (.bool true) ∧ Below W.heap.size W W' := by
  refine (hok.2 W (Old W) args hE (fun b h => h) hs hr).mono ?_
  rintro e W' ⟨hb, v, r, he, hr, hv⟩
  subst hr
  simp only [Rep] at hv
  subst hv
  exact ⟨he, hb⟩
end
end Go.Proofs.Hs

/-
  What all laws of the seat need of the row and the card. No conditions.
-/
namespace Go.Proofs.Hs
open Go Go.Pg Go.Proofs Go.ChangeShapes Go.WideShapes Go.ChangeAt Go.RowKit
open Go.Proofs.YtofdhddbfjfkcaaDoor

theorem own_knob : ownKnob Tryd.prog.godebug = none := by kernel_rfl
abbrev laid3 : List (String × DataW Unit) := Rows.houseWalksRow.laid
theorem door_met (os : Os) (args : Array Value) : laidMetH Tryd.prog laid3 ((World.doorLaid Tryd.prog 400 os).forCall (fun _ _ => 0) ⟨#[], args, []⟩).memory :=
  laidMetH_of_parts3 (fuel := 8) (laidMet_of_run' 8 (by kernel_rfl) (by kernel_rfl)) (by kernel_rfl) (by kernel_rfl)
abbrev zHouse : Value := .agg #[.slice none 0 0, .slice none 0 0, .slice none 0 0]

section
variable {H : Type} {enc : TypeId × Value → H} {P : Program} {W : World} {b : Nat} {sp : Nat → Bool} {held : Bool}
theorem trodAll_pop {t : TypeId} {ts : List TypeId} {vs : List Value} {ds : List (DataW H)} {ps : List MemPlace} (h : DataW.TrodAll enc P W b sp held (t :: ts) vs ds ps) :
    ∃ v vs' d ds' p q, vs = v :: vs' ∧ ds = d :: ds' ∧ DataW.Trod enc P W b sp held t v d p ∧ DataW.TrodAll enc P W b sp held ts vs' ds' q := by
  match vs, ds, h with
  | v :: vs, d :: ds, ⟨p, q, h1, h2, _⟩ => exact ⟨v, vs, d, ds, p, q, rfl, rfl, h1, h2⟩
theorem trodAll_end {vs : List Value} {ds : List (DataW H)} {ps : List MemPlace} (h : DataW.TrodAll enc P W b sp held [] vs ds ps) : vs = [] := by
  match vs, ds, h with
  | [], [], _ => rfl
theorem arg_boolT {r : Reach} {v : Value} {d : DataW H} {ps : List MemPlace} (hv : Value.okWide Tryd.prog W r b 4 v) (h : DataW.Trod enc Tryd.prog W 0 sp held 4 v d ps) : ∃ x : Bool, True ∧ Rep (pureSg (Old W)) W (ab x) v := by
  obtain ⟨x, hx⟩ := arg_bool hv h
  exact ⟨x, trivial, hx⟩
end

theorem laid_pow : laid3.filter (fun x => x.1 == "internal/strconv.uint64pow10") = [("internal/strconv.uint64pow10", Lib.tabData .u64 Lib.pow10Tab)] := by rfl
/-- The table that Itoa reads lies as it is laid. -/
theorem tabs_of {W : World} (h : laidMetH Tryd.prog laid3 W) : Tabs W := by
  have h1 := h.filter (fun x => x.1 == "internal/strconv.uint64pow10")
  rw [laid_pow, Go.MakeChecks.laidMetH_plain _ _ _ (by rfl)] at h1
  exact Lib.tabIs_of_head (g := 0) (t := 179) (e := 171) (n := 20) (by kernel_rfl) (by kernel_rfl) Tryd.underlying179 Tryd.underlying171 (by kernel_rfl) (by kernel_rfl) h1
end Go.Proofs.Hs
