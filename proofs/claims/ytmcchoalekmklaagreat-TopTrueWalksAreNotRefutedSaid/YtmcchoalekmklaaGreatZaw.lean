/-
  Contracts of functions, proved by going through their code. No conditions.
-/
import Derived.ProofKit
import Derived.LaidMore
import Derived.OpenShut
import Derived.Carry
import Derived.Stop.Joined
import Derived.Test.YtmcchoalekmklaaGreatChecked
import Derived.Test.YtmcchoalekmklaaGreatRows
import Derived.ChangeCalls
import Derived.LaidSub
import Derived.MakeChecks
import Derived.Test.YtmcchoalekmklaaGreatZao
set_option linter.unusedVariables false
set_option linter.unusedSimpArgs false
set_option maxRecDepth 100000
namespace Go.Proofs.Ks
open Go Go.Pg Go.Proofs Go.Proofs.Yt Go.ChangeShapes Go.WideShapes Go.RowKit
section
variable {H : Type} {enc : TypeId × Value → H} {W : World} {spare : Nat → Bool} {held : Bool}
abbrev Old (W : World) : Nat → Prop := fun b => b < W.heap.size
def Reads (enc : TypeId × Value → H) (W : World) (spare : Nat → Bool) (held : Bool) (t : TypeId) {α : Type} (e : α → List AV) (good : α → Prop) : Prop :=
  ∀ fuel cs x, DataW.trod enc Tryz.prog W 0 spare held fuel t cs = some x → ∃ a, good a ∧ cs.length = (e a).length ∧ (∀ c ∈ e a, c.cell = true) ∧ RepL (pureSg (Old W)) W (e a) (fun i => cs[i]?)
theorem Reads.int {t : TypeId} {k : IntKind} (ht : Tryz.prog.underlying t = some (.int k)) : Reads enc W spare held t (fun n : Int => [AV.v (.int k n)]) (fun n => (Lit.int k n).wf = true) := by
  intro fuel cs x h
  obtain ⟨n, rfl, _, hw⟩ := DataW.trod_int ht h
  exact ⟨n, hw, rfl, by simp [AV.cell, Value.oneCell'], by simp [RepL, Rep]⟩
theorem Reads.bool {t : TypeId} (ht : Tryz.prog.underlying t = some .bool) : Reads enc W spare held t (fun b : Bool => [AV.v (.bool b)]) (fun _ => True) := by
  intro fuel cs x h
  obtain ⟨n, rfl, _⟩ := DataW.trod_bool ht h
  exact ⟨n, trivial, rfl, by simp [AV.cell, Value.oneCell'], by simp [RepL, Rep]⟩
theorem Reads.slice {t e : TypeId} {α : Type} {f : α → List AV} {good : α → Prop} {k : Nat} (ht : Tryz.prog.underlying t = some (.slice e)) (hc : Tryz.prog.cellsOf e = k) (hk : 0 < k) (hlen : ∀ a, (f a).length = k)
    (hR : Reads enc W spare held e f good) : Reads enc W spare held t (fun l : List α => [AV.lst (l.map f)]) (fun l => (∀ a ∈ l, good a) ∧ l.length ≤ 9223372036854775807) := by
  intro fuel cs x h
  rcases DataW.trod_slice ht h with ⟨rfl, _⟩ | ⟨a, len, cap, elems, rest, n, _, rfl, _, _, hle, hcap, hlen', hel, _, _⟩
  · refine ⟨[], by simp, rfl, by simp [AV.cell], ?_⟩
    simp only [RepL, List.map_nil]
    refine ⟨⟨_, rfl, ?_⟩, trivial⟩
    simp only [Rep]
    exact ⟨none, 0, 0, rfl, by simp, by simp [maxLen], by simp, by simp⟩
  · rw [hc] at hel
    have key : ∀ i, i < len → ∃ b, good b ∧ (∀ c ∈ f b, c.cell = true) ∧ (∀ j, j < k → ∃ u, W.cell? ((a.add (i * k)).add j) = some u) ∧ RepL (pureSg (Old W)) W (f b) (fun j => W.cell? ((a.add (i * k)).add j)) := by
      intro i hi
      have := hel i hi
      obtain ⟨y, hy⟩ : ∃ y, elems[i]? = some y := ⟨_, List.getElem?_eq_getElem (by omega)⟩
      rw [hy] at this
      simp only [Option.bind_eq_some_iff] at this
      obtain ⟨cs', h1, h2⟩ := this
      obtain ⟨_, g2, g3⟩ := World.cells?_some h1
      obtain ⟨b, b1, b2, b3, b4⟩ := hR n cs' y h2
      refine ⟨b, b1, b3, fun j hj => ⟨cs'[j]'(by omega), by rw [g3 j hj, List.getElem?_eq_getElem (by omega)]⟩, RepL.congr (fun j hj => ?_) b4⟩
      rw [hlen] at hj
      exact (g3 j hj).symm
    let g : Fin len → α := fun i => Classical.choose (key i.1 i.2)
    have hg : ∀ i : Fin len, good (g i) ∧ (∀ c ∈ f (g i), c.cell = true) ∧ (∀ j, j < k → ∃ u, W.cell? ((a.add (i.1 * k)).add j) = some u) ∧ RepL (pureSg (Old W)) W (f (g i)) (fun j => W.cell? ((a.add (i.1 * k)).add j)) := fun i => Classical.choose_spec (key i.1 i.2)
    have hll : (List.ofFn g).length = len := by simp
    have hlm : ((List.ofFn g).map f).length = len := by simp
    refine ⟨List.ofFn g, ⟨fun b hb => ?_, by rw [hll]; simp only [maxLen] at hcap; omega⟩, rfl, by simp [AV.cell], ?_⟩
    · obtain ⟨i, hi⟩ := (List.mem_ofFn).1 hb
      rw [← hi]; exact (hg i).1
    · simp only [RepL]
      refine ⟨⟨_, rfl, ?_⟩, trivial⟩
      simp only [Rep]
      refine ⟨some a, cap, k, by rw [hlm], by rw [hlm]; exact hle, hcap, fun e he => ?_, fun hne => ?_⟩
      · obtain ⟨b, hb, rfl⟩ := List.mem_map.1 he
        obtain ⟨i, hi⟩ := (List.mem_ofFn).1 hb
        rw [← hi]; exact ⟨hlen _, (hg i).2.1⟩
      · have hpos : 0 < len := by
          rcases Nat.eq_zero_or_pos len with h0 | h0
          · exact absurd (List.eq_nil_of_length_eq_zero (by rw [hlm, h0])) hne
          · exact h0
        obtain ⟨u, hu⟩ := (hg ⟨0, hpos⟩).2.2.1 0 hk
        obtain ⟨b, o, spot⟩ := a
        have hspot : spot = none := by simpa [Addr.add] using World.cell?_spot hu
        subst hspot
        refine ⟨b, o, rfl, ?_, ?_⟩
        · show b < W.heap.size
          rcases Nat.lt_or_ge b W.heap.size with hb | hb
          · exact hb
          · have : W.heap[b]? = none := Array.getElem?_eq_none hb
            simp [World.cell?, Addr.add, this] at hu
        · rw [repLL_iff]
          intro i hi
          rw [hlm] at hi
          have he : ((List.ofFn g).map f)[i]'(by rw [hlm]; exact hi) = f (g ⟨i, hi⟩) := by simp
          rw [he]
          refine RepL.congr (fun j _ => ?_) (hg ⟨i, hi⟩).2.2.2
          rw [Addr.add_lit, Addr.add_lit]
theorem Reads.field {ft : TypeId} {α : Type} {e : α → AV} {good : α → Prop} {n off i : Nat} {cs : List Value} {xs : List (DataW H × List MemPlace)}
    (hR : Reads enc W spare held ft (fun a => [e a]) good) (h : DataW.trod enc Tryz.prog W 0 spare held n ft ((cs.drop off).take (Tryz.prog.cellsOf ft)) = xs[i]?) (hi : i < xs.length) :
    ∃ a, good a ∧ (e a).cell = true ∧ ∃ u, cs[off]? = some u ∧ Rep (pureSg (Old W)) W (e a) u := by
  rw [List.getElem?_eq_getElem hi] at h
  obtain ⟨a, h1, h2, h3, h4⟩ := hR _ _ _ h
  refine ⟨a, h1, h3 _ (by simp), ?_⟩
  simp only [RepL] at h4
  obtain ⟨⟨u, hu, hr⟩, _⟩ := h4
  refine ⟨u, ?_, hr⟩
  rw [List.getElem?_take] at hu
  split at hu
  · simpa using hu
  · cases hu
theorem i3 : Reads enc W spare held 3 eInt (fun n => (Lit.int .i64 n).wf = true) := Reads.int Tryz.underlying3
theorem Reads.fieldM {ft : TypeId} {α : Type} {e : α → List AV} {good : α → Prop} {n off i : Nat} {cs : List Value} {xs : List (DataW H × List MemPlace)}
    (hR : Reads enc W spare held ft e good) (h : DataW.trod enc Tryz.prog W 0 spare held n ft ((cs.drop off).take (Tryz.prog.cellsOf ft)) = xs[i]?) (hi : i < xs.length) :
    ∃ a, good a ∧ (∀ c ∈ e a, c.cell = true) ∧ RepL (pureSg (Old W)) W (e a) (fun j => cs[off + j]?) := by
  rw [List.getElem?_eq_getElem hi] at h
  obtain ⟨a, h1, h2, h3, h4⟩ := hR _ _ _ h
  refine ⟨a, h1, h3, ?_⟩
  rw [repL_iff] at h4 ⊢
  intro j hj
  obtain ⟨u, hu, hr⟩ := h4 j hj
  refine ⟨u, ?_, hr⟩
  rw [List.getElem?_take] at hu
  split at hu
  · simpa using hu
  · cases hu
theorem span_reads : Reads enc W spare held 29 eSpan (fun _ => True) := by
  intro fuel cs x h
  obtain ⟨xs, n, _, _, hl, hn, hf⟩ := DataW.trod_struct Tryz.underlying29 h
  have hn' : xs.length = 2 := hn
  obtain ⟨a, _, c1, u1, h1, r1⟩ := Reads.field (e := fun n : Int => ai n) i3 (hf 0 _ rfl) (by omega)
  obtain ⟨b, _, c2, u2, h2, r2⟩ := Reads.field (e := fun n : Int => ai n) i3 (hf 1 _ rfl) (by omega)
  refine ⟨⟨a, b⟩, trivial, hl.trans (by kernel_rfl), by simp [c1, c2], ?_⟩
  simp only [RepL]
  exact ⟨⟨u1, h1, r1⟩, ⟨u2, h2, r2⟩, trivial⟩
theorem stop_reads : Reads enc W spare held 89 eStop (fun _ => True) := by
  intro fuel cs x h
  obtain ⟨xs, n, _, _, hl, hn, hf⟩ := DataW.trod_struct Tryz.underlying89 h
  have hn' : xs.length = 2 := hn
  obtain ⟨a, _, c1, u1, h1, r1⟩ := Reads.field (e := fun n : Int => ai n) i3 (hf 0 _ rfl) (by omega)
  obtain ⟨b, _, c2, r2⟩ := Reads.fieldM (e := eSpan) span_reads (hf 1 _ rfl) (by omega)
  refine ⟨⟨a, b⟩, trivial, hl.trans (by kernel_rfl), by simp [AV.cell, Value.oneCell'], ?_⟩
  simp only [RepL] at r2 ⊢
  obtain ⟨⟨u2, h2, r2⟩, ⟨u3, h3, r3⟩, _⟩ := r2
  exact ⟨⟨u1, h1, r1⟩, ⟨u2, h2, r2⟩, ⟨u3, h3, r3⟩, trivial⟩
theorem stops_reads : Reads enc W spare held 30 (fun l : List Stop => [.lst (l.map eStop)]) (fun l => (∀ a ∈ l, True) ∧ l.length ≤ 9223372036854775807) :=
  Reads.slice Tryz.underlying30 (k := 3) (by kernel_rfl) (by decide) (fun _ => rfl) stop_reads
theorem session_reads : Reads enc W spare held 32 eSession (fun s => s.stops.length ≤ 9223372036854775807) := by
  intro fuel cs x h
  obtain ⟨xs, n, _, _, hl, hn, hf⟩ := DataW.trod_struct Tryz.underlying32 h
  have hn' : xs.length = 7 := hn
  obtain ⟨a0, _, c0, u0, h0, r0⟩ := Reads.field (e := fun n : Int => ai n) i3 (hf 0 _ rfl) (by omega)
  obtain ⟨a1, _, _, r1⟩ := Reads.fieldM (e := eSpan) span_reads (hf 1 _ rfl) (by omega)
  obtain ⟨a2, _, _, r2⟩ := Reads.fieldM (e := eSpan) span_reads (hf 2 _ rfl) (by omega)
  obtain ⟨a3, _, _, r3⟩ := Reads.fieldM (e := eSpan) span_reads (hf 3 _ rfl) (by omega)
  obtain ⟨a4, _, _, r4⟩ := Reads.fieldM (e := eSpan) span_reads (hf 4 _ rfl) (by omega)
  obtain ⟨a5, _, _, r5⟩ := Reads.fieldM (e := eSpan) span_reads (hf 5 _ rfl) (by omega)
  obtain ⟨a6, g6, c6, u6, h6, r6⟩ := Reads.field (e := fun l : List Stop => .lst (l.map eStop)) stops_reads (hf 6 _ rfl) (by omega)
  refine ⟨⟨a0, a1, a2, a3, a4, a5, a6⟩, g6.2, hl.trans (by kernel_rfl), by simp [AV.cell, Value.oneCell'], ?_⟩
  simp only [RepL] at r1 r2 r3 r4 r5 ⊢
  obtain ⟨⟨v1, k1, p1⟩, ⟨w1, m1, q1⟩, _⟩ := r1
  obtain ⟨⟨v2, k2, p2⟩, ⟨w2, m2, q2⟩, _⟩ := r2
  obtain ⟨⟨v3, k3, p3⟩, ⟨w3, m3, q3⟩, _⟩ := r3
  obtain ⟨⟨v4, k4, p4⟩, ⟨w4, m4, q4⟩, _⟩ := r4
  obtain ⟨⟨v5, k5, p5⟩, ⟨w5, m5, q5⟩, _⟩ := r5
  exact ⟨⟨u0, h0, r0⟩, ⟨v1, k1, p1⟩, ⟨w1, m1, q1⟩, ⟨v2, k2, p2⟩, ⟨w2, m2, q2⟩, ⟨v3, k3, p3⟩, ⟨w3, m3, q3⟩, ⟨v4, k4, p4⟩, ⟨w4, m4, q4⟩, ⟨v5, k5, p5⟩, ⟨w5, m5, q5⟩, ⟨u6, h6, r6⟩, trivial⟩
theorem leg_reads : Reads enc W spare held 87 eLeg (fun _ => True) := by
  intro fuel cs x h
  obtain ⟨xs, n, _, _, hl, hn, hf⟩ := DataW.trod_struct Tryz.underlying87 h
  have hn' : xs.length = 2 := hn
  obtain ⟨a, _, c1, u1, h1, r1⟩ := Reads.field (e := fun n : Int => ai n) i3 (hf 0 _ rfl) (by omega)
  obtain ⟨b, _, c2, u2, h2, r2⟩ := Reads.field (e := fun n : Int => ai n) i3 (hf 1 _ rfl) (by omega)
  refine ⟨⟨a, b⟩, trivial, hl.trans (by kernel_rfl), by simp [c1, c2], ?_⟩
  simp only [RepL]
  exact ⟨⟨u1, h1, r1⟩, ⟨u2, h2, r2⟩, trivial⟩
theorem legs_reads : Reads enc W spare held 33 (fun l : List Leg => [.lst (l.map eLeg)]) (fun l => (∀ a ∈ l, True) ∧ l.length ≤ 9223372036854775807) :=
  Reads.slice Tryz.underlying33 (k := 2) (by kernel_rfl) (by decide) (fun _ => rfl) leg_reads
theorem run_reads : Reads enc W spare held 35 eRun (fun x => x.legs.length ≤ 9223372036854775807) := by
  intro fuel cs x h
  obtain ⟨xs, n, _, _, hl, hn, hf⟩ := DataW.trod_struct Tryz.underlying35 h
  have hn' : xs.length = 3 := hn
  obtain ⟨a0, _, c0, u0, h0, r0⟩ := Reads.field (e := fun n : Int => ai n) i3 (hf 0 _ rfl) (by omega)
  obtain ⟨a1, _, c1, u1, h1, r1⟩ := Reads.field (e := fun n : Int => ai n) i3 (hf 1 _ rfl) (by omega)
  obtain ⟨a2, g2, c2, u2, h2, r2⟩ := Reads.field (e := fun l : List Leg => .lst (l.map eLeg)) legs_reads (hf 2 _ rfl) (by omega)
  refine ⟨⟨a0, a1, a2⟩, g2.2, hl.trans (by kernel_rfl), by simp [AV.cell, Value.oneCell'], ?_⟩
  simp only [RepL]
  exact ⟨⟨u0, h0, r0⟩, ⟨u1, h1, r1⟩, ⟨u2, h2, r2⟩, trivial⟩
variable {r : Reach} {base : Nat} {v : Value} {d : DataW H} {ps : List MemPlace}
theorem arg_session (hv : Value.okWide Tryz.prog W r base 32 v) (h : DataW.Trod enc Tryz.prog W 0 spare held 32 v d ps) : ∃ a : Session, a.stops.length ≤ 9223372036854775807 ∧ Rep (pureSg (Old W)) W (.agg (eSession a)) v := by
  obtain ⟨arr, rfl, _⟩ := okWide_struct Tryz.underlying32 hv
  obtain ⟨fuel, hf⟩ := h
  obtain ⟨a, g, g1, g2, g3⟩ := session_reads _ _ _ hf
  refine ⟨a, g, ?_⟩
  simp only [Rep]
  exact ⟨arr, rfl, by simpa [Value.cells] using g1, g2, by simpa [Value.cells] using g3⟩
theorem arg_run (hv : Value.okWide Tryz.prog W r base 35 v) (h : DataW.Trod enc Tryz.prog W 0 spare held 35 v d ps) : ∃ a : Run, a.legs.length ≤ 9223372036854775807 ∧ Rep (pureSg (Old W)) W (.agg (eRun a)) v := by
  obtain ⟨arr, rfl, _⟩ := okWide_struct Tryz.underlying35 hv
  obtain ⟨fuel, hf⟩ := h
  obtain ⟨a, g, g1, g2, g3⟩ := run_reads _ _ _ hf
  refine ⟨a, g, ?_⟩
  simp only [Rep]
  exact ⟨arr, rfl, by simpa [Value.cells] using g1, g2, by simpa [Value.cells] using g3⟩
theorem arg_one {t : TypeId} {α : Type} {e : α → AV} {good : α → Prop} (hR : Reads enc W spare held t (fun a => [e a]) good) (hv : v.cells = #[v]) (h : DataW.Trod enc Tryz.prog W 0 spare held t v d ps) : ∃ a, good a ∧ Rep (pureSg (Old W)) W (e a) v := by
  obtain ⟨fuel, hf⟩ := h
  rw [hv] at hf
  obtain ⟨a, g, g1, g2, g3⟩ := hR _ _ _ hf
  refine ⟨a, g, ?_⟩
  simp only [RepL] at g3
  obtain ⟨⟨u, hu, hr⟩, _⟩ := g3
  simp at hu
  subst hu; exact hr
theorem arg_int (hv : Value.okWide Tryz.prog W r base 3 v) (h : DataW.Trod enc Tryz.prog W 0 spare held 3 v d ps) : ∃ n : Int, (Lit.int .i64 n).wf = true ∧ Rep (pureSg (Old W)) W (ai n) v := by
  obtain ⟨n, rfl⟩ := okWide_int Tryz.underlying3 hv
  exact arg_one (e := fun n : Int => ai n) i3 rfl h
theorem arg_ints (hv : Value.okWide Tryz.prog W r base 40 v) (h : DataW.Trod enc Tryz.prog W 0 spare held 40 v d ps) : ∃ l : List Int, l.length ≤ 9223372036854775807 ∧ (∀ n ∈ l, (Lit.int .i64 n).wf = true) ∧ Rep (pureSg (Old W)) W (lInt l) v := by
  obtain ⟨a, len, cap, rfl⟩ := okWide_slice Tryz.underlying40 hv
  obtain ⟨l, g, h⟩ := arg_one (e := fun l : List Int => lInt l) (Reads.slice Tryz.underlying40 (k := 1) (by kernel_rfl) (by decide) (fun _ => rfl) i3) rfl h
  exact ⟨l, g.2, g.1, h⟩
end
end Go.Proofs.Ks

namespace Go.Proofs.Ks
open Go Go.Pg Go.Proofs Go.Proofs.Yt Go.ChangeShapes Go.WideShapes Go.ChangeAt Go.RowKit
section
variable {H : Type} {enc : TypeId × Value → H} {P : Program}
theorem post_below {f : Func} {s : ChangeSpec} {apart fresh handsOn again : Bool} {W W' : World} {args : Array Value} {v : Value} {ds gs : List (DataW H)} {before pa pv : List MemPlace}
    (hW : DataW.Whole enc P f.params.toList s.vars apart W args.toList ds gs before)
    (hres : ∀ (b : Nat) (sp : Nat → Bool) (hd : Bool), DataW.TrodAll enc P W' b sp hd f.resultTypes.toList (v.resultList f.resultTypes.size) (s.fn H (ds ++ gs)).results [])
    (hargs : ∀ sp : Nat → Bool, (∀ p ∈ before, sp p.block = true) → DataW.TrodAll enc P W' 0 sp true f.params.toList args.toList (s.fn H (ds ++ gs)).args pa)
    (hvars : ∀ sp : Nat → Bool, (∀ p ∈ before, sp p.block = true) → DataW.TrodVars enc P W' sp s.vars (s.fn H (ds ++ gs)).vars pv)
    (hps : before = pa ++ pv) (hb : Below W.heap.size W W')
    (hok : ∀ (j : Nat) (t : TypeId) (r : Value), f.resultTypes[j]? = some t → (v.resultList f.resultTypes.size)[j]? = some r → Value.okWide P W' .any 0 t r) :
    s.post enc P f apart fresh handsOn again W args v W' := by
  have hlt := hW.lt
  have hold : ∀ p ∈ before, (fun b => decide (b < W.heap.size)) p.block = true := fun p hp => by simpa using hlt p hp
  refine ⟨ds, gs, before, [], pa, pv, hW, hres _ _ _, hargs _ hold, hvars _ hold, World.keptBut_mono (fun p hp => ⟨hp, ?_⟩) (hb.frame (· ∈ before)), fun _ => ?_⟩
  · rw [hps, List.mem_append] at hp
    exact Or.inr hp
  · obtain ⟨_, _, _, _, _, hz, hn⟩ := hW
    refine ⟨hok, _, _, ([] ++ pa) ++ pv, ⟨[] ++ pa, pv, trodAll_append (hargs _ (fun _ _ => rfl)) (hres _ _ _), hvars _ (fun _ _ => rfl), rfl, ?_, ?_⟩, ?_⟩
    · intro b off hp
      have hp' : MemPlace.cell b off ∈ before := by rw [hps]; simpa using hp
      rw [hb.frozen (p := ⟨b, off, none⟩) (hlt _ hp')]
      exact hz b off hp'
    · intro ha
      have := hn ha
      rw [hps] at this
      simpa using this
    · intro p hp _
      rw [hps]
      simpa using hp
theorem laid_out : laidOutB Tryz.prog = true := by kernel_rfl
theorem stays_all {W W' : World} (hb : Below W.heap.size W W') (sp : Nat → Bool) : ∀ (ts : List TypeId) (vs : List Value) (ds : List (DataW H)) (ps : List MemPlace),
    (∀ t ∈ ts, Tryz.prog.readableRec t = true ∧ t < Tryz.prog.types.size) → DataW.TrodAll enc Tryz.prog W 0 (fun _ => true) true ts vs ds ps → (∀ x ∈ ps, x.block < W.heap.size) → (∀ x ∈ ps, sp x.block = true) →
    DataW.TrodAll enc Tryz.prog W' 0 sp true ts vs ds ps
  | [], [], [], ps, _, h, _, _ => h
  | t :: ts, v :: vs, d :: ds, ps, ht, ⟨p, q, h1, h2, e⟩, hlt, hsp => by
    subst e
    refine ⟨p, q, ?_, ?_, rfl⟩
    · exact WideElems.Trod_stays laid_out (ht t (by simp)).1 (ht t (by simp)).2 h1 (fun x hx => hb.same (hlt x (by simp [hx]))) (fun x hx => hsp x (by simp [hx]))
    · exact stays_all hb sp ts vs ds q (fun u hu => ht u (by simp [hu])) h2 (fun x hx => hlt x (by simp [hx])) (fun x hx => hsp x (by simp [hx]))
  | [], _ :: _, _, _, _, h, _, _ => h.elim
  | [], [], _ :: _, _, _, h, _, _ => h.elim
  | _ :: _, [], _, _, _, h, _, _ => h.elim
  | _ :: _, _ :: _, [], _, _, h, _, _ => h.elim
theorem law_post {fn : Func} {s : ChangeSpec} (hvars : s.vars = []) (hres : fn.resultTypes = #[4]) (hparams : (fn.params.toList.all fun t => Tryz.prog.readableRec t && decide (t < Tryz.prog.types.size)) = true)
    (hfn : ∀ ds : List (DataW H), ds.length = fn.params.toList.length → s.fn H ds = { results := [.lit (.bool true)], args := ds })
    {W W' : World} {args : Array Value} {ds gs : List (DataW H)} {before : List MemPlace} (hW : DataW.Whole enc Tryz.prog fn.params.toList s.vars false W args.toList ds gs before) (hb : Below W.heap.size W W') :
    s.post enc Tryz.prog fn false true false false W args (.bool true) W' := by
  have hlt := hW.lt
  have hW0 := hW
  obtain ⟨p, q, hA0, hV0, e, hfz, hnd⟩ := hW
  have hA : DataW.TrodAll enc Tryz.prog W 0 (fun _ => true) true fn.params.toList args.toList ds p := hA0
  have hV : DataW.TrodVars enc Tryz.prog W (fun _ => true) s.vars gs q := hV0
  rw [hvars] at hV
  obtain ⟨rfl, rfl⟩ := trodVars_none hV
  rw [List.append_nil] at e
  subst e
  have hs : s.fn H (ds ++ []) = { results := [.lit (.bool true)], args := ds } := by rw [List.append_nil]; exact hfn ds (Go.trodAll_length hA).2
  refine post_below (pa := before) (pv := []) hW0 (fun b sp hd => ?_) (fun sp hsp => ?_) (fun sp _ => ?_) (by simp) hb (ok_one hres rfl (okWide_bool_mk Tryz.underlying4 _))
  · rw [hs, hres]; exact trodAll_mk1 (shut_bool Tryz.underlying4 true)
  · rw [hs]
    refine stays_all hb sp _ _ _ _ (fun t ht => ?_) hA hlt hsp
    have := List.all_eq_true.1 hparams t ht
    simpa using this
  · rw [hs, hvars]; rfl
theorem run_true {f : FuncId} {avs : List AV} {W : World} {args : Array Value} (hok : OKv cx f avs (ab true)) (hE : cx.E W) (hs : args.size = avs.length) (hr : RepL (pureSg (Old W)) W avs (fun i => args[i]?)) :
    Calls Tryz.prog f args W fun e W' => e = .returned (.bool true) ∧ Below W.heap.size W W' := by
  refine (hok.2 W (Old W) args hE (fun b h => h) hs hr).mono ?_
  rintro e W' ⟨hb, v, r, he, hr, hv⟩
  subst hr
  simp only [Rep] at hv
  subst hv
  exact ⟨he, hb⟩
end
open Go.Proofs.YtmcchoalekmklaaGreat
theorem own_knob : ownKnob Tryz.prog.godebug = none := by kernel_rfl
abbrev laid0 : List (String × DataW Unit) := Rows.topTrueWalksAreNotRefutedRow.laid
theorem laid0_met (w : World) : laidMetH Tryz.prog laid0 w := by
  show laidMet Tryz.prog [] _
  exact ⟨[], rfl, List.nodup_nil, fun b off h => by cases h⟩
theorem door_met (os : Os) (args : Array Value) : laidMetH Tryz.prog laid0 ((World.doorLaid Tryz.prog 400 os).forCall (fun _ _ => 0) ⟨#[], args, []⟩).memory := by
  show laidMet Tryz.prog [] _
  exact ⟨[], rfl, List.nodup_nil, fun b off h => by cases h⟩
section
variable {H : Type} {enc : TypeId × Value → H} {P : Program} {W : World} {b : Nat} {sp : Nat → Bool} {held : Bool}
theorem trodAll_pop {t : TypeId} {ts : List TypeId} {vs : List Value} {ds : List (DataW H)} {ps : List MemPlace} (h : DataW.TrodAll enc P W b sp held (t :: ts) vs ds ps) :
    ∃ v vs' d ds' p q, vs = v :: vs' ∧ ds = d :: ds' ∧ DataW.Trod enc P W b sp held t v d p ∧ DataW.TrodAll enc P W b sp held ts vs' ds' q := by
  match vs, ds, h with
  | v :: vs, d :: ds, ⟨p, q, h1, h2, _⟩ => exact ⟨v, vs, d, ds, p, q, rfl, rfl, h1, h2⟩
theorem trodAll_end {vs : List Value} {ds : List (DataW H)} {ps : List MemPlace} (h : DataW.TrodAll enc P W b sp held [] vs ds ps) : vs = [] := by
  match vs, ds, h with
  | [], [], _ => rfl
end
end Go.Proofs.Ks
