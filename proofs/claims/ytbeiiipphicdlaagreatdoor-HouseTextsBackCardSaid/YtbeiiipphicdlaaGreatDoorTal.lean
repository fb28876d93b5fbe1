/-
  Contracts of functions, proved by going through their code. No conditions.
-/
import Derived.ProofKit
import Derived.LaidMore
import Derived.OpenShut
import Derived.Carry
import Derived.Stop.Joined
import Derived.Test.YtbeiiipphicdlaaGreatDoorChecked
import Derived.Test.YtbeiiipphicdlaaGreatDoorRows
import Derived.ChangeCalls
import Derived.Shelf.Strings.Builder1
import Derived.Shelf.Strings.Builder2
import Derived.Shelf.Strings.OnBuilder
import Derived.Shelf.Small.Strs
import Derived.Shelf.LaysM
import Derived.Shelf.Strconv.Itoa3
import Derived.Shelf.LaysC
import Derived.Shelf.Strconv.AtoiAll
import Derived.Shelf.Strings.Cut
import Derived.Shelf.Strings.Prefix
import Derived.Shelf.Strings.Split
import Derived.Test.YtbeiiipphicdlaaGreatDoorProg
import Derived.Test.YtbeiiipphicdlaaGreatDoorTak
set_option linter.unusedVariables false
set_option linter.unusedSimpArgs false
set_option maxRecDepth 100000
namespace Go.Proofs.Hz
open Go Go.Pg Go.Proofs Go.ChangeShapes Go.WideShapes Go.RowKit
section
variable {H : Type} {enc : TypeId × Value → H} {W : World} {spare : Nat → Bool} {held : Bool}
abbrev Old (W : World) : Nat → Prop := fun b => b < W.heap.size
def Reads (enc : TypeId × Value → H) (W : World) (spare : Nat → Bool) (held : Bool) (t : TypeId) {α : Type} (e : α → List AV) (good : α → Prop) : Prop :=
  ∀ fuel cs x, DataW.trod enc Tryz.prog W 0 spare held fuel t cs = some x → ∃ a, good a ∧ cs.length = (e a).length ∧ (∀ c ∈ e a, c.cell = true) ∧ RepL (pureSg (Old W)) W (e a) (fun i => cs[i]?)
theorem Reads.int {t : TypeId} {k : IntKind} (ht : Tryz.prog.underlying t = some (.int k)) : Reads enc W spare held t (fun n : Int => [AV.v (.int k n)]) (fun n => (Lit.int k n).wf = true) := by
  intro fuel cs x h
  obtain ⟨n, rfl, _, hw⟩ := DataW.trod_int ht h
  exact ⟨n, hw, rfl, by simp [AV.cell, Value.oneCell'], by simp [RepL, Rep]⟩
theorem Reads.bool {t : TypeId} (ht : Tryz.prog.underlying t = some .bool) : Reads enc W spare held t (fun b : Bool => [AV.v (.bool b)]) (fun _ => True) := by
  intro fuel cs x h
  obtain ⟨n, rfl, _⟩ := DataW.trod_bool ht h
  exact ⟨n, trivial, rfl, by simp [AV.cell, Value.oneCell'], by simp [RepL, Rep]⟩
theorem Reads.str {t : TypeId} (ht : Tryz.prog.underlying t = some .string) : Reads enc W spare held t (fun s : ByteArray => [AV.v (.string s)]) (fun s => s.size ≤ 9223372036854775807) := by
  intro fuel cs x h
  obtain ⟨n, rfl, _, hn⟩ := DataW.trod_string ht h
  exact ⟨n, by simpa [maxLen] using hn, rfl, by simp [AV.cell, Value.oneCell'], by simp [RepL, Rep]⟩
theorem Reads.slice {t e : TypeId} {α : Type} {f : α → List AV} {good : α → Prop} {k : Nat} (ht : Tryz.prog.underlying t = some (.slice e)) (hc : Tryz.prog.cellsOf e = k) (hk : 0 < k) (hlen : ∀ a, (f a).length = k)
    (hR : Reads enc W spare held e f good) : Reads enc W spare held t (fun l : List α => [AV.lst (l.map f)]) (fun l => (∀ a ∈ l, good a) ∧ l.length ≤ 9223372036854775807) := by
  intro fuel cs x h
  rcases DataW.trod_slice ht h with ⟨rfl, _⟩ | ⟨a, len, cap, elems, rest, n, _, rfl, _, _, hle, hcap, hlen', hel, _, _⟩
  · refine ⟨[], by simp, rfl, by simp [AV.cell], ?_⟩
    simp only [RepL, List.map_nil]
    refine ⟨⟨_, rfl, ?_⟩, trivial⟩
    simp only [Rep]
    exact ⟨none, 0, 0, rfl, by simp, by simp [maxLen], by simp, by simp⟩
  · rw [hc] at hel
    have key : ∀ i, i < len → ∃ b, good b ∧ (∀ c ∈ f b, c.cell = true) ∧ (∀ j, j < k → ∃ u, W.cell? ((a.add (i * k)).add j) = some u) ∧ RepL (pureSg (Old W)) W (f b) (fun j => W.cell? ((a.add (i * k)).add j)) := by
      intro i hi
      have := hel i hi
      obtain ⟨y, hy⟩ : ∃ y, elems[i]? = some y := ⟨_, List.getElem?_eq_getElem (by omega)⟩
      rw [hy] at this
      simp only [Option.bind_eq_some_iff] at this
      obtain ⟨cs', h1, h2⟩ := this
      obtain ⟨_, g2, g3⟩ := World.cells?_some h1
      obtain ⟨b, b1, b2, b3, b4⟩ := hR n cs' y h2
      refine ⟨b, b1, b3, fun j hj => ⟨cs'[j]'(by omega), by rw [g3 j hj, List.getElem?_eq_getElem (by omega)]⟩, RepL.congr (fun j hj => ?_) b4⟩
      rw [hlen] at hj
      exact (g3 j hj).symm
    let g : Fin len → α := fun i => Classical.choose (key i.1 i.2)
    have hg : ∀ i : Fin len, good (g i) ∧ (∀ c ∈ f (g i), c.cell = true) ∧ (∀ j, j < k → ∃ u, W.cell? ((a.add (i.1 * k)).add j) = some u) ∧ RepL (pureSg (Old W)) W (f (g i)) (fun j => W.cell? ((a.add (i.1 * k)).add j)) := fun i => Classical.choose_spec (key i.1 i.2)
    have hll : (List.ofFn g).length = len := by simp
    have hlm : ((List.ofFn g).map f).length = len := by simp
    refine ⟨List.ofFn g, ⟨fun b hb => ?_, by rw [hll]; simp only [maxLen] at hcap; omega⟩, rfl, by simp [AV.cell], ?_⟩
    · obtain ⟨i, hi⟩ := (List.mem_ofFn).1 hb
      rw [← hi]; exact (hg i).1
    · simp only [RepL]
      refine ⟨⟨_, rfl, ?_⟩, trivial⟩
      simp only [Rep]
      refine ⟨some a, cap, k, by rw [hlm], by rw [hlm]; exact hle, hcap, fun e he => ?_, fun hne => ?_⟩
      · obtain ⟨b, hb, rfl⟩ := List.mem_map.1 he
        obtain ⟨i, hi⟩ := (List.mem_ofFn).1 hb
        rw [← hi]; exact ⟨hlen _, (hg i).2.1⟩
      · have hpos : 0 < len := by
          rcases Nat.eq_zero_or_pos len with h0 | h0
          · exact absurd (List.eq_nil_of_length_eq_zero (by rw [hlm, h0])) hne
          · exact h0
        obtain ⟨u, hu⟩ := (hg ⟨0, hpos⟩).2.2.1 0 hk
        obtain ⟨b, o, spot⟩ := a
        have hspot : spot = none := by simpa [Addr.add] using World.cell?_spot hu
        subst hspot
        refine ⟨b, o, rfl, ?_, ?_⟩
        · show b < W.heap.size
          rcases Nat.lt_or_ge b W.heap.size with hb | hb
          · exact hb
          · have : W.heap[b]? = none := Array.getElem?_eq_none hb
            simp [World.cell?, Addr.add, this] at hu
        · rw [repLL_iff]
          intro i hi
          rw [hlm] at hi
          have he : ((List.ofFn g).map f)[i]'(by rw [hlm]; exact hi) = f (g ⟨i, hi⟩) := by simp
          rw [he]
          refine RepL.congr (fun j _ => ?_) (hg ⟨i, hi⟩).2.2.2
          rw [Addr.add_lit, Addr.add_lit]
theorem Reads.field {ft : TypeId} {α : Type} {e : α → AV} {good : α → Prop} {n off i : Nat} {cs : List Value} {xs : List (DataW H × List MemPlace)}
    (hR : Reads enc W spare held ft (fun a => [e a]) good) (h : DataW.trod enc Tryz.prog W 0 spare held n ft ((cs.drop off).take (Tryz.prog.cellsOf ft)) = xs[i]?) (hi : i < xs.length) :
    ∃ a, good a ∧ (e a).cell = true ∧ ∃ u, cs[off]? = some u ∧ Rep (pureSg (Old W)) W (e a) u := by
  rw [List.getElem?_eq_getElem hi] at h
  obtain ⟨a, h1, h2, h3, h4⟩ := hR _ _ _ h
  refine ⟨a, h1, h3 _ (by simp), ?_⟩
  simp only [RepL] at h4
  obtain ⟨⟨u, hu, hr⟩, _⟩ := h4
  refine ⟨u, ?_, hr⟩
  rw [List.getElem?_take] at hu
  split at hu
  · simpa using hu
  · cases hu
theorem i3 : Reads enc W spare held 3 eInt (fun n => (Lit.int .i64 n).wf = true) := Reads.int Tryz.underlying3
theorem span_reads : Reads enc W spare held 51 eSpan (fun _ => True) := by
  intro fuel cs x h
  obtain ⟨xs, n, _, _, hl, hn, hf⟩ := DataW.trod_struct Tryz.underlying51 h
  have hn' : xs.length = 2 := hn
  obtain ⟨a, _, c1, u1, h1, r1⟩ := Reads.field (e := fun n : Int => ai n) i3 (hf 0 _ rfl) (by omega)
  obtain ⟨b, _, c2, u2, h2, r2⟩ := Reads.field (e := fun n : Int => ai n) i3 (hf 1 _ rfl) (by omega)
  refine ⟨⟨a, b⟩, trivial, hl.trans (by kernel_rfl), by simp [c1, c2], ?_⟩
  simp only [RepL]
  exact ⟨⟨u1, h1, r1⟩, ⟨u2, h2, r2⟩, trivial⟩
theorem spans_reads : Reads enc W spare held 36 (fun l : List Span => [lSpan l]) (fun l => (∀ a ∈ l, True) ∧ l.length ≤ 9223372036854775807) :=
  Reads.slice Tryz.underlying36 (k := 2) (by kernel_rfl) (by decide) (fun _ => rfl) span_reads
theorem door_reads : Reads enc W spare held 38 eDoor (fun _ => True) := by
  intro fuel cs x h
  obtain ⟨xs, n, _, _, hl, hn, hf⟩ := DataW.trod_struct Tryz.underlying38 h
  have hn' : xs.length = 2 := hn
  obtain ⟨a, _, c1, u1, h1, r1⟩ := Reads.field (e := fun l : List Span => lSpan l) spans_reads (hf 0 _ rfl) (by omega)
  obtain ⟨b, _, c2, u2, h2, r2⟩ := Reads.field (e := fun l : List Span => lSpan l) spans_reads (hf 1 _ rfl) (by omega)
  refine ⟨⟨a, b⟩, trivial, hl.trans (by kernel_rfl), by simp [c1, c2], ?_⟩
  simp only [RepL]
  exact ⟨⟨u1, h1, r1⟩, ⟨u2, h2, r2⟩, trivial⟩
theorem room_reads : Reads enc W spare held 62 eRoom (fun r => r.name.size ≤ 9223372036854775807) := by
  intro fuel cs x h
  obtain ⟨xs, n, _, _, hl, hn, hf⟩ := DataW.trod_struct Tryz.underlying62 h
  have hn' : xs.length = 2 := hn
  obtain ⟨a, ha, c1, u1, h1, r1⟩ := Reads.field (e := fun s : ByteArray => at_ s) (Reads.str Tryz.underlying9) (hf 0 _ rfl) (by omega)
  obtain ⟨b, _, c2, u2, h2, r2⟩ := Reads.field (e := fun n : Int => ai n) i3 (hf 1 _ rfl) (by omega)
  refine ⟨⟨a, b⟩, ha, hl.trans (by kernel_rfl), by simp [c1, c2], ?_⟩
  simp only [RepL]
  exact ⟨⟨u1, h1, r1⟩, ⟨u2, h2, r2⟩, trivial⟩
theorem way_reads : Reads enc W spare held 72 eWay (fun _ => True) := by
  intro fuel cs x h
  obtain ⟨xs, n, _, _, hl, hn, hf⟩ := DataW.trod_struct Tryz.underlying72 h
  have hn' : xs.length = 5 := hn
  obtain ⟨a0, _, c0, u0, h0, r0⟩ := Reads.field (e := fun n : Int => ai n) i3 (hf 0 _ rfl) (by omega)
  obtain ⟨a1, _, c1, u1, h1, r1⟩ := Reads.field (e := fun n : Int => ai n) i3 (hf 1 _ rfl) (by omega)
  obtain ⟨a2, _, c2, u2, h2, r2⟩ := Reads.field (e := fun n : Int => ai n) i3 (hf 2 _ rfl) (by omega)
  obtain ⟨a3, _, c3, u3, h3, r3⟩ := Reads.field (e := fun n : Int => ai n) i3 (hf 3 _ rfl) (by omega)
  obtain ⟨a4, _, c4, u4, h4, r4⟩ := Reads.field (e := fun n : Int => ai n) i3 (hf 4 _ rfl) (by omega)
  refine ⟨⟨a0, a1, a2, a3, a4⟩, trivial, hl.trans (by kernel_rfl), by simp [c0, c1, c2, c3, c4], ?_⟩
  simp only [RepL]
  exact ⟨⟨u0, h0, r0⟩, ⟨u1, h1, r1⟩, ⟨u2, h2, r2⟩, ⟨u3, h3, r3⟩, ⟨u4, h4, r4⟩, trivial⟩
structure House.In (h : House) : Prop where
  names : ∀ r ∈ h.rooms, r.name.size ≤ 9223372036854775807
theorem house_reads : Reads enc W spare held 26 eHouse House.In := by
  intro fuel cs x h
  obtain ⟨xs, n, _, _, hl, hn, hf⟩ := DataW.trod_struct Tryz.underlying26 h
  have hn' : xs.length = 3 := hn
  obtain ⟨a0, g0, c0, u0, h0, r0⟩ := Reads.field (e := fun l : List Room => .lst (l.map eRoom)) (Reads.slice Tryz.underlying22 (k := 2) (by kernel_rfl) (by decide) (fun _ => rfl) room_reads) (hf 0 _ rfl) (by omega)
  obtain ⟨a1, _, c1, u1, h1, r1⟩ := Reads.field (e := fun l : List Door => .lst (l.map eDoor)) (Reads.slice Tryz.underlying23 (k := 2) (by kernel_rfl) (by decide) (fun _ => rfl) door_reads) (hf 1 _ rfl) (by omega)
  obtain ⟨a2, _, c2, u2, h2, r2⟩ := Reads.field (e := fun l : List Way => .lst (l.map eWay)) (Reads.slice Tryz.underlying24 (k := 5) (by kernel_rfl) (by decide) (fun _ => rfl) way_reads) (hf 2 _ rfl) (by omega)
  refine ⟨⟨a0, a1, a2⟩, ⟨g0.1⟩, hl.trans (by kernel_rfl), by simp [AV.cell], ?_⟩
  simp only [RepL]
  exact ⟨⟨u0, h0, r0⟩, ⟨u1, h1, r1⟩, ⟨u2, h2, r2⟩, trivial⟩
variable {r : Reach} {base : Nat} {v : Value} {d : DataW H} {ps : List MemPlace}
theorem arg_house (hv : Value.okWide Tryz.prog W r base 26 v) (h : DataW.Trod enc Tryz.prog W 0 spare held 26 v d ps) : ∃ h : House, h.In ∧ Rep (pureSg (Old W)) W (.agg (eHouse h)) v := by
  obtain ⟨arr, rfl, _⟩ := okWide_struct Tryz.underlying26 hv
  obtain ⟨fuel, hf⟩ := h
  obtain ⟨a, g, g1, g2, g3⟩ := house_reads _ _ _ hf
  refine ⟨a, g, ?_⟩
  simp only [Rep]
  exact ⟨arr, rfl, by simpa [Value.cells] using g1, g2, by simpa [Value.cells] using g3⟩
theorem arg_one {t : TypeId} {α : Type} {e : α → AV} {good : α → Prop} (hR : Reads enc W spare held t (fun a => [e a]) good) (hv : v.cells = #[v]) (h : DataW.Trod enc Tryz.prog W 0 spare held t v d ps) : ∃ a, good a ∧ Rep (pureSg (Old W)) W (e a) v := by
  obtain ⟨fuel, hf⟩ := h
  rw [hv] at hf
  obtain ⟨a, g, g1, g2, g3⟩ := hR _ _ _ hf
  refine ⟨a, g, ?_⟩
  simp only [RepL] at g3
  obtain ⟨⟨u, hu, hr⟩, _⟩ := g3
  simp at hu
  subst hu; exact hr
theorem arg_string (hv : Value.okWide Tryz.prog W r base 9 v) (h : DataW.Trod enc Tryz.prog W 0 spare held 9 v d ps) : ∃ s : ByteArray, s.size ≤ 9223372036854775807 ∧ Rep (pureSg (Old W)) W (at_ s) v := by
  obtain ⟨n, rfl⟩ := okWide_string Tryz.underlying9 hv
  exact arg_one (e := fun s : ByteArray => at_ s) (Reads.str Tryz.underlying9) rfl h
end
end Go.Proofs.Hz

namespace Go.Proofs.Hz
open Go Go.Pg Go.Proofs Go.ChangeShapes Go.WideShapes Go.ChangeAt Go.RowKit
section
variable {H : Type} {enc : TypeId × Value → H} {P : Program}
theorem post_below {f : Func} {s : ChangeSpec} {apart fresh handsOn again : Bool} {W W' : World} {args : Array Value} {v : Value} {ds gs : List (DataW H)} {before pa pv : List MemPlace}
    (hW : DataW.Whole enc P f.params.toList s.vars apart W args.toList ds gs before)
    (hres : ∀ (b : Nat) (sp : Nat → Bool) (hd : Bool), DataW.TrodAll enc P W' b sp hd f.resultTypes.toList (v.resultList f.resultTypes.size) (s.fn H (ds ++ gs)).results [])
    (hargs : ∀ sp : Nat → Bool, (∀ p ∈ before, sp p.block = true) → DataW.TrodAll enc P W' 0 sp true f.params.toList args.toList (s.fn H (ds ++ gs)).args pa)
    (hvars : ∀ sp : Nat → Bool, (∀ p ∈ before, sp p.block = true) → DataW.TrodVars enc P W' sp s.vars (s.fn H (ds ++ gs)).vars pv)
    (hps : before = pa ++ pv) (hb : Below W.heap.size W W')
    (hok : ∀ (j : Nat) (t : TypeId) (r : Value), f.resultTypes[j]? = some t → (v.resultList f.resultTypes.size)[j]? = some r → Value.okWide P W' .any 0 t r) :
    s.post enc P f apart fresh handsOn again W args v W' := by
  have hlt := hW.lt
  have hold : ∀ p ∈ before, (fun b => decide (b < W.heap.size)) p.block = true := fun p hp => by simpa using hlt p hp
  refine ⟨ds, gs, before, [], pa, pv, hW, hres _ _ _, hargs _ hold, hvars _ hold, World.keptBut_mono (fun p hp => ⟨hp, ?_⟩) (hb.frame (· ∈ before)), fun _ => ?_⟩
  · rw [hps, List.mem_append] at hp
    exact Or.inr hp
  · obtain ⟨_, _, _, _, _, hz, hn⟩ := hW
    refine ⟨hok, _, _, ([] ++ pa) ++ pv, ⟨[] ++ pa, pv, trodAll_append (hargs _ (fun _ _ => rfl)) (hres _ _ _), hvars _ (fun _ _ => rfl), rfl, ?_, ?_⟩, ?_⟩
    · intro b off hp
      have hp' : MemPlace.cell b off ∈ before := by rw [hps]; simpa using hp
      rw [hb.frozen (p := ⟨b, off, none⟩) (hlt _ hp')]
      exact hz b off hp'
    · intro ha
      have := hn ha
      rw [hps] at this
      simpa using this
    · intro p hp _
      rw [hps]
      simpa using hp
theorem laid_out : laidOutB Tryz.prog = true := by kernel_rfl
theorem stays_all {W W' : World} (hb : Below W.heap.size W W') (sp : Nat → Bool) : ∀ (ts : List TypeId) (vs : List Value) (ds : List (DataW H)) (ps : List MemPlace),
    (∀ t ∈ ts, Tryz.prog.readableRec t = true ∧ t < Tryz.prog.types.size) → DataW.TrodAll enc Tryz.prog W 0 (fun _ => true) true ts vs ds ps → (∀ x ∈ ps, x.block < W.heap.size) → (∀ x ∈ ps, sp x.block = true) →
    DataW.TrodAll enc Tryz.prog W' 0 sp true ts vs ds ps
  | [], [], [], ps, _, h, _, _ => h
  | t :: ts, v :: vs, d :: ds, ps, ht, ⟨p, q, h1, h2, e⟩, hlt, hsp => by
    subst e
    refine ⟨p, q, ?_, ?_, rfl⟩
    · exact WideElems.Trod_stays laid_out (ht t (by simp)).1 (ht t (by simp)).2 h1 (fun x hx => hb.same (hlt x (by simp [hx]))) (fun x hx => hsp x (by simp [hx]))
    · exact stays_all hb sp ts vs ds q (fun u hu => ht u (by simp [hu])) h2 (fun x hx => hlt x (by simp [hx])) (fun x hx => hsp x (by simp [hx]))
  | [], _ :: _, _, _, _, h, _, _ => h.elim
  | [], [], _ :: _, _, _, h, _, _ => h.elim
  | _ :: _, [], _, _, _, h, _, _ => h.elim
  | _ :: _, _ :: _, [], _, _, h, _, _ => h.elim
theorem law_post {fn : Func} {s : ChangeSpec} (hvars : s.vars = []) (hres : fn.resultTypes = #[4]) (hparams : (fn.params.toList.all fun t => Tryz.prog.readableRec t && decide (t < Tryz.prog.types.size)) = true)
    (hfn : ∀ ds : List (DataW H), ds.length = fn.params.toList.length → s.fn H ds = { results := [.lit (.bool true)], args := ds })
    {W W' : World} {args : Array Value} {ds gs : List (DataW H)} {before : List MemPlace} (hW : DataW.Whole enc Tryz.prog fn.params.toList s.vars false W args.toList ds gs before) (hb : Below W.heap.size W W') :
    s.post enc Tryz.prog fn false true false false W args (.bool true) W' := by
  have hlt := hW.lt
  have hW0 := hW
  obtain ⟨p, q, hA0, hV0, e, hfz, hnd⟩ := hW
  have hA : DataW.TrodAll enc Tryz.prog W 0 (fun _ => true) true fn.params.toList args.toList ds p := hA0
  have hV : DataW.TrodVars enc Tryz.prog W (fun _ => true) s.vars gs q := hV0
  rw [hvars] at hV
  obtain ⟨rfl, rfl⟩ := trodVars_none hV
  rw [List.append_nil] at e
  subst e
  have hs : s.fn H (ds ++ []) = { results := [.lit (.bool true)], args := ds } := by rw [List.append_nil]; exact hfn ds (Go.trodAll_length hA).2
  refine post_below (pa := before) (pv := []) hW0 (fun b sp hd => ?_) (fun sp hsp => ?_) (fun sp _ => ?_) (by simp) hb (ok_one hres rfl (okWide_bool_mk Tryz.underlying4 _))
  · rw [hs, hres]; exact trodAll_mk1 (shut_bool Tryz.underlying4 true)
  · rw [hs]
    refine stays_all hb sp _ _ _ _ (fun t ht => ?_) hA hlt hsp
    have := List.all_eq_true.1 hparams t ht
    simpa using this
  · rw [hs, hvars]; rfl
end
end Go.Proofs.Hz

namespace Go.Proofs
open Go.Shelf
def Tryz.lays156_ren : Go.Shelf.Ren := ⟨fun | 156 => 49 | 165 => 72 | 166 => 21 | 169 => 25 | 240 => 48 | 241 => 87 | 276 => 71 | 277 => 102 | n => n, fun | 31 => 69 | 9 => 9 | 3 => 3 | 4 => 4 | 0 => 0 | 20 => 20 | 72 => 60 | 76 => 65 | 70 => 57 | 37 => 58 | 75 => 64 | 127 => 106 | 164 => 125 | 5 => 5 | 80 => 73 | n => n, fun | n => n⟩
theorem Tryz.lays156 : Go.Proofs.Lays.n156 Tryz.prog Tryz.lays156_ren := {
  mixed := by kernel_rfl
  f156 := Tryz.func49.trans (congrArg some (by kernel_rfl))
  f165 := Tryz.func72.trans (congrArg some (by kernel_rfl))
  f166 := Tryz.func21.trans (congrArg some (by kernel_rfl))
  f169 := Tryz.func25.trans (congrArg some (by kernel_rfl))
  f240 := Tryz.func48.trans (congrArg some (by kernel_rfl))
  f241 := Tryz.func87.trans (congrArg some (by kernel_rfl))
  f276 := Tryz.func71.trans (congrArg some (by kernel_rfl))
  f277 := Tryz.func102.trans (congrArg some (by kernel_rfl))
  t0 := Tryz.underlying0
  a0 := Tryz.isAgg0
  z0 := Tryz.sizeOf0
  v0 := Tryz.zeroValue0
  t3 := Tryz.underlying3
  a3 := Tryz.isAgg3
  z3 := Tryz.sizeOf3
  v3 := Tryz.zeroValue3
  t4 := Tryz.underlying4
  a4 := Tryz.isAgg4
  z4 := Tryz.sizeOf4
  v4 := Tryz.zeroValue4
  t9 := Tryz.underlying9
  a9 := Tryz.isAgg9
  z9 := Tryz.sizeOf9
  v9 := Tryz.zeroValue9
  t20 := Tryz.underlying20
  a20 := Tryz.isAgg20
  z20 := Tryz.sizeOf20
  v20 := Tryz.zeroValue20
  t31 := Tryz.underlying69
  a31 := Tryz.isAgg69
  z31 := Tryz.sizeOf69
  v31 := Tryz.zeroValue69
  t37 := Tryz.underlying58
  a37 := Tryz.isAgg58
  z37 := Tryz.sizeOf58
  v37 := Tryz.zeroValue58
  t70 := Tryz.underlying57
  a70 := Tryz.isAgg57
  z70 := Tryz.sizeOf57
  v70 := Tryz.zeroValue57
  t72 := Tryz.underlying60
  a72 := Tryz.isAgg60
  z72 := Tryz.sizeOf60
  v72 := Tryz.zeroValue60
  t75 := Tryz.underlying64
  a75 := Tryz.isAgg64
  z75 := Tryz.sizeOf64
  v75 := Tryz.zeroValue64
  t76 := Tryz.underlying65
  a76 := Tryz.isAgg65
  z76 := Tryz.sizeOf65
  v76 := Tryz.zeroValue65
  t127 := Tryz.underlying106
  a127 := Tryz.isAgg106
  z127 := Tryz.sizeOf106
  v127 := Tryz.zeroValue106
  t164 := Tryz.underlying125
  a164 := Tryz.isAgg125
  z164 := Tryz.sizeOf125
  v164 := Tryz.zeroValue125 }
theorem Tryz.Builder_Extra_156 : Builder.Extra Tryz.prog Tryz.lays156_ren := {
  sizeBuilder := by kernel_rfl
  liesBuilder := by kernel_rfl
  t5 := Tryz.underlying5
  a5 := Tryz.isAgg5
  z5 := Tryz.sizeOf5
  v5 := Tryz.zeroValue5
  infoByte := by kernel_rfl
  cellsByte := by kernel_rfl
  sizeByte := by kernel_rfl
  neB5 := by decide }
open Go.RowKit in
theorem Tryz.strings_Join_none (a : Option Addr) (c : Nat) (sep : ByteArray) (w : World) :
    Calls Tryz.prog 49 #[.slice a 0 c, .string sep] w fun e w' => e = .returned (.string ⟨#[]⟩) ∧ w' = w := Any.strings_Join_none Tryz.lays156 Tryz.Builder_Extra_156 a c sep w
open Go.RowKit in
theorem Tryz.strings_Join (bk o c : Nat) (xs : List ByteArray) (sep : ByteArray) (w : World) (hcells : ∀ (j : Nat) x, xs[j]? = some x → w.cell? ⟨bk, o + j, none⟩ = some (.string x)) (hbk : bk < w.heap.size) (hN : xs.length ≤ 140737488355328) (hcap : xs.length ≤ c) (hlen : (Lib.join (xs.map (·.data.toList)) sep.data.toList).length ≤ 140737488355328) :
    Calls Tryz.prog 49 #[.slice (some ⟨bk, o, none⟩) xs.length c, .string sep] w fun e w' => e = .returned (.string ⟨(Lib.join (xs.map (·.data.toList)) sep.data.toList).toArray⟩) ∧ Below w.heap.size w w' := Any.strings_Join Tryz.lays156 Tryz.Builder_Extra_156 bk o c xs sep w hcells hbk hN hcap hlen
def Tryz.lays137_ren : Go.Shelf.Ren := ⟨fun | 137 => 55 | 217 => 78 | 266 => 92 | n => n, fun | 9 => 9 | 5 => 5 | 3 => 3 | n => n, fun | n => n⟩
theorem Tryz.lays137 : Go.Proofs.Lays.n137 Tryz.prog Tryz.lays137_ren := {
  mixed := by kernel_rfl
  f137 := Tryz.func55.trans (congrArg some (by kernel_rfl))
  f217 := Tryz.func78.trans (congrArg some (by kernel_rfl))
  f266 := Tryz.func92.trans (congrArg some (by kernel_rfl))
  t3 := Tryz.underlying3
  a3 := Tryz.isAgg3
  z3 := Tryz.sizeOf3
  v3 := Tryz.zeroValue3
  t5 := Tryz.underlying5
  a5 := Tryz.isAgg5
  z5 := Tryz.sizeOf5
  v5 := Tryz.zeroValue5
  t9 := Tryz.underlying9
  a9 := Tryz.isAgg9
  z9 := Tryz.sizeOf9
  v9 := Tryz.zeroValue9 }
open Go.RowKit in
theorem Tryz.strings_IndexByte (s : ByteArray) (c : Int) (w : World) :
    Calls Tryz.prog 55 #[.string s, .int .u8 c] w fun e w' => e = .returned (.int .i64 (Lib.indexByte s.data.toList c.toNat.toUInt8)) ∧ w' = w := Any.strings_IndexByte Tryz.lays137 s c w
def Tryz.laysM171_ren : Go.Shelf.Ren := ⟨fun | 171 => 23 | 243 => 50 | 246 => 73 | 283 => 88 | 284 => 89 | 285 => 90 | 286 => 91 | 129 => 104 | 317 => 103 | 318 => 105 | 319 => 106 | 320 => 107 | 337 => 115 | 338 => 116 | n => n, fun | 3 => 3 | 9 => 9 | 2 => 2 | 4 => 4 | 171 => 136 | 0 => 0 | 53 => 137 | 37 => 58 | 5 => 5 | 173 => 140 | 212 => 153 | 51 => 154 | 20 => 20 | 213 => 155 | 46 => 156 | 232 => 175 | 233 => 176 | n => n, fun | 17 => 0 | 18 => 6 | 19 => 7 | n => n⟩
theorem Tryz.laysM171 : Go.Proofs.LaysM.n171 Tryz.prog Tryz.laysM171_ren := {
  mixed := by kernel_rfl
  f129 := Tryz.func104.trans (congrArg some (by kernel_rfl))
  f171 := Tryz.func23.trans (congrArg some (by kernel_rfl))
  f243 := Tryz.func50.trans (congrArg some (by kernel_rfl))
  f246 := Tryz.func73.trans (congrArg some (by kernel_rfl))
  f283 := Tryz.func88.trans (congrArg some (by kernel_rfl))
  f284 := Tryz.func89.trans (congrArg some (by kernel_rfl))
  f285 := Tryz.func90.trans (congrArg some (by kernel_rfl))
  f286 := Tryz.func91.trans (congrArg some (by kernel_rfl))
  f317 := Tryz.func103.trans (congrArg some (by kernel_rfl))
  f318 := Tryz.func105.trans (congrArg some (by kernel_rfl))
  f319 := Tryz.func106.trans (congrArg some (by kernel_rfl))
  f320 := Tryz.func107.trans (congrArg some (by kernel_rfl))
  f337 := Tryz.func115.trans (congrArg some (by kernel_rfl))
  f338 := Tryz.func116.trans (congrArg some (by kernel_rfl))
  t0 := Tryz.underlying0
  a0 := Tryz.isAgg0
  z0 := Tryz.sizeOf0
  v0 := Tryz.zeroValue0
  t2 := Tryz.underlying2
  a2 := Tryz.isAgg2
  z2 := Tryz.sizeOf2
  v2 := Tryz.zeroValue2
  t3 := Tryz.underlying3
  a3 := Tryz.isAgg3
  z3 := Tryz.sizeOf3
  v3 := Tryz.zeroValue3
  t4 := Tryz.underlying4
  a4 := Tryz.isAgg4
  z4 := Tryz.sizeOf4
  v4 := Tryz.zeroValue4
  t5 := Tryz.underlying5
  a5 := Tryz.isAgg5
  z5 := Tryz.sizeOf5
  v5 := Tryz.zeroValue5
  t9 := Tryz.underlying9
  a9 := Tryz.isAgg9
  z9 := Tryz.sizeOf9
  v9 := Tryz.zeroValue9
  t20 := Tryz.underlying20
  a20 := Tryz.isAgg20
  z20 := Tryz.sizeOf20
  v20 := Tryz.zeroValue20
  t37 := Tryz.underlying58
  a37 := Tryz.isAgg58
  z37 := Tryz.sizeOf58
  v37 := Tryz.zeroValue58
  t46 := Tryz.underlying156
  a46 := Tryz.isAgg156
  z46 := Tryz.sizeOf156
  v46 := Tryz.zeroValue156
  t51 := Tryz.underlying154
  a51 := Tryz.isAgg154
  z51 := Tryz.sizeOf154
  v51 := Tryz.zeroValue154
  t53 := Tryz.underlying137
  a53 := Tryz.isAgg137
  z53 := Tryz.sizeOf137
  v53 := Tryz.zeroValue137
  t171 := Tryz.underlying136
  a171 := Tryz.isAgg136
  z171 := Tryz.sizeOf136
  v171 := Tryz.zeroValue136
  t173 := Tryz.underlying140
  a173 := Tryz.isAgg140
  z173 := Tryz.sizeOf140
  v173 := Tryz.zeroValue140
  t212 := Tryz.underlying153
  a212 := Tryz.isAgg153
  z212 := Tryz.sizeOf153
  v212 := Tryz.zeroValue153
  t213 := Tryz.underlying155
  a213 := Tryz.isAgg155
  z213 := Tryz.sizeOf155
  t232 := Tryz.underlying175
  a232 := Tryz.isAgg175
  z232 := Tryz.sizeOf175
  v232 := Tryz.zeroValue175
  t233 := Tryz.underlying176
  a233 := Tryz.isAgg176
  z233 := Tryz.sizeOf176
  v233 := Tryz.zeroValue176
  g17 := by kernel_rfl
  g18 := by kernel_rfl
  g19 := by kernel_rfl
  i0 := by kernel_rfl
  i2 := by kernel_rfl
  i3 := by kernel_rfl
  i4 := by kernel_rfl
  i5 := by kernel_rfl
  i9 := by kernel_rfl
  i20 := by kernel_rfl
  i37 := by kernel_rfl
  i46 := by kernel_rfl
  i51 := by kernel_rfl
  i53 := by kernel_rfl
  i171 := by kernel_rfl
  i173 := by kernel_rfl
  i212 := by kernel_rfl
  i232 := by kernel_rfl
  i233 := by kernel_rfl
  m17 := by kernel_rfl
  m18 := by kernel_rfl
  m19 := by kernel_rfl }
open Go.RowKit Go.Sort Go.Lib in
theorem Tryz.strconv_Itoa (n : Int) (h0 : -9223372036854775808 ≤ n) (h1 : n ≤ 9223372036854775807) (w : World) (htab : Lib.TabIs Tryz.prog w "internal/strconv.uint64pow10" .u64 Lib.pow10Tab) :
    Calls Tryz.prog 23 #[.int .i64 n] w fun e w' => e = .returned (.string ⟨(Lib.itoa n).toArray⟩) ∧ ∃ k os, w' = grow (w.drewN k) os := Any.strconv_Itoa Tryz.laysM171 n h0 h1 w htab
def Tryz.laysC172_ren : Go.Shelf.Ren := ⟨fun | 172 => 58 | 244 => 83 | 245 => 84 | 247 => 97 | 279 => 98 | 280 => 99 | 281 => 100 | 282 => 101 | 287 => 112 | 316 => 113 | 171 => 23 | 205 => 114 | 321 => 118 | 322 => 119 | 243 => 50 | 246 => 73 | 283 => 88 | 284 => 89 | 285 => 90 | 286 => 91 | 129 => 104 | 317 => 103 | 318 => 105 | 319 => 106 | 320 => 107 | 337 => 115 | 338 => 116 | n => n, fun | 9 => 9 | 3 => 3 | 75 => 64 | 76 => 65 | 4 => 4 | 5 => 5 | 167 => 144 | 37 => 58 | 0 => 0 | 85 => 145 | 2 => 2 | 168 => 147 | 53 => 137 | 175 => 158 | 46 => 156 | 210 => 162 | 127 => 106 | 145 => 174 | 143 => 172 | 21 => 21 | 171 => 136 | 173 => 140 | 212 => 153 | 51 => 154 | 20 => 20 | 213 => 155 | 232 => 175 | 233 => 176 | 80 => 73 | n => n, fun | 15 => 2 | 16 => 3 | 17 => 0 | 18 => 6 | 19 => 7 | n => n⟩
theorem Tryz.laysC172 : Go.Proofs.LaysC.n172 Tryz.prog Tryz.laysC172_ren := {
  mixed := by kernel_rfl
  f129 := Tryz.func104.trans (congrArg some (by kernel_rfl))
  f171 := Tryz.func23.trans (congrArg some (by kernel_rfl))
  f172 := Tryz.func58.trans (congrArg some (by kernel_rfl))
  f205 := Tryz.func114.trans (congrArg some (by kernel_rfl))
  f243 := Tryz.func50.trans (congrArg some (by kernel_rfl))
  f244 := Tryz.func83.trans (congrArg some (by kernel_rfl))
  f245 := Tryz.func84.trans (congrArg some (by kernel_rfl))
  f246 := Tryz.func73.trans (congrArg some (by kernel_rfl))
  f247 := Tryz.func97.trans (congrArg some (by kernel_rfl))
  f279 := Tryz.func98.trans (congrArg some (by kernel_rfl))
  f280 := Tryz.func99.trans (congrArg some (by kernel_rfl))
  f281 := Tryz.func100.trans (congrArg some (by kernel_rfl))
  f282 := Tryz.func101.trans (congrArg some (by kernel_rfl))
  f283 := Tryz.func88.trans (congrArg some (by kernel_rfl))
  f284 := Tryz.func89.trans (congrArg some (by kernel_rfl))
  f285 := Tryz.func90.trans (congrArg some (by kernel_rfl))
  f286 := Tryz.func91.trans (congrArg some (by kernel_rfl))
  f287 := Tryz.func112.trans (congrArg some (by kernel_rfl))
  f316 := Tryz.func113.trans (congrArg some (by kernel_rfl))
  f317 := Tryz.func103.trans (congrArg some (by kernel_rfl))
  f318 := Tryz.func105.trans (congrArg some (by kernel_rfl))
  f319 := Tryz.func106.trans (congrArg some (by kernel_rfl))
  f320 := Tryz.func107.trans (congrArg some (by kernel_rfl))
  f321 := Tryz.func118.trans (congrArg some (by kernel_rfl))
  f322 := Tryz.func119.trans (congrArg some (by kernel_rfl))
  f337 := Tryz.func115.trans (congrArg some (by kernel_rfl))
  f338 := Tryz.func116.trans (congrArg some (by kernel_rfl))
  t0 := Tryz.underlying0
  a0 := Tryz.isAgg0
  z0 := Tryz.sizeOf0
  v0 := Tryz.zeroValue0
  t2 := Tryz.underlying2
  a2 := Tryz.isAgg2
  z2 := Tryz.sizeOf2
  v2 := Tryz.zeroValue2
  t3 := Tryz.underlying3
  a3 := Tryz.isAgg3
  z3 := Tryz.sizeOf3
  v3 := Tryz.zeroValue3
  t4 := Tryz.underlying4
  a4 := Tryz.isAgg4
  z4 := Tryz.sizeOf4
  v4 := Tryz.zeroValue4
  t5 := Tryz.underlying5
  a5 := Tryz.isAgg5
  z5 := Tryz.sizeOf5
  v5 := Tryz.zeroValue5
  t9 := Tryz.underlying9
  a9 := Tryz.isAgg9
  z9 := Tryz.sizeOf9
  v9 := Tryz.zeroValue9
  t20 := Tryz.underlying20
  a20 := Tryz.isAgg20
  z20 := Tryz.sizeOf20
  v20 := Tryz.zeroValue20
  t21 := Tryz.underlying21
  a21 := Tryz.isAgg21
  z21 := Tryz.sizeOf21
  v21 := Tryz.zeroValue21
  t37 := Tryz.underlying58
  a37 := Tryz.isAgg58
  z37 := Tryz.sizeOf58
  v37 := Tryz.zeroValue58
  t46 := Tryz.underlying156
  a46 := Tryz.isAgg156
  z46 := Tryz.sizeOf156
  v46 := Tryz.zeroValue156
  t51 := Tryz.underlying154
  a51 := Tryz.isAgg154
  z51 := Tryz.sizeOf154
  v51 := Tryz.zeroValue154
  t53 := Tryz.underlying137
  a53 := Tryz.isAgg137
  z53 := Tryz.sizeOf137
  v53 := Tryz.zeroValue137
  t75 := Tryz.underlying64
  a75 := Tryz.isAgg64
  z75 := Tryz.sizeOf64
  v75 := Tryz.zeroValue64
  t76 := Tryz.underlying65
  a76 := Tryz.isAgg65
  z76 := Tryz.sizeOf65
  v76 := Tryz.zeroValue65
  t85 := Tryz.underlying145
  a85 := Tryz.isAgg145
  z85 := Tryz.sizeOf145
  v85 := Tryz.zeroValue145
  t127 := Tryz.underlying106
  a127 := Tryz.isAgg106
  z127 := Tryz.sizeOf106
  v127 := Tryz.zeroValue106
  t143 := Tryz.underlying172
  a143 := Tryz.isAgg172
  z143 := Tryz.sizeOf172
  v143 := Tryz.zeroValue172
  t145 := Tryz.underlying174
  a145 := Tryz.isAgg174
  z145 := Tryz.sizeOf174
  v145 := Tryz.zeroValue174
  t167 := Tryz.underlying144
  a167 := Tryz.isAgg144
  z167 := Tryz.sizeOf144
  v167 := Tryz.zeroValue144
  t168 := Tryz.underlying147
  a168 := Tryz.isAgg147
  z168 := Tryz.sizeOf147
  v168 := Tryz.zeroValue147
  t171 := Tryz.underlying136
  a171 := Tryz.isAgg136
  z171 := Tryz.sizeOf136
  v171 := Tryz.zeroValue136
  t173 := Tryz.underlying140
  a173 := Tryz.isAgg140
  z173 := Tryz.sizeOf140
  v173 := Tryz.zeroValue140
  t175 := Tryz.underlying158
  a175 := Tryz.isAgg158
  z175 := Tryz.sizeOf158
  v175 := Tryz.zeroValue158
  t210 := Tryz.underlying162
  a210 := Tryz.isAgg162
  z210 := Tryz.sizeOf162
  v210 := Tryz.zeroValue162
  t212 := Tryz.underlying153
  a212 := Tryz.isAgg153
  z212 := Tryz.sizeOf153
  v212 := Tryz.zeroValue153
  t213 := Tryz.underlying155
  a213 := Tryz.isAgg155
  z213 := Tryz.sizeOf155
  t232 := Tryz.underlying175
  a232 := Tryz.isAgg175
  z232 := Tryz.sizeOf175
  v232 := Tryz.zeroValue175
  t233 := Tryz.underlying176
  a233 := Tryz.isAgg176
  z233 := Tryz.sizeOf176
  v233 := Tryz.zeroValue176
  g15 := by kernel_rfl
  g16 := by kernel_rfl
  g17 := by kernel_rfl
  g18 := by kernel_rfl
  g19 := by kernel_rfl
  t80 := Tryz.underlying73
  a80 := Tryz.isAgg73
  z80 := Tryz.sizeOf73
  v80 := Tryz.zeroValue73
  i0 := by kernel_rfl
  i2 := by kernel_rfl
  i3 := by kernel_rfl
  i4 := by kernel_rfl
  i5 := by kernel_rfl
  i9 := by kernel_rfl
  i20 := by kernel_rfl
  i21 := by kernel_rfl
  i37 := by kernel_rfl
  i46 := by kernel_rfl
  i51 := by kernel_rfl
  i53 := by kernel_rfl
  i75 := by kernel_rfl
  i76 := by kernel_rfl
  i80 := by kernel_rfl
  i85 := by kernel_rfl
  i127 := by kernel_rfl
  i143 := by kernel_rfl
  i145 := by kernel_rfl
  i167 := by kernel_rfl
  i168 := by kernel_rfl
  i171 := by kernel_rfl
  i173 := by kernel_rfl
  i175 := by kernel_rfl
  i210 := by kernel_rfl
  i212 := by kernel_rfl
  i232 := by kernel_rfl
  i233 := by kernel_rfl
  m15 := by kernel_rfl
  m16 := by kernel_rfl
  m17 := by kernel_rfl
  m18 := by kernel_rfl
  m19 := by kernel_rfl
  c0 := by kernel_rfl
  c2 := by kernel_rfl
  c3 := by kernel_rfl
  c4 := by kernel_rfl
  c5 := by kernel_rfl
  c9 := by kernel_rfl
  c20 := by kernel_rfl
  c21 := by kernel_rfl
  c37 := by kernel_rfl
  c46 := by kernel_rfl
  c51 := by kernel_rfl
  c53 := by kernel_rfl
  c75 := by kernel_rfl
  c76 := by kernel_rfl
  c80 := by kernel_rfl
  c85 := by kernel_rfl
  c127 := by kernel_rfl
  c143 := by kernel_rfl
  c145 := by kernel_rfl
  c167 := by kernel_rfl
  c168 := by kernel_rfl
  c171 := by kernel_rfl
  c173 := by kernel_rfl
  c175 := by kernel_rfl
  c210 := by kernel_rfl
  c212 := by kernel_rfl
  c213 := by kernel_rfl
  c232 := by kernel_rfl
  c233 := by kernel_rfl }
open Go.RowKit in
theorem Tryz.strconv_Atoi_ok (s : ByteArray) (hmax : s.size ≤ 9223372036854775806) (v : Int) (h : Lib.atoiAll s.data.toList = .ok v) (w : World) :
    Calls Tryz.prog 58 #[.string s] w fun e w' => e = .returned (.tuple #[.int .i64 v, .nilIface]) ∧ (w' = w ∨ ∃ t, w' = Lib.bytesWorld w 5 t) := Any.strconv_Atoi_ok Tryz.laysC172 s hmax v h w
open Go.RowKit in
theorem Tryz.strconv_Atoi_syntax (s : ByteArray) (hlim : s.size ≤ 281474976710656) (h : Lib.atoiAll s.data.toList = Lib.atoiAll []) (ev : Value) (w : World) (hv : w.cell? ⟨2, 0, none⟩ = some ev) (hev : ev = .nilIface ∨ ∃ te pe, ev = .iface te pe) :
    Calls Tryz.prog 58 #[.string s] w fun e w' => ∃ N, e = .returned (.tuple #[.int .i64 (0), .iface 147 (.pointer (some ⟨N, 0, none⟩))]) ∧ w.heap.size ≤ N ∧ w'.heap[N]? = some (.cells #[.string ⟨#[65, 116, 111, 105]⟩, .string s, ev] 162 (0, 0)) ∧ Below w.heap.size w w' := Any.strconv_Atoi_syntax Tryz.laysC172 s hlim h ev w hv hev
open Go.RowKit in
theorem Tryz.strconv_Atoi_range (s : ByteArray) (hlim : s.size ≤ 281474976710656) (h : Lib.atoiAll s.data.toList = .range) (ev : Value) (w : World) (hv : w.cell? ⟨3, 0, none⟩ = some ev) (hev : ev = .nilIface ∨ ∃ te pe, ev = .iface te pe) :
    Calls Tryz.prog 58 #[.string s] w fun e w' => ∃ N, e = .returned (.tuple #[.int .i64 (Lib.atoiSat s.data.toList), .iface 147 (.pointer (some ⟨N, 0, none⟩))]) ∧ w.heap.size ≤ N ∧ w'.heap[N]? = some (.cells #[.string ⟨#[65, 116, 111, 105]⟩, .string s, ev] 162 (0, 0)) ∧ Below w.heap.size w w' := Any.strconv_Atoi_range Tryz.laysC172 s hlim h ev w hv hev
def Tryz.lays145_ren : Go.Shelf.Ren := ⟨fun | 145 => 59 | 220 => 85 | 219 => 96 | 217 => 78 | 225 => 109 | 224 => 110 | 267 => 111 | 266 => 92 | 314 => 117 | n => n, fun | 9 => 9 | 4 => 4 | 59 => 110 | 3 => 3 | 5 => 5 | 46 => 156 | 146 => 169 | 51 => 154 | n => n, fun | 1 => 1 | n => n⟩
theorem Tryz.lays145 : Go.Proofs.Lays.n145 Tryz.prog Tryz.lays145_ren := {
  mixed := by kernel_rfl
  f145 := Tryz.func59.trans (congrArg some (by kernel_rfl))
  f217 := Tryz.func78.trans (congrArg some (by kernel_rfl))
  f219 := Tryz.func96.trans (congrArg some (by kernel_rfl))
  f220 := Tryz.func85.trans (congrArg some (by kernel_rfl))
  f224 := Tryz.func110.trans (congrArg some (by kernel_rfl))
  f225 := Tryz.func109.trans (congrArg some (by kernel_rfl))
  f266 := Tryz.func92.trans (congrArg some (by kernel_rfl))
  f267 := Tryz.func111.trans (congrArg some (by kernel_rfl))
  f314 := Tryz.func117.trans (congrArg some (by kernel_rfl))
  t3 := Tryz.underlying3
  a3 := Tryz.isAgg3
  z3 := Tryz.sizeOf3
  v3 := Tryz.zeroValue3
  t4 := Tryz.underlying4
  a4 := Tryz.isAgg4
  z4 := Tryz.sizeOf4
  v4 := Tryz.zeroValue4
  t5 := Tryz.underlying5
  a5 := Tryz.isAgg5
  z5 := Tryz.sizeOf5
  v5 := Tryz.zeroValue5
  t9 := Tryz.underlying9
  a9 := Tryz.isAgg9
  z9 := Tryz.sizeOf9
  v9 := Tryz.zeroValue9
  t46 := Tryz.underlying156
  a46 := Tryz.isAgg156
  z46 := Tryz.sizeOf156
  v46 := Tryz.zeroValue156
  t51 := Tryz.underlying154
  a51 := Tryz.isAgg154
  z51 := Tryz.sizeOf154
  v51 := Tryz.zeroValue154
  t59 := Tryz.underlying110
  a59 := Tryz.isAgg110
  z59 := Tryz.sizeOf110
  v59 := Tryz.zeroValue110
  t146 := Tryz.underlying169
  a146 := Tryz.isAgg169
  z146 := Tryz.sizeOf169
  v146 := Tryz.zeroValue169
  g1 := by kernel_rfl }
open Go.RowKit Go.Lib in
theorem Tryz.strings_Cut (s sep : ByteArray) (m : Int) (w : World) (hs : s.size < 4294967281) (hm : w.cell? ⟨1, 0, none⟩ = some (.int .i64 m)) :
    Calls Tryz.prog 59 #[.string s, .string sep] w fun e w' => e = .returned (.tuple #[.string ⟨(Lib.cut s.data.toList sep.data.toList).1.toArray⟩, .string ⟨(Lib.cut s.data.toList sep.data.toList).2.1.toArray⟩, .bool (Lib.cut s.data.toList sep.data.toList).2.2]) ∧ ∃ n, w' = w.drewN n := Any.strings_Cut Tryz.lays145 s sep m w hs hm
def Tryz.lays102_ren : Go.Shelf.Ren := ⟨fun | 102 => 30 | 209 => 57 | 207 => 82 | n => n, fun | 9 => 9 | 4 => 4 | 3 => 3 | n => n, fun | n => n⟩
theorem Tryz.lays102 : Go.Proofs.Lays.n102 Tryz.prog Tryz.lays102_ren := {
  mixed := by kernel_rfl
  f102 := Tryz.func30.trans (congrArg some (by kernel_rfl))
  f207 := Tryz.func82.trans (congrArg some (by kernel_rfl))
  f209 := Tryz.func57.trans (congrArg some (by kernel_rfl))
  t3 := Tryz.underlying3
  a3 := Tryz.isAgg3
  z3 := Tryz.sizeOf3
  v3 := Tryz.zeroValue3
  t4 := Tryz.underlying4
  a4 := Tryz.isAgg4
  z4 := Tryz.sizeOf4
  v4 := Tryz.zeroValue4
  t9 := Tryz.underlying9
  a9 := Tryz.isAgg9
  z9 := Tryz.sizeOf9
  v9 := Tryz.zeroValue9 }
open Go.RowKit Go.Lib in
theorem Tryz.strings_TrimSuffix (s p : ByteArray) (w : World) (hs : s.size ≤ 9223372036854775807) :
    Calls Tryz.prog 30 #[.string s, .string p] w fun e w' => e = .returned (.string ⟨(Lib.trimSuffix s.data.toList p.data.toList).toArray⟩) ∧ w' = w := Any.strings_TrimSuffix Tryz.lays102 s p w hs
def Tryz.lays146_ren : Go.Shelf.Ren := ⟨fun | 146 => 29 | 221 => 56 | 268 => 79 | 138 => 80 | 143 => 81 | 195 => 93 | 197 => 94 | 218 => 95 | 219 => 96 | 260 => 108 | 217 => 78 | 225 => 109 | 224 => 110 | 267 => 111 | 266 => 92 | 314 => 117 | n => n, fun | 9 => 9 | 31 => 69 | 3 => 3 | 4 => 4 | 0 => 0 | 105 => 142 | 21 => 21 | 5 => 5 | 46 => 156 | 119 => 165 | 139 => 168 | 138 => 167 | 146 => 169 | 51 => 154 | n => n, fun | 1 => 1 | 3 => 4 | 4 => 5 | n => n⟩
theorem Tryz.lays146 : Go.Proofs.Lays.n146 Tryz.prog Tryz.lays146_ren := {
  mixed := by kernel_rfl
  f138 := Tryz.func80.trans (congrArg some (by kernel_rfl))
  f143 := Tryz.func81.trans (congrArg some (by kernel_rfl))
  f146 := Tryz.func29.trans (congrArg some (by kernel_rfl))
  f195 := Tryz.func93.trans (congrArg some (by kernel_rfl))
  f197 := Tryz.func94.trans (congrArg some (by kernel_rfl))
  f217 := Tryz.func78.trans (congrArg some (by kernel_rfl))
  f218 := Tryz.func95.trans (congrArg some (by kernel_rfl))
  f219 := Tryz.func96.trans (congrArg some (by kernel_rfl))
  f221 := Tryz.func56.trans (congrArg some (by kernel_rfl))
  f224 := Tryz.func110.trans (congrArg some (by kernel_rfl))
  f225 := Tryz.func109.trans (congrArg some (by kernel_rfl))
  f260 := Tryz.func108.trans (congrArg some (by kernel_rfl))
  f266 := Tryz.func92.trans (congrArg some (by kernel_rfl))
  f267 := Tryz.func111.trans (congrArg some (by kernel_rfl))
  f268 := Tryz.func79.trans (congrArg some (by kernel_rfl))
  f314 := Tryz.func117.trans (congrArg some (by kernel_rfl))
  t0 := Tryz.underlying0
  a0 := Tryz.isAgg0
  z0 := Tryz.sizeOf0
  v0 := Tryz.zeroValue0
  t3 := Tryz.underlying3
  a3 := Tryz.isAgg3
  z3 := Tryz.sizeOf3
  v3 := Tryz.zeroValue3
  t4 := Tryz.underlying4
  a4 := Tryz.isAgg4
  z4 := Tryz.sizeOf4
  v4 := Tryz.zeroValue4
  t5 := Tryz.underlying5
  a5 := Tryz.isAgg5
  z5 := Tryz.sizeOf5
  v5 := Tryz.zeroValue5
  t9 := Tryz.underlying9
  a9 := Tryz.isAgg9
  z9 := Tryz.sizeOf9
  v9 := Tryz.zeroValue9
  t21 := Tryz.underlying21
  a21 := Tryz.isAgg21
  z21 := Tryz.sizeOf21
  v21 := Tryz.zeroValue21
  t31 := Tryz.underlying69
  a31 := Tryz.isAgg69
  z31 := Tryz.sizeOf69
  v31 := Tryz.zeroValue69
  t46 := Tryz.underlying156
  a46 := Tryz.isAgg156
  z46 := Tryz.sizeOf156
  v46 := Tryz.zeroValue156
  t51 := Tryz.underlying154
  a51 := Tryz.isAgg154
  z51 := Tryz.sizeOf154
  v51 := Tryz.zeroValue154
  t105 := Tryz.underlying142
  a105 := Tryz.isAgg142
  z105 := Tryz.sizeOf142
  v105 := Tryz.zeroValue142
  t119 := Tryz.underlying165
  a119 := Tryz.isAgg165
  z119 := Tryz.sizeOf165
  t138 := Tryz.underlying167
  a138 := Tryz.isAgg167
  z138 := Tryz.sizeOf167
  v138 := Tryz.zeroValue167
  t139 := Tryz.underlying168
  a139 := Tryz.isAgg168
  z139 := Tryz.sizeOf168
  v139 := Tryz.zeroValue168
  t146 := Tryz.underlying169
  a146 := Tryz.isAgg169
  z146 := Tryz.sizeOf169
  v146 := Tryz.zeroValue169
  g1 := by kernel_rfl
  g3 := by kernel_rfl
  g4 := by kernel_rfl }
open Go.RowKit Go.Lib in
theorem Tryz.strings_Split (s sep : ByteArray) (m : Int) (w : World) (hs : s.size < 4294967281) (hm : w.cell? ⟨1, 0, none⟩ = some (.int .i64 m)) (h1 : 1 ≤ sep.size) :
    Calls Tryz.prog 29 #[.string s, .string sep] w fun e w' =>
      e = .returned (.slice (some ⟨w.heap.size, 0, none⟩) (Lib.countB s sep + 1) (Lib.countB s sep + 1)) ∧ w' = w.alloc (.cells ((Lib.splitB sep 0 (Lib.countB s sep) s).map Value.string).toArray 9) := Any.strings_Split Tryz.lays146 (by kernel_rfl) s sep m w hs hm h1
end Go.Proofs
