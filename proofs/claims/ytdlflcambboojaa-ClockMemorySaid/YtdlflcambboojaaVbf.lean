/-
  Contracts of functions, proved by going through their code. No conditions.
-/
import Derived.ProofKit
import Derived.LaidMore
import Derived.OpenShut
import Derived.Carry
import Derived.Stop.Joined
import Derived.Test.YtdlflcambboojaaChecked
import Derived.Test.YtdlflcambboojaaRows
import Derived.ChangeCalls
import Derived.LaidSub
import Derived.MakeChecks
import Derived.Test.YtdlflcambboojaaVaa
import Derived.Test.YtdlflcambboojaaVap
import Derived.Test.YtdlflcambboojaaVba
import Derived.Test.YtdlflcambboojaaVbc
import Derived.Test.YtdlflcambboojaaVbd
import Derived.Test.YtdlflcambboojaaVbe
set_option linter.unusedVariables false
set_option linter.unusedSimpArgs false
set_option maxRecDepth 100000
namespace Go.Proofs.Ks
open Go Go.Pg Go.Proofs
def exS : Session := { id := 1, inn := ⟨1000, 1010⟩, out := ⟨5000, 6000⟩, zero := ⟨0, 9⟩, fin := ⟨4000, 4020⟩, rate := ⟨1000000, 1000000⟩, stops := [] }
def exR : Rec := { s := exS, strikes := [⟨1, ⟨1000, 1000⟩⟩, ⟨2, ⟨2000, 2005⟩⟩], sights := [] }
def exR2 : Rec := { exR with sights := [⟨1, ⟨2100, 2200⟩⟩] }
theorem ex_check : checkE exR = 0 := by decide +kernel
theorem ex_links : (linksR exR []).length = 71 := by decide +kernel
theorem ex_cons : consP exR [] = true := by decide +kernel
theorem ex_spans : spansP exR = [⟨1990, 2011⟩, ⟨2990, 3016⟩] := by decide +kernel
theorem ex_between : betweenP exR 0 1 = (⟨999, 1006⟩, 0) := by decide +kernel
theorem ex_removed : eventP exR 2 = (⟨5000, 5031⟩, 0) := by decide +kernel
theorem ex_when : whenP exR 500 = (⟨1490, 1510⟩, 0) := by decide +kernel
theorem ex_yes : fitsP exR [2000, 3000] = (true, 0) := by decide +kernel
theorem ex_no : fitsP exR [2000, 3007] = (false, 0) := by decide +kernel
theorem ex_check2 : checkE exR2 = 0 := by decide +kernel
theorem ex_cons2 : consP exR2 [] = false := by decide +kernel
theorem ex_clash : clashO (nodesR exR2 []).length (linksR exR2 []) = some [9, 21, 12, 5, 0] := by decide +kernel
theorem ex_cc : checkClashE exR2 [9, 21, 12, 5, 0] = 0 := by decide +kernel
theorem ex_st : stF exR2 exR2.strikes.length = [1] := by decide +kernel
theorem ex_sg : sgF exR2 exR2.sights.length = [0] := by decide +kernel
theorem ex_susp : suspP exR2 = ([1], [0]) := by unfold suspP; rw [ex_st, ex_sg, List.mergeSort_singleton]
def exRun : Run := { start := 1000, micro := 500000, legs := [⟨100, 1000000⟩] }
theorem ex_needle : needleP exRun 1007 = (7, 0) := by decide +kernel
end Go.Proofs.Ks

set_option maxHeartbeats 8000000
set_option maxRecDepth 10000
namespace Go.Proofs.Ks
open Go Go.Pg Go.Proofs
theorem example_ok : OKv cx 76 [] (.agg (eRec exR)) := by
  refine OKat.of_bodyM cx_ok (rs := [.cell 0 30]) Try.func76 rfl (by decide +kernel) rfl (by simp [Try.ntmps76]) ?_
  simp only [Try.ntmps76]
  repeat' first
    | apply jA | apply jB | apply jC | apply jD | apply jE | apply jF | apply jG | apply jH | apply jI
    | ((first | (apply jK cx_ok; decide) | apply jM cx_ok | apply jR); (simp (disch := omega) only [push_cast, simprocAttr] <;> rfl); all_goals try ((with_reducible intro hI); try first | (cases hI; done) | (simp only [INTS, zL] at hI; try first | (exfalso; omega) | (have hT : True := hI; clear hT hI))))
    | ((first | apply jl | apply jm); (iterate 2 (try (simp (disch := omega) only [push_cast, simprocAttr] <;> rfl))))

  all_goals (show _ = _; rfl)
theorem sanity_ok : OKv cx 20 [] (ab true) := by
  have c76 := example_ok
  have c40 := Links_good exR ex_check
  have c34 := Spans_good exR ex_check ex_cons
  rw [ex_spans] at c34
  replace c34 : OKv cx 34 [.agg (eRec exR)] (.tup [.lst [[ai 1990, ai 2011], [ai 2990, ai 3016]], ai 0]) := c34
  have c23 := Between_ok exR 0 1
  rw [ex_between] at c23
  replace c23 : OKv cx 23 [.agg (eRec exR), ai 0, ai 1] (.tup [.agg [ai 999, ai 1006], ai 0]) := c23
  have c60 := Removed_ok exR
  rw [ex_removed] at c60
  replace c60 : OKv cx 60 [.agg (eRec exR)] (.tup [.agg [ai 5000, ai 5031], ai 0]) := c60
  have c24 := When_ok exR 500
  rw [ex_when] at c24
  replace c24 : OKv cx 24 [.agg (eRec exR), ai 500] (.tup [.agg [ai 1490, ai 1510], ai 0]) := c24
  have c53 := Fits_ok exR [2000, 3000] (by simp)
  rw [ex_yes] at c53
  replace c53 : OKv cx 53 [.agg (eRec exR), .lst [[ai 2000], [ai 3000]]] (.tup [ab true, ai 0]) := c53
  have d53 := Fits_ok exR [2000, 3007] (by simp)
  rw [ex_no] at d53
  replace d53 : OKv cx 53 [.agg (eRec exR), .lst [[ai 2000], [ai 3007]]] (.tup [ab false, ai 0]) := d53
  have c37 : OKv cx 37 [.lst [[ai 1990, ai 2011], [ai 2990, ai 3016]], .lst [[ai 1990, ai 2011], [ai 2990, ai 3016]]] (ab true) := by
    have := SameSpans_ok [⟨1990, 2011⟩, ⟨2990, 3016⟩] [⟨1990, 2011⟩, ⟨2990, 3016⟩] (by simp) (by simp)
    rw [decide_eq_true rfl] at this
    exact this
  have i1 : OKv cx 51 [.lst [[ai 1]], .lst [[ai 1]]] (ab true) := by
    have := SameInts_ok [1] [1] (by simp) (by simp)
    rw [decide_eq_true rfl] at this
    exact this
  have i0 : OKv cx 51 [.lst [[ai 0]], .lst [[ai 0]]] (ab true) := by
    have := SameInts_ok [0] [0] (by simp) (by simp)
    rw [decide_eq_true rfl] at this
    exact this
  have c27 := Clash_some exR2 ex_check2 ex_cons2 ex_clash
  replace c27 : OKv cx 27 [.agg (eRec exR2)] (.tup [.lst [[ai 9], [ai 21], [ai 12], [ai 5], [ai 0]], ab true, ai 0]) := c27
  have c48 := Suspects_some exR2 ex_check2 ex_cons2
  rw [ex_susp] at c48
  replace c48 : OKv cx 48 [.agg (eRec exR2)] (.tup [.lst [[ai 1]], .lst [[ai 0]], ai 0]) := c48
  have c28 := CheckClash_ok exR2 [9, 21, 12, 5, 0] (by simp)
  rw [ex_cc] at c28
  replace c28 : OKv cx 28 [.agg (eRec exR2), .lst [[ai 9], [ai 21], [ai 12], [ai 5], [ai 0]]] (ai 0) := c28
  have c66 := Needle_ok exRun 1007 (by simp [exRun])
  rw [ex_needle] at c66
  replace c66 : OKv cx 66 [.agg [ai 1000, ai 500000, .lst [[ai 100, ai 1000000]]], ai 1007] (.tup [ai 7, ai 0]) := c66
  have hex : exR2 = { exR with sights := [⟨1, ⟨2100, 2200⟩⟩] } := rfl
  rw [hex] at c27 c48 c28
  have hlen := ex_links
  have hsg : exR.sights = [] := rfl
  obtain ⟨R, hR⟩ : ∃ z, exR = z := ⟨_, rfl⟩
  rw [hR] at c76 c40 c34 c23 c60 c24 c53 d53 c27 c48 c28 hlen hsg
  replace c27 : OKv cx 27 [.agg [ai R.s.id, ai R.s.inn.lo, ai R.s.inn.hi, ai R.s.out.lo, ai R.s.out.hi, ai R.s.zero.lo, ai R.s.zero.hi, ai R.s.fin.lo, ai R.s.fin.hi, ai R.s.rate.lo, ai R.s.rate.hi, lStop R.s.stops, lStrike R.strikes, .lst [[ai 1, ai 2100, ai 2200]]]] (.tup [.lst [[ai 9], [ai 21], [ai 12], [ai 5], [ai 0]], ab true, ai 0]) := c27
  replace c48 : OKv cx 48 [.agg [ai R.s.id, ai R.s.inn.lo, ai R.s.inn.hi, ai R.s.out.lo, ai R.s.out.hi, ai R.s.zero.lo, ai R.s.zero.hi, ai R.s.fin.lo, ai R.s.fin.hi, ai R.s.rate.lo, ai R.s.rate.hi, lStop R.s.stops, lStrike R.strikes, .lst [[ai 1, ai 2100, ai 2200]]]] (.tup [.lst [[ai 1]], .lst [[ai 0]], ai 0]) := c48
  replace c28 : OKv cx 28 [.agg [ai R.s.id, ai R.s.inn.lo, ai R.s.inn.hi, ai R.s.out.lo, ai R.s.out.hi, ai R.s.zero.lo, ai R.s.zero.hi, ai R.s.fin.lo, ai R.s.fin.hi, ai R.s.rate.lo, ai R.s.rate.hi, lStop R.s.stops, lStrike R.strikes, .lst [[ai 1, ai 2100, ai 2200]]], .lst [[ai 9], [ai 21], [ai 12], [ai 5], [ai 0]]] (ai 0) := c28
  obtain ⟨LK, hLK⟩ : ∃ z, linksR R [] = z := ⟨_, rfl⟩
  rw [hLK] at c40 hlen
  have hlen' : (LK.length : Int) = 71 := by omega
  have hf1 : flatA (.tup [.lst [[ai 9], [ai 21], [ai 12], [ai 5], [ai 0]], ab true, ai 0]) = false := rfl
  have hf2 : flatA (.tup [.lst [[ai 1]], .lst [[ai 0]], ai 0]) = false := rfl
  have hf3 : flatA (.tup [ai 7, ai 0]) = true := rfl
  have hf4 : ∀ x, flatA (.v x) = true := fun _ => rfl
  refine OKat.of_body (rs := [0]) Try.func20 rfl (by decide +kernel) rfl (by simp [Try.ntmps20]) ?_
  simp only [Try.ntmps20]
  repeat' first
    | apply jA | apply jB | apply jC | apply jD | apply jE | apply jF | apply jG | apply jH | apply jI
    | ((first | (apply jK cx_ok; decide) | apply jM cx_ok | (apply jN; rfl; decide) | apply jR | apply jS cx_ok); (simp (disch := omega) only [push_cast, simprocAttr, natNe, zI, zG, zJ, rowAt_afterH, St.back, idsL, idsA, idsLL, yB, yA, zM, hlen', hf1, hf2, hf3, hf4, Option.map_some] <;> rfl); all_goals try ((with_reducible intro hI); try first | (cases hI; done) | (simp only [INTS, zL] at hI; try first | (exfalso; omega) | (have hT : True := hI; clear hT hI))))
    | (refine W.makeMap cx_ok (by simp only [push_cast, simprocAttr] <;> rfl) (by decide) ?_)
    | ((apply jV cx_ok; decide); (iterate 2 (simp (disch := omega) only [push_cast, simprocAttr, natNe, zI, zG, zJ, rowAt_afterH, St.back, idsL, idsA, idsLL, yB, yA, zM, hlen', hf1, hf2, hf3, hf4, Option.map_some] <;> rfl)); (with_reducible first | exact c76 | exact c40 | exact c34 | exact c23 | exact c60 | exact c24 | exact c53 | exact d53 | exact c37 | exact i1 | exact i0 | exact c27 | exact c48 | exact c28 | exact c66); try first | rfl | (simp (disch := omega) only [push_cast, simprocAttr, natNe, zI, zG, zJ, rowAt_afterH, St.back, idsL, idsA, idsLL, yB, yA, zM, hlen', hf1, hf2, hf3, hf4, Option.map_some] <;> rfl))
    | ((first | apply jf | apply jg); (iterate 2 (try (simp (disch := omega) only [push_cast, simprocAttr, natNe, zI, zG, zJ, rowAt_afterH, St.back, idsL, idsA, idsLL, yB, yA, zM, hlen', hf1, hf2, hf3, hf4, Option.map_some] <;> rfl))))

  all_goals (show _ = _; rfl)
end Go.Proofs.Ks

namespace Go.Proofs.Ks
open Go Go.Pg Go.Proofs Go.ChangeShapes Go.WideShapes Go.RowKit
section
variable {H : Type} {enc : TypeId × Value → H} {W : World} {spare : Nat → Bool} {held : Bool}
abbrev Old (W : World) : Nat → Prop := fun b => b < W.heap.size
def Reads (enc : TypeId × Value → H) (W : World) (spare : Nat → Bool) (held : Bool) (t : TypeId) {α : Type} (e : α → List AV) (good : α → Prop) : Prop :=
  ∀ fuel cs x, DataW.trod enc Try.prog W 0 spare held fuel t cs = some x → ∃ a, good a ∧ cs.length = (e a).length ∧ (∀ c ∈ e a, c.cell = true) ∧ RepL (pureSg (Old W)) W (e a) (fun i => cs[i]?)
theorem Reads.int {t : TypeId} {k : IntKind} (ht : Try.prog.underlying t = some (.int k)) : Reads enc W spare held t (fun n : Int => [AV.v (.int k n)]) (fun n => (Lit.int k n).wf = true) := by
  intro fuel cs x h
  obtain ⟨n, rfl, _, hw⟩ := DataW.trod_int ht h
  exact ⟨n, hw, rfl, by simp [AV.cell, Value.oneCell'], by simp [RepL, Rep]⟩
theorem Reads.bool {t : TypeId} (ht : Try.prog.underlying t = some .bool) : Reads enc W spare held t (fun b : Bool => [AV.v (.bool b)]) (fun _ => True) := by
  intro fuel cs x h
  obtain ⟨n, rfl, _⟩ := DataW.trod_bool ht h
  exact ⟨n, trivial, rfl, by simp [AV.cell, Value.oneCell'], by simp [RepL, Rep]⟩
theorem Reads.str {t : TypeId} (ht : Try.prog.underlying t = some .string) : Reads enc W spare held t (fun s : ByteArray => [AV.v (.string s)]) (fun s => s.size ≤ 9223372036854775807) := by
  intro fuel cs x h
  obtain ⟨n, rfl, _, hn⟩ := DataW.trod_string ht h
  exact ⟨n, by simpa [maxLen] using hn, rfl, by simp [AV.cell, Value.oneCell'], by simp [RepL, Rep]⟩
theorem Reads.slice {t e : TypeId} {α : Type} {f : α → List AV} {good : α → Prop} {k : Nat} (ht : Try.prog.underlying t = some (.slice e)) (hc : Try.prog.cellsOf e = k) (hk : 0 < k) (hlen : ∀ a, (f a).length = k)
    (hR : Reads enc W spare held e f good) : Reads enc W spare held t (fun l : List α => [AV.lst (l.map f)]) (fun l => (∀ a ∈ l, good a) ∧ l.length ≤ 9223372036854775807) := by
  intro fuel cs x h
  rcases DataW.trod_slice ht h with ⟨rfl, _⟩ | ⟨a, len, cap, elems, rest, n, _, rfl, _, _, hle, hcap, hlen', hel, _, _⟩
  · refine ⟨[], by simp, rfl, by simp [AV.cell], ?_⟩
    simp only [RepL, List.map_nil]
    refine ⟨⟨_, rfl, ?_⟩, trivial⟩
    simp only [Rep]
    exact ⟨none, 0, 0, rfl, by simp, by simp [maxLen], by simp, by simp⟩
  · rw [hc] at hel
    have key : ∀ i, i < len → ∃ b, good b ∧ (∀ c ∈ f b, c.cell = true) ∧ (∀ j, j < k → ∃ u, W.cell? ((a.add (i * k)).add j) = some u) ∧ RepL (pureSg (Old W)) W (f b) (fun j => W.cell? ((a.add (i * k)).add j)) := by
      intro i hi
      have := hel i hi
      obtain ⟨y, hy⟩ : ∃ y, elems[i]? = some y := ⟨_, List.getElem?_eq_getElem (by omega)⟩
      rw [hy] at this
      simp only [Option.bind_eq_some_iff] at this
      obtain ⟨cs', h1, h2⟩ := this
      obtain ⟨_, g2, g3⟩ := World.cells?_some h1
      obtain ⟨b, b1, b2, b3, b4⟩ := hR n cs' y h2
      refine ⟨b, b1, b3, fun j hj => ⟨cs'[j]'(by omega), by rw [g3 j hj, List.getElem?_eq_getElem (by omega)]⟩, RepL.congr (fun j hj => ?_) b4⟩
      rw [hlen] at hj
      exact (g3 j hj).symm
    let g : Fin len → α := fun i => Classical.choose (key i.1 i.2)
    have hg : ∀ i : Fin len, good (g i) ∧ (∀ c ∈ f (g i), c.cell = true) ∧ (∀ j, j < k → ∃ u, W.cell? ((a.add (i.1 * k)).add j) = some u) ∧ RepL (pureSg (Old W)) W (f (g i)) (fun j => W.cell? ((a.add (i.1 * k)).add j)) := fun i => Classical.choose_spec (key i.1 i.2)
    have hll : (List.ofFn g).length = len := by simp
    have hlm : ((List.ofFn g).map f).length = len := by simp
    refine ⟨List.ofFn g, ⟨fun b hb => ?_, by rw [hll]; simp only [maxLen] at hcap; omega⟩, rfl, by simp [AV.cell], ?_⟩
    · obtain ⟨i, hi⟩ := (List.mem_ofFn).1 hb
      rw [← hi]; exact (hg i).1
    · simp only [RepL]
      refine ⟨⟨_, rfl, ?_⟩, trivial⟩
      simp only [Rep]
      refine ⟨some a, cap, k, by rw [hlm], by rw [hlm]; exact hle, hcap, fun e he => ?_, fun hne => ?_⟩
      · obtain ⟨b, hb, rfl⟩ := List.mem_map.1 he
        obtain ⟨i, hi⟩ := (List.mem_ofFn).1 hb
        rw [← hi]; exact ⟨hlen _, (hg i).2.1⟩
      · have hpos : 0 < len := by
          rcases Nat.eq_zero_or_pos len with h0 | h0
          · exact absurd (List.eq_nil_of_length_eq_zero (by rw [hlm, h0])) hne
          · exact h0
        obtain ⟨u, hu⟩ := (hg ⟨0, hpos⟩).2.2.1 0 hk
        obtain ⟨b, o, spot⟩ := a
        have hspot : spot = none := by simpa [Addr.add] using World.cell?_spot hu
        subst hspot
        refine ⟨b, o, rfl, ?_, ?_⟩
        · show b < W.heap.size
          rcases Nat.lt_or_ge b W.heap.size with hb | hb
          · exact hb
          · have : W.heap[b]? = none := Array.getElem?_eq_none hb
            simp [World.cell?, Addr.add, this] at hu
        · rw [repLL_iff]
          intro i hi
          rw [hlm] at hi
          have he : ((List.ofFn g).map f)[i]'(by rw [hlm]; exact hi) = f (g ⟨i, hi⟩) := by simp
          rw [he]
          refine RepL.congr (fun j _ => ?_) (hg ⟨i, hi⟩).2.2.2
          rw [Addr.add_lit, Addr.add_lit]
theorem Reads.field {ft : TypeId} {α : Type} {e : α → AV} {good : α → Prop} {n off i : Nat} {cs : List Value} {xs : List (DataW H × List MemPlace)}
    (hR : Reads enc W spare held ft (fun a => [e a]) good) (h : DataW.trod enc Try.prog W 0 spare held n ft ((cs.drop off).take (Try.prog.cellsOf ft)) = xs[i]?) (hi : i < xs.length) :
    ∃ a, good a ∧ (e a).cell = true ∧ ∃ u, cs[off]? = some u ∧ Rep (pureSg (Old W)) W (e a) u := by
  rw [List.getElem?_eq_getElem hi] at h
  obtain ⟨a, h1, h2, h3, h4⟩ := hR _ _ _ h
  refine ⟨a, h1, h3 _ (by simp), ?_⟩
  simp only [RepL] at h4
  obtain ⟨⟨u, hu, hr⟩, _⟩ := h4
  refine ⟨u, ?_, hr⟩
  rw [List.getElem?_take] at hu
  split at hu
  · simpa using hu
  · cases hu
theorem i3 : Reads enc W spare held 3 eInt (fun n => (Lit.int .i64 n).wf = true) := Reads.int Try.underlying3
theorem Reads.fieldM {ft : TypeId} {α : Type} {e : α → List AV} {good : α → Prop} {n off i : Nat} {cs : List Value} {xs : List (DataW H × List MemPlace)}
    (hR : Reads enc W spare held ft e good) (h : DataW.trod enc Try.prog W 0 spare held n ft ((cs.drop off).take (Try.prog.cellsOf ft)) = xs[i]?) (hi : i < xs.length) :
    ∃ a, good a ∧ (∀ c ∈ e a, c.cell = true) ∧ RepL (pureSg (Old W)) W (e a) (fun j => cs[off + j]?) := by
  rw [List.getElem?_eq_getElem hi] at h
  obtain ⟨a, h1, h2, h3, h4⟩ := hR _ _ _ h
  refine ⟨a, h1, h3, ?_⟩
  rw [repL_iff] at h4 ⊢
  intro j hj
  obtain ⟨u, hu, hr⟩ := h4 j hj
  refine ⟨u, ?_, hr⟩
  rw [List.getElem?_take] at hu
  split at hu
  · simpa using hu
  · cases hu
theorem span_reads : Reads enc W spare held 23 eSpan (fun _ => True) := by
  intro fuel cs x h
  obtain ⟨xs, n, _, _, hl, hn, hf⟩ := DataW.trod_struct Try.underlying23 h
  have hn' : xs.length = 2 := hn
  obtain ⟨a, _, c1, u1, h1, r1⟩ := Reads.field (e := fun n : Int => ai n) i3 (hf 0 _ rfl) (by omega)
  obtain ⟨b, _, c2, u2, h2, r2⟩ := Reads.field (e := fun n : Int => ai n) i3 (hf 1 _ rfl) (by omega)
  refine ⟨⟨a, b⟩, trivial, hl.trans (by kernel_rfl), by simp [c1, c2], ?_⟩
  simp only [RepL]
  exact ⟨⟨u1, h1, r1⟩, ⟨u2, h2, r2⟩, trivial⟩
theorem stop_reads : Reads enc W spare held 68 eStop (fun _ => True) := by
  intro fuel cs x h
  obtain ⟨xs, n, _, _, hl, hn, hf⟩ := DataW.trod_struct Try.underlying68 h
  have hn' : xs.length = 2 := hn
  obtain ⟨a, _, c1, u1, h1, r1⟩ := Reads.field (e := fun n : Int => ai n) i3 (hf 0 _ rfl) (by omega)
  obtain ⟨b, _, c2, r2⟩ := Reads.fieldM (e := eSpan) span_reads (hf 1 _ rfl) (by omega)
  refine ⟨⟨a, b⟩, trivial, hl.trans (by kernel_rfl), by simp [AV.cell, Value.oneCell'], ?_⟩
  simp only [RepL] at r2 ⊢
  obtain ⟨⟨u2, h2, r2⟩, ⟨u3, h3, r3⟩, _⟩ := r2
  exact ⟨⟨u1, h1, r1⟩, ⟨u2, h2, r2⟩, ⟨u3, h3, r3⟩, trivial⟩
theorem strike_reads : Reads enc W spare held 60 eStrike (fun _ => True) := by
  intro fuel cs x h
  obtain ⟨xs, n, _, _, hl, hn, hf⟩ := DataW.trod_struct Try.underlying60 h
  have hn' : xs.length = 2 := hn
  obtain ⟨a, _, c1, u1, h1, r1⟩ := Reads.field (e := fun n : Int => ai n) i3 (hf 0 _ rfl) (by omega)
  obtain ⟨b, _, c2, r2⟩ := Reads.fieldM (e := eSpan) span_reads (hf 1 _ rfl) (by omega)
  refine ⟨⟨a, b⟩, trivial, hl.trans (by kernel_rfl), by simp [AV.cell, Value.oneCell'], ?_⟩
  simp only [RepL] at r2 ⊢
  obtain ⟨⟨u2, h2, r2⟩, ⟨u3, h3, r3⟩, _⟩ := r2
  exact ⟨⟨u1, h1, r1⟩, ⟨u2, h2, r2⟩, ⟨u3, h3, r3⟩, trivial⟩
theorem sight_reads : Reads enc W spare held 53 eSight (fun _ => True) := by
  intro fuel cs x h
  obtain ⟨xs, n, _, _, hl, hn, hf⟩ := DataW.trod_struct Try.underlying53 h
  have hn' : xs.length = 2 := hn
  obtain ⟨a, _, c1, u1, h1, r1⟩ := Reads.field (e := fun n : Int => ai n) i3 (hf 0 _ rfl) (by omega)
  obtain ⟨b, _, c2, r2⟩ := Reads.fieldM (e := eSpan) span_reads (hf 1 _ rfl) (by omega)
  refine ⟨⟨a, b⟩, trivial, hl.trans (by kernel_rfl), by simp [AV.cell, Value.oneCell'], ?_⟩
  simp only [RepL] at r2 ⊢
  obtain ⟨⟨u2, h2, r2⟩, ⟨u3, h3, r3⟩, _⟩ := r2
  exact ⟨⟨u1, h1, r1⟩, ⟨u2, h2, r2⟩, ⟨u3, h3, r3⟩, trivial⟩
theorem stops_reads : Reads enc W spare held 24 (fun l : List Stop => [.lst (l.map eStop)]) (fun l => (∀ a ∈ l, True) ∧ l.length ≤ 9223372036854775807) :=
  Reads.slice Try.underlying24 (k := 3) (by kernel_rfl) (by decide) (fun _ => rfl) stop_reads
theorem strikes_reads : Reads enc W spare held 27 (fun l : List Strike => [.lst (l.map eStrike)]) (fun l => (∀ a ∈ l, True) ∧ l.length ≤ 9223372036854775807) :=
  Reads.slice Try.underlying27 (k := 3) (by kernel_rfl) (by decide) (fun _ => rfl) strike_reads
theorem sights_reads : Reads enc W spare held 28 (fun l : List Sight => [.lst (l.map eSight)]) (fun l => (∀ a ∈ l, True) ∧ l.length ≤ 9223372036854775807) :=
  Reads.slice Try.underlying28 (k := 3) (by kernel_rfl) (by decide) (fun _ => rfl) sight_reads
theorem session_reads : Reads enc W spare held 26 eSession (fun s => s.stops.length ≤ 9223372036854775807) := by
  intro fuel cs x h
  obtain ⟨xs, n, _, _, hl, hn, hf⟩ := DataW.trod_struct Try.underlying26 h
  have hn' : xs.length = 7 := hn
  obtain ⟨a0, _, c0, u0, h0, r0⟩ := Reads.field (e := fun n : Int => ai n) i3 (hf 0 _ rfl) (by omega)
  obtain ⟨a1, _, _, r1⟩ := Reads.fieldM (e := eSpan) span_reads (hf 1 _ rfl) (by omega)
  obtain ⟨a2, _, _, r2⟩ := Reads.fieldM (e := eSpan) span_reads (hf 2 _ rfl) (by omega)
  obtain ⟨a3, _, _, r3⟩ := Reads.fieldM (e := eSpan) span_reads (hf 3 _ rfl) (by omega)
  obtain ⟨a4, _, _, r4⟩ := Reads.fieldM (e := eSpan) span_reads (hf 4 _ rfl) (by omega)
  obtain ⟨a5, _, _, r5⟩ := Reads.fieldM (e := eSpan) span_reads (hf 5 _ rfl) (by omega)
  obtain ⟨a6, g6, c6, u6, h6, r6⟩ := Reads.field (e := fun l : List Stop => .lst (l.map eStop)) stops_reads (hf 6 _ rfl) (by omega)
  refine ⟨⟨a0, a1, a2, a3, a4, a5, a6⟩, g6.2, hl.trans (by kernel_rfl), by simp [AV.cell, Value.oneCell'], ?_⟩
  simp only [RepL] at r1 r2 r3 r4 r5 ⊢
  obtain ⟨⟨v1, k1, p1⟩, ⟨w1, m1, q1⟩, _⟩ := r1
  obtain ⟨⟨v2, k2, p2⟩, ⟨w2, m2, q2⟩, _⟩ := r2
  obtain ⟨⟨v3, k3, p3⟩, ⟨w3, m3, q3⟩, _⟩ := r3
  obtain ⟨⟨v4, k4, p4⟩, ⟨w4, m4, q4⟩, _⟩ := r4
  obtain ⟨⟨v5, k5, p5⟩, ⟨w5, m5, q5⟩, _⟩ := r5
  exact ⟨⟨u0, h0, r0⟩, ⟨v1, k1, p1⟩, ⟨w1, m1, q1⟩, ⟨v2, k2, p2⟩, ⟨w2, m2, q2⟩, ⟨v3, k3, p3⟩, ⟨w3, m3, q3⟩, ⟨v4, k4, p4⟩, ⟨w4, m4, q4⟩, ⟨v5, k5, p5⟩, ⟨w5, m5, q5⟩, ⟨u6, h6, r6⟩, trivial⟩
theorem rec_reads : Reads enc W spare held 30 eRec (fun r => r.strikes.length ≤ 9223372036854775807 ∧ r.sights.length ≤ 9223372036854775807) := by
  intro fuel cs x h
  obtain ⟨xs, n, _, _, hl, hn, hf⟩ := DataW.trod_struct Try.underlying30 h
  have hn' : xs.length = 3 := hn
  obtain ⟨s, _, c0, r0⟩ := Reads.fieldM (e := eSession) session_reads (hf 0 _ rfl) (by omega)
  obtain ⟨a1, g1, c1, u1, h1, r1⟩ := Reads.field (e := fun l : List Strike => .lst (l.map eStrike)) strikes_reads (hf 1 _ rfl) (by omega)
  obtain ⟨a2, g2, c2, u2, h2, r2⟩ := Reads.field (e := fun l : List Sight => .lst (l.map eSight)) sights_reads (hf 2 _ rfl) (by omega)
  refine ⟨⟨s, a1, a2⟩, ⟨g1.2, g2.2⟩, hl.trans (by kernel_rfl), by simp [AV.cell, Value.oneCell'], ?_⟩
  simp only [RepL] at r0 ⊢
  obtain ⟨x0, x1, x2, x3, x4, x5, x6, x7, x8, x9, x10, x11, _⟩ := r0
  exact ⟨x0, x1, x2, x3, x4, x5, x6, x7, x8, x9, x10, x11, ⟨u1, h1, r1⟩, ⟨u2, h2, r2⟩, trivial⟩
variable {r : Reach} {base : Nat} {v : Value} {d : DataW H} {ps : List MemPlace}
theorem arg_rec (hv : Value.okWide Try.prog W r base 30 v) (h : DataW.Trod enc Try.prog W 0 spare held 30 v d ps) : ∃ a : Rec, (a.strikes.length ≤ 9223372036854775807 ∧ a.sights.length ≤ 9223372036854775807) ∧ Rep (pureSg (Old W)) W (.agg (eRec a)) v := by
  obtain ⟨arr, rfl, _⟩ := okWide_struct Try.underlying30 hv
  obtain ⟨fuel, hf⟩ := h
  obtain ⟨a, g, g1, g2, g3⟩ := rec_reads _ _ _ hf
  refine ⟨a, g, ?_⟩
  simp only [Rep]
  exact ⟨arr, rfl, by simpa [Value.cells] using g1, g2, by simpa [Value.cells] using g3⟩
theorem arg_one {t : TypeId} {α : Type} {e : α → AV} {good : α → Prop} (hR : Reads enc W spare held t (fun a => [e a]) good) (hv : v.cells = #[v]) (h : DataW.Trod enc Try.prog W 0 spare held t v d ps) : ∃ a, good a ∧ Rep (pureSg (Old W)) W (e a) v := by
  obtain ⟨fuel, hf⟩ := h
  rw [hv] at hf
  obtain ⟨a, g, g1, g2, g3⟩ := hR _ _ _ hf
  refine ⟨a, g, ?_⟩
  simp only [RepL] at g3
  obtain ⟨⟨u, hu, hr⟩, _⟩ := g3
  simp at hu
  subst hu; exact hr
theorem arg_ints (hv : Value.okWide Try.prog W r base 41 v) (h : DataW.Trod enc Try.prog W 0 spare held 41 v d ps) : ∃ l : List Int, l.length ≤ 9223372036854775807 ∧ (∀ n ∈ l, (Lit.int .i64 n).wf = true) ∧ Rep (pureSg (Old W)) W (lInt l) v := by
  obtain ⟨a, len, cap, rfl⟩ := okWide_slice Try.underlying41 hv
  obtain ⟨l, g, h⟩ := arg_one (e := fun l : List Int => lInt l) (Reads.slice Try.underlying41 (k := 1) (by kernel_rfl) (by decide) (fun _ => rfl) i3) rfl h
  exact ⟨l, g.2, g.1, h⟩
end
end Go.Proofs.Ks

namespace Go.Proofs.Ks
open Go Go.Pg Go.Proofs Go.ChangeShapes Go.WideShapes Go.ChangeAt Go.RowKit
section
variable {H : Type} {enc : TypeId × Value → H} {P : Program}
theorem post_below {f : Func} {s : ChangeSpec} {apart fresh handsOn again : Bool} {W W' : World} {args : Array Value} {v : Value} {ds gs : List (DataW H)} {before pa pv : List MemPlace}
    (hW : DataW.Whole enc P f.params.toList s.vars apart W args.toList ds gs before)
    (hres : ∀ (b : Nat) (sp : Nat → Bool) (hd : Bool), DataW.TrodAll enc P W' b sp hd f.resultTypes.toList (v.resultList f.resultTypes.size) (s.fn H (ds ++ gs)).results [])
    (hargs : ∀ sp : Nat → Bool, (∀ p ∈ before, sp p.block = true) → DataW.TrodAll enc P W' 0 sp true f.params.toList args.toList (s.fn H (ds ++ gs)).args pa)
    (hvars : ∀ sp : Nat → Bool, (∀ p ∈ before, sp p.block = true) → DataW.TrodVars enc P W' sp s.vars (s.fn H (ds ++ gs)).vars pv)
    (hps : before = pa ++ pv) (hb : Below W.heap.size W W')
    (hok : ∀ (j : Nat) (t : TypeId) (r : Value), f.resultTypes[j]? = some t → (v.resultList f.resultTypes.size)[j]? = some r → Value.okWide P W' .any 0 t r) :
    s.post enc P f apart fresh handsOn again W args v W' := by
  have hlt := hW.lt
  have hold : ∀ p ∈ before, (fun b => decide (b < W.heap.size)) p.block = true := fun p hp => by simpa using hlt p hp
  refine ⟨ds, gs, before, [], pa, pv, hW, hres _ _ _, hargs _ hold, hvars _ hold, World.keptBut_mono (fun p hp => ⟨hp, ?_⟩) (hb.frame (· ∈ before)), fun _ => ?_⟩
  · rw [hps, List.mem_append] at hp
    exact Or.inr hp
  · obtain ⟨_, _, _, _, _, hz, hn⟩ := hW
    refine ⟨hok, _, _, ([] ++ pa) ++ pv, ⟨[] ++ pa, pv, trodAll_append (hargs _ (fun _ _ => rfl)) (hres _ _ _), hvars _ (fun _ _ => rfl), rfl, ?_, ?_⟩, ?_⟩
    · intro b off hp
      have hp' : MemPlace.cell b off ∈ before := by rw [hps]; simpa using hp
      rw [hb.frozen (p := ⟨b, off, none⟩) (hlt _ hp')]
      exact hz b off hp'
    · intro ha
      have := hn ha
      rw [hps] at this
      simpa using this
    · intro p hp _
      rw [hps]
      simpa using hp
theorem laid_out : laidOutB Try.prog = true := by kernel_rfl
theorem stays_all {W W' : World} (hb : Below W.heap.size W W') (sp : Nat → Bool) : ∀ (ts : List TypeId) (vs : List Value) (ds : List (DataW H)) (ps : List MemPlace),
    (∀ t ∈ ts, Try.prog.readableRec t = true ∧ t < Try.prog.types.size) → DataW.TrodAll enc Try.prog W 0 (fun _ => true) true ts vs ds ps → (∀ x ∈ ps, x.block < W.heap.size) → (∀ x ∈ ps, sp x.block = true) →
    DataW.TrodAll enc Try.prog W' 0 sp true ts vs ds ps
  | [], [], [], ps, _, h, _, _ => h
  | t :: ts, v :: vs, d :: ds, ps, ht, ⟨p, q, h1, h2, e⟩, hlt, hsp => by
    subst e
    refine ⟨p, q, ?_, ?_, rfl⟩
    · exact WideElems.Trod_stays laid_out (ht t (by simp)).1 (ht t (by simp)).2 h1 (fun x hx => hb.same (hlt x (by simp [hx]))) (fun x hx => hsp x (by simp [hx]))
    · exact stays_all hb sp ts vs ds q (fun u hu => ht u (by simp [hu])) h2 (fun x hx => hlt x (by simp [hx])) (fun x hx => hsp x (by simp [hx]))
  | [], _ :: _, _, _, _, h, _, _ => h.elim
  | [], [], _ :: _, _, _, h, _, _ => h.elim
  | _ :: _, [], _, _, _, h, _, _ => h.elim
  | _ :: _, _ :: _, [], _, _, h, _, _ => h.elim
theorem law_post {fn : Func} {s : ChangeSpec} (hvars : s.vars = []) (hres : fn.resultTypes = #[4]) (hparams : (fn.params.toList.all fun t => Try.prog.readableRec t && decide (t < Try.prog.types.size)) = true)
    (hfn : ∀ ds : List (DataW H), ds.length = fn.params.toList.length → s.fn H ds = { results := [.lit (.bool true)], args := ds })
    {W W' : World} {args : Array Value} {ds gs : List (DataW H)} {before : List MemPlace} (hW : DataW.Whole enc Try.prog fn.params.toList s.vars false W args.toList ds gs before) (hb : Below W.heap.size W W') :
    s.post enc Try.prog fn false true false false W args (.bool true) W' := by
  have hlt := hW.lt
  have hW0 := hW
  obtain ⟨p, q, hA0, hV0, e, hfz, hnd⟩ := hW
  have hA : DataW.TrodAll enc Try.prog W 0 (fun _ => true) true fn.params.toList args.toList ds p := hA0
  have hV : DataW.TrodVars enc Try.prog W (fun _ => true) s.vars gs q := hV0
  rw [hvars] at hV
  obtain ⟨rfl, rfl⟩ := trodVars_none hV
  rw [List.append_nil] at e
  subst e
  have hs : s.fn H (ds ++ []) = { results := [.lit (.bool true)], args := ds } := by rw [List.append_nil]; exact hfn ds (Go.trodAll_length hA).2
  refine post_below (pa := before) (pv := []) hW0 (fun b sp hd => ?_) (fun sp hsp => ?_) (fun sp _ => ?_) (by simp) hb (ok_one hres rfl (okWide_bool_mk Try.underlying4 _))
  · rw [hs, hres]; exact trodAll_mk1 (shut_bool Try.underlying4 true)
  · rw [hs]
    refine stays_all hb sp _ _ _ _ (fun t ht => ?_) hA hlt hsp
    have := List.all_eq_true.1 hparams t ht
    simpa using this
  · rw [hs, hvars]; rfl
theorem run_true {f : FuncId} {avs : List AV} {W : World} {args : Array Value} (hok : OKv cx f avs (ab true)) (hE : cx.E W) (hs : args.size = avs.length) (hr : RepL (pureSg (Old W)) W avs (fun i => args[i]?)) :
    Calls Try.prog f args W fun e W' => e = .returned (.bool true) ∧ Below W.heap.size W W' := by
  refine (hok.2 W (Old W) args hE (fun b h => h) hs hr).mono ?_
  rintro e W' ⟨hb, v, r, he, hr, hv⟩
  subst hr
  simp only [Rep] at hv
  subst hv
  exact ⟨he, hb⟩
end
open Go.Proofs.Ytdlflcambboojaa
theorem own_knob : ownKnob Try.prog.godebug = none := by kernel_rfl
abbrev laid0 : List (String × DataW Unit) := Rows.clockBetweenRow.laid
theorem laid0_met (w : World) : laidMetH Try.prog laid0 w := by
  show laidMet Try.prog [] _
  exact ⟨[], rfl, List.nodup_nil, fun b off h => by cases h⟩
theorem door_met (os : Os) (args : Array Value) : laidMetH Try.prog laid0 ((World.doorLaid Try.prog 400 os).forCall (fun _ _ => 0) ⟨#[], args, []⟩).memory := by
  show laidMet Try.prog [] _
  exact ⟨[], rfl, List.nodup_nil, fun b off h => by cases h⟩
section
variable {H : Type} {enc : TypeId × Value → H} {P : Program} {W : World} {b : Nat} {sp : Nat → Bool} {held : Bool}
theorem trodAll_pop {t : TypeId} {ts : List TypeId} {vs : List Value} {ds : List (DataW H)} {ps : List MemPlace} (h : DataW.TrodAll enc P W b sp held (t :: ts) vs ds ps) :
    ∃ v vs' d ds' p q, vs = v :: vs' ∧ ds = d :: ds' ∧ DataW.Trod enc P W b sp held t v d p ∧ DataW.TrodAll enc P W b sp held ts vs' ds' q := by
  match vs, ds, h with
  | v :: vs, d :: ds, ⟨p, q, h1, h2, _⟩ => exact ⟨v, vs, d, ds, p, q, rfl, rfl, h1, h2⟩
theorem trodAll_end {vs : List Value} {ds : List (DataW H)} {ps : List MemPlace} (h : DataW.TrodAll enc P W b sp held [] vs ds ps) : vs = [] := by
  match vs, ds, h with
  | [], [], _ => rfl
end
end Go.Proofs.Ks
