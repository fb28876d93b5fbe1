/-
  Contracts of functions, proved by going through their code. No conditions.
-/
import Derived.Shelf.LaysM
import Derived.Test.YtmcchoalekmklaaGreatProg
import Derived.WalkKit
import Derived.Lib.Walk
import Derived.BigCall
import Derived.BigFrame
import Derived.ProofKit
import Derived.LaidMore
import Derived.OpenShut
import Derived.Carry
import Derived.Stop.Joined
import Derived.Test.YtmcchoalekmklaaGreatZai
import Derived.Test.YtmcchoalekmklaaGreatZbb
import Derived.Test.YtmcchoalekmklaaGreatZbc
import Derived.Test.YtmcchoalekmklaaGreatZbd
import Derived.Test.YtmcchoalekmklaaGreatZbf
import Derived.Test.YtmcchoalekmklaaGreatZbg
set_option linter.unusedVariables false
set_option linter.unusedSimpArgs false
namespace Go.Proofs.Hs
open Go Go.Pg Go.Proofs Go.Proofs.Yt Go.Proofs.Lab
theorem enter_le_iff {h : House} (hv : h.V) {g : Gate} (hg : g.OK h) {t u : Int} (h0 : 0 ≤ t) (h1 : t ≤ 1073741824) (hu0 : -1 ≤ u) (hu : u ≤ 1073741823) : enter h g t ≤ u ↔ t ≤ depart h g u := by
  have hs := hg.secs
  have hn := nextAt_ge hv hg h0 h1
  unfold enter depart
  by_cases hneg : u - g.secs < 0
  · rw [if_pos hneg]
    split <;> omega
  · rw [if_neg hneg]
    have key : h.nextAt g t ≤ u - g.secs ↔ t ≤ h.lastAt g (u - g.secs) := by
      unfold House.nextAt House.lastAt
      split
      · rename_i hd; exact next_le_iff (hv.door hd hg.door.2) h0 h1 (by omega) (by omega)
      · exact Iff.rfl
    split
    · have := lastAt_le hv hg (t := u - g.secs) (by omega)
      omega
    · rw [← key]; omega
theorem getD_lab {N : Net Gate} {row : List Int} {i : Nat} (hi : i < row.length) : N.lab row i = row.getD i 0 := by
  unfold Net.lab
  rw [List.getD_eq_getElem?_getD, List.getD_eq_getElem?_getD, List.getElem?_eq_getElem hi]; rfl
theorem arr_dep {h : House} (hv : h.V) {a b : Nat} (ha : a < h.rooms.length) (hb : b < h.rooms.length) {t u : Int} (ht : 0 ≤ t ∧ t ≤ 1073741823) (hu : 0 ≤ u ∧ u ≤ 1073741823) :
    (arrR h a t).getD b 0 ≤ u ↔ t ≤ (depR h b u).getD a 0 := by
  obtain ⟨l1, h1⟩ := arrR_is hv ha (t := t) ⟨ht.1, by omega⟩
  obtain ⟨l2, h2⟩ := depR_is hv hb (t := u) ⟨by omega, hu.2⟩
  rw [← getD_lab (N := arrN h) (by omega), ← getD_lab (N := depN h) (by omega)]
  generalize (arrN h).lab (arrR h a t) = R at *
  generalize (depN h).lab (depR h b u) = D at *
  have hDin : ∀ r, -1 ≤ D r ∧ D r ≤ 1073741823 := h2.closed.In
  have hRin : ∀ r, 0 ≤ R r ∧ R r ≤ 1073741824 := h1.closed.In
  have hDst : u ≤ D b := by have : -(D b) ≤ -u := h2.start; omega
  have hRst : R a ≤ t := h1.start
  constructor
  · intro hle
    rcases Int.lt_or_le (D a) t with hlt | hge
    · exfalso
      have hM : Closed (arrN h) (fun r => D r + 1) := by
        refine ⟨fun r => by have := hDin r; show 0 ≤ D r + 1 ∧ D r + 1 ≤ 1073741824; omega, fun g hg hl => ?_⟩
        show D g.to.toNat + 1 ≤ enter h g (D g.from'.toNat + 1)
        have hgo := gate_ok hv hg
        have hf := hDin g.from'.toNat
        have ht := hDin g.to.toNat
        have hl' : D g.from'.toNat + 1 < 1073741824 := hl
        rcases Int.lt_or_le (enter h g (D g.from'.toNat + 1)) (D g.to.toNat + 1) with hx | hx
        · exfalso
          have h3 := (enter_le_iff hv hgo (t := D g.from'.toNat + 1) (u := D g.to.toNat) (by omega) (by omega) (by omega) (by omega)).1 (by omega)
          have hto : -(D g.to.toNat) < -(-1) := by
            have := (enter_spec hv hgo (t := D g.from'.toNat + 1) (by omega) (by omega)).1
            omega
          have h4 : -(D g.from'.toNat) ≤ -(depart h g (D g.to.toNat)) := h2.closed.rel g hg hto
          omega
        · exact hx
      have := h1.most (arrN_ok hv) hM (by show D a + 1 ≤ t; omega) b
      have h5 : D b + 1 ≤ R b := this
      omega
    · exact hge
  · intro hle
    rcases Int.lt_or_le u (R b) with hlt | hge
    · exfalso
      have hM : Closed (depN h) (fun r => R r - 1) := by
        refine ⟨fun r => by have := hRin r; show -1 ≤ R r - 1 ∧ R r - 1 ≤ 1073741823; omega, fun g hg hl => ?_⟩
        show -(R g.from'.toNat - 1) ≤ -(depart h g (R g.to.toNat - 1))
        have hgo := gate_ok hv hg
        have hf := hRin g.from'.toNat
        have ht := hRin g.to.toNat
        have hl' : -(R g.to.toNat - 1) < -(-1) := hl
        rcases Int.lt_or_le (R g.from'.toNat - 1) (depart h g (R g.to.toNat - 1)) with hx | hx
        · exfalso
          have hlt : R g.from'.toNat < 1073741824 := by
            have := (depart_spec hv hgo (t := R g.to.toNat - 1) (by omega)).2
            omega
          have h3 := (enter_le_iff hv hgo (t := R g.from'.toNat) (u := R g.to.toNat - 1) (by omega) (by omega) (by omega) (by omega)).2 (by omega)
          have h4 : R g.to.toNat ≤ enter h g (R g.from'.toNat) := h1.closed.rel g hg hlt
          omega
        · omega
      have := h2.most (depN_ok hv) hM (by show -(R b - 1) ≤ -u; omega) a
      have h5 : -(R a - 1) ≤ -(D a) := this
      omega
    · exact hge
theorem arr_mono {h : House} (hv : h.V) {a : Nat} (ha : a < h.rooms.length) {t u : Int} (h0 : 0 ≤ t) (htu : t ≤ u) (hu : u ≤ 1073741824) (r : Nat) : (arrN h).lab (arrR h a t) r ≤ (arrN h).lab (arrR h a u) r := by
  obtain ⟨l1, h1⟩ := arrR_is hv ha (t := t) ⟨h0, by omega⟩
  obtain ⟨l2, h2⟩ := arrR_is hv ha (t := u) ⟨by omega, hu⟩
  exact h2.most (arrN_ok hv) h1.closed (by have : (arrN h).lab (arrR h a t) a ≤ t := h1.start; show (arrN h).lab (arrR h a t) a ≤ u; omega) r
end Go.Proofs.Hs

set_option maxHeartbeats 8000000
set_option maxRecDepth 10000
namespace Go.Proofs.Hs
open Go Go.Pg Go.Proofs Go.Proofs.Yt
open Lab in
theorem isWall_iff {h : House} (hv : h.V) {a ta b tb : Int} {l : List Int} (ha : 0 ≤ a ∧ a < (h.rooms.length : Int)) (hb : 0 ≤ b ∧ b < (h.rooms.length : Int)) :
    isWall h a ta b tb l = true ↔ l.length = h.rooms.length ∧ Closed (arrN h) ((arrN h).lab l) ∧ (arrN h).lab l a.toNat ≤ ta ∧ tb < (arrN h).lab l b.toNat := by
  by_cases hl : l.length = h.rooms.length
  · have e1 : (arrN h).lab l a.toNat = l.getD a.toNat 0 := getD_lab (by omega)
    have e2 : (arrN h).lab l b.toNat = l.getD b.toNat 0 := getD_lab (by omega)
    have e3 : ∀ g ∈ gates h, (arrN h).lab l g.from'.toNat = l.getD g.from'.toNat 0 ∧ (arrN h).lab l g.to.toNat = l.getD g.to.toNat 0 := fun g hg => by
      have hgo := gate_ok hv hg
      have h1 := hgo.from'
      have h2 := hgo.to
      exact ⟨getD_lab (by omega), getD_lab (by omega)⟩
    simp only [isWall, Bool.and_eq_true, decide_eq_true_eq, List.all_eq_true, neverB, e1, e2, hl, true_and]
    constructor
    · rintro ⟨hin, hs, he, hg⟩
      refine ⟨⟨lab_in (arrN_ok hv) (fun x hx => hin x hx), fun g hgg hlt => ?_⟩, hs, he⟩
      obtain ⟨f1, f2⟩ := e3 g hgg
      have hin' := lab_in (arrN_ok hv) (row := l) (fun x hx => hin x hx)
      have hf := hg g hgg
      have i1 : 0 ≤ l.getD g.from'.toNat 0 := by have := (hin' g.from'.toNat).1; rw [f1] at this; exact this
      change (arrN h).lab l g.to.toNat ≤ enter h g ((arrN h).lab l g.from'.toNat)
      change (arrN h).lab l g.from'.toNat < 1073741824 at hlt
      rw [f1] at hlt
      rw [f1, f2]
      simp only [fineG, timeB, Bool.not_eq_true', Bool.and_eq_false_iff, decide_eq_false_iff_not] at hf
      omega
    · rintro ⟨hc, hs, he⟩
      refine ⟨fun x hx => ?_, hs, he, fun g hgg => ?_⟩
      · obtain ⟨i, hi, rfl⟩ := List.getElem_of_mem hx
        have := hc.In i
        have e4 : (arrN h).lab l i = l[i] := by rw [getD_lab hi, List.getD_eq_getElem?_getD, List.getElem?_eq_getElem hi]; rfl
        rw [e4] at this
        exact this
      · obtain ⟨f1, f2⟩ := e3 g hgg
        have hr := hc.rel g hgg
        change (arrN h).lab l g.from'.toNat < 1073741824 → (arrN h).lab l g.to.toNat ≤ enter h g ((arrN h).lab l g.from'.toNat) at hr
        rw [f1, f2] at hr
        simp only [fineG, timeB, Bool.not_eq_true', Bool.and_eq_false_iff, decide_eq_false_iff_not]
        omega
  · constructor
    · intro h1
      simp only [isWall, Bool.and_eq_true, decide_eq_true_eq] at h1
      exact absurd h1.1 hl
    · exact fun h1 => absurd h1.1 hl
end Go.Proofs.Hs

namespace Go.Proofs.Hs
open Go Go.Pg Go.Proofs Go.Proofs.Yt
open Lab in
theorem nowall {h : House} (hv : h.V) {a ta b tb : Int} {l : List Int} (ha : 0 ≤ a ∧ a < (h.rooms.length : Int)) (hb : 0 ≤ b ∧ b < (h.rooms.length : Int)) (ht : 0 ≤ ta ∧ ta ≤ 1073741823) (hle : (arrH h a.toNat ta).1.getD b.toNat 0 ≤ tb) : isWall h a ta b tb l = false := by
  cases hq : isWall h a ta b tb l with
  | false => rfl
  | true =>
    obtain ⟨h1, h2, h3, h4⟩ := (isWall_iff hv ha hb).1 hq
    rw [arrH_eq hv ha ht] at hle
    obtain ⟨hl, hi⟩ := arrR_is hv (a := a.toNat) (by omega) (t := ta) (by omega)
    have h5 : (arrN h).lab l b.toNat ≤ (arrN h).lab (arrR h a.toNat ta) b.toNat := hi.most (arrN_ok hv) h2 h3 b.toNat
    rw [getD_lab (row := arrR h a.toNat ta) (by omega)] at h5
    omega
theorem canBack {h : House} (hv : h.V) {a ta b tb : Int} (ha : 0 ≤ a ∧ a < (h.rooms.length : Int)) (hb : 0 ≤ b ∧ b < (h.rooms.length : Int)) (ht : 0 ≤ ta ∧ ta ≤ 1073741823) (hu : 0 ≤ tb ∧ tb ≤ 1073741823) : (arrH h a.toNat ta).1.getD b.toNat 0 ≤ tb ↔ ta ≤ (late h b.toNat tb).getD a.toNat 0 := by
  rw [arrH_eq hv ha ht, late_is hv (by omega) hu]
  exact arr_dep hv (by omega) (by omega) ht hu
end Go.Proofs.Hs

namespace Go.Proofs.Hs
open Go Go.Pg Go.Proofs Go.Proofs.Yt Go.Proofs.Lab
theorem askedR_mem {h : House} {way : Int} {back : Bool} {t : Int} (he : (askedR h way back t).2 = 0) : (askedR h way back t).1 ∈ gates h := by
  rw [← gateAsked_eq] at he ⊢
  unfold gateAsked at he ⊢
  split at he
  · rename_i hc; exact absurd he hc
  · rename_i hc
    rw [if_neg hc]
    split at he
    · cases he
    · rename_i hw
      rw [if_neg hw]
      split at he
      · cases he
      · rename_i hi
        rw [if_neg hi]
        have := idxG_lo (isG way back) (gates h)
        have hlt : (idxG (isG way back) 0 (gates h)).toNat < (gates h).length := by omega
        dsimp only
        rw [List.getD_eq_getElem?_getD, List.getElem?_eq_getElem hlt]
        exact List.getElem_mem hlt
theorem open_nextAt {h : House} (hv : h.V) {g : Gate} (hg : g.OK h) {t : Int} (h0 : 0 ≤ t) (h1 : t ≤ 1073741823) (ho : 0 ≤ g.door → openR (h.door g.door) t = true) : h.nextAt g t = t := by
  unfold House.nextAt
  split
  · rename_i hd; exact (next_open (hv.door hd hg.door.2) h0 h1).2 (ho hd)
  · rfl
theorem stepR_zero {h : House} {a t : Int} {s : Step} (he : (stepR h a t s).2.2 = 0) : (Check h).1 = 0 ∧ ∃ g ∈ gates h, g.from' = a ∧ t ≤ s.at' ∧ (0 ≤ s.at') ∧ s.at' + g.secs ≤ 1073741823 ∧ (0 ≤ g.door → openR (h.door g.door) s.at' = true) ∧ stepR h a t s = (g.to, s.at' + g.secs, 0) := by
  unfold stepR at he ⊢
  split at he
  · cases he
  · rename_i h1
    have h1' : (askedR h s.way s.back s.at').2 = 0 := by simpa using h1
    obtain ⟨hc, ht, hgo⟩ := askedR_ok h1'
    rw [if_neg h1]
    split at he
    · cases he
    · rename_i h2
      rw [if_neg h2]
      split at he
      · cases he
      · rename_i h3
        rw [if_neg h3]
        split at he
        · cases he
        · rename_i h4
          rw [if_neg h4]
          split at he
          · cases he
          · rename_i h5
            rw [if_neg h5]
            refine ⟨hc, _, askedR_mem h1', by simpa using h2, by omega, ht.1, by omega, fun hd => ?_, rfl⟩
            by_cases ho : openR (h.door (askedR h s.way s.back s.at').1.door) s.at' = true
            · exact ho
            · exact absurd ⟨hd, ho⟩ h4
theorem walk_low {h : House} (hv : h.V) : ∀ (l : List Step) {a t b u : Int}, (0 ≤ a ∧ a < (h.rooms.length : Int)) → (0 ≤ t ∧ t ≤ 1073741823) → walkR h l a t = (b, u, 0) →
    (0 ≤ b ∧ b < (h.rooms.length : Int)) ∧ t ≤ u ∧ u ≤ 1073741823 ∧ ∀ M, Closed (arrN h) M → M a.toNat ≤ t → M b.toNat ≤ u
  | [], a, t, b, u, ha, ht, hw => by
    simp only [walkR, Prod.mk.injEq] at hw
    obtain ⟨rfl, rfl, _⟩ := hw
    exact ⟨ha, Int.le_refl _, ht.2, fun M _ h => h⟩
  | x :: l, a, t, b, u, ha, ht, hw => by
    unfold walkR at hw
    by_cases hx : (stepR h a t x).2.2 ≠ 0
    · rw [if_pos hx] at hw
      simp only [Prod.mk.injEq] at hw
      exact absurd hw.2.2 hx
    · rw [if_neg hx] at hw
      obtain ⟨_, g, hg, hf, h1, h2, h3, h4, h5⟩ := stepR_zero (by simpa using hx)
      have hgo := gate_ok hv hg
      have hto := hgo.to
      have hsec := hgo.secs
      rw [h5] at hw
      dsimp only at hw
      obtain ⟨i1, i2, i3, i4⟩ := walk_low hv l hto ⟨by omega, by omega⟩ hw
      refine ⟨i1, by omega, i3, fun M hM hs => i4 M hM ?_⟩
      have hin : 0 ≤ M g.from'.toNat ∧ M g.from'.toNat ≤ 1073741824 := hM.In _
      have hle : M g.from'.toNat ≤ t := by rw [hf]; exact hs
      have hr : M g.to.toNat ≤ enter h g (M g.from'.toNat) := hM.rel g hg (by show M g.from'.toNat < 1073741824; omega)
      have hm := enter_mono hv hgo (t := M g.from'.toNat) (u := x.at') hin.1 (by omega) (by omega)
      have he : enter h g x.at' = x.at' + g.secs := by unfold enter; rw [open_nextAt hv hgo h2 (by omega) h4, if_neg (by omega)]
      omega
theorem walk_arr {h : House} (hv : h.V) {l : List Step} {a t b u : Int} (ha : 0 ≤ a ∧ a < (h.rooms.length : Int)) (ht : 0 ≤ t ∧ t ≤ 1073741823) (hw : walkR h l a t = (b, u, 0)) : (arrR h a.toNat t).getD b.toNat 0 ≤ u := by
  obtain ⟨hb, _, _, hM⟩ := walk_low hv l ha ht hw
  obtain ⟨hl, hi⟩ := arrR_is hv (a := a.toNat) (by omega) (t := t) (by omega)
  rw [← getD_lab (N := arrN h) (by omega)]
  exact hM _ hi.closed hi.start
structure ByOK (h : House) (a : Nat) (row : List Int) (by' : List Gate) : Prop where
  len : row.length = h.rooms.length ∧ by'.length = h.rooms.length
  bound : ∀ x ∈ row, -1 ≤ x ∧ x ≤ 1073741823
  way : ∀ r, r < h.rooms.length → r ≠ a → 0 ≤ row.getD r 0 → by'.getD r .zero ∈ gates h ∧ (by'.getD r .zero).to.toNat = r ∧ 0 ≤ row.getD (by'.getD r .zero).from'.toNat 0 ∧
    0 ≤ nextH h (by'.getD r .zero) (row.getD (by'.getD r .zero).from'.toNat 0) ∧ nextH h (by'.getD r .zero) (row.getD (by'.getD r .zero).from'.toNat 0) ≤ row.getD r 0
structure Came (h : House) (a : Nat) (t : Int) (R : List Int) (B : List Gate) : Prop where
  len : R.length = h.rooms.length
  bound : ∀ r, r < h.rooms.length → t ≤ R.getD r 0 ∧ R.getD r 0 ≤ 1073741824
  start : R.getD a 0 = t
  way : ∀ r, r < h.rooms.length → r ≠ a → R.getD r 0 < 1073741824 → B.getD r .zero ∈ gates h ∧ (B.getD r .zero).to.toNat = r ∧
    R.getD (B.getD r .zero).from'.toNat 0 < 1073741824 ∧ enter h (B.getD r .zero) (R.getD (B.getD r .zero).from'.toNat 0) = R.getD r 0
end Go.Proofs.Hs

namespace Go.Proofs.Hs
open Go Go.Pg Go.Proofs Go.Proofs.Yt Go.Proofs.Lab
def isRoom (h : House) (n : Int) : Prop := 0 ≤ n ∧ n < (h.rooms.length : Int)
theorem arr_monoD {h : House} (hv : h.V) {p b : Int} (hp : isRoom h p) (hb : isRoom h b) {t u : Int} (h0 : 0 ≤ t) (htu : t ≤ u) (hu : u ≤ 1073741824) : (arrR h p.toNat t).getD b.toNat 0 ≤ (arrR h p.toNat u).getD b.toNat 0 := by
  unfold isRoom at hp hb
  obtain ⟨l1, _⟩ := arrR_is hv (a := p.toNat) (by omega) (t := t) (by omega)
  obtain ⟨l2, _⟩ := arrR_is hv (a := p.toNat) (by omega) (t := u) (by omega)
  have := arr_mono hv (a := p.toNat) (by omega) h0 htu hu b.toNat
  rwa [getD_lab (by omega), getD_lab (by omega)] at this
end Go.Proofs.Hs

set_option maxRecDepth 100000
namespace Go.Proofs.Hs
open Go Go.Pg Go.Proofs Go.Proofs.Yt Go.ChangeShapes Go.WideShapes Go.RowKit
section
variable {H : Type} {enc : TypeId × Value → H} {W : World} {spare : Nat → Bool} {held : Bool}
abbrev Old (W : World) : Nat → Prop := fun b => b < W.heap.size
def Reads (enc : TypeId × Value → H) (W : World) (spare : Nat → Bool) (held : Bool) (t : TypeId) {α : Type} (e : α → List AV) (good : α → Prop) : Prop :=
  ∀ fuel cs x, DataW.trod enc Tryz.prog W 0 spare held fuel t cs = some x → ∃ a, good a ∧ cs.length = (e a).length ∧ (∀ c ∈ e a, c.cell = true) ∧ RepL (pureSg (Old W)) W (e a) (fun i => cs[i]?)
theorem Reads.int {t : TypeId} {k : IntKind} (ht : Tryz.prog.underlying t = some (.int k)) : Reads enc W spare held t (fun n : Int => [AV.v (.int k n)]) (fun n => (Lit.int k n).wf = true) := by
  intro fuel cs x h
  obtain ⟨n, rfl, _, hw⟩ := DataW.trod_int ht h
  exact ⟨n, hw, rfl, by simp [AV.cell, Value.oneCell'], by simp [RepL, Rep]⟩
theorem Reads.bool {t : TypeId} (ht : Tryz.prog.underlying t = some .bool) : Reads enc W spare held t (fun b : Bool => [AV.v (.bool b)]) (fun _ => True) := by
  intro fuel cs x h
  obtain ⟨n, rfl, _⟩ := DataW.trod_bool ht h
  exact ⟨n, trivial, rfl, by simp [AV.cell, Value.oneCell'], by simp [RepL, Rep]⟩
theorem Reads.str {t : TypeId} (ht : Tryz.prog.underlying t = some .string) : Reads enc W spare held t (fun s : ByteArray => [AV.v (.string s)]) (fun s => s.size ≤ 9223372036854775807) := by
  intro fuel cs x h
  obtain ⟨n, rfl, _, hn⟩ := DataW.trod_string ht h
  exact ⟨n, by simpa [maxLen] using hn, rfl, by simp [AV.cell, Value.oneCell'], by simp [RepL, Rep]⟩
theorem Reads.slice {t e : TypeId} {α : Type} {f : α → List AV} {good : α → Prop} {k : Nat} (ht : Tryz.prog.underlying t = some (.slice e)) (hc : Tryz.prog.cellsOf e = k) (hk : 0 < k) (hlen : ∀ a, (f a).length = k)
    (hR : Reads enc W spare held e f good) : Reads enc W spare held t (fun l : List α => [AV.lst (l.map f)]) (fun l => (∀ a ∈ l, good a) ∧ l.length ≤ 9223372036854775807) := by
  intro fuel cs x h
  rcases DataW.trod_slice ht h with ⟨rfl, _⟩ | ⟨a, len, cap, elems, rest, n, _, rfl, _, _, hle, hcap, hlen', hel, _, _⟩
  · refine ⟨[], by simp, rfl, by simp [AV.cell], ?_⟩
    simp only [RepL, List.map_nil]
    refine ⟨⟨_, rfl, ?_⟩, trivial⟩
    simp only [Rep]
    exact ⟨none, 0, 0, rfl, by simp, by simp [maxLen], by simp, by simp⟩
  · rw [hc] at hel
    have key : ∀ i, i < len → ∃ b, good b ∧ (∀ c ∈ f b, c.cell = true) ∧ (∀ j, j < k → ∃ u, W.cell? ((a.add (i * k)).add j) = some u) ∧ RepL (pureSg (Old W)) W (f b) (fun j => W.cell? ((a.add (i * k)).add j)) := by
      intro i hi
      have := hel i hi
      obtain ⟨y, hy⟩ : ∃ y, elems[i]? = some y := ⟨_, List.getElem?_eq_getElem (by omega)⟩
      rw [hy] at this
      simp only [Option.bind_eq_some_iff] at this
      obtain ⟨cs', h1, h2⟩ := this
      obtain ⟨_, g2, g3⟩ := World.cells?_some h1
      obtain ⟨b, b1, b2, b3, b4⟩ := hR n cs' y h2
      refine ⟨b, b1, b3, fun j hj => ⟨cs'[j]'(by omega), by rw [g3 j hj, List.getElem?_eq_getElem (by omega)]⟩, RepL.congr (fun j hj => ?_) b4⟩
      rw [hlen] at hj
      exact (g3 j hj).symm
    let g : Fin len → α := fun i => Classical.choose (key i.1 i.2)
    have hg : ∀ i : Fin len, good (g i) ∧ (∀ c ∈ f (g i), c.cell = true) ∧ (∀ j, j < k → ∃ u, W.cell? ((a.add (i.1 * k)).add j) = some u) ∧ RepL (pureSg (Old W)) W (f (g i)) (fun j => W.cell? ((a.add (i.1 * k)).add j)) := fun i => Classical.choose_spec (key i.1 i.2)
    have hll : (List.ofFn g).length = len := by simp
    have hlm : ((List.ofFn g).map f).length = len := by simp
    refine ⟨List.ofFn g, ⟨fun b hb => ?_, by rw [hll]; simp only [maxLen] at hcap; omega⟩, rfl, by simp [AV.cell], ?_⟩
    · obtain ⟨i, hi⟩ := (List.mem_ofFn).1 hb
      rw [← hi]; exact (hg i).1
    · simp only [RepL]
      refine ⟨⟨_, rfl, ?_⟩, trivial⟩
      simp only [Rep]
      refine ⟨some a, cap, k, by rw [hlm], by rw [hlm]; exact hle, hcap, fun e he => ?_, fun hne => ?_⟩
      · obtain ⟨b, hb, rfl⟩ := List.mem_map.1 he
        obtain ⟨i, hi⟩ := (List.mem_ofFn).1 hb
        rw [← hi]; exact ⟨hlen _, (hg i).2.1⟩
      · have hpos : 0 < len := by
          rcases Nat.eq_zero_or_pos len with h0 | h0
          · exact absurd (List.eq_nil_of_length_eq_zero (by rw [hlm, h0])) hne
          · exact h0
        obtain ⟨u, hu⟩ := (hg ⟨0, hpos⟩).2.2.1 0 hk
        obtain ⟨b, o, spot⟩ := a
        have hspot : spot = none := by simpa [Addr.add] using World.cell?_spot hu
        subst hspot
        refine ⟨b, o, rfl, ?_, ?_⟩
        · show b < W.heap.size
          rcases Nat.lt_or_ge b W.heap.size with hb | hb
          · exact hb
          · have : W.heap[b]? = none := Array.getElem?_eq_none hb
            simp [World.cell?, Addr.add, this] at hu
        · rw [repLL_iff]
          intro i hi
          rw [hlm] at hi
          have he : ((List.ofFn g).map f)[i]'(by rw [hlm]; exact hi) = f (g ⟨i, hi⟩) := by simp
          rw [he]
          refine RepL.congr (fun j _ => ?_) (hg ⟨i, hi⟩).2.2.2
          rw [Addr.add_lit, Addr.add_lit]
theorem Reads.field {ft : TypeId} {α : Type} {e : α → AV} {good : α → Prop} {n off i : Nat} {cs : List Value} {xs : List (DataW H × List MemPlace)}
    (hR : Reads enc W spare held ft (fun a => [e a]) good) (h : DataW.trod enc Tryz.prog W 0 spare held n ft ((cs.drop off).take (Tryz.prog.cellsOf ft)) = xs[i]?) (hi : i < xs.length) :
    ∃ a, good a ∧ (e a).cell = true ∧ ∃ u, cs[off]? = some u ∧ Rep (pureSg (Old W)) W (e a) u := by
  rw [List.getElem?_eq_getElem hi] at h
  obtain ⟨a, h1, h2, h3, h4⟩ := hR _ _ _ h
  refine ⟨a, h1, h3 _ (by simp), ?_⟩
  simp only [RepL] at h4
  obtain ⟨⟨u, hu, hr⟩, _⟩ := h4
  refine ⟨u, ?_, hr⟩
  rw [List.getElem?_take] at hu
  split at hu
  · simpa using hu
  · cases hu
theorem i3 : Reads enc W spare held 3 eInt (fun n => (Lit.int .i64 n).wf = true) := Reads.int Tryz.underlying3
theorem span_reads : Reads enc W spare held 29 eSpan (fun _ => True) := by
  intro fuel cs x h
  obtain ⟨xs, n, _, _, hl, hn, hf⟩ := DataW.trod_struct Tryz.underlying29 h
  have hn' : xs.length = 2 := hn
  obtain ⟨a, _, c1, u1, h1, r1⟩ := Reads.field (e := fun n : Int => ai n) i3 (hf 0 _ rfl) (by omega)
  obtain ⟨b, _, c2, u2, h2, r2⟩ := Reads.field (e := fun n : Int => ai n) i3 (hf 1 _ rfl) (by omega)
  refine ⟨⟨a, b⟩, trivial, hl.trans (by kernel_rfl), by simp [c1, c2], ?_⟩
  simp only [RepL]
  exact ⟨⟨u1, h1, r1⟩, ⟨u2, h2, r2⟩, trivial⟩
theorem spans_reads : Reads enc W spare held 71 (fun l : List Span => [lSpan l]) (fun l => (∀ a ∈ l, True) ∧ l.length ≤ 9223372036854775807) :=
  Reads.slice Tryz.underlying71 (k := 2) (by kernel_rfl) (by decide) (fun _ => rfl) span_reads
theorem door_reads : Reads enc W spare held 129 eDoor (fun d => d.hours.length ≤ 9223372036854775807 ∧ d.shut.length ≤ 9223372036854775807) := by
  intro fuel cs x h
  obtain ⟨xs, n, _, _, hl, hn, hf⟩ := DataW.trod_struct Tryz.underlying129 h
  have hn' : xs.length = 2 := hn
  obtain ⟨a, ga, c1, u1, h1, r1⟩ := Reads.field (e := fun l : List Span => lSpan l) spans_reads (hf 0 _ rfl) (by omega)
  obtain ⟨b, gb, c2, u2, h2, r2⟩ := Reads.field (e := fun l : List Span => lSpan l) spans_reads (hf 1 _ rfl) (by omega)
  refine ⟨⟨a, b⟩, ⟨ga.2, gb.2⟩, hl.trans (by kernel_rfl), by simp [c1, c2], ?_⟩
  simp only [RepL]
  exact ⟨⟨u1, h1, r1⟩, ⟨u2, h2, r2⟩, trivial⟩
theorem room_reads : Reads enc W spare held 91 eRoom (fun r => r.name.size ≤ 9223372036854775807) := by
  intro fuel cs x h
  obtain ⟨xs, n, _, _, hl, hn, hf⟩ := DataW.trod_struct Tryz.underlying91 h
  have hn' : xs.length = 2 := hn
  obtain ⟨a, ha, c1, u1, h1, r1⟩ := Reads.field (e := fun s : ByteArray => at_ s) (Reads.str Tryz.underlying9) (hf 0 _ rfl) (by omega)
  obtain ⟨b, _, c2, u2, h2, r2⟩ := Reads.field (e := fun n : Int => ai n) i3 (hf 1 _ rfl) (by omega)
  refine ⟨⟨a, b⟩, ha, hl.trans (by kernel_rfl), by simp [c1, c2], ?_⟩
  simp only [RepL]
  exact ⟨⟨u1, h1, r1⟩, ⟨u2, h2, r2⟩, trivial⟩
theorem way_reads : Reads enc W spare held 93 eWay (fun _ => True) := by
  intro fuel cs x h
  obtain ⟨xs, n, _, _, hl, hn, hf⟩ := DataW.trod_struct Tryz.underlying93 h
  have hn' : xs.length = 5 := hn
  obtain ⟨a0, _, c0, u0, h0, r0⟩ := Reads.field (e := fun n : Int => ai n) i3 (hf 0 _ rfl) (by omega)
  obtain ⟨a1, _, c1, u1, h1, r1⟩ := Reads.field (e := fun n : Int => ai n) i3 (hf 1 _ rfl) (by omega)
  obtain ⟨a2, _, c2, u2, h2, r2⟩ := Reads.field (e := fun n : Int => ai n) i3 (hf 2 _ rfl) (by omega)
  obtain ⟨a3, _, c3, u3, h3, r3⟩ := Reads.field (e := fun n : Int => ai n) i3 (hf 3 _ rfl) (by omega)
  obtain ⟨a4, _, c4, u4, h4, r4⟩ := Reads.field (e := fun n : Int => ai n) i3 (hf 4 _ rfl) (by omega)
  refine ⟨⟨a0, a1, a2, a3, a4⟩, trivial, hl.trans (by kernel_rfl), by simp [c0, c1, c2, c3, c4], ?_⟩
  simp only [RepL]
  exact ⟨⟨u0, h0, r0⟩, ⟨u1, h1, r1⟩, ⟨u2, h2, r2⟩, ⟨u3, h3, r3⟩, ⟨u4, h4, r4⟩, trivial⟩
theorem step_reads : Reads enc W spare held 68 eStep (fun _ => True) := by
  intro fuel cs x h
  obtain ⟨xs, n, _, _, hl, hn, hf⟩ := DataW.trod_struct Tryz.underlying68 h
  have hn' : xs.length = 3 := hn
  obtain ⟨a0, _, c0, u0, h0, r0⟩ := Reads.field (e := fun n : Int => ai n) i3 (hf 0 _ rfl) (by omega)
  obtain ⟨a1, _, c1, u1, h1, r1⟩ := Reads.field (e := fun b : Bool => ab b) (Reads.bool Tryz.underlying4) (hf 1 _ rfl) (by omega)
  obtain ⟨a2, _, c2, u2, h2, r2⟩ := Reads.field (e := fun n : Int => ai n) i3 (hf 2 _ rfl) (by omega)
  refine ⟨⟨a0, a1, a2⟩, trivial, hl.trans (by kernel_rfl), by simp [c0, c1, c2], ?_⟩
  simp only [RepL]
  exact ⟨⟨u0, h0, r0⟩, ⟨u1, h1, r1⟩, ⟨u2, h2, r2⟩, trivial⟩
structure House.In (h : House) : Prop where
  doors : ∀ d ∈ h.doors, d.hours.length ≤ 9223372036854775807 ∧ d.shut.length ≤ 9223372036854775807
  names : ∀ r ∈ h.rooms, r.name.size ≤ 9223372036854775807
theorem house_reads : Reads enc W spare held 26 eHouse House.In := by
  intro fuel cs x h
  obtain ⟨xs, n, _, _, hl, hn, hf⟩ := DataW.trod_struct Tryz.underlying26 h
  have hn' : xs.length = 3 := hn
  obtain ⟨a0, g0, c0, u0, h0, r0⟩ := Reads.field (e := fun l : List Room => .lst (l.map eRoom)) (Reads.slice Tryz.underlying22 (k := 2) (by kernel_rfl) (by decide) (fun _ => rfl) room_reads) (hf 0 _ rfl) (by omega)
  obtain ⟨a1, g1, c1, u1, h1, r1⟩ := Reads.field (e := fun l : List Door => .lst (l.map eDoor)) (Reads.slice Tryz.underlying23 (k := 2) (by kernel_rfl) (by decide) (fun _ => rfl) door_reads) (hf 1 _ rfl) (by omega)
  obtain ⟨a2, _, c2, u2, h2, r2⟩ := Reads.field (e := fun l : List Way => .lst (l.map eWay)) (Reads.slice Tryz.underlying24 (k := 5) (by kernel_rfl) (by decide) (fun _ => rfl) way_reads) (hf 2 _ rfl) (by omega)
  refine ⟨⟨a0, a1, a2⟩, ⟨g1.1, g0.1⟩, hl.trans (by kernel_rfl), by simp [AV.cell], ?_⟩
  simp only [RepL]
  exact ⟨⟨u0, h0, r0⟩, ⟨u1, h1, r1⟩, ⟨u2, h2, r2⟩, trivial⟩
variable {r : Reach} {base : Nat} {v : Value} {d : DataW H} {ps : List MemPlace}
theorem arg_house (hv : Value.okWide Tryz.prog W r base 26 v) (h : DataW.Trod enc Tryz.prog W 0 spare held 26 v d ps) : ∃ h : House, h.In ∧ Rep (pureSg (Old W)) W (.agg (eHouse h)) v := by
  obtain ⟨arr, rfl, _⟩ := okWide_struct Tryz.underlying26 hv
  obtain ⟨fuel, hf⟩ := h
  obtain ⟨a, g, g1, g2, g3⟩ := house_reads _ _ _ hf
  refine ⟨a, g, ?_⟩
  simp only [Rep]
  exact ⟨arr, rfl, by simpa [Value.cells] using g1, g2, by simpa [Value.cells] using g3⟩
theorem arg_one {t : TypeId} {α : Type} {e : α → AV} {good : α → Prop} (hR : Reads enc W spare held t (fun a => [e a]) good) (hv : v.cells = #[v]) (h : DataW.Trod enc Tryz.prog W 0 spare held t v d ps) : ∃ a, good a ∧ Rep (pureSg (Old W)) W (e a) v := by
  obtain ⟨fuel, hf⟩ := h
  rw [hv] at hf
  obtain ⟨a, g, g1, g2, g3⟩ := hR _ _ _ hf
  refine ⟨a, g, ?_⟩
  simp only [RepL] at g3
  obtain ⟨⟨u, hu, hr⟩, _⟩ := g3
  simp at hu
  subst hu; exact hr
theorem arg_int (hv : Value.okWide Tryz.prog W r base 3 v) (h : DataW.Trod enc Tryz.prog W 0 spare held 3 v d ps) : ∃ n : Int, (Lit.int .i64 n).wf = true ∧ Rep (pureSg (Old W)) W (ai n) v := by
  obtain ⟨n, rfl⟩ := okWide_int Tryz.underlying3 hv
  exact arg_one (e := fun n : Int => ai n) i3 rfl h
theorem arg_steps (hv : Value.okWide Tryz.prog W r base 27 v) (h : DataW.Trod enc Tryz.prog W 0 spare held 27 v d ps) : ∃ l : List Step, l.length ≤ 9223372036854775807 ∧ Rep (pureSg (Old W)) W (.lst (l.map eStep)) v := by
  obtain ⟨a, len, cap, rfl⟩ := okWide_slice Tryz.underlying27 hv
  obtain ⟨l, g, h⟩ := arg_one (e := fun l : List Step => .lst (l.map eStep)) (Reads.slice Tryz.underlying27 (k := 3) (by kernel_rfl) (by decide) (fun _ => rfl) step_reads) rfl h
  exact ⟨l, g.2, h⟩
theorem arg_ints (hv : Value.okWide Tryz.prog W r base 40 v) (h : DataW.Trod enc Tryz.prog W 0 spare held 40 v d ps) : ∃ l : List Int, l.length ≤ 9223372036854775807 ∧ (∀ n ∈ l, (Lit.int .i64 n).wf = true) ∧ Rep (pureSg (Old W)) W (lInt l) v := by
  obtain ⟨a, len, cap, rfl⟩ := okWide_slice Tryz.underlying40 hv
  obtain ⟨l, g, h⟩ := arg_one (e := fun l : List Int => lInt l) (Reads.slice Tryz.underlying40 (k := 1) (by kernel_rfl) (by decide) (fun _ => rfl) i3) rfl h
  exact ⟨l, g.2, g.1, h⟩
end
end Go.Proofs.Hs
