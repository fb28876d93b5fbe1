/-
  Walks and routes: a walk ends no earlier than the earliest arrival; the ways by which one comes make a walk. No conditions.
-/
import Derived.Test.YtofdhddbfjfkcaaDoorHe
import Derived.Test.YtofdhddbfjfkcaaDoorVd
import Derived.Test.YtofdhddbfjfkcaaDoorVk
set_option linter.unusedSimpArgs false
set_option linter.unusedVariables false
namespace Go.Proofs.Hs
open Go Go.Pg Go.Proofs Go.Proofs.Lab

/-! ## Gates and what is asked for -/
theorem gatesL_mem : ∀ (l : List Way) (i : Nat) (g : Gate), g ∈ gatesL i l → ∃ j w, l[j]? = some w ∧ (g = ⟨((i + j : Nat) : Int), false, w.a, w.b, w.secs, w.door⟩ ∨ (0 < w.back ∧ g = ⟨((i + j : Nat) : Int), true, w.b, w.a, w.back, w.door⟩))
  | [], _, g, h => by simp [gatesL] at h
  | w :: l, i, g, h => by
    unfold gatesL at h
    rcases List.mem_cons.1 h with rfl | h
    · exact ⟨0, w, rfl, .inl rfl⟩
    · rcases List.mem_append.1 h with h | h
      · split at h
        · rename_i hb; rw [List.mem_singleton] at h; exact ⟨0, w, rfl, .inr ⟨hb, h⟩⟩
        · cases h
      · obtain ⟨j, w', h1, h2⟩ := gatesL_mem l (i + 1) g h
        refine ⟨j + 1, w', by simpa using h1, ?_⟩
        rw [show i + 1 + j = i + (j + 1) by omega] at h2
        exact h2
theorem askedR_gate {h : House} (hc : (Check h).1 = 0) {g : Gate} (hg : g ∈ gates h) {t : Int} (ht : timeOK t) : askedR h g.way g.back t = (g, 0) := by
  obtain ⟨j, w, h1, h2⟩ := gatesL_mem h.ways 0 g hg
  have hj : j < h.ways.length := by
    rcases Nat.lt_or_ge j h.ways.length with h' | h'
    · exact h'
    · rw [List.getElem?_eq_none h'] at h1; cases h1
  have hgd : h.ways.getD j ⟨0, 0, 0, 0, 0⟩ = w := by rw [List.getD_eq_getElem?_getD, h1]; rfl
  have hw := (Check_V hc).ways w (List.mem_of_getElem? h1)
  unfold askedR
  rw [if_neg (by simp [hc])]
  rcases h2 with rfl | ⟨hb, rfl⟩
  · rw [if_neg (by simp only [not_or, Classical.not_not]; exact ⟨by omega, ht⟩)]
    simp only [Nat.zero_add, Int.toNat_natCast, hgd, if_true]
  · rw [if_neg (by simp only [not_or, Classical.not_not]; exact ⟨by omega, ht⟩)]
    simp only [Nat.zero_add, Int.toNat_natCast, hgd, Bool.true_eq_false, if_false]
    rw [if_neg (by omega)]
theorem askedR_mem {h : House} {way : Int} {back : Bool} {t : Int} (he : (askedR h way back t).2 = 0) : (askedR h way back t).1 ∈ gates h := by
  rw [← gateAsked_eq] at he ⊢
  unfold gateAsked at he ⊢
  split at he
  · rename_i hc; exact absurd he hc
  · rename_i hc
    rw [if_neg hc]
    split at he
    · cases he
    · rename_i hw
      rw [if_neg hw]
      split at he
      · cases he
      · rename_i hi
        rw [if_neg hi]
        have := idxG_lo (isG way back) (gates h)
        have hlt : (idxG (isG way back) 0 (gates h)).toNat < (gates h).length := by omega
        dsimp only
        rw [List.getD_eq_getElem?_getD, List.getElem?_eq_getElem hlt]
        exact List.getElem_mem hlt
theorem Gate.ne {h : House} (hv : h.V) {g : Gate} (hg : g ∈ gates h) : g.from' ≠ g.to := (gatesL_ok h.ways 0 _ _ hv.ways g hg).2.2.2.2

theorem nextAt_open {h : House} (hv : h.V) {g : Gate} (hg : g.OK h) {t : Int} (h0 : 0 ≤ t) (h1 : t ≤ 1073741824) (hn : h.nextAt g t ≤ 1073741823) (hd : 0 ≤ g.door) : openR (h.door g.door) (h.nextAt g t) = true := by
  unfold House.nextAt at hn ⊢
  rw [if_pos hd] at hn ⊢
  have := (next_is (hv.door hd hg.door.2) h0 h1).at'
  rcases this with e | ⟨e1, e2⟩
  · omega
  · exact e2
theorem open_nextAt {h : House} (hv : h.V) {g : Gate} (hg : g.OK h) {t : Int} (h0 : 0 ≤ t) (h1 : t ≤ 1073741823) (ho : 0 ≤ g.door → openR (h.door g.door) t = true) : h.nextAt g t = t := by
  unfold House.nextAt
  split
  · rename_i hd; exact (next_open (hv.door hd hg.door.2) h0 h1).2 (ho hd)
  · rfl

/-- A step of a walk that is possible. -/
theorem stepR_gate {h : House} (hc : (Check h).1 = 0) {g : Gate} (hg : g ∈ gates h) {t s : Int} (h0 : 0 ≤ t) (hts : t ≤ s) (hs : s + g.secs ≤ 1073741823) (ho : 0 ≤ g.door → openR (h.door g.door) s = true) :
    stepR h g.from' t ⟨g.way, g.back, s⟩ = (g.to, s + g.secs, 0) := by
  have hsec := (gate_ok (Check_V hc) hg).secs
  have ha := askedR_gate hc hg (t := s) ⟨by omega, by omega⟩
  unfold stepR
  dsimp only
  rw [ha]
  dsimp only
  rw [if_neg (by simp), if_neg (by simp), if_neg (by omega), if_neg (fun hh => hh.2 (ho hh.1)), if_neg (by omega)]
theorem stepR_zero {h : House} {a t : Int} {s : Step} (he : (stepR h a t s).2.2 = 0) : (Check h).1 = 0 ∧ ∃ g ∈ gates h, g.from' = a ∧ t ≤ s.at' ∧ (0 ≤ s.at') ∧ s.at' + g.secs ≤ 1073741823 ∧ (0 ≤ g.door → openR (h.door g.door) s.at' = true) ∧ stepR h a t s = (g.to, s.at' + g.secs, 0) := by
  unfold stepR at he ⊢
  split at he
  · cases he
  · rename_i h1
    have h1' : (askedR h s.way s.back s.at').2 = 0 := by simpa using h1
    obtain ⟨hc, ht, hgo⟩ := askedR_ok h1'
    rw [if_neg h1]
    split at he
    · cases he
    · rename_i h2
      rw [if_neg h2]
      split at he
      · cases he
      · rename_i h3
        rw [if_neg h3]
        split at he
        · cases he
        · rename_i h4
          rw [if_neg h4]
          split at he
          · cases he
          · rename_i h5
            rw [if_neg h5]
            refine ⟨hc, _, askedR_mem h1', by simpa using h2, by omega, ht.1, by omega, fun hd => ?_, rfl⟩
            by_cases ho : openR (h.door (askedR h s.way s.back s.at').1.door) s.at' = true
            · exact ho
            · exact absurd ⟨hd, ho⟩ h4

theorem walkR_snoc {h : House} : ∀ (l : List Step) {a t b u c v : Int} {s : Step}, walkR h l a t = (b, u, 0) → stepR h b u s = (c, v, 0) → walkR h (l ++ [s]) a t = (c, v, 0)
  | [], a, t, b, u, c, v, s, h1, h2 => by
    simp only [walkR, Prod.mk.injEq] at h1
    obtain ⟨rfl, rfl, _⟩ := h1
    simp only [List.nil_append, walkR, h2]
    rw [if_neg (by simp)]
  | x :: l, a, t, b, u, c, v, s, h1, h2 => by
    simp only [List.cons_append]
    unfold walkR at h1 ⊢
    by_cases hx : (stepR h a t x).2.2 ≠ 0
    · rw [if_pos hx] at h1
      simp only [Prod.mk.injEq] at h1
      exact absurd h1.2.2 hx
    · rw [if_neg hx] at h1 ⊢
      exact walkR_snoc l h1 h2

/-- What is closed bounds each walk from below. -/
theorem walk_low {h : House} (hv : h.V) : ∀ (l : List Step) {a t b u : Int}, (0 ≤ a ∧ a < (h.rooms.length : Int)) → (0 ≤ t ∧ t ≤ 1073741823) → walkR h l a t = (b, u, 0) →
    (0 ≤ b ∧ b < (h.rooms.length : Int)) ∧ t ≤ u ∧ u ≤ 1073741823 ∧ ∀ M, Closed (arrN h) M → M a.toNat ≤ t → M b.toNat ≤ u
  | [], a, t, b, u, ha, ht, hw => by
    simp only [walkR, Prod.mk.injEq] at hw
    obtain ⟨rfl, rfl, _⟩ := hw
    exact ⟨ha, Int.le_refl _, ht.2, fun M _ h => h⟩
  | x :: l, a, t, b, u, ha, ht, hw => by
    unfold walkR at hw
    by_cases hx : (stepR h a t x).2.2 ≠ 0
    · rw [if_pos hx] at hw
      simp only [Prod.mk.injEq] at hw
      exact absurd hw.2.2 hx
    · rw [if_neg hx] at hw
      obtain ⟨_, g, hg, hf, h1, h2, h3, h4, h5⟩ := stepR_zero (by simpa using hx)
      have hgo := gate_ok hv hg
      have hto := hgo.to
      have hsec := hgo.secs
      rw [h5] at hw
      dsimp only at hw
      obtain ⟨i1, i2, i3, i4⟩ := walk_low hv l hto ⟨by omega, by omega⟩ hw
      refine ⟨i1, by omega, i3, fun M hM hs => i4 M hM ?_⟩
      have hin : 0 ≤ M g.from'.toNat ∧ M g.from'.toNat ≤ 1073741824 := hM.In _
      have hle : M g.from'.toNat ≤ t := by rw [hf]; exact hs
      have hr : M g.to.toNat ≤ enter h g (M g.from'.toNat) := hM.rel g hg (by show M g.from'.toNat < 1073741824; omega)
      have hm := enter_mono hv hgo (t := M g.from'.toNat) (u := x.at') hin.1 (by omega) (by omega)
      have he : enter h g x.at' = x.at' + g.secs := by unfold enter; rw [open_nextAt hv hgo h2 (by omega) h4, if_neg (by omega)]
      omega
theorem walk_arr {h : House} (hv : h.V) {l : List Step} {a t b u : Int} (ha : 0 ≤ a ∧ a < (h.rooms.length : Int)) (ht : 0 ≤ t ∧ t ≤ 1073741823) (hw : walkR h l a t = (b, u, 0)) : (arrR h a.toNat t).getD b.toNat 0 ≤ u := by
  obtain ⟨hb, _, _, hM⟩ := walk_low hv l ha ht hw
  obtain ⟨hl, hi⟩ := arrR_is hv (a := a.toNat) (by omega) (t := t) (by omega)
  rw [← getD_lab (N := arrN h) (by omega)]
  exact hM _ hi.closed hi.start

/-! ## The ways by which one comes -/
structure ByOK (h : House) (a : Nat) (row : List Int) (by' : List Gate) : Prop where
  len : row.length = h.rooms.length ∧ by'.length = h.rooms.length
  bound : ∀ x ∈ row, -1 ≤ x ∧ x ≤ 1073741823
  way : ∀ r, r < h.rooms.length → r ≠ a → 0 ≤ row.getD r 0 → by'.getD r .zero ∈ gates h ∧ (by'.getD r .zero).to.toNat = r ∧ 0 ≤ row.getD (by'.getD r .zero).from'.toNat 0 ∧
    0 ≤ nextH h (by'.getD r .zero) (row.getD (by'.getD r .zero).from'.toNat 0) ∧ nextH h (by'.getD r .zero) (row.getD (by'.getD r .zero).from'.toNat 0) ≤ row.getD r 0
theorem getD_setI {α : Type} (l : List α) (i r : Nat) (x d : α) (hi : i < l.length) : (l.set i x).getD r d = if i = r then x else l.getD r d := by
  rw [List.getD_eq_getElem?_getD, List.getD_eq_getElem?_getD, List.getElem?_set]
  split
  · rename_i h; subst h; simp [hi]
  · rfl
theorem nextH_pos {h : House} {g : Gate} {t : Int} (h0 : 0 ≤ nextH h g t) : nextH h g t = enter h g t ∧ enter h g t ≠ 1073741824 := by
  unfold nextH at h0 ⊢
  split at h0
  · rename_i hq; exact ⟨if_pos hq, hq⟩
  · omega
theorem ByOK.put {h : House} (hv : h.V) {a : Nat} {row : List Int} {by' : List Gate} {g : Gate} (hb : ByOK h a row by') (hg : g ∈ gates h) (hi : impr (nextH h) row g = true) :
    ByOK h a (row.set g.to.toNat (nextH h g (row.getD g.from'.toNat 0))) (by'.set g.to.toNat g) := by
  obtain ⟨i1, i2, i3⟩ := impr_iff.1 hi
  have hgo := gate_ok hv hg
  have hto := hgo.to
  have hfr := hgo.from'
  have hne := Gate.ne hv hg
  have hl1 := hb.len.1
  have hl2 := hb.len.2
  have hxb : row.getD g.from'.toNat 0 ≤ 1073741823 := (hb.bound _ (List.mem_of_getElem? (getD_set' row _ 0 (by omega)))).2
  obtain ⟨e1, e2⟩ := nextH_pos i2
  have hsp := enter_spec hv hgo i1 hxb
  refine ⟨⟨by simp [hl1], by simp [hl2]⟩, fun x hx => ?_, fun r hr hra h0 => ?_⟩
  · rcases List.mem_or_eq_of_mem_set hx with hx | rfl
    · exact hb.bound x hx
    · rw [e1] at i2 ⊢; omega
  · rw [getD_setI by' _ _ _ _ (by omega)]
    rw [getD_setI row _ r _ _ (by omega)] at h0 ⊢
    by_cases hq : g.to.toNat = r
    · rw [if_pos hq, if_pos hq]
      have hfr' : ¬ (g.to.toNat = g.from'.toNat) := by omega
      rw [getD_setI row _ g.from'.toNat _ _ (by omega), if_neg hfr']
      exact ⟨hg, hq, i1, i2, Int.le_refl _⟩
    · rw [if_neg hq] at h0 ⊢
      rw [if_neg hq]
      obtain ⟨w1, w2, w3, w4, w5⟩ := hb.way r hr hra h0
      generalize by'.getD r .zero = g' at *
      have hgo' := gate_ok hv w1
      rw [getD_setI row _ g'.from'.toNat _ _ (by omega)]
      by_cases hq2 : g.to.toNat = g'.from'.toNat
      · rw [if_pos hq2]
        rw [hq2] at i3
        have hlt : nextH h g (row.getD g.from'.toNat 0) < row.getD g'.from'.toNat 0 := by omega
        have hfr2 := hgo'.from'
        have hxb2 : row.getD g'.from'.toNat 0 ≤ 1073741823 := (hb.bound _ (List.mem_of_getElem? (getD_set' row _ 0 (by omega)))).2
        obtain ⟨e3, e4⟩ := nextH_pos w4
        have hm := enter_mono hv hgo' (t := nextH h g (row.getD g.from'.toNat 0)) (u := row.getD g'.from'.toNat 0) i2 (by omega) (by omega)
        have hs2 := enter_spec hv hgo' w3 hxb2
        have hs3 := enter_spec hv hgo' (t := nextH h g (row.getD g.from'.toNat 0)) i2 (by omega)
        have he : nextH h g' (nextH h g (row.getD g.from'.toNat 0)) = enter h g' (nextH h g (row.getD g.from'.toNat 0)) := by
          rw [nextH, if_pos (by omega)]
        refine ⟨w1, w2, i2, ?_, ?_⟩
        · rw [he]; omega
        · rw [he]; omega
      · rw [if_neg hq2]; exact ⟨w1, w2, w3, w4, w5⟩

/-- What is known of the arrivals and of the ways by which one comes. -/
structure Came (h : House) (a : Nat) (t : Int) (R : List Int) (B : List Gate) : Prop where
  len : R.length = h.rooms.length
  bound : ∀ r, r < h.rooms.length → t ≤ R.getD r 0 ∧ R.getD r 0 ≤ 1073741824
  start : R.getD a 0 = t
  way : ∀ r, r < h.rooms.length → r ≠ a → R.getD r 0 < 1073741824 → B.getD r .zero ∈ gates h ∧ (B.getD r .zero).to.toNat = r ∧
    R.getD (B.getD r .zero).from'.toNat 0 < 1073741824 ∧ enter h (B.getD r .zero) (R.getD (B.getD r .zero).from'.toNat 0) = R.getD r 0

theorem came_row {h : House} (hv : h.V) {a : Nat} (ha : a < h.rooms.length) {t : Int} (ht : 0 ≤ t ∧ t ≤ 1073741823) {row : List Int} {by' : List Gate} (hb : ByOK h a row by') (hno : ∀ g ∈ gates h, impr (nextH h) row g = false)
    (hR : row.map room1 = arrR h a t) : Came h a t (row.map room1) by' := by
  obtain ⟨hl, hi⟩ := arrR_is hv ha (t := t) (by omega)
  obtain ⟨s1, s2⟩ := arr_self hv ha (t := t) (by omega)
  have hl1 := hb.len.1
  have hm : ∀ r, r < h.rooms.length → (row.map room1).getD r 0 = room1 (row.getD r 0) := fun r hr => by
    rw [List.getD_eq_getElem?_getD, List.getElem?_map, getD_set' row r 0 (by omega)]; rfl
  have hlab : ∀ r, r < h.rooms.length → (row.map room1).getD r 0 = (arrN h).lab (arrR h a t) r := fun r hr => by rw [hR, getD_lab (by omega)]
  refine ⟨by simp [hl1], fun r hr => ⟨by rw [hlab r hr]; exact s2 r, by rw [hlab r hr]; exact (hi.closed.In r).2⟩, by rw [hlab a ha]; exact s1, fun r hr hra hlt => ?_⟩
  rw [hm r hr] at hlt ⊢
  have h0 : 0 ≤ row.getD r 0 := by
    unfold room1 at hlt
    split at hlt <;> omega
  obtain ⟨w1, w2, w3, w4, w5⟩ := hb.way r hr hra h0
  generalize by'.getD r .zero = g at *
  have hgo := gate_ok hv w1
  have hfr := hgo.from'
  rw [hm g.from'.toNat (by omega)]
  have e1 : room1 (row.getD g.from'.toNat 0) = row.getD g.from'.toNat 0 := if_neg (by omega)
  have e2 : room1 (row.getD r 0) = row.getD r 0 := if_neg (by omega)
  rw [e1, e2]
  obtain ⟨e3, e4⟩ := nextH_pos w4
  have hxb : row.getD g.from'.toNat 0 ≤ 1073741823 := (hb.bound _ (List.mem_of_getElem? (getD_set' row _ 0 (by omega)))).2
  have hn := hno g w1
  have : ¬ (nextH h g (row.getD g.from'.toNat 0) < row.getD r 0) := fun hc => by
    have : impr (nextH h) row g = true := impr_iff.2 ⟨w3, w4, .inr (by rw [w2]; exact hc)⟩
    rw [this] at hn; cases hn
  refine ⟨w1, w2, by omega, by omega⟩

theorem came {h : House} (hv : h.V) {a : Nat} (ha : a < h.rooms.length) {t : Int} (ht : 0 ≤ t ∧ t ≤ 1073741823) :
    Came h a t ((spread (nextH h) (gates h) ((List.replicate h.rooms.length (-1)).set a t)).1.map room1) (spread (nextH h) (gates h) ((List.replicate h.rooms.length (-1)).set a t)).2 := by
  have hf : NextOK (nextH h) (gates h) h.rooms.length := fun g hg => ⟨by have := (gate_ok hv hg).to; omega, fun x hx => by
    unfold nextH
    split
    · rename_i hne
      unfold enter at hne ⊢
      split
      · rename_i hc; rw [if_pos hc] at hne; exact absurd rfl hne
      · omega
    · decide⟩
  obtain ⟨e1, e2, e3⟩ := spreadF_end (ByOK h a) (f := nextH h) (gs := gates h) (fun row by' g hb hg hi => hb.put hv hg hi) hf (spreadM ((List.replicate h.rooms.length (-1 : Int)).set a t) + 1) ((List.replicate h.rooms.length (-1 : Int)).set a t) (List.replicate ((List.replicate h.rooms.length (-1 : Int)).set a t).length .zero) (by simp) (by omega)
    ⟨⟨by simp, by simp⟩, fun x hx => by
      rcases List.mem_or_eq_of_mem_set hx with hx | rfl
      · rw [List.mem_replicate] at hx; omega
      · omega, fun r hr hra h0 => by
      exfalso
      rw [getD_setI _ _ _ _ _ (by simpa using ha), if_neg (fun e => hra e.symm), List.getD_eq_getElem?_getD, List.getElem?_replicate, if_pos hr] at h0
      simp at h0⟩
  exact came_row hv ha ht e2 e3 (spread_is hv ha ht)

/-! ## Routes -/
def rk (R : List Int) (x : Int) : Nat := R.countP (fun y => decide (y < x))
theorem rk_le (R : List Int) (x : Int) : rk R x ≤ R.length := List.countP_le_length
theorem rk_mono {x y : Int} (h : x ≤ y) : ∀ R : List Int, rk R x ≤ rk R y := fun R => by
  unfold rk
  exact List.countP_mono_left (fun z _ hz => by simp only [decide_eq_true_eq] at hz ⊢; omega)
theorem rk_lt {x y : Int} (h : x < y) : ∀ R : List Int, x ∈ R → rk R x < rk R y
  | [], hm => by cases hm
  | z :: R, hm => by
    have hmono := rk_mono (x := x) (y := y) (by omega) R
    unfold rk at hmono ⊢
    rw [List.countP_cons, List.countP_cons]
    rcases List.mem_cons.1 hm with rfl | hm
    · rw [if_neg (by simp), if_pos (by simpa using h)]; omega
    · have := rk_lt h R hm
      unfold rk at this
      by_cases h1 : z < x
      · rw [if_pos (by simpa using h1), if_pos (by simp; omega)]; omega
      · rw [if_neg (by simpa using h1)]; split <;> omega

/-- The steps of a route, the last one first. -/
def routeL (R : List Int) (B : List Gate) (a : Int) : Nat → Int → List Step
  | 0, _ => []
  | k + 1, to => if to = a then [] else ⟨(B.getD to.toNat .zero).way, (B.getD to.toNat .zero).back, R.getD to.toNat 0 - (B.getD to.toNat .zero).secs⟩ :: routeL R B a k (B.getD to.toNat .zero).from'

theorem Came.next {h : House} (hv : h.V) {a : Int} (ha : 0 ≤ a ∧ a < (h.rooms.length : Int)) {t : Int} (ht : 0 ≤ t ∧ t ≤ 1073741823) {R : List Int} {B : List Gate} (hC : Came h a.toNat t R B) {to : Int} (hto : 0 ≤ to ∧ to < (h.rooms.length : Int)) (hlt : R.getD to.toNat 0 < 1073741824) (hne : to ≠ a) :
    (B.getD to.toNat .zero).OK h ∧ R.getD (B.getD to.toNat .zero).from'.toNat 0 < 1073741824 ∧ rk R (R.getD (B.getD to.toNat .zero).from'.toNat 0) < rk R (R.getD to.toNat 0) ∧ (B.getD to.toNat .zero) ∈ gates h ∧ (B.getD to.toNat .zero).to = to ∧
    enter h (B.getD to.toNat .zero) (R.getD (B.getD to.toNat .zero).from'.toNat 0) = R.getD to.toNat 0 ∧ (0 ≤ R.getD (B.getD to.toNat .zero).from'.toNat 0) := by
  obtain ⟨w1, w2, w3, w4⟩ := hC.way to.toNat (by omega) (by omega) hlt
  generalize B.getD to.toNat .zero = g at *
  have hgo := gate_ok hv w1
  have hfr := hgo.from'
  have htg := hgo.to
  have hb := hC.bound g.from'.toNat (by omega)
  have hsp := enter_spec hv hgo (t := R.getD g.from'.toNat 0) (by omega) (by omega)
  exact ⟨hgo, w3, rk_lt (by omega) R (List.mem_of_getElem? (getD_set' R _ 0 (by rw [hC.len]; omega))), w1, by omega, w4, by omega⟩

theorem route_walk {h : House} (hc : (Check h).1 = 0) {a : Int} (ha : 0 ≤ a ∧ a < (h.rooms.length : Int)) {t : Int} (ht : 0 ≤ t ∧ t ≤ 1073741823) {R : List Int} {B : List Gate} (hC : Came h a.toNat t R B) : ∀ (k : Nat) (to : Int), (0 ≤ to ∧ to < (h.rooms.length : Int)) → R.getD to.toNat 0 < 1073741824 → rk R (R.getD to.toNat 0) < k →
    walkR h (routeL R B a k to).reverse a t = (to, R.getD to.toNat 0, 0) ∧ (routeL R B a k to).length ≤ rk R (R.getD to.toNat 0)
  | 0, to, _, _, hk => by omega
  | k + 1, to, hto, hlt, hk => by
    have hv := Check_V hc
    unfold routeL
    by_cases he : to = a
    · rw [if_pos he, he, hC.start]; exact ⟨rfl, Nat.zero_le _⟩
    · rw [if_neg he]
      obtain ⟨hgo, n1, n2, n3, n4, n5, n6⟩ := hC.next hv ha ht hto hlt he
      generalize B.getD to.toNat .zero = g at *
      obtain ⟨i1, i2⟩ := route_walk hc ha ht hC k g.from' hgo.from' n1 (by omega)
      have hsec := hgo.secs
      have hn := nextAt_ge hv hgo n6 (by omega)
      have hent : R.getD to.toNat 0 = h.nextAt g (R.getD g.from'.toNat 0) + g.secs ∧ h.nextAt g (R.getD g.from'.toNat 0) + g.secs ≤ 1073741823 := by
        unfold enter at n5
        split at n5
        · omega
        · omega
      obtain ⟨e1, e2⟩ := hent
      have hst := stepR_gate hc n3 (t := R.getD g.from'.toNat 0) (s := R.getD to.toNat 0 - g.secs) n6 (by omega) (by omega) (fun hd => by
        have := nextAt_open hv hgo n6 (by omega) (by omega) hd
        rw [show R.getD to.toNat 0 - g.secs = h.nextAt g (R.getD g.from'.toNat 0) by omega]; exact this)
      refine ⟨?_, by simp only [List.length_cons]; omega⟩
      rw [List.reverse_cons]
      have hw := walkR_snoc _ i1 hst
      rw [hw, n4, show R.getD to.toNat 0 - g.secs + g.secs = R.getD to.toNat 0 by omega]
end Go.Proofs.Hs

set_option maxHeartbeats 8000000
set_option linter.unusedSimpArgs false
set_option linter.unusedVariables false
set_option maxRecDepth 10000
namespace Go.Proofs.Hs
open Go Go.Pg Go.Proofs

theorem getD_eStep (l : List Step) (k : Nat) (h : k < l.length) : (l.map eStep).getD k [] = eStep (l.getD k ⟨0, false, 0⟩) := getD_map eStep l k [] ⟨0, false, 0⟩ h
theorem get_eStep (l : List Step) (k : Nat) (h : k < l.length) : (l.map eStep)[k]? = some (eStep (l.getD k ⟨0, false, 0⟩)) := by
  rw [List.getElem?_map, (by rw [List.getD_eq_getElem?_getD, List.getElem?_eq_getElem h]; rfl : l[k]? = some (l.getD k ⟨0, false, 0⟩))]; rfl
theorem pure_steps (l : List Step) : (l.map eStep).all pureL = true := pure_map eStep (fun _ => rfl) l
theorem getD_setNe {α : Type} (l : List α) {i j : Nat} (x d : α) (h : i ≠ j) : (l.set i x).getD j d = l.getD j d := by
  rw [List.getD_eq_getElem?_getD, List.getD_eq_getElem?_getD, List.getElem?_set_ne h]
/-- A list of which the first and the last ones have been exchanged. -/
def revI (l : List Step) (k : Nat) (m : List Step) : Prop := ∀ p, p < l.length → m.getD p ⟨0, false, 0⟩ = if p < k ∨ l.length < p + k + 1 then l.getD (l.length - 1 - p) ⟨0, false, 0⟩ else l.getD p ⟨0, false, 0⟩
theorem revI_zero (l : List Step) : revI l 0 l := fun p hp => by rw [if_neg (by omega)]
theorem revI_step {l m : List Step} {k j : Nat} (h : revI l k m) (hm : m.length = l.length) (hj : j + k + 1 = l.length) (hk : k < j) : revI l (k + 1) ((m.set k (m.getD j ⟨0, false, 0⟩)).set j (m.getD k ⟨0, false, 0⟩)) := by
  intro p hp
  have h1 := h k (by omega)
  have h2 := h j (by omega)
  rw [if_neg (by omega)] at h1 h2
  rw [getD_setI _ _ _ _ _ (by simp; omega), getD_setI _ _ _ _ _ (by omega)]
  by_cases e1 : j = p
  · rw [if_pos e1, if_pos (by omega), h1]; congr 1; omega
  · rw [if_neg e1]
    by_cases e2 : k = p
    · rw [if_pos e2, if_pos (by omega), h2]; congr 1; omega
    · rw [if_neg e2, h p hp]
      by_cases e3 : p < k ∨ l.length < p + k + 1
      · rw [if_pos e3, if_pos (by omega)]
      · rw [if_neg e3, if_neg (by omega)]
theorem revI_end {l m : List Step} {k : Nat} (h : revI l k m) (hm : m.length = l.length) (hk : ¬ (k : Int) < (l.length : Int) - 1 - (k : Int)) : m = l.reverse := by
  apply List.ext_getElem?
  intro p
  by_cases hp : p < l.length
  · have hd : ∀ (q : List Step) (i : Nat), i < q.length → q[i]? = some (q.getD i ⟨0, false, 0⟩) := fun q i hi => by rw [List.getD_eq_getElem?_getD, List.getElem?_eq_getElem hi]; rfl
    rw [List.getElem?_reverse hp, hd m p (by omega), hd l _ (by omega), h p hp]
    split
    · rfl
    · rw [show l.length - 1 - p = p by omega]
  · rw [List.getElem?_eq_none (by omega), List.getElem?_eq_none (by simp; omega)]

theorem take_rev (l : List Step) : (l.reverse.map eStep).take l.length = l.reverse.map eStep := by rw [List.take_of_length_le (by simp)]

theorem Reverse_ok {H : Nat → Option AO} {nx id : Nat} {args : List AV} (l : List Step) (ha : args = [.ref id 0 l.length]) (hid : id < nx) (hll : l.length ≤ 1000)
    (hr : Pg.rowAt H id = some { k := 3, es := l.map eStep, ty := 84, lo := l.length }) :
    OKm cx 98 args H nx (fun r H' nx' => Pg.rowAt H' id = some { k := 3, es := l.reverse.map eStep, ty := 84, lo := l.length } ∧ nx ≤ nx' ∧ ∀ j, j < nx → j ≠ id → H' j = H j) := by
  subst ha
  refine OKm.of_body cx_ok (rs := []) Tryd.func98 rfl (by decide +kernel) rfl (by simp [Tryd.ntmps98]) ?_
  simp only [Tryd.ntmps98]
  repeat' first
    | apply AW.seq | apply AW.region | apply AW.ret | apply AW.block | apply AW.skip | apply AW.exit | apply AW.scope | apply AW.label | apply AWL.nil | apply D.nil
    | refine W.draw cx_mixed (by decide +kernel) ?_
    | ((first | (apply W.step cx_ok; decide) | (apply D.step cx_ok; decide; decide) | apply W.store cx_ok | apply AW.cond); (simp (disch := omega) only [push_cast, simprocAttr, hr, hid] <;> rfl); all_goals try ((with_reducible intro hI); try first | (cases hI; done) | (simp only [INTS] at hI; try first | (exfalso; omega) | (have hT : True := hI; clear hT hI))))
    | ((first | apply W.retC | apply W.endC' | apply W.retM | apply W.endM' | apply W.ret1 | apply W.end1 | apply W.ret2 | apply W.end2 | apply W.ret3 | apply W.end3 | apply W.ret0 | apply W.end0); (iterate 2 (try (simp (disch := omega) only [push_cast, simprocAttr, hr, hid] <;> rfl))))
  refine AW.loop (fun n s => ∃ (k : Nat) (jj : Int) (m : List Step), n = l.length - k ∧ (m.length = l.length) ∧ (jj = (l.length : Int) - 1 - (k : Int)) ∧ (revI l k m) ∧ (∀ j, j < nx → j ≠ id → s.H j = H j) ∧ nx ≤ s.nx ∧ s.tm 0 = .ref id 0 l.length ∧ s.tm 2 = ai k ∧ s.tm 3 = ai jj ∧ Pg.rowAt s.H (id) = some ({ k := 3, es := m.map eStep, ty := 84, lo := l.length })) (l.length) ⟨0, (l.length : Int) - 1, l, rfl, rfl, (by omega), (revI_zero l), (by intro j hjlt hjne; rfl), ?_, ?_, ?_, ?_, ?_⟩ ?_
  iterate 5 (first | (simp (disch := omega) only [push_cast, simprocAttr, hr] <;> first | rfl | omega) | omega)
  rintro n s ⟨k, jj, m, hn, hp0, hp1, hp2, hp3, hnl, hS⟩
  have hZ : (id : Nat) ≠ s.nx ∧ s.nx ≠ (id : Nat) := by omega
  by_cases hlt : (k : Int) < jj
  · obtain ⟨j, hj⟩ : ∃ j : Nat, jj = (j : Int) := ⟨l.length - 1 - k, by omega⟩
    subst hj
    have g1 : k < m.length := by omega
    have g2 : j < m.length := by omega
    have g3 : (k : Int) < (l.length : Int) := by omega
    have g4 : (j : Int) < (l.length : Int) := by omega
    have g5 : k < l.length := by omega
    have g6 : j < l.length := by omega
    repeat' first
      | apply AW.seq | apply AW.region | apply AW.ret | apply AW.block | apply AW.skip | apply AW.exit | apply AW.scope | apply AW.label | apply AWL.nil | apply D.nil
      | refine AW.draw (id := 3) cx_mixed [13, 14, 15] [2, 3] [id] 0 (by decide +kernel) ?_
      | refine W.draw cx_mixed (by decide +kernel) ?_
      | ((first | (apply W.step cx_ok; decide) | (apply D.step cx_ok; decide; decide) | apply W.store cx_ok | apply AW.cond); (simp (disch := omega) only [push_cast, simprocAttr, hS, hZ, hid, getD_setNe, getD_eStep, get_eStep, g1, g2, g3, g4, g5, g6, hlt] <;> rfl); all_goals try ((with_reducible intro hI); try first | (cases hI; done) | (simp only [INTS] at hI; try first | (exfalso; omega) | (have hT : True := hI; clear hT hI))))
      | ((first | (apply D.store cx_ok; decide) | (apply D.stept cx_ok; decide; decide) | (apply D.stepm cx_ok; decide; decide)); (simp (disch := omega) only [push_cast, simprocAttr, hS, hZ, hid, getD_setNe, getD_eStep, get_eStep, g1, g2, g3, g4, g5, g6, hlt] <;> rfl); try first | exact .inl rfl | exact .inr (by simp))
      | ((apply D.alloct cx_ok; decide; decide); (simp (disch := omega) only [push_cast, simprocAttr, hS, hZ, hid, getD_setNe, getD_eStep, get_eStep, g1, g2, g3, g4, g5, g6, hlt] <;> rfl); first | exact .inl rfl | exact .inr (by simp))
      | ((first | apply W.retC | apply W.endC' | apply W.retM | apply W.endM' | apply W.ret1 | apply W.end1 | apply W.ret2 | apply W.end2 | apply W.ret3 | apply W.end3 | apply W.ret0 | apply W.end0); (iterate 2 (try (simp (disch := omega) only [push_cast, simprocAttr, hS, hZ, hid, getD_setNe, getD_eStep, get_eStep, g1, g2, g3, g4, g5, g6, hlt] <;> rfl))))
    all_goals
      (refine ⟨l.length - (k + 1), ?_, k + 1, (j : Int) - 1, (m.set k (m.getD j ⟨0, false, 0⟩)).set j (m.getD k ⟨0, false, 0⟩), rfl, (by simp; exact hp0), (by omega), (revI_step hp2 hp0 (by omega) (by omega)), (by intro q hjlt hjne; simp (disch := omega) only [push_cast, if_neg, hp3]), ?_, ?_, ?_, ?_, ?_⟩; (omega); all_goals first | (simp (disch := omega) only [push_cast, simprocAttr, hS, hZ, hid, getD_setNe, getD_eStep, get_eStep, g1, g2, g3, g4, g5, g6, hlt] <;> first | rfl | omega) | omega)
  ·
    repeat' first
      | apply AW.seq | apply AW.region | apply AW.ret | apply AW.block | apply AW.skip | apply AW.exit | apply AW.scope | apply AW.label | apply AWL.nil | apply D.nil
      | refine W.draw cx_mixed (by decide +kernel) ?_
      | ((first | (apply W.step cx_ok; decide) | (apply D.step cx_ok; decide; decide) | apply W.store cx_ok | apply AW.cond); (simp (disch := omega) only [push_cast, simprocAttr, hS, hZ, hlt] <;> rfl); all_goals try ((with_reducible intro hI); try first | (cases hI; done) | (simp only [INTS] at hI; try first | (exfalso; omega) | (have hT : True := hI; clear hT hI))))
      | ((first | apply W.retC | apply W.endC' | apply W.retM | apply W.endM' | apply W.ret1 | apply W.end1 | apply W.ret2 | apply W.end2 | apply W.ret3 | apply W.end3 | apply W.ret0 | apply W.end0); (iterate 2 (try (simp (disch := omega) only [push_cast, simprocAttr, hS, hZ, hlt] <;> rfl))))
    all_goals
      ((try simp only [thenQ, blockQ, loopQ, scopeQ, if_true, reduceIte])
       first | apply W.retX (vs := []) | apply W.endX (vs := [])
       · rfl
       refine ⟨?_, hnl, hp3⟩
       · rw [← revI_end hp2 hp0 (by omega)]; (simp (disch := omega) only [push_cast, simprocAttr, hS, hZ]))

def routeH (h : House) (a t to : Int) : List Step × Int :=
  if askedE h [a, to] [t] ≠ 0 then ([], askedE h [a, to] [t]) else if (arrH h a.toNat t).1.getD to.toNat 0 = 1073741824 then ([], 5) else
  ((routeL (arrH h a.toNat t).1 (arrH h a.toNat t).2 a (rk (arrH h a.toNat t).1 ((arrH h a.toNat t).1.getD to.toNat 0) + 1) to).reverse, 0)
theorem askedTwoOne_ok (h : House) (a b t : Int) (hfit : h.Fit) : OKv cx 74 [.agg (eHouse h), .lst [[ai a], [ai b]], .lst [[ai t]]] (ai (askedE h [a, b] [t])) := asked_ok h [a, b] [t] hfit (by simp) (by simp)
theorem Route_ok (h : House) (a t to0 : Int) (hfit : h.Fit) : OKv cx 52 [.agg (eHouse h), ai a, ai t, ai to0] (.tup [.lst ((routeH h a t to0).1.map eStep), ai (routeH h a t to0).2]) := by
  by_cases he : askedE h [a, to0] [t] = 0
  · obtain ⟨hc, hrr, htt⟩ := askedE_zero he
    have hra := hrr a (by simp)
    have hrb := hrr to0 (by simp)
    have ht := htt t (by simp)
    unfold isRoom at hra hrb
    have hv := Check_V hc
    have hrl := hv.rooms
    have hC : Came h a.toNat t (arrH h a.toNat t).1 (arrH h a.toNat t).2 := came hv (by omega) ht
    have hE : routeH h a t to0 = if (arrH h a.toNat t).1.getD to0.toNat 0 = 1073741824 then ([], 5) else ((routeL (arrH h a.toNat t).1 (arrH h a.toNat t).2 a (rk (arrH h a.toNat t).1 ((arrH h a.toNat t).1.getD to0.toNat 0) + 1) to0).reverse, 0) := if_neg (by simp [he])
    have hBl := (arrH_len h a.toNat t).2
    obtain ⟨R, hR⟩ : ∃ x, (arrH h a.toNat t).1 = x := ⟨_, rfl⟩
    obtain ⟨B, hB⟩ : ∃ x, (arrH h a.toNat t).2 = x := ⟨_, rfl⟩
    have har : arrH h a.toNat t = (R, B) := by rw [← hR, ← hB]
    rw [hR, hB] at hE hC
    rw [hB] at hBl
    have hRl := hC.len
    have hb1 := hrb.1
    have hb2 : to0 < (R.length : Int) := by omega
    have hb3 : to0.toNat < R.length := by omega
    have hb4 := hrb.2
    have hao := arrivals_ok h a t hfit hv hra ht
    rw [har] at hao
    by_cases hnv : R.getD to0.toNat 0 = 1073741824
    · rw [if_pos hnv] at hE
      rw [hE]
      refine OKat.of_body (rs := [8, 9]) Tryd.func52 rfl (by decide +kernel) rfl (by simp [Tryd.ntmps52]) ?_
      simp only [Tryd.ntmps52]
      repeat' first
        | apply AW.seq | apply AW.region | apply AW.ret | apply AW.block | apply AW.skip | apply AW.exit | apply AW.scope | apply AW.label | apply AWL.nil | apply D.nil
        | refine W.draw cx_mixed (by decide +kernel) ?_
        | ((first | (apply W.step cx_ok; decide) | (apply D.step cx_ok; decide; decide) | apply W.store cx_ok | apply AW.cond); (simp (disch := omega) only [push_cast, simprocAttr, he, hb1, hb2, hb3, hb4, hnv] <;> rfl); all_goals try ((with_reducible intro hI); try first | (cases hI; done) | (simp only [INTS] at hI; try first | (exfalso; omega) | (have hT : True := hI; clear hT hI))))
        | ((first | (apply W.callv cx_ok; decide) | (apply D.callv cx_ok; decide; decide)); (iterate 2 (simp (disch := omega) only [push_cast, simprocAttr, he, hb1, hb2, hb3, hb4, hnv] <;> rfl)); (with_reducible first | exact askedTwoOne_ok _ _ _ _ hfit | exact hao); try first | rfl | (simp (disch := omega) only [push_cast, simprocAttr, he, hb1, hb2, hb3, hb4, hnv] <;> rfl))
        | ((first | apply W.ret2 | apply W.end2); (iterate 2 (try (simp (disch := omega) only [push_cast, simprocAttr, he, hb1, hb2, hb3, hb4, hnv] <;> rfl))))
      all_goals (show _ = _; rfl)
    · rw [if_neg hnv] at hE
      have hlt0 : R.getD to0.toNat 0 < 1073741824 := by have := (hC.bound to0.toNat (by omega)).2; omega
      have hrk := rk_le R (R.getD to0.toNat 0)
      have hRL := (route_walk hc hra ht hC (rk R (R.getD to0.toNat 0) + 1) to0 hrb hlt0 (Nat.lt_succ_self _)).2
      rw [hE]
      refine OKat.of_body (rs := [8, 9]) Tryd.func52 rfl (by decide +kernel) rfl (by simp [Tryd.ntmps52]) ?_
      simp only [Tryd.ntmps52]
      repeat' first
        | apply AW.seq | apply AW.region | apply AW.ret | apply AW.block | apply AW.skip | apply AW.exit | apply AW.scope | apply AW.label | apply AWL.nil | apply D.nil
        | refine W.draw cx_mixed (by decide +kernel) ?_
        | ((first | (apply W.step cx_ok; decide) | (apply D.step cx_ok; decide; decide) | apply W.store cx_ok | apply AW.cond); (simp (disch := omega) only [push_cast, simprocAttr, he, hb1, hb2, hb3, hb4, hnv] <;> rfl); all_goals try ((with_reducible intro hI); try first | (cases hI; done) | (simp only [INTS] at hI; try first | (exfalso; omega) | (have hT : True := hI; clear hT hI))))
        | ((first | (apply W.callv cx_ok; decide) | (apply D.callv cx_ok; decide; decide)); (iterate 2 (simp (disch := omega) only [push_cast, simprocAttr, he, hb1, hb2, hb3, hb4, hnv] <;> rfl)); (with_reducible first | exact askedTwoOne_ok _ _ _ _ hfit | exact hao); try first | rfl | (simp (disch := omega) only [push_cast, simprocAttr, he, hb1, hb2, hb3, hb4, hnv] <;> rfl))
        | ((first | apply W.ret2 | apply W.end2); (iterate 2 (try (simp (disch := omega) only [push_cast, simprocAttr, he, hb1, hb2, hb3, hb4, hnv] <;> rfl))))
      refine AW.adopt 13 3 84 ?_ ?_
      · simp (disch := omega) only [push_cast, simprocAttr, he, hb1, hb2, hb3, hb4, hnv]
      refine AW.loop (fun n s => ∃ (k : Nat) (to : Int) (out : List Step), n = k ∧ (0 ≤ to ∧ to < (h.rooms.length : Int)) ∧ (R.getD to.toNat 0 < 1073741824) ∧ (rk R (R.getD to.toNat 0) < k) ∧ (out ++ routeL R B a k to = routeL R B a (rk R (R.getD to0.toNat 0) + 1) to0) ∧ (out.length + k ≤ 100) ∧ 4 ≤ s.nx ∧ s.tm 1 = ai a ∧ s.tm 3 = ai to ∧ s.tm 4 = .ptr 0 0 0 1 ∧ s.tm 11 = lInt R ∧ s.tm 12 = .lst (B.map eGate) ∧ s.tm 13 = .ref 3 0 out.length ∧ Pg.rowAt s.H (0) = some ({ k := 3, es := [eHouse h], ty := 26 }) ∧ Pg.rowAt s.H (3) = some ({ k := 3, es := out.map eStep, ty := 84, lo := out.length })) ((rk R (R.getD to0.toNat 0) + 1)) ⟨_, to0, [], rfl, hrb, hlt0, (Nat.lt_succ_self _), rfl, (by simp only [List.length_nil]; omega), ?_, ?_, ?_, ?_, ?_, ?_, ?_, ?_, ?_⟩ ?_
      iterate 9 (first | (simp (disch := omega) only [push_cast, simprocAttr, he, hb1, hb2, hb3, hb4, hnv] <;> first | rfl | omega) | omega)
      rintro n s ⟨k, to, out, hn, hp0, hp1, hp2, hp3, hp4, hnl, hS⟩
      have hZ : (0 : Nat) ≠ s.nx ∧ s.nx ≠ (0 : Nat) ∧ (3 : Nat) ≠ s.nx ∧ s.nx ≠ (3 : Nat) := by omega
      refine AW.fresh fun hfr => ?_
      obtain ⟨k', rfl⟩ : ∃ k', k = k' + 1 := ⟨k - 1, by omega⟩
      by_cases hta : to = a
      · have hout : out = routeL R B a (rk R (R.getD to0.toNat 0) + 1) to0 := by rw [← hp3, routeL, if_pos hta, List.append_nil]
        have hol : out.length ≤ 1000 := by omega
        have htT : (to = a) = True := eq_true hta
        repeat' first
          | apply AW.seq | apply AW.region | apply AW.ret | apply AW.block | apply AW.skip | apply AW.exit | apply AW.scope | apply AW.label | apply AWL.nil | apply D.nil
          | refine W.draw cx_mixed (by decide +kernel) ?_
          | ((first | (apply W.step cx_ok; decide) | (apply D.step cx_ok; decide; decide) | apply W.store cx_ok | apply AW.cond); (simp (disch := omega) only [push_cast, simprocAttr, hS, hZ, htT] <;> rfl); all_goals try ((with_reducible intro hI); try first | (cases hI; done) | (simp only [INTS] at hI; try first | (exfalso; omega) | (have hT : True := hI; clear hT hI))))
          | ((first | apply W.ret2 | apply W.end2); (iterate 2 (try (simp (disch := omega) only [push_cast, simprocAttr, hS, hZ, htT] <;> rfl))))
        refine W.callm cx_ok (by decide) (f := 98) (caps := []) (by simp (disch := omega) only [push_cast, simprocAttr, hS, hZ]) (Reverse_ok (id := 3) out (by simp (disch := omega) only [push_cast, simprocAttr, hS, hZ] <;> rfl) (by simp (disch := omega) only [push_cast, simprocAttr, hS, hZ]; omega) hol (by simp (disch := omega) only [push_cast, simprocAttr, hS, hZ])) ?_
        rintro r H' nx' ⟨hB1, hN1, hF1⟩
        repeat' first
          | apply AW.seq | apply AW.region | apply AW.ret | apply AW.block | apply AW.skip | apply AW.exit | apply AW.scope | apply AW.label | apply AWL.nil | apply D.nil
          | refine W.draw cx_mixed (by decide +kernel) ?_
          | ((first | (apply W.step cx_ok; decide) | (apply D.step cx_ok; decide; decide) | apply W.store cx_ok | apply AW.cond); (simp (disch := omega) only [push_cast, simprocAttr, hS, hZ, hB1, pure_steps, List.length_reverse, take_rev] <;> rfl); all_goals try ((with_reducible intro hI); try first | (cases hI; done) | (simp only [INTS] at hI; try first | (exfalso; omega) | (have hT : True := hI; clear hT hI))))
          | ((first | apply W.ret2 | apply W.end2); (iterate 2 (try (simp (disch := omega) only [push_cast, simprocAttr, hS, hZ, hB1, pure_steps, List.length_reverse, take_rev] <;> rfl))))
        all_goals (show _ = _; rw [hout])
      · have htF : (to = a) = False := eq_false hta
        obtain ⟨hgo, n1, n2, n3, n4, n5, n6⟩ := hC.next hv hra ht hp0 hp1 hta
        have c1 := hp0.1
        have c2 := hp0.2
        have c3 : to < (R.length : Int) := by omega
        have c4 : to.toNat < R.length := by omega
        have c5 : to < (B.length : Int) := by omega
        have c6 : to.toNat < B.length := by omega
        have d1 := hgo.secs
        have d2 := (hC.bound to.toNat (by omega))
        have hfz : ∀ m, s.H (s.nx + m) = none := fun m => hfr _ (by omega)
        repeat' first
          | apply AW.seq | apply AW.region | apply AW.ret | apply AW.block | apply AW.skip | apply AW.exit | apply AW.scope | apply AW.label | apply AWL.nil | apply D.nil
          | refine AW.draw (id := 10) cx_mixed [14, 15] [] [] 16 (by decide +kernel) ?_
          | refine W.draw cx_mixed (by decide +kernel) ?_
          | ((first | (apply W.step cx_ok; decide) | (apply D.step cx_ok; decide; decide) | apply W.store cx_ok | apply AW.cond); (simp (disch := omega) only [push_cast, simprocAttr, hS, hZ, htF, c1, c2, c3, c4, c5, c6, hfz, List.length_cons, List.length_nil, pure_steps, take_map_all] <;> rfl); all_goals try ((with_reducible intro hI); try first | (cases hI; done) | (simp only [INTS] at hI; try first | (exfalso; omega) | (have hT : True := hI; clear hT hI))))
          | ((first | (apply D.store cx_ok; decide) | (apply D.stept cx_ok; decide; decide) | (apply D.stepm cx_ok; decide; decide)); (simp (disch := omega) only [push_cast, simprocAttr, hS, hZ, htF, c1, c2, c3, c4, c5, c6, hfz, List.length_cons, List.length_nil, pure_steps, take_map_all] <;> rfl); try first | exact .inl rfl | exact .inr (by simp))
          | ((apply D.alloc cx_ok; decide; decide); (simp (disch := omega) only [push_cast, simprocAttr, hS, hZ, htF, c1, c2, c3, c4, c5, c6, hfz, List.length_cons, List.length_nil, pure_steps, take_map_all] <;> rfl); (simp (disch := omega) only [push_cast, simprocAttr, hS, hZ, htF, c1, c2, c3, c4, c5, c6, hfz, List.length_cons, List.length_nil, pure_steps, take_map_all, updH_at, Nat.add_assoc]); (simp (disch := omega) only [push_cast, simprocAttr, hS, hZ, htF, c1, c2, c3, c4, c5, c6, hfz, List.length_cons, List.length_nil, pure_steps, take_map_all] <;> omega))
          | ((apply D.alloct cx_ok; decide; decide); (simp (disch := omega) only [push_cast, simprocAttr, hS, hZ, htF, c1, c2, c3, c4, c5, c6, hfz, List.length_cons, List.length_nil, pure_steps, take_map_all] <;> rfl); first | exact .inl rfl | exact .inr (by simp))
          | (apply D.append cx_ok; decide; decide; rfl; rfl; rfl; decide; (iterate 3 (simp (disch := omega) only [push_cast, simprocAttr, hS, hZ, htF, c1, c2, c3, c4, c5, c6, hfz, List.length_cons, List.length_nil, pure_steps, take_map_all] <;> rfl)); simp; (rfl); ((try dsimp only); (try simp only [List.length_map, List.length_append, List.length_cons, List.length_nil]); omega); ((try dsimp only); (try simp only [List.length_map, List.length_append, List.length_cons, List.length_nil]); omega); first | exact .inl rfl | exact .inr (by simp))
          | ((first | apply W.ret2 | apply W.end2); (iterate 2 (try (simp (disch := omega) only [push_cast, simprocAttr, hS, hZ, htF, c1, c2, c3, c4, c5, c6, hfz, List.length_cons, List.length_nil, pure_steps, take_map_all] <;> rfl))))
        all_goals
          (rw [routeL, if_neg hta] at hp3
           (refine ⟨k', ?_, _, (B.getD to.toNat .zero).from', out ++ [⟨(B.getD to.toNat .zero).way, (B.getD to.toNat .zero).back, R.getD to.toNat 0 - (B.getD to.toNat .zero).secs⟩], rfl, hgo.from', n1, (by omega), (by rw [List.append_assoc]; exact hp3), (by simp; omega), ?_, ?_, ?_, ?_, ?_, ?_, ?_, ?_, ?_⟩; (omega); all_goals first | (simp (disch := omega) only [push_cast, simprocAttr, hS, hZ, hta, c1, c2, c3, c4, c5, c6, List.length_cons, List.length_nil, pure_steps, take_map_all] <;> first | rfl | omega) | omega))
  · have hE : routeH h a t to0 = ([], askedE h [a, to0] [t]) := if_pos he
    rw [hE]
    refine OKat.of_body (rs := [8, 9]) Tryd.func52 rfl (by decide +kernel) rfl (by simp [Tryd.ntmps52]) ?_
    simp only [Tryd.ntmps52]
    repeat' first
      | apply AW.seq | apply AW.region | apply AW.ret | apply AW.block | apply AW.skip | apply AW.exit | apply AW.scope | apply AW.label | apply AWL.nil | apply D.nil
      | refine W.draw cx_mixed (by decide +kernel) ?_
      | ((first | (apply W.step cx_ok; decide) | (apply D.step cx_ok; decide; decide) | apply W.store cx_ok | apply AW.cond); (simp (disch := omega) only [push_cast, simprocAttr, he] <;> rfl); all_goals try ((with_reducible intro hI); try first | (cases hI; done) | (simp only [INTS] at hI; try first | (exfalso; omega) | (have hT : True := hI; clear hT hI))))
      | ((first | (apply W.callv cx_ok; decide) | (apply D.callv cx_ok; decide; decide)); (iterate 2 (simp (disch := omega) only [push_cast, simprocAttr, he] <;> rfl)); (with_reducible first | exact askedTwoOne_ok _ _ _ _ hfit); try first | rfl | (simp (disch := omega) only [push_cast, simprocAttr, he] <;> rfl))
      | ((first | apply W.ret2 | apply W.end2); (iterate 2 (try (simp (disch := omega) only [push_cast, simprocAttr, he] <;> rfl))))
    all_goals (show _ = _; rfl)

end Go.Proofs.Hs
