/-
  Contracts of functions, proved by going through their code. No conditions.
-/
import Derived.Test.YtmcchoalekmklaaGreatZaj
import Derived.Test.YtmcchoalekmklaaGreatZak
import Derived.Test.YtmcchoalekmklaaGreatZas
import Derived.Test.YtmcchoalekmklaaGreatZat
import Derived.Test.YtmcchoalekmklaaGreatZau
set_option linter.unusedVariables false
set_option linter.unusedSimpArgs false
namespace Go.Proofs.Ks
open Go Go.Pg Go.Proofs Go.Proofs.Yt
section
variable {L : List Lk} {n : Nat} {B : Int}
theorem attained (hL : ∀ l ∈ L, l.a < n ∧ l.b < n) (hB0 : 0 ≤ B) (hB : ∀ l ∈ L, -B ≤ l.m ∧ l.m ≤ B) (hfar : B * (n : Int) < far) (hn : NoNeg L) {s k : Nat} (hs : s < n) (hk : k < n) :
    ∃ f, Sat f L ∧ (lengthsF n L (s : Int)).1.getD k 0 ≤ f k - f s ∧ (¬ (lengthsF n L (s : Int)).1.getD k 0 < far → ∀ C : Int, ∃ g, Sat g L ∧ C ≤ g k - g s) := by
  have hd := lengths_dist hL hB0 hB hfar hn (s : Int)
  obtain ⟨h, hh⟩ := pot_of_noNeg hL hB0 hB hfar hn
  obtain ⟨d, hdd⟩ : ∃ d, (fun k => (lengthsF n L (s : Int)).1.getD k 0) = d := ⟨_, rfl⟩
  rw [hdd] at hd
  have hdk : ∀ v, (lengthsF n L (s : Int)).1.getD v 0 = d v := fun v => by rw [← hdd]
  rw [hdk]
  have hsrc : SrcF n (s : Int) s := ⟨hs, .inr rfl⟩
  have hone : ∀ {z}, SrcF n (s : Int) z → z = s := fun {z} hz => by have := hz.2; omega
  have d0 : d s = 0 := by
    have h1 := hd.low s [] s hsrc rfl
    have hf : (0 : Int) < far := by decide
    simp only [lenW] at h1
    obtain ⟨z, p, hz, hw, hp⟩ := hd.real s hs (by omega)
    rw [hone hz] at hw
    have := hn s p hw
    omega
  have key : ∀ C : Int, 0 ≤ h s + C → ∃ f, Sat f L ∧ f s = 0 ∧ (d k < far → f k = min (d k) (h k + C)) ∧ (¬ d k < far → f k = h k + C) := fun C hC => by
    refine ⟨fun v => if d v < far then min (d v) (h v + C) else h v + C, fun l hl => ?_, ?_, fun e => if_pos e, fun e => if_neg e⟩
    · obtain ⟨ha, hb⟩ := hL l hl
      have hh' := hh l hl
      dsimp only
      by_cases e : d l.a < far
      · obtain ⟨z, p, hz, hw, hp⟩ := hd.real l.a ha e
        rw [hone hz] at hw
        have hw2 := hw.snoc hl
        have h1 := hd.low s _ l.b hsrc hw2
        rw [lenW_append, hp] at h1
        have e1 : lenW [l] = l.m := by simp [lenW]
        rw [e1] at h1
        obtain ⟨q, q1, q2, q3⟩ := hn.short hw2
        have h2 := Semi.lt hL hB0 hB hfar q3.semi q1 hs
        have h3 := hd.low s q l.b hsrc q1
        rw [if_pos e, if_pos (by omega)]
        omega
      · rw [if_neg e]
        split <;> omega
    · dsimp only
      rw [d0, if_pos (by decide)]; omega
  obtain ⟨f, f1, f2, f3, f4⟩ := key ((if h s < 0 then -(h s) else 0) + (if h k < far then far - h k else 0)) (by split <;> split <;> omega)
  have hle := hd.le k hk
  refine ⟨f, f1, ?_, fun hno C => ?_⟩
  · rw [f2]
    by_cases e : d k < far
    · rw [f3 e]
      split <;> split <;> omega
    · rw [f4 e]
      split <;> split <;> omega
  · obtain ⟨g, g1, g2, _, g4⟩ := key ((if h s < 0 then -(h s) else 0) + (if h k < C then C - h k else 0)) (by split <;> split <;> omega)
    refine ⟨g, g1, ?_⟩
    rw [g2, g4 hno]
    split <;> split <;> omega
end
theorem strikeI_get {r : Rec} {n : Int} (h : n ∈ r.strikes.map (·.id)) : ∃ x, r.strikes[(strikeI n 0 r.strikes).toNat]? = some x ∧ x.id = n := by
  rcases strikeI_case n r.strikes 0 with ⟨h1, _⟩ | ⟨i, h1, h2, h3, _⟩
  · exact absurd h h1
  · rw [h2, Nat.zero_add, Int.toNat_natCast]
    refine ⟨r.strikes.getD i default, ?_, h3⟩
    rw [List.getD_eq_getElem?_getD, List.getElem?_eq_getElem h1]; rfl
theorem spansP_get {r : Rec} {i : Nat} (h : i < r.strikes.length) : (spansP r)[i]? = some (spanF (nodesR r []) (linksR r []) 0 (3 + i)) := by
  unfold spansP
  rw [List.getElem?_map, List.getElem?_range h]; rfl
end Go.Proofs.Ks

namespace Go.Proofs.Ks
open Go Go.Pg Go.Proofs Go.Proofs.Yt
structure Pf (L : List Lk) (n s : Nat) (d b : List Int) (t : Nat → Nat) (T : Nat) : Prop where
  lend : d.length = n
  lenb : b.length = n
  old : ∀ v, v < n → t v = 0 → v = s ∨ ¬ d.getD v 0 < far
  now : ∀ v, t v ≤ T
  par : ∀ v, v < n → 0 < t v → (0 ≤ b.getD v 0 ∧ b.getD v 0 < (L.length : Int)) ∧ (lkAt L (b.getD v 0)).b = v ∧ d.getD (lkAt L (b.getD v 0)).a 0 < far ∧
    (d.getD (lkAt L (b.getD v 0)).a 0 + (lkAt L (b.getD v 0)).m < d.getD v 0 ∨ (d.getD (lkAt L (b.getD v 0)).a 0 + (lkAt L (b.getD v 0)).m = d.getD v 0 ∧ t (lkAt L (b.getD v 0)).a < t v))
section
variable {L : List Lk} {n s : Nat} {d b : List Int} {t : Nat → Nat} {T : Nat} {B : Int}
end
end Go.Proofs.Ks

namespace Go.Proofs.Ks
open Go Go.Pg Go.Proofs Go.Proofs.Yt
theorem sumS_bd {f : Stop → Int} {x y : Int} : ∀ {l : List Stop}, (∀ t ∈ l, 0 ≤ f t ∧ f t ≤ 36000) → 0 ≤ sumS f x y l 0 ∧ sumS f x y l 0 ≤ 36000 * (l.length : Int)
  | [], _ => by simp [sumS]
  | t :: l, h => by
    have ih := sumS_bd (x := x) (y := y) (fun t ht => h t (List.mem_cons_of_mem _ ht))
    have h0 := h t (by simp)
    unfold sumS
    rw [List.length_cons]
    split
    · rw [sumS_go f x y l]; omega
    · omega
theorem leastR_bd {s : Session} (hs : s.R) {x y : Int} (h0 : 0 ≤ x) (h1 : x ≤ y) (h2 : y ≤ 43200) : 0 ≤ (leastR s x y).1 ∧ (leastR s x y).2 ≤ 200000 := by
  obtain ⟨r1, r2, r3⟩ := hs.rate
  have hn := hs.nstops
  rw [(leastR_eq s x y).1, (leastR_eq s x y).2]
  have s1 := sumS_bd (f := (·.secs.lo)) (x := x) (y := y) (l := s.stops) (fun t ht => by have := hs.stops t ht; omega)
  have s2 := sumS_bd (f := (·.secs.hi)) (x := x) (y := y) (l := s.stops) (fun t ht => by have := hs.stops t ht; omega)
  have d1 := fl_nn (a := (y - x) * 1000000) (d := s.rate.hi) (by omega) (by omega)
  have d2 := (div_bound (n := (y - x) * 1000000 + s.rate.lo - 1) (d := s.rate.lo) (by omega) (by omega) (by omega)).2
  omega
theorem marks_bd {r : Rec} (hv : r.V) {p : Int} (h : p ∈ marksR r []) : 0 ≤ p ∧ p ≤ 43200 := by
  obtain ⟨z1, z2, z3⟩ := hv.z
  obtain ⟨f1, f2, f3⟩ := hv.f
  rcases marksR_mem.1 h with h | ⟨u, hu, h⟩ | h
  · omega
  · have := hv.strikes u hu; omega
  · cases h
theorem sat_near {r : Rec} (hv : r.V) {f : Nat → Int} (h : Sat f (linksR r [])) : (∀ k, k < (nodesR r []).length → -200000 ≤ f k - f 0 ∧ f k - f 0 ≤ 1073941823) ∧ ∀ i, i < r.strikes.length → 0 ≤ f (3 + i) - f 0 ∧ f (3 + i) - f 0 ≤ 1073741823 := by
  have hT := tim_of hv h
  have hrow := hT.row
  have i1 := hv.inn
  have i2 := hv.out
  have t1 := hT.inn
  have t2 := hT.out
  have up : ∀ j, j < r.strikes.length → f 1 ≤ f (3 + j) := by
    intro j
    induction j with
    | zero => intro hj; have := hrow 0 (by omega); rw [if_neg (by omega), if_pos hj] at this; exact this
    | succ j ih =>
      intro hj
      have h1 := hrow (j + 1) (by omega)
      rw [if_pos (by omega), if_pos hj] at h1
      have h1 : f (3 + (j + 1 - 1)) ≤ f (3 + (j + 1)) := h1
      rw [Nat.add_sub_cancel] at h1
      have := ih (by omega)
      omega
  have down : ∀ c j, j + c + 1 = r.strikes.length → f (3 + j) ≤ f 2 := by
    intro c
    induction c with
    | zero =>
      intro j hj
      have h1 := hrow (j + 1) (by omega)
      rw [if_pos (by omega), if_neg (by omega)] at h1
      have h1 : f (3 + (j + 1 - 1)) ≤ f 2 := h1
      rwa [Nat.add_sub_cancel] at h1
    | succ c ih =>
      intro j hj
      have h1 := hrow (j + 1) (by omega)
      rw [if_pos (by omega), if_pos (by omega)] at h1
      have h1 : f (3 + (j + 1 - 1)) ≤ f (3 + (j + 1)) := h1
      rw [Nat.add_sub_cancel] at h1
      have := ih (j + 1) (by omega)
      omega
  have hst : ∀ i, i < r.strikes.length → 0 ≤ f (3 + i) - f 0 ∧ f (3 + i) - f 0 ≤ 1073741823 := fun i hi => by
    have a := up i hi
    have b := down (r.strikes.length - i - 1) i (by omega)
    omega
  refine ⟨fun k hk => ?_, hst⟩
  have hnl := nodesR_len r []
  obtain ⟨m1, m2, m3, m4, m5⟩ := marks_ends r []
  have hpr : ∀ x ∈ marksR r [], ∀ y ∈ marksR r [], x < y → 0 ≤ f (atI 4 y 0 (nodesR r [])).toNat - f (atI 4 x 0 (nodesR r [])).toNat ∧ f (atI 4 y 0 (nodesR r [])).toNat - f (atI 4 x 0 (nodesR r [])).toNat ≤ 200000 := fun x hx y hy hxy => by
    have h1 := hT.pairs x hx y hy hxy
    have h2 := leastR_bd hv.r (marks_bd hv hx).1 (by omega) (marks_bd hv hy).2
    omega
  have hz : f (atI 4 r.s.zero.lo 0 (nodesR r [])).toNat ≤ f 1 ∧ f 1 ≤ f (atI 4 (r.s.zero.hi + 1) 0 (nodesR r [])).toNat := hT.zero
  by_cases k0 : k = 0
  · subst k0; omega
  by_cases k1 : k = 1
  · subst k1; omega
  by_cases k2 : k = 2
  · subst k2; omega
  by_cases k3 : k < 3 + r.strikes.length
  · have := hst (k - 3) (by omega)
    rw [show 3 + (k - 3) = k by omega] at this
    omega
  · have hj : k - (3 + r.strikes.length) < (marksR r []).length := by omega
    have hg : (marksR r [])[k - (3 + r.strikes.length)]? = some (marksR r [])[k - (3 + r.strikes.length)] := List.getElem?_eq_getElem hj
    have hm := List.getElem_mem hj
    have ha := at_mark_ix (r := r) (more := []) (x := (marksR r [])[k - (3 + r.strikes.length)]) hj (by rw [List.getD_eq_getElem?_getD, hg]; rfl)
    rw [atP_mark hm] at ha
    obtain ⟨p, hp⟩ : ∃ z, (marksR r [])[k - (3 + r.strikes.length)] = z := ⟨_, rfl⟩
    rw [hp] at hm ha
    have hk' : (atI 4 p 0 (nodesR r [])).toNat = k := by omega
    have hlo : f k ≤ f (atI 4 r.s.zero.lo 0 (nodesR r [])).toNat + 200000 := by
      rcases Int.lt_trichotomy p r.s.zero.lo with e | e | e
      · have := hpr p hm _ m1 e; rw [hk'] at this; omega
      · rw [← e, hk']; omega
      · have := hpr _ m1 p hm e; rw [hk'] at this; omega
    have hhi : f (atI 4 (r.s.zero.hi + 1) 0 (nodesR r [])).toNat - 200000 ≤ f k := by
      rcases Int.lt_trichotomy p (r.s.zero.hi + 1) with e | e | e
      · have := hpr p hm _ m2 e; rw [hk'] at this; omega
      · rw [← e, hk']; omega
      · have := hpr _ m2 p hm e; rw [hk'] at this; omega
    omega
def dst (r : Rec) (i k : Nat) : Int := (lengthsF (nodesR r []).length (linksR r []) (i : Int)).1.getD k 0
theorem cons_noNeg {r : Rec} (hc : checkE r = 0) (hq : consP r [] = true) : NoNeg (linksR r []) := by
  obtain ⟨f1, f2, f3, f4, f5⟩ := links_facts (more := []) (checkE_V hc) (by decide) nomore
  exact (lengths_noNeg f3 (by decide : (0 : Int) ≤ 1073741823) f4 (facts_far f1)).1 (of_decide_eq_true hq)
theorem dst_spec {r : Rec} (hc : checkE r = 0) (hq : consP r [] = true) {s k : Nat} (hs : s < (nodesR r []).length) (hk : k < (nodesR r []).length) :
    (∃ f, Sat f (linksR r []) ∧ f k - f s = dst r s k) ∧ (∀ f, Sat f (linksR r []) → f k - f s ≤ dst r s k) ∧ -1074141823 ≤ dst r s k ∧ dst r s k ≤ 1074141823 := by
  have hv := checkE_V hc
  obtain ⟨f1, f2, f3, f4, f5⟩ := links_facts (more := []) hv (by decide) nomore
  have hn := cons_noNeg hc hq
  obtain ⟨f, g1, g2, g3⟩ := attained f3 (by decide : (0 : Int) ≤ 1073741823) f4 (facts_far f1) hn hs hk
  have hd := lengths_dist f3 (by decide : (0 : Int) ≤ 1073741823) f4 (facts_far f1) hn (s : Int)
  have hfar : dst r s k < far := by
    by_cases e : dst r s k < far
    · exact e
    · obtain ⟨g, h1, h2⟩ := g3 e 2000000000
      have a := (sat_near hv h1).1 k hk
      have b := (sat_near hv h1).1 s hs
      omega
  have hle : ∀ f, Sat f (linksR r []) → f k - f s ≤ dst r s k := fun f hf => by
    obtain ⟨z, p, hz, hw, hp⟩ := hd.real k hk hfar
    have hz' : z = s := by have := hz.2; omega
    subst hz'
    have := hw.pot (f := f) hf
    have hp' : lenW p = dst r z k := hp
    omega
  have e := hle f g1
  have g2 : dst r s k ≤ f k - f s := g2
  have a := (sat_near hv g1).1 k hk
  have b := (sat_near hv g1).1 s hs
  exact ⟨⟨f, g1, by omega⟩, hle, by omega, by omega⟩
theorem dst_strike {r : Rec} (hc : checkE r = 0) (hq : consP r [] = true) {i : Nat} (hi : i < r.strikes.length) : 0 ≤ dst r 0 (3 + i) ∧ dst r 0 (3 + i) ≤ 1073741823 ∧ dst r (3 + i) 0 ≤ 0 ∧ -1073741823 ≤ dst r (3 + i) 0 := by
  have hv := checkE_V hc
  have hnl := nodesR_len r []
  obtain ⟨⟨f, h1, h2⟩, _⟩ := dst_spec hc hq (show 0 < (nodesR r []).length by omega) (show 3 + i < (nodesR r []).length by omega)
  obtain ⟨⟨g, h3, h4⟩, _⟩ := dst_spec hc hq (show 3 + i < (nodesR r []).length by omega) (show 0 < (nodesR r []).length by omega)
  have a := (sat_near hv h1).2 i hi
  have b := (sat_near hv h3).2 i hi
  omega
def firstP (r : Rec) : List Int := (List.range (nodesR r []).length).map fun i => (spanF (nodesR r []) (linksR r []) 0 i).lo
def lastP (r : Rec) : List Int := (lengthsF (nodesR r []).length (linksR r []) 0).1
theorem firstP_get {r : Rec} {k : Nat} (hk : k < (nodesR r []).length) : (firstP r).getD k 0 = -(dst r k 0) := by
  unfold firstP
  rw [List.getD_eq_getElem?_getD, List.getElem?_map, List.getElem?_range hk]; rfl
theorem lastP_get (r : Rec) (k : Nat) : (lastP r).getD k 0 = dst r 0 k := rfl
theorem spans_is {r : Rec} {i : Nat} (h : i < r.strikes.length) : (spansP r)[i]? = some ⟨(firstP r).getD (3 + i) 0, (lastP r).getD (3 + i) 0⟩ := by
  have hnl := nodesR_len r []
  rw [spansP_get h, firstP_get (by omega)]
  rfl
end Go.Proofs.Ks

namespace Go.Proofs.Ks
open Go Go.Pg Go.Proofs Go.Proofs.Yt
def reach (T : Int) : Int → List Int → Int
  | _, [] => 0
  | p, a :: rs => if T ≤ p then 0 else 1 + reach T (p + a) rs
def standI (X Y : Int) : Int → List Int → Int
  | _, [] => 0
  | p, a :: rs => (if a = 0 ∧ X ≤ p ∧ p < Y then 1 else 0) + standI X Y (p + a) rs
def totI : List Int → Int
  | [] => 0
  | a :: rs => a + totI rs
def OkI (lo hi : Int) (rs : List Int) : Prop := ∀ a ∈ rs, a = 0 ∨ (lo ≤ a ∧ a ≤ hi)
theorem reach_done {T p : Int} (h : T ≤ p) : ∀ rs, reach T p rs = 0
  | [] => rfl
  | a :: rs => by unfold reach; rw [if_pos h]
theorem reach_nn {T : Int} : ∀ {p : Int} (rs : List Int), 0 ≤ reach T p rs
  | _, [] => Int.le_refl _
  | p, a :: rs => by
    unfold reach
    have := reach_nn (T := T) (p := p + a) rs
    split <;> omega
theorem stand_past {X Y lo hi : Int} (hlo : 0 < lo) : ∀ {p : Int} (rs : List Int), OkI lo hi rs → Y ≤ p → standI X Y p rs = 0
  | _, [], _, _ => rfl
  | p, a :: rs, h, hp => by
    have ha := h a (by simp)
    unfold standI
    rw [if_neg (by omega), stand_past hlo rs (fun b hb => h b (List.mem_cons_of_mem _ hb)) (by omega)]
    rfl
theorem lower_go {X Y lo hi : Int} (hlo : 0 < lo) : ∀ {p : Int} (rs : List Int), OkI lo hi rs → X ≤ p → Y ≤ p + totI rs → Y - p ≤ hi * (reach Y p rs - standI X Y p rs)
  | p, [], _, _, h => by simp only [totI, reach, standI] at *; simp; omega
  | p, a :: rs, h, hX, hY => by
    by_cases hp : Y ≤ p
    · rw [reach_done hp, stand_past hlo _ h hp]; simp; omega
    · have ha := h a (by simp)
      simp only [totI] at hY
      have ih := lower_go (X := X) (Y := Y) hlo (p := p + a) rs (fun b hb => h b (List.mem_cons_of_mem _ hb)) (by omega) (by omega)
      unfold reach standI
      rw [if_neg hp]
      by_cases h0 : a = 0
      · subst h0
        rw [if_pos ⟨rfl, hX, by omega⟩]
        rw [Int.add_zero] at ih ⊢
        rw [show 1 + reach Y p rs - (1 + standI X Y p rs) = reach Y p rs - standI X Y p rs by omega]
        exact ih
      · rw [if_neg (by omega), show 1 + reach Y (p + a) rs - (0 + standI X Y (p + a) rs) = (reach Y (p + a) rs - standI X Y (p + a) rs) + 1 by omega, Int.mul_add, Int.mul_one]
        omega
theorem upper_go {X Y lo hi : Int} (hlo : 0 < lo) : ∀ {p : Int} (rs : List Int), OkI lo hi rs → X ≤ p → p < Y → lo * (reach Y p rs - standI X Y p rs) ≤ Y - p + lo - 1
  | p, [], _, _, h => by simp only [reach, standI]; simp; omega
  | p, a :: rs, h, hX, hp => by
    have ha := h a (by simp)
    have h' : OkI lo hi rs := fun b hb => h b (List.mem_cons_of_mem _ hb)
    unfold reach standI
    rw [if_neg (by omega)]
    by_cases h0 : a = 0
    · subst h0
      rw [if_pos ⟨rfl, hX, hp⟩]
      have ih := upper_go (X := X) (Y := Y) hlo rs h' hX hp
      rw [Int.add_zero]
      rw [show 1 + reach Y p rs - (1 + standI X Y p rs) = reach Y p rs - standI X Y p rs by omega]
      exact ih
    · rw [if_neg (by omega), show 1 + reach Y (p + a) rs - (0 + standI X Y (p + a) rs) = (reach Y (p + a) rs - standI X Y (p + a) rs) + 1 by omega, Int.mul_add, Int.mul_one]
      by_cases hq : p + a < Y
      · have ih := upper_go (X := X) (Y := Y) hlo rs h' (show X ≤ p + a by omega) hq
        omega
      · rw [reach_done (by omega), stand_past hlo _ h' (by omega)]
        simp
        omega
theorem between_go {X Y lo hi : Int} (hlo : 0 < lo) (hXY : X ≤ Y) : ∀ {p : Int} (rs : List Int), OkI lo hi rs → p < X → Y ≤ p + totI rs →
    Y - X < hi * (reach Y p rs - reach X p rs - standI X Y p rs) + hi ∧ lo * (reach Y p rs - reach X p rs - standI X Y p rs) ≤ Y - X + lo - 1
  | p, [], _, h1, h2 => by simp only [totI] at h2; omega
  | p, a :: rs, h, h1, h2 => by
    have ha := h a (by simp)
    have h' : OkI lo hi rs := fun b hb => h b (List.mem_cons_of_mem _ hb)
    simp only [totI] at h2
    unfold reach standI
    rw [if_neg (by omega), if_neg (by omega), if_neg (by omega)]
    rw [show 1 + reach Y (p + a) rs - (1 + reach X (p + a) rs) - (0 + standI X Y (p + a) rs) = reach Y (p + a) rs - reach X (p + a) rs - standI X Y (p + a) rs by omega]
    by_cases hq : p + a < X
    · exact between_go hlo hXY rs h' hq (by omega)
    · have e0 : reach X (p + a) rs = 0 := reach_done (by omega) rs
      rw [e0, Int.sub_zero]
      have l1 := lower_go (X := X) (Y := Y) hlo rs h' (show X ≤ p + a by omega) (by omega)
      refine ⟨by omega, ?_⟩
      by_cases hy : p + a < Y
      · have u1 := upper_go (X := X) (Y := Y) hlo rs h' (show X ≤ p + a by omega) hy
        omega
      · rw [reach_done (by omega), stand_past hlo _ h' (by omega)]
        simp
        omega
theorem reach_le {T : Int} : ∀ {p : Int} (rs : List Int) (i : Nat), T ≤ p + totI (rs.take i) → i ≤ rs.length → reach T p rs ≤ (i : Int)
  | p, [], i, _, _ => by simp only [reach]; omega
  | p, a :: rs, 0, h, _ => by
    simp only [List.take_zero, totI] at h
    rw [reach_done (by omega)]; simp
  | p, a :: rs, i + 1, h, hi => by
    simp only [List.take_succ_cons, totI] at h
    simp only [List.length_cons] at hi
    have ih := reach_le (T := T) (p := p + a) rs i (by omega) (by omega)
    unfold reach
    split <;> omega
theorem tot_nn {lo hi : Int} (hlo : 0 < lo) : ∀ {rs : List Int}, OkI lo hi rs → 0 ≤ totI rs
  | [], _ => Int.le_refl _
  | a :: rs, h => by
    have ha := h a (by simp)
    have := tot_nn hlo (rs := rs) (fun b hb => h b (List.mem_cons_of_mem _ hb))
    simp only [totI]; omega
theorem le_reach {T lo hi : Int} (hlo : 0 < lo) : ∀ {p : Int} (rs : List Int) (i : Nat), OkI lo hi rs → p + totI (rs.take i) < T → i ≤ rs.length → (i : Int) ≤ reach T p rs
  | p, [], i, _, _, h => by simp only [List.length_nil] at h; simp only [reach]; omega
  | p, a :: rs, 0, _, _, _ => reach_nn _
  | p, a :: rs, i + 1, h, h1, h2 => by
    have ha := h a (by simp)
    have h' : OkI lo hi rs := fun b hb => h b (List.mem_cons_of_mem _ hb)
    simp only [List.take_succ_cons, totI] at h1
    simp only [List.length_cons] at h2
    have ih := le_reach (T := T) hlo (p := p + a) rs i h' (by omega) (by omega)
    have h3 := tot_nn hlo (rs := rs.take i) (fun b hb => h' b (List.mem_of_mem_take hb))
    unfold reach
    rw [if_neg (by omega)]
    omega
theorem tot_append : ∀ a b : List Int, totI (a ++ b) = totI a + totI b
  | [], b => by simp [totI]
  | x :: a, b => by simp only [List.cons_append, totI, tot_append a b]; omega
theorem stand_append (X Y : Int) : ∀ (p : Int) (a b : List Int), standI X Y p (a ++ b) = standI X Y p a + standI X Y (p + totI a) b
  | p, [], b => by simp [totI, standI]
  | p, x :: a, b => by
    simp only [List.cons_append, totI, standI]
    rw [stand_append X Y (p + x) a b, show p + x + totI a = p + (x + totI a) by omega]
    omega
theorem tot_rep (a : Int) : ∀ n : Nat, totI (List.replicate n a) = (n : Int) * a
  | 0 => by simp [totI]
  | n + 1 => by
    rw [List.replicate_succ]
    simp only [totI]
    rw [tot_rep a n, Int.natCast_add, Int.add_mul, Int.natCast_one, Int.one_mul]
    omega
theorem stand_rep {X Y : Int} {a : Int} (ha : a ≠ 0) : ∀ (n : Nat) (p : Int), standI X Y p (List.replicate n a) = 0
  | 0, _ => rfl
  | n + 1, p => by
    rw [List.replicate_succ]
    unfold standI
    rw [if_neg (fun h => ha h.1), stand_rep ha n]; rfl
theorem stand_rep0 {X Y p : Int} : ∀ (n : Nat), standI X Y p (List.replicate n 0) = if X ≤ p ∧ p < Y then (n : Int) else 0
  | 0 => by simp [standI]
  | n + 1 => by
    rw [List.replicate_succ]
    unfold standI
    rw [Int.add_zero, stand_rep0 n]
    by_cases h : X ≤ p ∧ p < Y
    · rw [if_pos h, if_pos ⟨rfl, h⟩, if_pos h]; omega
    · rw [if_neg h, if_neg (fun e => h e.2), if_neg h]; rfl
def secsL : List Leg → List Int
  | [] => []
  | y :: l => List.replicate y.secs.toNat y.rate ++ secsL l
theorem secs_tot : ∀ {l : List Leg}, (∀ y ∈ l, 1 ≤ y.secs) → totI (secsL l) = sumP l ∧ ((secsL l).length : Int) = sumT l
  | [], _ => ⟨rfl, rfl⟩
  | y :: l, h => by
    have hy := h y (by simp)
    obtain ⟨h1, h2⟩ := secs_tot (l := l) fun z hz => h z (List.mem_cons_of_mem _ hz)
    simp only [secsL, tot_append, tot_rep, List.length_append, List.length_replicate, sumP, sumT]
    rw [h1, Int.toNat_of_nonneg (by omega)]
    exact ⟨rfl, by omega⟩
theorem need_secs : ∀ {l : List Leg} {F p : Int}, (∀ y ∈ l, 1 ≤ y.secs) → 0 ≤ F → needF l F p = p + totI ((secsL l).take F.toNat)
  | [], F, p, _, _ => by simp [needF, secsL, totI]
  | y :: l, F, p, h, hF => by
    have hy := h y (by simp)
    unfold needF
    rw [need_secs (fun z hz => h z (List.mem_cons_of_mem _ hz)) (by omega)]
    simp only [secsL]
    rw [List.take_append, List.take_replicate, tot_append, tot_rep, List.length_replicate]
    rw [show ((min F.toNat y.secs.toNat : Nat) : Int) = min F y.secs by omega, show (F - min F y.secs).toNat = F.toNat - y.secs.toNat by omega]
    omega
def standL (x y : Int) : Int → List Leg → Int
  | _, [] => 0
  | p, l :: r => (if l.rate = 0 ∧ x ≤ p / 1000000 ∧ p / 1000000 < y then l.secs else 0) + standL x y (p + l.secs * l.rate) r
theorem stand_legs (x y : Int) : ∀ {l : List Leg} {p : Int}, (∀ y ∈ l, 1 ≤ y.secs) → standI (x * 1000000) (y * 1000000) p (secsL l) = standL x y p l
  | [], _, _ => rfl
  | a :: l, p, h => by
    have ha := h a (by simp)
    simp only [secsL, standL]
    rw [stand_append, tot_rep, Int.toNat_of_nonneg (by omega), stand_legs x y fun z hz => h z (List.mem_cons_of_mem _ hz)]
    by_cases h0 : a.rate = 0
    · rw [h0, stand_rep0]
      by_cases hc : x ≤ p / 1000000 ∧ p / 1000000 < y
      · rw [if_pos (by omega), if_pos ⟨rfl, hc⟩]; omega
      · rw [if_neg (by omega), if_neg (fun e => hc e.2)]
    · rw [stand_rep h0, if_neg (fun e => h0 e.1)]
end Go.Proofs.Ks

namespace Go.Proofs.Ks
open Go Go.Pg Go.Proofs Go.Proofs.Yt
def hit (l : List Stop) (z : Int) : Prop := z ∈ l.map (·.pos)
instance (l : List Stop) (z : Int) : Decidable (hit l z) := inferInstanceAs (Decidable (z ∈ l.map (·.pos)))
theorem hit_cons {t : Stop} {l : List Stop} {z : Int} : hit (t :: l) z ↔ z = t.pos ∨ hit l z := by unfold hit; simp
theorem sum2_cons {y : Leg} {L : List Leg} {p : Int} : ∀ {l : List Stop}, l.Pairwise (fun a b => a.pos ≠ b.pos) →
    sumS2 (y :: L) p l = (if y.rate = 0 ∧ hit l (p / 1000000) then y.secs else 0) + sumS2 L (p + y.secs * y.rate) l
  | [], _ => by simp [sumS2, hit]
  | t :: l, h => by
    rw [List.pairwise_cons] at h
    have ih := sum2_cons (y := y) (L := L) (p := p) h.2
    simp only [sumS2, stoodZ]
    rw [ih]
    by_cases h0 : y.rate = 0
    · by_cases h1 : p / 1000000 = t.pos
      · have h2 : ¬ hit l (p / 1000000) := fun e => by
          obtain ⟨u, hu, e⟩ := List.mem_map.1 e
          exact h.1 u hu (h1.symm.trans e.symm)
        rw [if_pos ⟨h0, h1⟩, if_neg (fun e => h2 e.2), if_pos ⟨h0, hit_cons.2 (.inl h1)⟩]; omega
      · rw [if_neg (fun e => h1 e.2)]
        by_cases h2 : hit l (p / 1000000)
        · rw [if_pos ⟨h0, h2⟩, if_pos ⟨h0, hit_cons.2 (.inr h2)⟩]; omega
        · rw [if_neg (fun e => h2 e.2), if_neg (fun e => (hit_cons.1 e.2).elim h1 h2)]; omega
    · rw [if_neg (fun e => h0 e.1), if_neg (fun e => h0 e.1), if_neg (fun e => h0 e.1)]; omega
theorem sumS_cons {y : Leg} {L : List Leg} {p a b : Int} : ∀ {l : List Stop}, l.Pairwise (fun a b => a.pos ≠ b.pos) →
    sumS (fun t => stoodZ (y :: L) p t.pos) a b l 0 = (if y.rate = 0 ∧ a ≤ p / 1000000 ∧ p / 1000000 < b ∧ hit l (p / 1000000) then y.secs else 0) + sumS (fun t => stoodZ L (p + y.secs * y.rate) t.pos) a b l 0
  | [], _ => by simp [sumS, hit]
  | t :: l, h => by
    rw [List.pairwise_cons] at h
    have ih := sumS_cons (y := y) (L := L) (p := p) (a := a) (b := b) h.2
    unfold sumS
    by_cases hc : a ≤ t.pos ∧ t.pos < b
    · rw [if_pos hc, if_pos hc, sumS_go _ a b l, sumS_go _ a b l (0 + _), ih]
      simp only [stoodZ]
      by_cases h0 : y.rate = 0
      · by_cases h1 : p / 1000000 = t.pos
        · have h2 : ¬ hit l (p / 1000000) := fun e => by
            obtain ⟨u, hu, e⟩ := List.mem_map.1 e
            exact h.1 u hu (h1.symm.trans e.symm)
          rw [if_pos ⟨h0, h1⟩, if_neg (fun e => h2 e.2.2.2), if_pos ⟨h0, by omega, by omega, hit_cons.2 (.inl h1)⟩]; omega
        · rw [if_neg (fun e => h1 e.2)]
          by_cases h2 : a ≤ p / 1000000 ∧ p / 1000000 < b ∧ hit l (p / 1000000)
          · rw [if_pos ⟨h0, h2⟩, if_pos ⟨h0, h2.1, h2.2.1, hit_cons.2 (.inr h2.2.2)⟩]; omega
          · rw [if_neg (fun e => h2 e.2), if_neg (fun e => h2 ⟨e.2.1, e.2.2.1, (hit_cons.1 e.2.2.2).resolve_left h1⟩)]; omega
      · rw [if_neg (fun e => h0 e.1), if_neg (fun e => h0 e.1), if_neg (fun e => h0 e.1)]; omega
    · rw [if_neg hc, if_neg hc, ih]
      by_cases h0 : y.rate = 0 ∧ a ≤ p / 1000000 ∧ p / 1000000 < b
      · have h1 : ¬ p / 1000000 = t.pos := fun e => hc (by omega)
        by_cases h2 : hit l (p / 1000000)
        · rw [if_pos ⟨h0.1, h0.2.1, h0.2.2, h2⟩, if_pos ⟨h0.1, h0.2.1, h0.2.2, hit_cons.2 (.inr h2)⟩]
        · rw [if_neg (fun e => h2 e.2.2.2), if_neg (fun e => (hit_cons.1 e.2.2.2).elim h1 h2)]
      · rw [if_neg (fun e => h0 ⟨e.1, e.2.1, e.2.2.1⟩), if_neg (fun e => h0 ⟨e.1, e.2.1, e.2.2.1⟩)]
theorem sum2_nil (p : Int) : ∀ l : List Stop, sumS2 [] p l = 0
  | [] => rfl
  | t :: l => by simp only [sumS2, stoodZ, sum2_nil p l]; rfl
theorem sumS_nil (p a b : Int) : ∀ l : List Stop, sumS (fun t => stoodZ [] p t.pos) a b l 0 = 0
  | [] => rfl
  | t :: l => by
    unfold sumS
    simp only [stoodZ]
    split <;> exact sumS_nil p a b l
theorem stand_stops (a b : Int) {l : List Stop} (hd : l.Pairwise (fun a b => a.pos ≠ b.pos)) : ∀ {L : List Leg} {p : Int}, (∀ y ∈ L, 1 ≤ y.secs) →
    0 ≤ allZ L - sumS2 L p l ∧ (allZ L - sumS2 L p l = 0 → standL a b p L = sumS (fun t => stoodZ L p t.pos) a b l 0)
  | [], p, _ => by rw [sum2_nil, sumS_nil]; exact ⟨Int.le_refl _, fun _ => rfl⟩
  | y :: L, p, h => by
    have hy := h y (by simp)
    obtain ⟨h1, h2⟩ := stand_stops a b hd (L := L) (p := p + y.secs * y.rate) fun z hz => h z (List.mem_cons_of_mem _ hz)
    rw [sum2_cons hd, sumS_cons hd]
    simp only [allZ, standL]
    by_cases h0 : y.rate = 0
    · rw [if_pos h0]
      by_cases hh : hit l (p / 1000000)
      · rw [if_pos ⟨h0, hh⟩]
        refine ⟨by omega, fun e => ?_⟩
        rw [h2 (by omega)]
        congr 1
        by_cases hc : a ≤ p / 1000000 ∧ p / 1000000 < b
        · rw [if_pos ⟨h0, hc⟩, if_pos ⟨h0, hc.1, hc.2, hh⟩]
        · rw [if_neg (fun e => hc e.2), if_neg (fun e => hc ⟨e.2.1, e.2.2.1⟩)]
      · rw [if_neg (fun e => hh e.2)]
        exact ⟨by omega, fun e => by omega⟩
    · rw [if_neg h0, if_neg (fun e => h0 e.1), if_neg (fun e => h0 e.1), if_neg (fun e => h0 e.1)]
      exact ⟨by omega, fun e => by rw [h2 (by omega)]⟩
end Go.Proofs.Ks

namespace Go.Proofs.Ks
open Go Go.Pg Go.Proofs Go.Proofs.Yt
theorem has_iff {s : Span} {n : Int} : hasB s n = true ↔ s.lo ≤ n ∧ n ≤ s.hi := by
  unfold hasB
  rw [Bool.and_eq_true, decide_eq_true_eq, decide_eq_true_eq]
theorem mem_secs {a : Int} : ∀ {l : List Leg}, a ∈ secsL l → ∃ y ∈ l, a = y.rate
  | y :: l, h => by
    unfold secsL at h
    rcases List.mem_append.1 h with h | h
    · exact ⟨y, by simp, (List.mem_replicate.1 h).2⟩
    · obtain ⟨z, hz, e⟩ := mem_secs h
      exact ⟨z, List.mem_cons_of_mem _ hz, e⟩
def fullR (K : Nat) (c : Int) (l : List Leg) : List Int := List.replicate K c ++ (secsL l ++ List.replicate K c)
theorem full_at {K : Nat} {c m : Int} {l : List Leg} (hl : ∀ y ∈ l, 1 ≤ y.secs) {n : Nat} (hn : n ≤ (secsL l).length) : m - (K : Int) * c + totI ((fullR K c l).take (K + n)) = needF l (n : Int) m := by
  rw [need_secs hl (by omega), Int.toNat_natCast]
  unfold fullR
  rw [List.take_append, List.take_append, List.length_replicate, tot_append, tot_append, List.take_of_length_le (by rw [List.length_replicate]; omega), tot_rep, show K + n - K = n by omega, show n - (secsL l).length = 0 by omega]
  simp only [List.take_zero, totI]
  omega
theorem full_ok {K : Nat} {s : Session} {l : List Leg} (hs : s.R) (hr : ratesB s.rate l = true) : OkI s.rate.lo s.rate.hi (fullR K s.rate.lo l) := fun a ha => by
  obtain ⟨r1, r2, r3⟩ := hs.rate
  unfold fullR at ha
  rcases List.mem_append.1 ha with ha | ha
  · rw [(List.mem_replicate.1 ha).2]; omega
  · rcases List.mem_append.1 ha with ha | ha
    · obtain ⟨y, hy, rfl⟩ := mem_secs ha
      unfold ratesB at hr
      have := List.all_eq_true.1 hr y hy
      rw [Bool.or_eq_true, decide_eq_true_eq, has_iff] at this
      omega
    · rw [(List.mem_replicate.1 ha).2]; omega
def secAt (K : Nat) (r : Rec) (x : Run) (p : Int) : Int := x.start - K + reach (p * 1000000) (x.micro - (K : Int) * r.s.rate.lo) (fullR K r.s.rate.lo x.legs)
theorem run_tim {r : Rec} {x : Run} (hv : r.V) (hx : RunV x) (hp : playsB r.s x = true) (hd : r.s.stops.Pairwise (fun a b => a.pos ≠ b.pos)) {ts : Nat → Int} {K : Nat} (hK : K = 50000)
    (hat : ∀ i a, r.strikes[i]? = some a → (x.start ≤ ts i ∧ ts i ≤ x.start + sumT x.legs) ∧ a.pos.lo ≤ needF x.legs (ts i - x.start) x.micro / 1000000 ∧ needF x.legs (ts i - x.start) x.micro / 1000000 ≤ a.pos.hi)
    (hord : ∀ i, i + 1 < r.strikes.length → ts i ≤ ts (i + 1))
    (hsee : ∀ y ∈ r.sights, y.seen.lo ≤ ts (strikeI y.strike 0 r.strikes).toNat ∧ ts (strikeI y.strike 0 r.strikes).toNat ≤ y.seen.hi) :
    Tim r (marksR r []) 0 x.start (x.start + sumT x.legs) ts (secAt K r x) := by
  have hl : ∀ y ∈ x.legs, 1 ≤ y.secs := fun y hy => (legB_iff.1 (hx.legs y hy)).1
  obtain ⟨g1, g2⟩ := secs_tot hl
  unfold playsB endsB at hp
  simp only [Bool.and_eq_true, decide_eq_true_eq, has_iff] at hp
  obtain ⟨⟨p1, p2, p3, p4⟩, p5, p6, p7⟩ := hp
  have hok := full_ok (K := K) hv.r p5
  obtain ⟨r1, r2, r3⟩ := hv.rate
  have hlo : 0 < r.s.rate.lo := by omega
  obtain ⟨m1, m2⟩ := hx.micro
  have hlen : (fullR K r.s.rate.lo x.legs).length = K + ((secsL x.legs).length + K) := by unfold fullR; simp
  have low : ∀ (n : Nat) (p : Int), n ≤ (secsL x.legs).length → p ≤ needF x.legs (n : Int) x.micro / 1000000 → secAt K r x p ≤ x.start + n := fun n p hn h => by
    have h1 := reach_le (T := p * 1000000) (p := x.micro - (K : Int) * r.s.rate.lo) (fullR K r.s.rate.lo x.legs) (K + n) (by rw [full_at hl hn]; omega) (by omega)
    unfold secAt
    omega
  have up : ∀ (n : Nat) (p : Int), n ≤ (secsL x.legs).length → needF x.legs (n : Int) x.micro / 1000000 ≤ p → x.start + n ≤ secAt K r x (p + 1) := fun n p hn h => by
    have h1 := le_reach (T := (p + 1) * 1000000) hlo (p := x.micro - (K : Int) * r.s.rate.lo) (fullR K r.s.rate.lo x.legs) (K + n) hok (by rw [full_at hl hn]; omega) (by omega)
    unfold secAt
    omega
  have n0 : needF x.legs ((0 : Nat) : Int) x.micro = x.micro := by
    rw [need_secs hl (by omega)]; simp [totI]
  have nE : needF x.legs (((secsL x.legs).length : Nat) : Int) x.micro = x.micro + sumP x.legs := by
    rw [need_secs hl (by omega), Int.toNat_natCast, List.take_length, g1]
  have hsn : (0 : Int) ≤ sumT x.legs := by omega
  refine ⟨by omega, by omega, fun y hy => ?_, fun j hj => ?_, ⟨?_, ?_⟩, ⟨?_, ?_⟩, fun j a ha => ?_, fun a ha b hb hab => ?_⟩
  · have := hsee y hy; omega
  · have get : ∀ {i : Nat}, i < r.strikes.length → x.start ≤ ts i ∧ ts i ≤ x.start + sumT x.legs := fun {i} hi => (hat i _ (List.getElem?_eq_getElem hi)).1
    by_cases e0 : 0 < j
    · rw [if_pos e0]
      by_cases e1 : j < r.strikes.length
      · rw [if_pos e1]
        have := hord (j - 1) (by omega)
        rwa [show j - 1 + 1 = j by omega] at this
      · rw [if_neg e1]
        exact (get (by omega)).2
    · rw [if_neg e0]
      by_cases e1 : j < r.strikes.length
      · rw [if_pos e1]; exact (get e1).1
      · rw [if_neg e1]; omega
  · have := low 0 r.s.zero.lo (by omega) (by rw [n0]; omega); omega
  · have := up 0 r.s.zero.hi (by omega) (by rw [n0]; omega); omega
  · have := low _ r.s.fin.lo (Nat.le_refl _) (by rw [nE]; omega); omega
  · have := up _ r.s.fin.hi (Nat.le_refl _) (by rw [nE]; omega); omega
  · obtain ⟨⟨a1, a2⟩, a3, a4⟩ := hat j a ha
    obtain ⟨n, hn⟩ : ∃ n : Nat, ts j - x.start = (n : Int) := ⟨(ts j - x.start).toNat, by omega⟩
    rw [hn] at a3 a4
    have b1 := low n a.pos.lo (by omega) a3
    have b2 := up n a.pos.hi (by omega) a4
    omega
  · obtain ⟨a1, a2⟩ := marks_bd hv ha
    obtain ⟨b1, b2⟩ := marks_bd hv hb
    have htot : x.micro - (K : Int) * r.s.rate.lo + totI (fullR K r.s.rate.lo x.legs) = x.micro + (sumP x.legs + (K : Int) * r.s.rate.lo) := by
      unfold fullR
      rw [tot_append, tot_append, tot_rep, g1]; omega
    have hKl : 45000000000 ≤ (K : Int) * r.s.rate.lo := by
      rw [hK]; omega
    have hP : 0 ≤ sumP x.legs := by
      have := tot_nn hlo (rs := secsL x.legs) (fun c hc => hok c (by unfold fullR; simp [hc]))
      omega
    obtain ⟨c1, c2⟩ := between_go (X := a * 1000000) (Y := b * 1000000) hlo (by omega) (p := x.micro - (K : Int) * r.s.rate.lo) (fullR K r.s.rate.lo x.legs) hok (by omega) (by omega)
    have hS : standI (a * 1000000) (b * 1000000) (x.micro - (K : Int) * r.s.rate.lo) (fullR K r.s.rate.lo x.legs) = sumS (fun t => stoodZ x.legs x.micro t.pos) a b r.s.stops 0 := by
      unfold fullR
      rw [stand_append, stand_append, stand_rep (by omega), stand_rep (by omega), tot_rep, show x.micro - (K : Int) * r.s.rate.lo + (K : Int) * r.s.rate.lo = x.micro by omega, stand_legs a b hl, (stand_stops a b hd hl).2 p7]
      omega
    have hst : ∀ t ∈ r.s.stops, t.secs.lo ≤ stoodZ x.legs x.micro t.pos ∧ stoodZ x.legs x.micro t.pos ≤ t.secs.hi := fun t ht => by
      unfold stopsB at p6
      exact has_iff.1 (List.all_eq_true.1 p6 t ht)
    have s1 := sumS_le (f := (·.secs.lo)) (g := fun t => stoodZ x.legs x.micro t.pos) (x := a) (y := b) (l := r.s.stops) fun t ht => (hst t ht).1
    have s2 := sumS_le (f := fun t => stoodZ x.legs x.micro t.pos) (g := (·.secs.hi)) (x := a) (y := b) (l := r.s.stops) fun t ht => (hst t ht).2
    rw [hS] at c1 c2
    rw [(leastR_eq r.s a b).1, (leastR_eq r.s a b).2]
    have hD : secAt K r x b - secAt K r x a = reach (b * 1000000) (x.micro - (K : Int) * r.s.rate.lo) (fullR K r.s.rate.lo x.legs) - reach (a * 1000000) (x.micro - (K : Int) * r.s.rate.lo) (fullR K r.s.rate.lo x.legs) := by unfold secAt; omega
    rw [hD]
    obtain ⟨D, hD'⟩ : ∃ D, reach (b * 1000000) (x.micro - (K : Int) * r.s.rate.lo) (fullR K r.s.rate.lo x.legs) - reach (a * 1000000) (x.micro - (K : Int) * r.s.rate.lo) (fullR K r.s.rate.lo x.legs) = D := ⟨_, rfl⟩
    obtain ⟨S, hS'⟩ : ∃ S, sumS (fun t => stoodZ x.legs x.micro t.pos) a b r.s.stops 0 = S := ⟨_, rfl⟩
    rw [hD', hS'] at c1 c2
    rw [hS'] at s1 s2
    rw [hD']
    have d1 : (b - a) * 1000000 / r.s.rate.hi < D - S + 1 := Int.ediv_lt_of_lt_mul (by omega) (by rw [Int.add_mul, Int.one_mul, Int.mul_comm (D - S)]; omega)
    have d2 : D - S ≤ ((b - a) * 1000000 + r.s.rate.lo - 1) / r.s.rate.lo := (fl_iff hlo).2 (by rw [Int.mul_comm]; omega)
    omega
end Go.Proofs.Ks

set_option maxHeartbeats 8000000
set_option maxRecDepth 10000
namespace Go.Proofs.Ks
open Go Go.Pg Go.Proofs Go.Proofs.Yt
def SB (id t : Int) (s : Sight) : Bool := decide (s.strike = id → s.seen.lo ≤ t ∧ t ≤ s.seen.hi)
def QB (r : Rec) (x : Run) (ts : List Int) (i : Nat) : Bool :=
  decide ((needleP x (ts.getD i 0)).2 = 0) && (decide ((r.strikes.getD i default).pos.lo ≤ (needleP x (ts.getD i 0)).1) && (decide ((needleP x (ts.getD i 0)).1 ≤ (r.strikes.getD i default).pos.hi) && ((decide (i = 0) || decide (ts.getD (i - 1) 0 ≤ ts.getD i 0)) && r.sights.all (SB (r.strikes.getD i default).id (ts.getD i 0)))))
end Go.Proofs.Ks

namespace Go.Proofs.Ks
open Go Go.Pg Go.Proofs Go.Proofs.Yt
theorem AW.seqS {C : Cx} {N : Nat} {x y : Code} {Q : Exit → St → Prop} {s : St} (h : AW C N x (thenQ (fun s => Pg.Stop (AW C N y Q s)) Q) s) : AW C N (.seq x y) Q s :=
  AW.seq (AW.mono h fun e s' hq => by cases e <;> first | exact hq.get | exact hq)
end Go.Proofs.Ks

namespace Go.Proofs.Ks
open Go Go.Pg Go.Proofs Go.Proofs.Yt
theorem stopsE_lt {fin : Int} : ∀ {l : List Stop} {b : Int}, stopsE fin b l = 0 → (∀ t ∈ l, b < t.pos) ∧ l.Pairwise (fun a c => a.pos ≠ c.pos)
  | [], _, _ => ⟨fun t h => (by cases h), List.Pairwise.nil⟩
  | y :: l, b, h => by
    unfold stopsE at h
    split at h
    · cases h
    · rename_i hc
      obtain ⟨h1, h2⟩ := stopsE_lt h
      have hb : b < y.pos := by
        by_cases e : b < y.pos
        · exact e
        · exact absurd (.inl (by omega)) hc
      refine ⟨fun t ht => ?_, List.pairwise_cons.2 ⟨fun t ht e => ?_, h2⟩⟩
      · rcases List.mem_cons.1 ht with rfl | ht
        · exact hb
        · have := h1 t ht; omega
      · have := h1 t ht; omega
theorem stops_apart {s : Session} (h : checkE ⟨s, [], []⟩ = 0) : s.stops.Pairwise (fun a c => a.pos ≠ c.pos) := by
  have h1 : sessE s = 0 := (checkE_parts h).1
  unfold sessE at h1
  split at h1
  · cases h1
  · split at h1
    · exact (stopsE_lt h1).2
    · cases h1
end Go.Proofs.Ks

namespace Go.Proofs.Ks
open Go Go.Pg Go.Proofs Go.Proofs.Yt
theorem playsE_B {s : Session} {x : Run} (h : playsE s x = 0) : RunV x ∧ runE x = 0 ∧ playsB s x = true ∧ s.stops.Pairwise (fun a c => a.pos ≠ c.pos) := by
  unfold playsE at h
  by_cases h1 : checkE ⟨s, [], []⟩ = 0
  · rw [if_pos h1] at h
    by_cases h2 : runE x = 0
    · rw [if_pos h2] at h
      have hx := runE_V h2
      rw [plays_same (stops_apart h1) fun y hy => (leg_bd (hx.legs y hy)).1] at h
      cases hp : playsB s x with
      | true => exact ⟨hx, h2, rfl, stops_apart h1⟩
      | false => rw [hp, if_neg (by decide)] at h; cases h
    · rw [if_neg h2] at h; exact absurd h h2
  · rw [if_neg h1] at h; exact absurd h h1
theorem true_sat {r : Rec} {x : Run} {ts : List Int} (hc : checkE r = 0) (hp : playsE r.s x = 0) (hl : ts.length = r.strikes.length) (hq : (List.range ts.length).all (QB r x ts) = true) :
    RunV x ∧ ∃ f, Sat f (linksR r []) ∧ f 0 = 0 ∧ f 1 = x.start ∧ f 2 = x.start + sumT x.legs ∧ ∀ i t, ts[i]? = some t → f (3 + i) = t ∧ 0 ≤ t ∧ t ≤ 1073741823 := by
  obtain ⟨hx, hr, hb, hd⟩ := playsE_B hp
  have hv := checkE_V hc
  have hQ : ∀ i, i < r.strikes.length → QB r x ts i = true := fun i hi => List.all_eq_true.1 hq i (List.mem_range.2 (by omega))
  have get : ∀ i a, r.strikes[i]? = some a → ((x.start ≤ ts.getD i 0 ∧ ts.getD i 0 ≤ x.start + sumT x.legs) ∧ a.pos.lo ≤ needF x.legs (ts.getD i 0 - x.start) x.micro / 1000000 ∧ needF x.legs (ts.getD i 0 - x.start) x.micro / 1000000 ≤ a.pos.hi) ∧ (i = 0 ∨ ts.getD (i - 1) 0 ≤ ts.getD i 0) ∧ ∀ y ∈ r.sights, y.strike = a.id → y.seen.lo ≤ ts.getD i 0 ∧ ts.getD i 0 ≤ y.seen.hi := fun i a ha => by
    have h := hQ i (List.getElem?_eq_some_iff.1 ha).1
    unfold QB at h
    rw [show r.strikes.getD i default = a by rw [List.getD_eq_getElem?_getD, ha]; rfl] at h
    simp only [Bool.and_eq_true, Bool.or_eq_true, decide_eq_true_eq, List.all_eq_true] at h
    obtain ⟨h1, h2, h3, h4, h5⟩ := h
    unfold needleP at h1 h2 h3
    rw [if_pos hr] at h1 h2 h3
    by_cases hi : ts.getD i 0 < x.start ∨ x.start + sumT x.legs < ts.getD i 0
    · rw [if_pos hi] at h1; cases h1
    · rw [if_neg hi] at h2 h3
      refine ⟨⟨⟨by omega, by omega⟩, h2, h3⟩, h4, fun y hy he => ?_⟩
      have := h5 y hy
      unfold SB at this
      exact of_decide_eq_true this he
  have hT := run_tim hv hx hb hd (ts := fun i => ts.getD i 0) (K := 50000) rfl (fun i a ha => (get i a ha).1)
    (fun i hi => by
      rcases (get (i + 1) _ (List.getElem?_eq_getElem hi)).2.1 with h | h
      · omega
      · exact h)
    (fun y hy => by
      obtain ⟨u, u1, u2⟩ := strikeI_get (hv.sights y hy).2.2.2
      exact (get _ u u1).2.2 y hy u2.symm)
  refine ⟨hx, _, sat_of hv hT, rfl, rfl, rfl, fun i t ht => ?_⟩
  have hi : i < r.strikes.length := by rw [← hl]; exact (List.getElem?_eq_some_iff.1 ht).1
  have e : ts.getD i 0 = t := by rw [List.getD_eq_getElem?_getD, ht]; rfl
  refine ⟨(pot_strike hi).trans e, ?_⟩
  have := (get i _ (List.getElem?_eq_getElem hi)).1.1
  have h1 := hx.start
  have h2 := hx.time
  omega
end Go.Proofs.Ks
