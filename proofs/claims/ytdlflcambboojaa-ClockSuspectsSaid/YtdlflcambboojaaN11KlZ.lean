/-
  Contracts of functions, proved by going through their code. No conditions.
-/
import Derived.Test.YtdlflcambboojaaSaa
import Derived.Test.YtdlflcambboojaaSaz
import Derived.Test.YtdlflcambboojaaSba
import Derived.Test.YtdlflcambboojaaN11KlY
set_option linter.unusedVariables false
set_option linter.unusedSimpArgs false
namespace Go.Proofs.Ks
open Go Go.Pg Go.Proofs
theorem sumS_bd {f : Stop → Int} {x y : Int} : ∀ {l : List Stop}, (∀ t ∈ l, 0 ≤ f t ∧ f t ≤ 36000) → 0 ≤ sumS f x y l 0 ∧ sumS f x y l 0 ≤ 36000 * (l.length : Int)
  | [], _ => by simp [sumS]
  | t :: l, h => by
    have ih := sumS_bd (x := x) (y := y) (fun t ht => h t (List.mem_cons_of_mem _ ht))
    have h0 := h t (by simp)
    unfold sumS
    rw [List.length_cons]
    split
    · rw [sumS_go f x y l]; omega
    · omega
theorem leastR_bd {s : Session} (hs : s.R) {x y : Int} (h0 : 0 ≤ x) (h1 : x ≤ y) (h2 : y ≤ 43200) : 0 ≤ (leastR s x y).1 ∧ (leastR s x y).2 ≤ 200000 := by
  obtain ⟨r1, r2, r3⟩ := hs.rate
  have hn := hs.nstops
  rw [(leastR_eq s x y).1, (leastR_eq s x y).2]
  have s1 := sumS_bd (f := (·.secs.lo)) (x := x) (y := y) (l := s.stops) (fun t ht => by have := hs.stops t ht; omega)
  have s2 := sumS_bd (f := (·.secs.hi)) (x := x) (y := y) (l := s.stops) (fun t ht => by have := hs.stops t ht; omega)
  have d1 := fl_nn (a := (y - x) * 1000000) (d := s.rate.hi) (by omega) (by omega)
  have d2 := (div_bound (n := (y - x) * 1000000 + s.rate.lo - 1) (d := s.rate.lo) (by omega) (by omega) (by omega)).2
  omega
theorem marks_bd {r : Rec} (hv : r.V) {p : Int} (h : p ∈ marksR r []) : 0 ≤ p ∧ p ≤ 43200 := by
  obtain ⟨z1, z2, z3⟩ := hv.z
  obtain ⟨f1, f2, f3⟩ := hv.f
  rcases marksR_mem.1 h with h | ⟨u, hu, h⟩ | h
  · omega
  · have := hv.strikes u hu; omega
  · cases h
theorem sat_near {r : Rec} (hv : r.V) {f : Nat → Int} (h : Sat f (linksR r [])) : (∀ k, k < (nodesR r []).length → -200000 ≤ f k - f 0 ∧ f k - f 0 ≤ 1073941823) ∧ ∀ i, i < r.strikes.length → 0 ≤ f (3 + i) - f 0 ∧ f (3 + i) - f 0 ≤ 1073741823 := by
  have hT := tim_of hv h
  have hrow := hT.row
  have i1 := hv.inn
  have i2 := hv.out
  have t1 := hT.inn
  have t2 := hT.out
  have up : ∀ j, j < r.strikes.length → f 1 ≤ f (3 + j) := by
    intro j
    induction j with
    | zero => intro hj; have := hrow 0 (by omega); rw [if_neg (by omega), if_pos hj] at this; exact this
    | succ j ih =>
      intro hj
      have h1 := hrow (j + 1) (by omega)
      rw [if_pos (by omega), if_pos hj] at h1
      have h1 : f (3 + (j + 1 - 1)) ≤ f (3 + (j + 1)) := h1
      rw [Nat.add_sub_cancel] at h1
      have := ih (by omega)
      omega
  have down : ∀ c j, j + c + 1 = r.strikes.length → f (3 + j) ≤ f 2 := by
    intro c
    induction c with
    | zero =>
      intro j hj
      have h1 := hrow (j + 1) (by omega)
      rw [if_pos (by omega), if_neg (by omega)] at h1
      have h1 : f (3 + (j + 1 - 1)) ≤ f 2 := h1
      rwa [Nat.add_sub_cancel] at h1
    | succ c ih =>
      intro j hj
      have h1 := hrow (j + 1) (by omega)
      rw [if_pos (by omega), if_pos (by omega)] at h1
      have h1 : f (3 + (j + 1 - 1)) ≤ f (3 + (j + 1)) := h1
      rw [Nat.add_sub_cancel] at h1
      have := ih (j + 1) (by omega)
      omega
  have hst : ∀ i, i < r.strikes.length → 0 ≤ f (3 + i) - f 0 ∧ f (3 + i) - f 0 ≤ 1073741823 := fun i hi => by
    have a := up i hi
    have b := down (r.strikes.length - i - 1) i (by omega)
    omega
  refine ⟨fun k hk => ?_, hst⟩
  have hnl := nodesR_len r []
  obtain ⟨m1, m2, m3, m4, m5⟩ := marks_ends r []
  have hpr : ∀ x ∈ marksR r [], ∀ y ∈ marksR r [], x < y → 0 ≤ f (atI 4 y 0 (nodesR r [])).toNat - f (atI 4 x 0 (nodesR r [])).toNat ∧ f (atI 4 y 0 (nodesR r [])).toNat - f (atI 4 x 0 (nodesR r [])).toNat ≤ 200000 := fun x hx y hy hxy => by
    have h1 := hT.pairs x hx y hy hxy
    have h2 := leastR_bd hv.r (marks_bd hv hx).1 (by omega) (marks_bd hv hy).2
    omega
  have hz : f (atI 4 r.s.zero.lo 0 (nodesR r [])).toNat ≤ f 1 ∧ f 1 ≤ f (atI 4 (r.s.zero.hi + 1) 0 (nodesR r [])).toNat := hT.zero
  by_cases k0 : k = 0
  · subst k0; omega
  by_cases k1 : k = 1
  · subst k1; omega
  by_cases k2 : k = 2
  · subst k2; omega
  by_cases k3 : k < 3 + r.strikes.length
  · have := hst (k - 3) (by omega)
    rw [show 3 + (k - 3) = k by omega] at this
    omega
  · have hj : k - (3 + r.strikes.length) < (marksR r []).length := by omega
    have hg : (marksR r [])[k - (3 + r.strikes.length)]? = some (marksR r [])[k - (3 + r.strikes.length)] := List.getElem?_eq_getElem hj
    have hm := List.getElem_mem hj
    have ha := at_mark_ix (r := r) (more := []) (x := (marksR r [])[k - (3 + r.strikes.length)]) hj (by rw [List.getD_eq_getElem?_getD, hg]; rfl)
    rw [atP_mark hm] at ha
    obtain ⟨p, hp⟩ : ∃ z, (marksR r [])[k - (3 + r.strikes.length)] = z := ⟨_, rfl⟩
    rw [hp] at hm ha
    have hk' : (atI 4 p 0 (nodesR r [])).toNat = k := by omega
    have hlo : f k ≤ f (atI 4 r.s.zero.lo 0 (nodesR r [])).toNat + 200000 := by
      rcases Int.lt_trichotomy p r.s.zero.lo with e | e | e
      · have := hpr p hm _ m1 e; rw [hk'] at this; omega
      · rw [← e, hk']; omega
      · have := hpr _ m1 p hm e; rw [hk'] at this; omega
    have hhi : f (atI 4 (r.s.zero.hi + 1) 0 (nodesR r [])).toNat - 200000 ≤ f k := by
      rcases Int.lt_trichotomy p (r.s.zero.hi + 1) with e | e | e
      · have := hpr p hm _ m2 e; rw [hk'] at this; omega
      · rw [← e, hk']; omega
      · have := hpr _ m2 p hm e; rw [hk'] at this; omega
    omega
def dst (r : Rec) (i k : Nat) : Int := (lengthsF (nodesR r []).length (linksR r []) (i : Int)).1.getD k 0
theorem cons_noNeg {r : Rec} (hc : checkE r = 0) (hq : consP r [] = true) : NoNeg (linksR r []) := by
  obtain ⟨f1, f2, f3, f4, f5⟩ := links_facts (more := []) (checkE_V hc) (by decide) nomore
  exact (lengths_noNeg f3 (by decide : (0 : Int) ≤ 1073741823) f4 (facts_far f1)).1 (of_decide_eq_true hq)
theorem dst_spec {r : Rec} (hc : checkE r = 0) (hq : consP r [] = true) {s k : Nat} (hs : s < (nodesR r []).length) (hk : k < (nodesR r []).length) :
    (∃ f, Sat f (linksR r []) ∧ f k - f s = dst r s k) ∧ (∀ f, Sat f (linksR r []) → f k - f s ≤ dst r s k) ∧ -1074141823 ≤ dst r s k ∧ dst r s k ≤ 1074141823 := by
  have hv := checkE_V hc
  obtain ⟨f1, f2, f3, f4, f5⟩ := links_facts (more := []) hv (by decide) nomore
  have hn := cons_noNeg hc hq
  obtain ⟨f, g1, g2, g3⟩ := attained f3 (by decide : (0 : Int) ≤ 1073741823) f4 (facts_far f1) hn hs hk
  have hd := lengths_dist f3 (by decide : (0 : Int) ≤ 1073741823) f4 (facts_far f1) hn (s : Int)
  have hfar : dst r s k < far := by
    by_cases e : dst r s k < far
    · exact e
    · obtain ⟨g, h1, h2⟩ := g3 e 2000000000
      have a := (sat_near hv h1).1 k hk
      have b := (sat_near hv h1).1 s hs
      omega
  have hle : ∀ f, Sat f (linksR r []) → f k - f s ≤ dst r s k := fun f hf => by
    obtain ⟨z, p, hz, hw, hp⟩ := hd.real k hk hfar
    have hz' : z = s := by have := hz.2; omega
    subst hz'
    have := hw.pot (f := f) hf
    have hp' : lenW p = dst r z k := hp
    omega
  have e := hle f g1
  have g2 : dst r s k ≤ f k - f s := g2
  have a := (sat_near hv g1).1 k hk
  have b := (sat_near hv g1).1 s hs
  exact ⟨⟨f, g1, by omega⟩, hle, by omega, by omega⟩
theorem dst_ends {r : Rec} (hc : checkE r = 0) (hq : consP r [] = true) {k : Nat} (hk : k < (nodesR r []).length) : -200000 ≤ dst r 0 k ∧ dst r 0 k ≤ 1073941823 ∧ dst r k 0 ≤ 200000 ∧ -1073941823 ≤ dst r k 0 := by
  have hv := checkE_V hc
  obtain ⟨⟨f, h1, h2⟩, _⟩ := dst_spec hc hq (show 0 < (nodesR r []).length by omega) hk
  obtain ⟨⟨g, h3, h4⟩, _⟩ := dst_spec hc hq hk (show 0 < (nodesR r []).length by omega)
  have a := (sat_near hv h1).1 k hk
  have b := (sat_near hv h3).1 k hk
  omega
def tightP (r : Rec) : Mx := (List.range (nodesR r []).length).map fun (i : Nat) => (lengthsF (nodesR r []).length (linksR r []) (i : Int)).1
theorem tightP_len (r : Rec) : (tightP r).length = (nodesR r []).length := by unfold tightP; rw [List.length_map, List.length_range]
theorem tightP_get {r : Rec} {k : Nat} (hk : k < (nodesR r []).length) : (tightP r).getD k [] = (lengthsF (nodesR r []).length (linksR r []) (k : Int)).1 := by
  unfold tightP
  rw [List.getD_eq_getElem?_getD, List.getElem?_map, List.getElem?_range hk]; rfl
theorem tightP_mget {r : Rec} {i k : Nat} (hi : i < (nodesR r []).length) : mget (tightP r) i k = dst r i k := by
  unfold mget; rw [tightP_get hi]; rfl
theorem tight_is {r : Rec} (hc : checkE r = 0) (hq : consP r [] = true) : tightR r [] = some (tightP r) := by
  have hv := checkE_V hc
  obtain ⟨f1, f2, f3, f4, f5⟩ := links_facts (more := []) hv (by decide) nomore
  rcases both_ways f3 (by decide : (0 : Int) ≤ 1073741823) f4 (facts_far f1) with ⟨o, e1, e2, e3, e4⟩ | ⟨e1, e2⟩
  · unfold tightR
    rw [e1]
    congr 1
    apply List.ext_getElem?
    intro k
    by_cases hk : k < (nodesR r []).length
    · have h1 := e4 k hk
      have h2 := tightP_get (r := r) hk
      rw [h1] at h2
      simp only [List.getD_eq_getElem?_getD] at h2
      have ht := tightP_len r
      rw [List.getElem?_eq_getElem (by omega), List.getElem?_eq_getElem (by omega)] at h2 ⊢
      simpa using h2.symm
    · rw [List.getElem?_eq_none (by omega), List.getElem?_eq_none (by rw [tightP_len]; omega)]
  · exact absurd (of_decide_eq_true hq) e2
end Go.Proofs.Ks
