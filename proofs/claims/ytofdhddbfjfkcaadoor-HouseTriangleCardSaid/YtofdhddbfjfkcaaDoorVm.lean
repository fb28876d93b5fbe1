/-
  Distances: the house without doors; the program's and the document's; the triangle. No conditions.
-/
import Derived.Test.YtofdhddbfjfkcaaDoorPgb
import Derived.Test.YtofdhddbfjfkcaaDoorHe
import Derived.Test.YtofdhddbfjfkcaaDoorVa
import Derived.Test.YtofdhddbfjfkcaaDoorVc
import Derived.Test.YtofdhddbfjfkcaaDoorVd
import Derived.Test.YtofdhddbfjfkcaaDoorVl
set_option linter.unusedSimpArgs false
set_option linter.unusedVariables false
namespace Go.Proofs.Hs
open Go Go.Pg Go.Proofs Go.Proofs.Lab

/-! ## The house without doors -/
def dropW (w : Way) : Way := { w with door := -1 }
def dropG (g : Gate) : Gate := { g with door := -1 }
def plainH (h : House) : House := ⟨h.rooms, [], h.ways.map dropW⟩
theorem gatesL_plain : ∀ (l : List Way) (i : Nat), gatesL i (l.map dropW) = (gatesL i l).map dropG
  | [], _ => rfl
  | w :: l, i => by
    simp only [List.map_cons, gatesL, List.map_append, gatesL_plain l (i + 1)]
    have : (dropW w).back = w.back := rfl
    rw [this]
    split <;> rfl
theorem gates_plain (h : House) : gates (plainH h) = (gates h).map dropG := gatesL_plain h.ways 0
theorem plain_V {h : House} (hv : h.V) : (plainH h).V := by
  refine ⟨hv.rooms, Nat.zero_le _, by simpa [plainH] using hv.nw, fun d hd => by simp [plainH] at hd, fun w hw => ?_⟩
  simp only [plainH, List.mem_map] at hw
  obtain ⟨w', hw', rfl⟩ := hw
  have := hv.ways w' hw'
  unfold Way.OK at this ⊢
  simp only [dropW, plainH, List.length_nil]
  omega
theorem enter_plain (h : House) (g : Gate) (t : Int) : enter (plainH h) (dropG g) t = if 1073741823 < t + g.secs then 1073741824 else t + g.secs := by
  unfold enter House.nextAt
  have : ¬ (0 ≤ (dropG g).door) := by simp [dropG]
  rw [if_neg this]; rfl

/-! ## Improving in two ways alike -/
theorem find?_congrB {α : Type} {p q : α → Bool} : ∀ (l : List α), (∀ x ∈ l, p x = q x) → l.find? p = l.find? q
  | [], _ => rfl
  | x :: l, h => by
    rw [List.find?_cons, List.find?_cons, h x (by simp), find?_congrB l (fun y hy => h y (by simp [hy]))]
theorem spreadF_sim {f f' : Gate → Int → Int} {φ : Gate → Gate} {gs : List Gate} (hφ : ∀ g, (φ g).from' = g.from' ∧ (φ g).to = g.to) (I : List Int → Prop)
    (hI : ∀ row g, I row → g ∈ gs → impr f row g = true → I (row.set g.to.toNat (f g (row.getD g.from'.toNat 0))))
    (hff : ∀ row g, I row → g ∈ gs → 0 ≤ row.getD g.from'.toNat 0 → f' (φ g) (row.getD g.from'.toNat 0) = f g (row.getD g.from'.toNat 0)) :
    ∀ (k : Nat) (row : List Int) (b b' : List Gate), I row → (spreadF f gs k row b).1 = (spreadF f' (gs.map φ) k row b').1 ∧ I (spreadF f gs k row b).1
  | 0, row, _, _, hi => ⟨rfl, hi⟩
  | k + 1, row, b, b', hi => by
    have himp : ∀ g ∈ gs, (impr f' row ∘ φ) g = impr f row g := fun g hg => by
      obtain ⟨e1, e2⟩ := hφ g
      show impr f' row (φ g) = _
      unfold impr
      rw [e1, e2]
      by_cases h0 : 0 ≤ row.getD g.from'.toNat 0
      · rw [hff row g hi hg h0]
      · rw [decide_eq_false h0]; rfl
    unfold spreadF
    rw [List.find?_map, find?_congrB gs himp]
    cases hq : gs.find? (impr f row) with
    | none => exact ⟨rfl, hi⟩
    | some g =>
      have hg := List.mem_of_find?_eq_some hq
      have hgi := List.find?_some hq
      obtain ⟨i1, i2, i3⟩ := impr_iff.1 hgi
      obtain ⟨e1, e2⟩ := hφ g
      have h1 := hff row g hi hg i1
      simp only [Option.map_some]
      rw [e1, e2, h1]
      exact spreadF_sim hφ I hI hff k _ _ _ (hI row g hi hg hgi)

/-! ## Sums of seconds stay small: at most 3600 for each room that has a number -/
def cntN : List Int → Nat
  | [] => 0
  | x :: l => (if 0 ≤ x then 1 else 0) + cntN l
theorem cntN_le : ∀ l : List Int, cntN l ≤ l.length
  | [] => Nat.le_refl _
  | x :: l => by have := cntN_le l; simp only [cntN, List.length_cons]; split <;> omega
theorem cntN_set : ∀ (l : List Int) (i : Nat) (x : Int), i < l.length → 0 ≤ x → cntN (l.set i x) = cntN l + if 0 ≤ l.getD i 0 then 0 else 1
  | y :: l, 0, x, _, h0 => by
    simp only [List.set_cons_zero, cntN, List.getD_cons_zero]
    rw [if_pos h0]; split <;> omega
  | y :: l, i + 1, x, hi, h0 => by
    simp only [List.set_cons_succ, cntN, List.getD_cons_succ]
    rw [cntN_set l i x (by simpa using hi) h0]; omega
theorem cntN_rep (n : Nat) : cntN (List.replicate n (-1)) = 0 := by
  induction n with
  | zero => rfl
  | succ n ih => rw [List.replicate_succ, cntN, ih]; rfl
def distF (g : Gate) (x : Int) : Int := x + g.secs
structure Small (n : Nat) (row : List Int) : Prop where
  len : row.length = n
  bound : ∀ x ∈ row, -1 ≤ x ∧ x ≤ 3600 * (cntN row : Int)
theorem Small.le {n : Nat} {row : List Int} (h : Small n row) (hn : n ≤ 24) {x : Int} (hx : x ∈ row) : -1 ≤ x ∧ x ≤ 86400 := by
  have := h.bound x hx
  have := cntN_le row
  have := h.len
  omega
theorem Small.at' {n : Nat} {row : List Int} (h : Small n row) (hn : n ≤ 24) {i : Nat} (hi : i < n) : -1 ≤ row.getD i 0 ∧ row.getD i 0 ≤ 86400 := h.le hn (List.mem_of_getElem? (getD_set' row i 0 (by rw [h.len]; exact hi)))
theorem Small.put {n : Nat} {row : List Int} {g : Gate} (h : Small n row) (hs : g.from'.toNat < n) (hd : g.to.toNat < n) (hg : 1 ≤ g.secs ∧ g.secs ≤ 3600) (hi : impr distF row g = true) : Small n (row.set g.to.toNat (distF g (row.getD g.from'.toNat 0))) := by
  obtain ⟨i1, i2, i3⟩ := impr_iff.1 hi
  unfold distF at i2 i3 ⊢
  have hb := h.bound _ (List.mem_of_getElem? (getD_set' row g.from'.toNat 0 (by rw [h.len]; exact hs)))
  have hc := cntN_set row g.to.toNat (row.getD g.from'.toNat 0 + g.secs) (by rw [h.len]; exact hd) (by omega)
  refine ⟨by simp [h.len], fun x hx => ?_⟩
  have hd' := h.bound _ (List.mem_of_getElem? (getD_set' row g.to.toNat 0 (by rw [h.len]; exact hd)))
  rcases List.mem_or_eq_of_mem_set hx with hx | rfl
  · have := h.bound x hx
    split at hc <;> omega
  · split at hc <;> omega
theorem small0 {n a : Nat} (ha : a < n) : Small n ((List.replicate n (-1)).set a 0) := by
  have hc := cntN_set (List.replicate n (-1 : Int)) a 0 (by simpa using ha) (Int.le_refl _)
  have hg : (List.replicate n (-1 : Int)).getD a 0 = -1 := by rw [List.getD_eq_getElem?_getD, List.getElem?_replicate, if_pos ha]; rfl
  rw [hg, cntN_rep, if_neg (by omega)] at hc
  refine ⟨by simp, fun x hx => ?_⟩
  rw [hc]
  rcases List.mem_or_eq_of_mem_set hx with hx | rfl
  · rw [List.mem_replicate] at hx; omega
  · omega

/-- The program's row of distances, and the document's. -/
def distH (h : House) (a : Nat) : List Int := (spread distF (gates h) ((List.replicate h.rooms.length (-1)).set a 0)).1
def noneR (x : Int) : Int := if x = 1073741824 then -1 else x
def rowR (h : House) (a : Nat) : List Int := (arrR (plainH h) a 0).map noneR

theorem dist_sim {h : House} (hv : h.V) {a : Nat} (ha : a < h.rooms.length) :
    distH h a = (spread (nextH (plainH h)) (gates (plainH h)) ((List.replicate h.rooms.length (-1)).set a 0)).1 ∧ Small h.rooms.length (distH h a) := by
  have hr := hv.rooms.2
  have key := spreadF_sim (f := distF) (f' := nextH (plainH h)) (φ := dropG) (gs := gates h) (fun g => ⟨rfl, rfl⟩) (Small h.rooms.length)
    (fun row g hs hg hi => by
      have hgo := gate_ok hv hg
      have h1 := hgo.from'
      have h2 := hgo.to
      exact hs.put (by omega) (by omega) hgo.secs hi)
    (fun row g hs hg h0 => by
      have hgo := gate_ok hv hg
      have h1 := hgo.from'
      have h2 := hgo.secs
      have h3 := hs.at' hr (i := g.from'.toNat) (by omega)
      have e : enter (plainH h) (dropG g) (row.getD g.from'.toNat 0) = row.getD g.from'.toNat 0 + g.secs := by rw [enter_plain, if_neg (by omega)]
      unfold nextH
      rw [e, if_pos (by omega)]; rfl)
    (spreadM ((List.replicate h.rooms.length (-1 : Int)).set a 0) + 1) _ (List.replicate ((List.replicate h.rooms.length (-1 : Int)).set a 0).length .zero) (List.replicate ((List.replicate h.rooms.length (-1 : Int)).set a 0).length .zero) (small0 ha)
  rw [gates_plain]
  exact key

theorem dist_is {h : House} (hv : h.V) {a : Nat} (ha : a < h.rooms.length) : distH h a = rowR h a := by
  obtain ⟨h1, h2⟩ := dist_sim hv ha
  have h3 := spread_is (plain_V hv) (a := a) ha (t := 0) ⟨by omega, by omega⟩
  have h4 : (plainH h).rooms.length = h.rooms.length := rfl
  rw [h4, ← h1] at h3
  unfold rowR
  rw [← h3, List.map_map]
  have : ∀ x ∈ distH h a, (noneR ∘ room1) x = x := fun x hx => by
    have := h2.le hv.rooms.2 hx
    show noneR (room1 x) = x
    unfold noneR room1
    by_cases h0 : x < 0
    · rw [if_pos h0, if_pos rfl]; omega
    · rw [if_neg h0, if_neg (by omega)]
  rw [List.map_congr_left this]; simp

/-! ## The triangle -/
theorem plain_shift {h : House} (hv : h.V) {a : Nat} (ha : a < h.rooms.length) {t : Int} (ht : 0 ≤ t ∧ t ≤ 1073741824) (r : Nat) :
    (arrN (plainH h)).lab (arrR (plainH h) a t) r = if t + (arrN (plainH h)).lab (arrR (plainH h) a 0) r ≤ 1073741823 then t + (arrN (plainH h)).lab (arrR (plainH h) a 0) r else 1073741824 := by
  have hp := plain_V hv
  have hN := arrN_ok hp
  obtain ⟨l0, h0⟩ := arrR_is hp (a := a) ha (t := 0) (by omega)
  obtain ⟨l1, h1⟩ := arrR_is hp (a := a) ha ht
  generalize (arrN (plainH h)).lab (arrR (plainH h) a 0) = R at *
  generalize (arrN (plainH h)).lab (arrR (plainH h) a t) = S at *
  have hR : ∀ r, 0 ≤ R r ∧ R r ≤ 1073741824 := h0.closed.In
  have hS : ∀ r, 0 ≤ S r ∧ S r ≤ 1073741824 := h1.closed.In
  have hRa : R a ≤ 0 := h0.start
  have hSa : S a ≤ t := h1.start
  have hent : ∀ g ∈ gates (plainH h), ∀ x, enter (plainH h) g x = if 1073741823 < x + g.secs then 1073741824 else x + g.secs := fun g hg x => by
    rw [gates_plain, List.mem_map] at hg
    obtain ⟨g', _, rfl⟩ := hg
    exact enter_plain h g' x
  have hsec : ∀ g ∈ gates (plainH h), 1 ≤ g.secs := fun g hg => (gate_ok hp hg).secs.1
  have hSt : ∀ r, t ≤ S r := fun r => by
    have hM : Closed (arrN (plainH h)) (fun _ => t) := ⟨fun _ => ht, fun g hg hl => by
      have hl' : t < 1073741824 := hl
      have := hsec g hg
      show t ≤ enter (plainH h) g t
      rw [hent g hg]; split <;> omega⟩
    exact h1.most hN hM (Int.le_refl t) r
  -- the one way: what is R + t is closed
  have hA : S r ≥ if t + R r ≤ 1073741823 then t + R r else 1073741824 := by
    have hM : Closed (arrN (plainH h)) (fun r => if t + R r ≤ 1073741823 then t + R r else 1073741824) := ⟨fun r => by have := hR r; show 0 ≤ _ ∧ _ ≤ (1073741824 : Int); split <;> omega, fun g hg hl => by
      have hl' : (if t + R g.from'.toNat ≤ 1073741823 then t + R g.from'.toNat else 1073741824) < 1073741824 := hl
      show (if t + R g.to.toNat ≤ 1073741823 then t + R g.to.toNat else 1073741824) ≤ enter (plainH h) g (if t + R g.from'.toNat ≤ 1073741823 then t + R g.from'.toNat else 1073741824)
      have hs := hsec g hg
      by_cases hf : t + R g.from'.toNat ≤ 1073741823
      · rw [if_pos hf, hent g hg]
        have hrel : R g.to.toNat ≤ enter (plainH h) g (R g.from'.toNat) := h0.closed.rel g hg (by show R g.from'.toNat < 1073741824; omega)
        rw [hent g hg] at hrel
        split <;> split <;> first | omega | (split at hrel <;> omega)
      · rw [if_neg hf] at hl'; omega⟩
    refine h1.most hN hM ?_ r
    show (if t + R a ≤ 1073741823 then t + R a else 1073741824) ≤ t
    have := hR a
    split <;> omega
  -- the other: S - t is closed as far as it counts
  have hB : S r ≤ if t + R r ≤ 1073741823 then t + R r else 1073741824 := by
    split
    · rename_i hle
      have hM : Closed (arrN (plainH h)) (fun r => S r - t) := ⟨fun r => by have := hS r; have := hSt r; show 0 ≤ S r - t ∧ S r - t ≤ 1073741824; omega, fun g hg hl => by
        show S g.to.toNat - t ≤ enter (plainH h) g (S g.from'.toNat - t)
        have hs := hsec g hg
        have h2 := hS g.to.toNat
        have h3 := hS g.from'.toNat
        rw [hent g hg]
        by_cases hf : S g.from'.toNat < 1073741824
        · have hrel : S g.to.toNat ≤ enter (plainH h) g (S g.from'.toNat) := h1.closed.rel g hg hf
          rw [hent g hg] at hrel
          split <;> split at hrel <;> omega
        · split <;> omega⟩
      have := h0.most hN hM (by show S a - t ≤ 0; omega) r
      have h5 : S r - t ≤ R r := this
      omega
    · exact (hS r).2
  omega

theorem plain_le {h : House} (hv : h.V) {a : Nat} (ha : a < h.rooms.length) {t : Int} (ht : 0 ≤ t ∧ t ≤ 1073741824) (r : Nat) :
    (arrN (plainH h)).lab (arrR (plainH h) a t) r ≤ (arrN h).lab (arrR h a t) r := by
  have hp := plain_V hv
  obtain ⟨l0, h0⟩ := arrR_is hp (a := a) ha ht
  obtain ⟨l1, h1⟩ := arrR_is hv (a := a) ha ht
  refine h1.most (arrN_ok hv) ⟨h0.closed.In, fun g hg hl => ?_⟩ h0.start r
  have hgp : dropG g ∈ gates (plainH h) := by rw [gates_plain]; exact List.mem_map_of_mem hg
  have hrel := h0.closed.rel (dropG g) hgp hl
  have hgo := gate_ok hv hg
  generalize (arrN (plainH h)).lab (arrR (plainH h) a t) = R at *
  have hrel' : R g.to.toNat ≤ enter (plainH h) (dropG g) (R g.from'.toNat) := hrel
  have hR : 0 ≤ R g.from'.toNat ∧ R g.from'.toNat ≤ 1073741824 := h0.closed.In _
  show R g.to.toNat ≤ enter h g (R g.from'.toNat)
  rw [enter_plain] at hrel'
  have hn := nextAt_ge hv hgo hR.1 hR.2
  unfold enter
  split <;> split at hrel' <;> omega

/-- By way of another room it is no nearer. -/
theorem plain_tri {h : House} (hv : h.V) {a b : Nat} (ha : a < h.rooms.length) (hb : b < h.rooms.length) (r : Nat) :
    (arrN (plainH h)).lab (arrR (plainH h) a 0) r ≤ (arrN (plainH h)).lab (arrR (plainH h) a 0) b + (arrN (plainH h)).lab (arrR (plainH h) b 0) r := by
  have hp := plain_V hv
  obtain ⟨l0, h0⟩ := arrR_is hp (a := a) ha (t := 0) (by omega)
  have hin : 0 ≤ (arrN (plainH h)).lab (arrR (plainH h) a 0) b ∧ (arrN (plainH h)).lab (arrR (plainH h) a 0) b ≤ 1073741824 := h0.closed.In b
  obtain ⟨l1, h1⟩ := arrR_is hp (a := b) hb hin
  have hm : (arrN (plainH h)).lab (arrR (plainH h) a 0) r ≤ (arrN (plainH h)).lab (arrR (plainH h) b ((arrN (plainH h)).lab (arrR (plainH h) a 0) b)) r := h1.most (arrN_ok hp) h0.closed (Int.le_refl _) r
  rw [plain_shift hv hb hin] at hm
  have hin2 : 0 ≤ (arrN (plainH h)).lab (arrR (plainH h) a 0) r ∧ (arrN (plainH h)).lab (arrR (plainH h) a 0) r ≤ 1073741824 := h0.closed.In r
  obtain ⟨l2, h2⟩ := arrR_is hp (a := b) hb (t := 0) (by omega)
  have hin3 : 0 ≤ (arrN (plainH h)).lab (arrR (plainH h) b 0) r ∧ (arrN (plainH h)).lab (arrR (plainH h) b 0) r ≤ 1073741824 := h2.closed.In r
  split at hm <;> omega
end Go.Proofs.Hs

set_option maxHeartbeats 8000000
set_option linter.unusedSimpArgs false
set_option linter.unusedVariables false
set_option maxRecDepth 10000
namespace Go.Proofs.Hs
open Go Go.Pg Go.Proofs

theorem dist1_ok (g : Gate) (t : Int) (h0 : 0 ≤ t) (h1 : t ≤ 1073741824) (hs : 1 ≤ g.secs ∧ g.secs ≤ 3600) : OKv cx 120 [.agg (eGate g), ai t] (ai (distF g t)) := by
  refine OKat.of_body (rs := [4]) Tryd.func120 rfl (by decide +kernel) rfl (by simp [Tryd.ntmps120]) ?_
  simp only [Tryd.ntmps120]
  repeat' first
    | apply AW.seq | apply AW.region | apply AW.ret | apply AW.block | apply AW.skip | apply AW.exit | apply AW.scope | apply AW.label | apply AWL.nil
    | ((first | (apply W.step cx_ok; decide) | apply AW.cond); (simp (disch := omega) only [push_cast, simprocAttr] <;> rfl); all_goals try ((with_reducible intro hI); try first | (cases hI; done) | (simp only [INTS, not_true_eq_false] at hI; try first | (exfalso; omega) | (have hT : True := hI; clear hT hI))))
    | ((first | apply W.ret1 | apply W.end1); (iterate 2 (try (simp (disch := omega) only [push_cast, simprocAttr] <;> rfl))))
  all_goals (show _ = _; rfl)
theorem better2_ok (a b : Int) : OKv cx 121 [ai a, ai b] (ab (decide (b < 0) || decide (a < b))) := by
  refine OKat.of_body (rs := [4]) Tryd.func121 rfl (by decide +kernel) rfl (by simp [Tryd.ntmps121]) ?_
  simp only [Tryd.ntmps121]
  repeat' first
    | apply AW.seq | apply AW.region | apply AW.ret | apply AW.block | apply AW.skip | apply AW.exit | apply AW.scope | apply AW.label | apply AWL.nil
    | ((first | (apply W.step cx_ok; decide) | (apply W.gS; rfl; decide) | apply AW.cond); (simp (disch := omega) only [push_cast, simprocAttr] <;> rfl); all_goals try ((with_reducible intro hI); try first | (cases hI; done) | (simp only [INTS, not_true_eq_false] at hI; try first | (exfalso; omega) | (have hT : True := hI; clear hT hI))))
    | ((first | apply W.ret1 | apply W.end1); (iterate 2 (try (simp (disch := omega) only [push_cast, simprocAttr] <;> rfl))))
  all_goals (show _ = _; first | (simp [*]; done) | (simp; omega))

theorem spreadD_ok {H : Nat → Option AO} {nx ri : Nat} {args : List AV} (h : House) (row : List Int) (ha : args = [.agg (eHouse h), .ref ri 0 h.rooms.length, .clo 120 [], .clo 121 []]) (hfit : h.Fit) (hv : h.V) (hrl : row.length = h.rooms.length) (hrx : Small h.rooms.length row) (hri : ri < nx)
    (hr : Pg.rowAt H ri = some { k := 1, es := row.map eInt, ty := 3 }) :
    OKm cx 117 args H nx (fun r H' nx' => r = .ref (nx + 1) 0 h.rooms.length ∧ Pg.rowAt H' (nx + 1) = some { k := 6, es := (spread distF (gates h) row).2.map eGate, ty := 104 } ∧ Pg.rowAt H' ri = some { k := 1, es := (spread distF (gates h) row).1.map eInt, ty := 3 } ∧ nx + 2 ≤ nx' ∧ ∀ j, j < nx → j ≠ ri → H' j = H j) := by
  subst ha
  have hrn := hv.rooms
  have hwn := hv.nw
  have hgl := gates_len h
  have hd0 : ri ≠ nx := by omega
  have hd1 : ri ≠ nx + 1 := by omega
  have hd2 : nx + 1 ≠ ri := by omega
  have hms : (h.rooms.length : Int) * 48 ≤ 281474976710656 := by omega
  have hms2 : (h.rooms.length : Int) ≤ 281474976710656 := by omega
  refine OKm.of_body cx_ok (rs := [.tmp 8]) Tryd.func117 rfl (by decide +kernel) rfl (by simp [Tryd.ntmps117]) ?_
  simp only [Tryd.ntmps117]
  repeat' first
    | apply AW.seq | apply AW.region | apply AW.ret | apply AW.block | apply AW.skip | apply AW.exit | apply AW.scope | apply AW.label | apply AWL.nil | apply D.nil
    | refine W.draw cx_mixed (by decide +kernel) ?_
    | ((first | (apply W.step cx_ok; decide) | (apply D.step cx_ok; decide; decide) | apply W.store cx_ok | (apply W.gS; rfl; decide) | (apply D.gS; rfl; decide; decide) | apply AW.cond); (simp (disch := omega) only [push_cast, simprocAttr, hd0, hd1, hd2, hr, hms, hms2] <;> rfl); all_goals try ((with_reducible intro hI); try first | (cases hI; done) | (simp only [INTS, not_true_eq_false] at hI; try first | (exfalso; omega) | (have hT : True := hI; clear hT hI))))
    | ((first | (apply W.callv cx_ok; decide) | (apply D.callv cx_ok; decide; decide)); (iterate 2 (simp (disch := omega) only [push_cast, simprocAttr, hd0, hd1, hd2, hr, hms, hms2] <;> rfl)); (with_reducible first | exact gates_ok h hfit.nw); try first | rfl | (simp (disch := omega) only [push_cast, simprocAttr, hd0, hd1, hd2, hr, hms, hms2] <;> rfl))
    | ((first | apply W.retC | apply W.endC' | apply W.retM | apply W.endM' | apply W.ret1 | apply W.end1 | apply W.ret2 | apply W.end2 | apply W.ret3 | apply W.end3 | apply W.ret0 | apply W.end0); (iterate 2 (try (simp (disch := omega) only [push_cast, simprocAttr, hd0, hd1, hd2, hr, hms, hms2] <;> rfl))))
  refine AW.loop (fun n s => ∃ (row1 : List Int) (by1 : List Gate) (k : Nat), n = k ∧ (row1.length = h.rooms.length) ∧ (by1.length = h.rooms.length) ∧ (spreadM row1 < k) ∧ (spreadF distF (gates h) k row1 by1 = spread distF (gates h) row) ∧ (Small h.rooms.length row1) ∧ (∀ j, j < nx → j ≠ ri → s.H j = H j) ∧ nx + 2 ≤ s.nx ∧ s.tm 1 = .ref ri 0 h.rooms.length ∧ s.tm 2 = .clo 120 [] ∧ s.tm 3 = .clo 121 [] ∧ s.tm 9 = .ref (nx + 1) 0 h.rooms.length ∧ s.tm 10 = .lst ((gates h).map eGate) ∧ Pg.rowAt s.H (ri) = some ({ k := 1, es := row1.map eInt, ty := 3 }) ∧ Pg.rowAt s.H (nx + 1) = some ({ k := 6, es := by1.map eGate, ty := 104 })) ((spreadM row + 1)) ⟨row, List.replicate h.rooms.length .zero, spreadM row + 1, rfl, hrl, (by simp), (Nat.lt_succ_self _), (by rw [← hrl]; rfl), hrx, (by intro j hjlt hjne; simp (disch := omega) only [push_cast, if_neg]), ?_, ?_, ?_, ?_, ?_, ?_, ?_, ?_⟩ ?_
  iterate 8 (first | (simp (disch := omega) only [push_cast, simprocAttr, hd0, hd1, hd2, hr, hms, hms2, map_repG] <;> first | rfl | omega) | omega)
  rintro n s ⟨row1, by1, k, hn, hp0, hp1, hp2, hp3, hp4, hp5, hnl, hS⟩
  have hZ : (ri : Nat) ≠ s.nx ∧ s.nx ≠ (ri : Nat) ∧ (nx + 1 : Nat) ≠ s.nx ∧ s.nx ≠ (nx + 1 : Nat) := by omega
  repeat' first
    | apply AW.seq | apply AW.region | apply AW.ret | apply AW.block | apply AW.skip | apply AW.exit | apply AW.scope | apply AW.label | apply AWL.nil | apply D.nil
    | refine W.draw cx_mixed (by decide +kernel) ?_
    | ((first | (apply W.step cx_ok; decide) | (apply D.step cx_ok; decide; decide) | apply W.store cx_ok | (apply W.gS; rfl; decide) | (apply D.gS; rfl; decide; decide) | apply AW.cond); (simp (disch := omega) only [push_cast, simprocAttr, hS, hZ, hd0, hd1, hd2, hr, hms, hms2] <;> rfl); all_goals try ((with_reducible intro hI); try first | (cases hI; done) | (simp only [INTS, not_true_eq_false] at hI; try first | (exfalso; omega) | (have hT : True := hI; clear hT hI))))
    | ((first | apply W.retC | apply W.endC' | apply W.retM | apply W.endM' | apply W.ret1 | apply W.end1 | apply W.ret2 | apply W.end2 | apply W.ret3 | apply W.end3 | apply W.ret0 | apply W.end0); (iterate 2 (try (simp (disch := omega) only [push_cast, simprocAttr, hS, hZ, hd0, hd1, hd2, hr, hms, hms2] <;> rfl))))
  refine AW.loop (fun n s => ∃ (j : Nat) (rest : List Gate), n = rest.length ∧ ((gates h).drop j = rest) ∧ ((gates h).find? (impr distF row1) = rest.find? (impr distF row1)) ∧ (∀ j, j < nx → j ≠ ri → s.H j = H j) ∧ nx + 2 ≤ s.nx ∧ s.tm 1 = .ref ri 0 h.rooms.length ∧ s.tm 2 = .clo 120 [] ∧ s.tm 3 = .clo 121 [] ∧ s.tm 9 = .ref (nx + 1) 0 h.rooms.length ∧ s.tm 10 = .lst ((gates h).map eGate) ∧ s.tm 19 = .lst ((gates h).map eGate) ∧ s.tm 20 = ai (gates h).length ∧ s.tm 21 = ai j ∧ Pg.rowAt s.H (ri) = some ({ k := 1, es := row1.map eInt, ty := 3 }) ∧ Pg.rowAt s.H (nx + 1) = some ({ k := 6, es := by1.map eGate, ty := 104 })) ((gates h).length) ⟨0, _, rfl, rfl, rfl, (by intro j hjlt hjne; simp (disch := omega) only [push_cast, if_neg, hp5]), ?_, ?_, ?_, ?_, ?_, ?_, ?_, ?_, ?_, ?_, ?_⟩ ?_
  iterate 11 (first | (simp (disch := omega) only [push_cast, simprocAttr, hS, hZ, hd0, hd1, hd2, hr, hms, hms2] <;> first | rfl | omega) | omega)
  rintro n2 s2 ⟨j2, rest2, hn2, hp02, hp12, hp22, hnl2, hS2⟩
  have hZ2 : (ri : Nat) ≠ s2.nx ∧ s2.nx ≠ (ri : Nat) ∧ (nx + 1 : Nat) ≠ s2.nx ∧ s2.nx ≠ (nx + 1 : Nat) := by omega
  obtain ⟨k', rfl⟩ : ∃ k', k = k' + 1 := ⟨k - 1, by omega⟩
  rcases rest2 with _ | ⟨x2, rest2⟩
  · have hk2 := drop_nil hp02
    have hfin : (row1, by1) = spread distF (gates h) row := by
      rw [← hp3, spreadF, hp12]; rfl
    repeat' first
      | apply AW.seq | apply AW.region | apply AW.ret | apply AW.block | apply AW.skip | apply AW.exit | apply AW.scope | apply AW.label | apply AWL.nil | apply D.nil
      | refine W.draw cx_mixed (by decide +kernel) ?_
      | ((first | (apply W.step cx_ok; decide) | (apply D.step cx_ok; decide; decide) | apply W.store cx_ok | (apply W.gS; rfl; decide) | (apply D.gS; rfl; decide; decide) | apply AW.cond); (simp (disch := omega) only [push_cast, simprocAttr, hS2, hZ2, hd0, hd1, hd2, hr, hms, hms2, hk2] <;> rfl); all_goals try ((with_reducible intro hI); try first | (cases hI; done) | (simp only [INTS, not_true_eq_false] at hI; try first | (exfalso; omega) | (have hT : True := hI; clear hT hI))))
      | ((first | apply W.retC | apply W.endC' | apply W.retM | apply W.endM' | apply W.ret1 | apply W.end1 | apply W.ret2 | apply W.end2 | apply W.ret3 | apply W.end3 | apply W.ret0 | apply W.end0); (iterate 2 (try (simp (disch := omega) only [push_cast, simprocAttr, hS2, hZ2, hd0, hd1, hd2, hr, hms, hms2, hk2] <;> rfl))))
    all_goals
      (simp only [blockQ, loopQ, scopeQ]
       apply W.retX (vs := [.ref (nx + 1) 0 h.rooms.length])
       · simp (disch := omega) only [push_cast, simprocAttr, hS2, hZ2, hd0, hd1, hd2, hr, hms, hms2]
       refine ⟨rfl, ?_, ?_, ?_, ?_⟩
       · rw [← hfin]; (simp (disch := omega) only [push_cast, simprocAttr, hS2, hZ2, hd0, hd1, hd2, hr, hms, hms2])
       · rw [← hfin]; (simp (disch := omega) only [push_cast, simprocAttr, hS2, hZ2, hd0, hd1, hd2, hr, hms, hms2])
       · (try simp (disch := omega) only [push_cast, simprocAttr, hS2, hZ2, hd0, hd1, hd2, hr, hms, hms2]); omega
       · exact (by intro j hjlt hjne; simp (disch := omega) only [push_cast, if_neg, hp22]))
  · obtain ⟨hk2, hg2, hd'2, hl'2, hm2, hx2⟩ := drop_cons hp02 eGate []
    have hgo := gate_ok hv hm2
    have g1 := hgo.from'.1
    have g2 := hgo.from'.2
    have g3 := hgo.to.1
    have g4 := hgo.to.2
    have g5 : x2.from'.toNat < row1.length := by omega
    have g6 : x2.to.toNat < row1.length := by omega
    have g7 : x2.to.toNat < by1.length := by omega
    have g8 : x2.to.toNat < h.rooms.length := by omega
    have hb0 := hp4.at' hrn.2 (i := x2.from'.toNat) (by omega)
    have hb1 : row1.getD x2.from'.toNat 0 ≤ 1073741823 := by omega
    have hnb : 0 ≤ row1.getD x2.from'.toNat 0 → distF x2 (row1.getD x2.from'.toNat 0) < 1073741824 := fun _ => by have := hgo.secs; unfold distF; omega
    repeat' first
      | apply AW.seq | apply AW.region | apply AW.ret | apply AW.block | apply AW.skip | apply AW.exit | apply AW.scope | apply AW.label | apply AWL.nil | apply D.nil
      | refine AW.draw (id := 9) cx_mixed [9, 10, 11] [3, 4, 5, 7] [ri, nx + 1] 0 (by decide +kernel) ?_
      | refine W.draw cx_mixed (by decide +kernel) ?_
      | ((first | (apply W.step cx_ok; decide) | (apply D.step cx_ok; decide; decide) | apply W.store cx_ok | (apply W.gS; rfl; decide) | (apply D.gS; rfl; decide; decide) | apply AW.cond); (simp (disch := omega) only [push_cast, simprocAttr, hS2, hZ2, hd0, hd1, hd2, hr, hms, hms2, hk2, hg2, g1, g2, g3, g4, g5, g6, g7, g8] <;> rfl); all_goals try ((with_reducible intro hI); try first | (cases hI; done) | (simp only [INTS, not_true_eq_false] at hI; try first | (exfalso; omega) | (have hT : True := hI; clear hT hI))))
      | ((first | (apply D.store cx_ok; decide) | (apply D.stept cx_ok; decide; decide) | (apply D.stepm cx_ok; decide; decide)); (simp (disch := omega) only [push_cast, simprocAttr, hS2, hZ2, hd0, hd1, hd2, hr, hms, hms2, hk2, hg2, g1, g2, g3, g4, g5, g6, g7, g8] <;> rfl); try first | exact .inl rfl | exact .inr (by simp))
      | ((apply D.alloct cx_ok; decide; decide); (simp (disch := omega) only [push_cast, simprocAttr, hS2, hZ2, hd0, hd1, hd2, hr, hms, hms2, hk2, hg2, g1, g2, g3, g4, g5, g6, g7, g8] <;> rfl); first | exact .inl rfl | exact .inr (by simp))
      | ((first | (apply W.callv cx_ok; decide) | (apply D.callv cx_ok; decide; decide) | (apply D.callvt cx_ok; decide; decide)); (iterate 2 (simp (disch := omega) only [push_cast, simprocAttr, hS2, hZ2, hd0, hd1, hd2, hr, hms, hms2, hk2, hg2, g1, g2, g3, g4, g5, g6, g7, g8] <;> rfl)); (with_reducible first | exact dist1_ok x2 _ (by omega) (by omega) hgo.secs | exact better2_ok _ _); try first | rfl | (simp (disch := omega) only [push_cast, simprocAttr, hS2, hZ2, hd0, hd1, hd2, hr, hms, hms2, hk2, hg2, g1, g2, g3, g4, g5, g6, g7, g8] <;> rfl))
      | ((first | apply W.retC | apply W.endC' | apply W.retM | apply W.endM' | apply W.ret1 | apply W.end1 | apply W.ret2 | apply W.end2 | apply W.ret3 | apply W.end3 | apply W.ret0 | apply W.end0); (iterate 2 (try (simp (disch := omega) only [push_cast, simprocAttr, hS2, hZ2, hd0, hd1, hd2, hr, hms, hms2, hk2, hg2, g1, g2, g3, g4, g5, g6, g7, g8] <;> rfl))))
    all_goals first
      | (have hq : impr distF row1 x2 = false := by rw [Bool.eq_false_iff]; intro hi; rw [impr_iff] at hi; omega
         have hp12' : (gates h).find? (impr distF row1) = rest2.find? (impr distF row1) := by rw [hp12, List.find?_cons, hq]
         (refine ⟨rest2.length, ?_, j2 + 1, rest2, rfl, hd'2, hp12', (by intro j hjlt hjne; simp (disch := omega) only [push_cast, if_neg, hp22]), ?_, ?_, ?_, ?_, ?_, ?_, ?_, ?_, ?_, ?_, ?_⟩; ((simp only [List.length_cons] at *; omega)); all_goals first | (simp (disch := omega) only [push_cast, simprocAttr, hS2, hZ2, hd0, hd1, hd2, hr, hms, hms2, hk2, hg2, g1, g2, g3, g4, g5, g6, g7, g8] <;> first | rfl | omega) | omega))
      | (have hq : impr distF row1 x2 = true := by rw [impr_iff]; omega
         have hi := impr_iff.1 hq
         have hstep : spreadF distF (gates h) k' (row1.set x2.to.toNat (distF x2 (row1.getD x2.from'.toNat 0))) (by1.set x2.to.toNat x2) = spread distF (gates h) row := by
           rw [← hp3, spreadF, hp12, List.find?_cons, hq]
         have hlt := spreadM_lt (row := row1) (i := x2.to.toNat) (x := distF x2 (row1.getD x2.from'.toNat 0)) (by omega) hi.2.1 (by omega) hi.2.2
         (refine ⟨k', ?_, (row1.set x2.to.toNat (distF x2 (row1.getD x2.from'.toNat 0))), by1.set x2.to.toNat x2, k', rfl, (by rw [List.length_set]; exact hp0), (by rw [List.length_set]; exact hp1), (by omega), hstep, (hp4.put (by omega) (by omega) hgo.secs hq), (by intro j hjlt hjne; simp (disch := omega) only [push_cast, if_neg, hp22]), ?_, ?_, ?_, ?_, ?_, ?_, ?_, ?_⟩; (omega); all_goals first | (simp (disch := omega) only [push_cast, simprocAttr, hS2, hZ2, hd0, hd1, hd2, hr, hms, hms2, hk2, hg2, g1, g2, g3, g4, g5, g6, g7, g8] <;> first | rfl | omega) | omega))
abbrev eRow (r : List Int) : List AV := [lInt r]
theorem pure_rowsI (l : List (List Int)) : (l.map eRow).all pureL = true := pure_map eRow (fun _ => rfl) l
theorem take_rowsI {l : List (List Int)} {n : Nat} (h : l.length = n) : (l.map eRow).take n = l.map eRow := by rw [List.take_of_length_le (by simp [h])]
def distsH (h : House) : List (List Int) := (List.range h.rooms.length).map (distH h)
theorem distances_ok (h : House) (hfit : h.Fit) (hv : h.V) : OKv cx 99 [.agg (eHouse h)] (.lst ((distsH h).map eRow)) := by
  have hrn := hv.rooms
  have hms : (h.rooms.length : Int) * 8 ≤ 281474976710656 := by omega
  have hms2 : (h.rooms.length : Int) ≤ 281474976710656 := by omega
  refine OKat.of_body (rs := [2]) Tryd.func99 rfl (by decide +kernel) rfl (by simp [Tryd.ntmps99]) ?_
  simp only [Tryd.ntmps99]
  repeat' first
    | apply AW.seq | apply AW.region | apply AW.ret | apply AW.block | apply AW.skip | apply AW.exit | apply AW.scope | apply AW.label | apply AWL.nil
    | ((first | (apply W.step cx_ok; decide) | apply W.store cx_ok | apply AW.cond); (simp (disch := omega) only [push_cast, simprocAttr] <;> rfl); all_goals try ((with_reducible intro hI); try first | (cases hI; done) | (simp only [INTS, not_true_eq_false] at hI; try first | (exfalso; omega) | (have hT : True := hI; clear hT hI))))
    | ((first | apply W.ret1 | apply W.end1); (iterate 2 (try (simp (disch := omega) only [push_cast, simprocAttr] <;> rfl))))
  refine AW.adopt 3 1 43 ?_ ?_
  · simp (disch := omega) only [push_cast, simprocAttr]
  refine AW.loop (fun n s => ∃ (k : Nat) (rs : List (List Int)), n = h.rooms.length - k ∧ (rs = (List.range k).map (distH h)) ∧ (rs.length = k) ∧ (k ≤ h.rooms.length) ∧ 2 ≤ s.nx ∧ s.tm 1 = .ptr 0 0 0 1 ∧ s.tm 3 = .ref 1 0 k ∧ s.tm 9 = ai h.rooms.length ∧ s.tm 10 = ai k ∧ Pg.rowAt s.H (0) = some ({ k := 3, es := [eHouse h], ty := 26 }) ∧ Pg.rowAt s.H (1) = some ({ k := 1, es := rs.map eRow, ty := 43, lo := k })) (h.rooms.length) ⟨0, [], rfl, rfl, rfl, (Nat.zero_le _), ?_, ?_, ?_, ?_, ?_, ?_, ?_⟩ ?_
  iterate 7 (first | (simp (disch := omega) only [push_cast, simprocAttr] <;> first | rfl | omega) | omega)
  rintro n1 s1 ⟨k1, rs1, hn1, hp01, hp11, hp21, hnl1, hS1⟩
  have hZ1 : (0 : Nat) ≠ s1.nx ∧ s1.nx ≠ (0 : Nat) ∧ (1 : Nat) ≠ s1.nx ∧ s1.nx ≠ (1 : Nat) := by omega
  by_cases hk : k1 < h.rooms.length
  · have hk1 : (k1 : Int) < (h.rooms.length : Int) := by omega
    have q01 : (0 : Nat) ≠ s1.nx := by omega
    have q02 : s1.nx ≠ (0 : Nat) := by omega
    have q03 : (1 : Nat) ≠ s1.nx := by omega
    have q04 : s1.nx ≠ (1 : Nat) := by omega
    repeat' first
      | apply AW.seq | apply AW.region | apply AW.ret | apply AW.block | apply AW.skip | apply AW.exit | apply AW.scope | apply AW.label | apply AWL.nil
      | ((first | (apply W.step cx_ok; decide) | apply W.store cx_ok | apply AW.cond); (simp (disch := omega) only [push_cast, simprocAttr, hS1, hZ1, hk1, hms, hms2, q01, q02, q03, q04] <;> rfl); all_goals try ((with_reducible intro hI); try first | (cases hI; done) | (simp only [INTS, not_true_eq_false] at hI; try first | (exfalso; omega) | (have hT : True := hI; clear hT hI))))
      | ((first | apply W.ret1 | apply W.end1); (iterate 2 (try (simp (disch := omega) only [push_cast, simprocAttr, hS1, hZ1, hk1, hms, hms2, q01, q02, q03, q04] <;> rfl))))
    refine AW.loop (fun n s => ∃ (i : Nat) (row : List Int), n = h.rooms.length - i ∧ (row = fillR h.rooms.length i (-1)) ∧ (row.length = h.rooms.length) ∧ (i ≤ h.rooms.length) ∧ s1.nx + 1 ≤ s.nx ∧ s.tm 1 = .ptr 0 0 0 1 ∧ s.tm 3 = .ref 1 0 k1 ∧ s.tm 4 = ai k1 ∧ s.tm 5 = .ref s1.nx 0 h.rooms.length ∧ s.tm 9 = ai h.rooms.length ∧ s.tm 10 = ai k1 ∧ s.tm 18 = ai h.rooms.length ∧ s.tm 19 = ai i ∧ Pg.rowAt s.H (0) = some ({ k := 3, es := [eHouse h], ty := 26 }) ∧ Pg.rowAt s.H (1) = some ({ k := 1, es := rs1.map eRow, ty := 43, lo := k1 }) ∧ Pg.rowAt s.H (s1.nx) = some ({ k := 1, es := row.map eInt, ty := 3 })) (h.rooms.length) ⟨0, fillR h.rooms.length 0 (-1), rfl, rfl, (fillR_len (by omega)), (by omega), ?_, ?_, ?_, ?_, ?_, ?_, ?_, ?_, ?_, ?_, ?_, ?_⟩ ?_
    iterate 12 (first | (simp (disch := omega) only [push_cast, simprocAttr, fillR_zero, map_rep0, hS1, hZ1, hk1, hms, hms2, q01, q02, q03, q04] <;> first | rfl | omega) | omega)
    rintro n2 s2 ⟨i2, row2, hn2, hp02, hp12, hp22, hnl2, hS2⟩
    have hZ2 : (0 : Nat) ≠ s2.nx ∧ s2.nx ≠ (0 : Nat) ∧ (1 : Nat) ≠ s2.nx ∧ s2.nx ≠ (1 : Nat) ∧ (s1.nx : Nat) ≠ s2.nx ∧ s2.nx ≠ (s1.nx : Nat) := by omega
    by_cases hi : i2 < h.rooms.length
    · have hi1 : (i2 : Int) < (h.rooms.length : Int) := by omega
      have hi2 : i2 < row2.length := by omega
      repeat' first
        | apply AW.seq | apply AW.region | apply AW.ret | apply AW.block | apply AW.skip | apply AW.exit | apply AW.scope | apply AW.label | apply AWL.nil
        | ((first | (apply W.step cx_ok; decide) | apply W.store cx_ok | apply AW.cond); (simp (disch := omega) only [push_cast, simprocAttr, hS2, hZ2, hi, hi1, hi2, hp12, q01, q02, q03, q04] <;> rfl); all_goals try ((with_reducible intro hI); try first | (cases hI; done) | (simp only [INTS, not_true_eq_false] at hI; try first | (exfalso; omega) | (have hT : True := hI; clear hT hI))))
        | ((first | apply W.ret1 | apply W.end1); (iterate 2 (try (simp (disch := omega) only [push_cast, simprocAttr, hS2, hZ2, hi, hi1, hi2, hp12, q01, q02, q03, q04] <;> rfl))))
      all_goals
        (have hset : row2.set i2 (-1) = fillR h.rooms.length (i2 + 1) (-1) := by rw [hp02]; exact fillR_set hi
         (refine ⟨h.rooms.length - (i2 + 1), ?_, i2 + 1, row2.set i2 (-1), rfl, hset, (by rw [List.length_set]; exact hp12), (by omega), ?_, ?_, ?_, ?_, ?_, ?_, ?_, ?_, ?_, ?_, ?_, ?_⟩; (omega); all_goals first | (simp (disch := omega) only [push_cast, simprocAttr, hS2, hZ2, q01, q02, q03, q04, hi, hi1, hi2, hp12] <;> first | rfl | omega) | omega))
    · have hi1 : ¬ ((i2 : Int) < (h.rooms.length : Int)) := by omega
      have hin : i2 = h.rooms.length := by omega
      have hrow : row2 = List.replicate h.rooms.length (-1) := by rw [hp02, hin, fillR_all]
      have hnd : k1 < row2.length := by omega
      repeat' first
        | apply AW.seq | apply AW.region | apply AW.ret | apply AW.block | apply AW.skip | apply AW.exit | apply AW.scope | apply AW.label | apply AWL.nil
        | ((first | (apply W.step cx_ok; decide) | apply W.store cx_ok | apply AW.cond); (simp (disch := omega) only [push_cast, simprocAttr, hS2, hZ2, hi1, hk1, hk, hnd, hp12, q01, q02, q03, q04] <;> rfl); all_goals try ((with_reducible intro hI); try first | (cases hI; done) | (simp only [INTS, not_true_eq_false] at hI; try first | (exfalso; omega) | (have hT : True := hI; clear hT hI))))
        | ((first | apply W.ret1 | apply W.end1); (iterate 2 (try (simp (disch := omega) only [push_cast, simprocAttr, hS2, hZ2, hi1, hk1, hk, hnd, hp12, q01, q02, q03, q04] <;> rfl))))
      have hrl : (row2.set k1 0).length = h.rooms.length := by rw [List.length_set]; exact hp12
      have hsm : Small h.rooms.length (row2.set k1 0) := by rw [hrow]; exact small0 hk
      refine W.callm cx_ok (by decide) (f := 117) (caps := []) (by simp (disch := omega) only [push_cast, simprocAttr, hS2, hZ2, hi1, hk1, hk, hnd, hp12, q01, q02, q03, q04]) (spreadD_ok (ri := s1.nx) h (row2.set k1 0) (by simp (disch := omega) only [push_cast, simprocAttr, hS2, hZ2, hi1, hk1, hk, hnd, hp12, q01, q02, q03, q04] <;> rfl) hfit hv hrl hsm (by simp (disch := omega) only [push_cast, simprocAttr, hS2, hZ2, hi1, hk1, hk, hnd, hp12, q01, q02, q03, q04]; omega) (by simp (disch := omega) only [push_cast, simprocAttr, hS2, hZ2, hi1, hk1, hk, hnd, hp12, q01, q02, q03, q04])) ?_
      rintro r H' nx' ⟨rfl, hB, hR, hN, hF⟩
      have hF0 := hF 0 (by simp (disch := omega) only [push_cast, simprocAttr, hS2, hZ2, hi1, hk1, hk, hnd, hp12, q01, q02, q03, q04]; omega) q01
      have hF1 := hF 1 (by simp (disch := omega) only [push_cast, simprocAttr, hS2, hZ2, hi1, hk1, hk, hnd, hp12, q01, q02, q03, q04]; omega) q03
      have hR0 : Pg.rowAt H' 0 = some { k := 3, es := [eHouse h], ty := 26 } := by
        unfold Pg.rowAt; rw [hF0]; exact (show Pg.rowAt _ 0 = _ by simp (disch := omega) only [push_cast, simprocAttr, hS2, hZ2, hi1, hk1, hk, hnd, hp12, q01, q02, q03, q04])
      have hR1 : Pg.rowAt H' 1 = some { k := 1, es := rs1.map eRow, ty := 43, lo := k1 } := by
        unfold Pg.rowAt; rw [hF1]; exact (show Pg.rowAt _ 1 = _ by simp (disch := omega) only [push_cast, simprocAttr, hS2, hZ2, hi1, hk1, hk, hnd, hp12, q01, q02, q03, q04])
      have hRd : (spread distF (gates h) (row2.set k1 0)).1 = distH h k1 := by rw [hrow]; rfl
      have hdl : (distH h k1).length = h.rooms.length := (dist_sim hv hk).2.len
      rw [hRd] at hR
      simp (disch := omega) only [push_cast] at hN
      clear hB hF hF0 hF1
      have q05 : (1 : Nat) ≠ nx' := by omega
      have q06 : nx' ≠ (1 : Nat) := by omega
      have q07 : (0 : Nat) ≠ nx' := by omega
      have q08 : nx' ≠ (0 : Nat) := by omega
      refine AWL.freeze (t := 5) (v := lInt (distH h k1)) (by simp (disch := omega) only [push_cast, simprocAttr, hS2, hZ2, hR0, hR1, hR, hdl, hk1, q05, q06, q07, q08, q01, q02, q03, q04] <;> rfl) ?_
      repeat' first
        | apply AW.seq | apply AW.region | apply AW.ret | apply AW.block | apply AW.skip | apply AW.exit | apply AW.scope | apply AW.label | apply AWL.nil
        | ((first | (apply W.step cx_ok; decide) | apply W.store cx_ok | apply AW.cond); (simp (disch := omega) only [push_cast, simprocAttr, hS2, hZ2, hR0, hR1, hR, hdl, hk1, q05, q06, q07, q08, q01, q02, q03, q04, List.length_cons, List.length_nil, pure_rowsI, take_rowsI, hp11] <;> rfl); all_goals try ((with_reducible intro hI); try first | (cases hI; done) | (simp only [INTS, not_true_eq_false] at hI; try first | (exfalso; omega) | (have hT : True := hI; clear hT hI))))
        | (apply W.append cx_ok; decide; rfl; rfl; rfl; decide; (iterate 3 (simp (disch := omega) only [push_cast, simprocAttr, hS2, hZ2, hR0, hR1, hR, hdl, hk1, q05, q06, q07, q08, q01, q02, q03, q04, List.length_cons, List.length_nil, pure_rowsI, take_rowsI, hp11] <;> rfl)); simp; (rfl); ((try dsimp only); (try simp only [List.length_map, List.length_append, List.length_cons, List.length_nil]); omega); ((try dsimp only); (try simp only [List.length_map, List.length_append, List.length_cons, List.length_nil]); omega))
        | ((first | apply W.ret1 | apply W.end1); (iterate 2 (try (simp (disch := omega) only [push_cast, simprocAttr, hS2, hZ2, hR0, hR1, hR, hdl, hk1, q05, q06, q07, q08, q01, q02, q03, q04, List.length_cons, List.length_nil, pure_rowsI, take_rowsI, hp11] <;> rfl))))
      all_goals
        (refine ⟨h.rooms.length - (k1 + 1), ?_, k1 + 1, rs1 ++ [distH h k1], rfl, (by rw [List.range_succ, List.map_append, ← hp01]; rfl), (by rw [List.length_append, hp11]; rfl), (by omega), ?_, ?_, ?_, ?_, ?_, ?_, ?_⟩; (omega); all_goals first | (simp (disch := omega) only [push_cast, simprocAttr, hS2, hZ2, hR0, hR1, hR, hdl, hk1, q05, q06, q07, q08, q01, q02, q03, q04, List.length_cons, List.length_nil, pure_rowsI, take_rowsI, hp11] <;> first | rfl | omega) | omega)
  · have hk1 : ¬ ((k1 : Int) < (h.rooms.length : Int)) := by omega
    have hkn : k1 = h.rooms.length := by omega
    have hfin : rs1 = distsH h := by rw [hp01, hkn]; rfl
    repeat' first
      | apply AW.seq | apply AW.region | apply AW.ret | apply AW.block | apply AW.skip | apply AW.exit | apply AW.scope | apply AW.label | apply AWL.nil
      | ((first | (apply W.step cx_ok; decide) | apply W.store cx_ok | apply AW.cond); (simp (disch := omega) only [push_cast, simprocAttr, hS1, hZ1, hk1, hp11, List.length_cons, List.length_nil, pure_rowsI, take_rowsI] <;> rfl); all_goals try ((with_reducible intro hI); try first | (cases hI; done) | (simp only [INTS, not_true_eq_false] at hI; try first | (exfalso; omega) | (have hT : True := hI; clear hT hI))))
      | ((first | apply W.ret1 | apply W.end1); (iterate 2 (try (simp (disch := omega) only [push_cast, simprocAttr, hS1, hZ1, hk1, hp11, List.length_cons, List.length_nil, pure_rowsI, take_rowsI] <;> rfl))))
    all_goals (show _ = _; rw [hfin])

end Go.Proofs.Hs

/-
  What a call hands back as new memory becomes an object of the caller's own. Conditions: the table of types is the program's.
-/
namespace Go.Pg
open Go Go.RowKit

section
variable {B0 : Nat} {S0 : Fr} {w w' : World} {H : Nat → Option AO} {σ : Sg}

/-- Plain cells only. -/
def flatE (es : List (List AV)) : Prop := ∀ e ∈ es, ∀ c ∈ e, ∃ x, c = .v x

theorem repL_flat {σ1 σ2 : Sg} {w1 w2 : World} {cs : List AV} {f : Nat → Option Value} (hf : ∀ c ∈ cs, ∃ x, c = .v x) (h : RepL σ1 w1 cs f) : RepL σ2 w2 cs f := by
  rw [repL_iff'] at h ⊢
  intro i c hc
  obtain ⟨u, h1, h2⟩ := h i c hc
  refine ⟨u, h1, ?_⟩
  obtain ⟨x, rfl⟩ := hf c (List.mem_of_getElem? hc)
  simpa [Rep] using h2

theorem Inv.le_take (hi : Inv B0 S0 w H σ) {id b n k cap : Nat} (hf : H id = none) (hw : Below w.heap.size w w') (hb : w.heap.size ≤ b) : Le σ (σ.push b id n k cap) w w' := by
  refine ⟨fun _ h => h, fun b h => hw.block b (hi.S_lt b h).1, fun b' i h => ?_, fun _ h => .inr h, fun i ha => ?_⟩
  · have hb' := (hi.own_lt b' i h).2
    have hne : i ≠ id := fun e => (hi.fresh id hf).2 b' (e ▸ h)
    refine ⟨hi.al_of_own h, ?_, ?_, ?_⟩
    · simp only [Sg.push]; rw [if_neg (by omega)]; exact h
    · simp only [Sg.push]; rw [if_neg hne]
    · simp only [Sg.push]; rw [if_neg (by omega)]; exact Nat.le_refl _
  · have hne : i ≠ id := fun e => by subst e; exact (hi.al i).1 ha hf
    refine .inl ⟨by simp only [Sg.push]; rw [if_neg hne], by simp only [Sg.push]; rw [if_neg hne], fun b' hb' => ?_⟩
    have hlt : b' < w.heap.size := by
      cases ho : H i with
      | none => exact absurd ho ((hi.al i).1 ha)
      | some o =>
        cases o with
        | row r => exact (hi.own_lt b' i ((hi.row i r ho).cur b' hb').1).2
        | mp kt et es =>
          obtain ⟨b2, _, _, a1, a2, _⟩ := (hi.mp i kt et es ho).cur
          rw [a1] at hb'; cases hb'
          exact (hi.own_lt b' i a2).2
    simp only [Sg.push]; rw [if_neg (by omega)]

/-- A new row in a block that a call has laid. -/
theorem Inv.take (hi : Inv B0 S0 w H σ) {id b : Nat} (hf : H id = none) (hB : B0 ≤ w.heap.size) (hw : Below w.heap.size w w') (hb1 : w.heap.size ≤ b) (hb2 : b < w'.heap.size) (r : Row) (cap : Nat) (arr : Array Value)
    (hbl : w'.heap[b]? = some (.cells arr r.ty (0, 0))) (hcap : r.es.length ≤ cap) (hmax : cap ≤ maxLen) (hsz : arr.size = cap * r.k) (hg : r.fro = false) (hlo : r.lo ≤ r.es.length)
    (each : ∀ e ∈ r.es, e.length = r.k ∧ ∀ c ∈ e, c.cell = true) (hflat : flatE r.es)
    {σ' : Sg} (hcon : ∀ i (hi : i < r.es.length), RepL σ' w' r.es[i] (fun j => w'.cell? ⟨b, i * r.k + j, none⟩)) :
    Inv B0 S0 w' (updH H id (.row r)) (σ.push b id r.es.length r.k cap) := by
  have hle := hi.le_take (n := r.es.length) (k := r.k) (cap := cap) hf hw hb1
  have hS : ¬ σ.S b := fun h => by have := (hi.S_lt _ h).1; omega
  have hsize := hw.size
  refine ⟨fun i => ?_, fun i hn => ?_, fun b h => ⟨by have := (hi.S_lt b h).1; omega, (hi.S_lt b h).2⟩, fun b' i h => ?_, fun i r' h => ?_, fun i kt et es h => ?_, S0.mono _ _ _ _ hle hi.fr⟩
  · simp only [Sg.push, updH]
    by_cases e : i = id
    · simp [e]
    · simp [e, hi.al]
  · simp only [updH] at hn
    have e : i ≠ id := fun e => by simp [e] at hn
    rw [if_neg e] at hn
    obtain ⟨h1, h2⟩ := hi.fresh i hn
    refine ⟨by simp only [Sg.push]; rw [if_neg e]; exact h1, fun b' hb => ?_⟩
    simp only [Sg.push] at hb
    split at hb
    · injection hb with hb; exact e hb.symm
    · exact h2 b' hb
  · simp only [Sg.push] at h
    split at h
    · subst b'; exact ⟨by omega, hb2⟩
    · have := hi.own_lt b' i h; exact ⟨this.1, by omega⟩
  · simp only [updH] at h
    by_cases e : i = id
    · subst e
      rw [if_pos rfl] at h; injection h with h; injection h with h; subst h
      have hnew : ∀ b', (σ.push b i r.es.length r.k cap).own b' = some i → b' = b := fun b' hb => by
        simp only [Sg.push] at hb
        split at hb
        · assumption
        · exact absurd hb ((hi.fresh i hf).2 b')
      refine ⟨by simp [Sg.push], by simp [Sg.push], each, hlo, fun b' hb => ?_, fun hc => by simp [Sg.push] at hc, fun b' hb => ?_, fun b' hb j h1 => ?_⟩
      · simp only [Sg.push, if_true] at hb; injection hb with hb; subst hb
        exact ⟨by simp [Sg.push], by simp [Sg.push], by simpa [Sg.push] using hcap, by simpa [Sg.push] using hmax, arr, hbl, by simpa [Sg.push] using hsz⟩
      · have := hnew b' hb; subst this
        exact ⟨.inl (by simp [Sg.push]), by simp [Sg.push], fun h => (by rw [hg] at h; cases h), fun _ => hS⟩
      · simp only [Sg.push, if_true] at hb; injection hb with hb; subst hb
        exact repL_flat (hflat _ (List.getElem_mem h1)) (hcon j h1)
    · rw [if_neg e] at h
      have hr := hi.row i r' h
      have hown : ∀ b', (σ.push b id r.es.length r.k cap).own b' = some i → σ.own b' = some i ∧ b' ≠ b := fun b' hb => by
        simp only [Sg.push] at hb
        split at hb
        · injection hb with hb; exact absurd hb.symm e
        · exact ⟨hb, by assumption⟩
      have hx : ∀ b', b' ≠ b → (σ.push b id r.es.length r.k cap).ext b' = σ.ext b' := fun b' hb => by simp only [Sg.push]; rw [if_neg hb]
      have hcx : (σ.push b id r.es.length r.k cap).cur i = σ.cur i := by simp only [Sg.push]; rw [if_neg e]
      have hax : ∀ b', b' ≠ b → (σ.push b id r.es.length r.k cap).cap b' = σ.cap b' := fun b' hb => by simp only [Sg.push]; rw [if_neg hb]
      refine ⟨by simp only [Sg.push]; rw [if_neg e]; exact hr.len, by simp only [Sg.push]; rw [if_neg e]; exact hr.k, hr.each, hr.lo, fun b' hb => ?_, fun hc => hr.empty (by rw [← hcx]; exact hc), fun b' hb => ?_, fun b' hb j h1 => ?_⟩
      · rw [hcx] at hb
        obtain ⟨a1, a2, a3, a4, ar, a5, a6⟩ := hr.cur b' hb
        have hlt := (hi.own_lt b' i a1).2
        exact ⟨by simp only [Sg.push]; rw [if_neg (by omega)]; exact a1, by rw [hx b' (by omega)]; exact a2, by rw [hax b' (by omega)]; exact a3, by rw [hax b' (by omega)]; exact a4, ar, (hw.block b' hlt).trans a5, by rw [hax b' (by omega)]; exact a6⟩
      · obtain ⟨h1, h2⟩ := hown b' hb
        rw [hx b' h2, hcx]; exact hr.own b' h1
      · rw [hcx] at hb
        refine RepL.mono hle _ _ _ (fun m u hu => ?_) (hr.con b' hb j h1)
        rw [cell_of_heap (w := w) (hw.block b' (hi.own_lt b' i (hr.cur b' hb).1).2)]; exact hu
  · simp only [updH] at h
    by_cases e : i = id
    · subst e; simp at h
    · rw [if_neg e] at h
      have hm := hi.mp i kt et es h
      obtain ⟨b', clock, xs, a1, a2, a3, a4, a5, a6⟩ := hm.cur
      have hlt := (hi.own_lt b' i a2).2
      refine ⟨by simp only [Sg.push]; rw [if_neg e]; exact hm.len, ⟨b', clock, xs, by simp only [Sg.push]; rw [if_neg e]; exact a1, by simp only [Sg.push]; rw [if_neg (by omega)]; exact a2, a3, (hw.block b' hlt).trans a4, a5, RepL.mono hle _ _ _ (fun _ _ h => h) a6⟩, fun b2 hb => ?_⟩
      simp only [Sg.push] at hb
      split at hb
      · injection hb with hb; exact absurd hb.symm e
      · rename_i hne
        obtain ⟨h1, h2⟩ := hm.one b2 hb
        exact ⟨by simp only [Sg.push]; rw [if_neg e]; exact h1, by simp only [Sg.push]; rw [if_neg hne]; exact h2⟩
end

section
variable {C : Cx} {N : Nat} {Q : Exit → St → Prop} {s : St} {ops : Array Oper} {rest : List Oper} {o : Oper}

/-- What such a contract tells of the row that is handed back. -/
def NewRow (Qr : Row → Prop) (r : AV) (H : Nat → Option AO) (_ : Nat) : Prop := ∃ i row, r = .ref i 0 row.es.length ∧ rowAt H i = some row ∧ row.fro = false ∧ flatE row.es ∧ row.es ≠ [] ∧ Qr row

/-- A call of a function that hands back a new row. -/
theorem AWL.calln (hC : C.OK) (hg : o.guard = none) {d : Nat} (hd : o.dst = some d) (hN : d < N) {fo : Operand} {args : Array Operand} {tys : Array TypeId} (ho : o.op = .call { callee := .value fo, args := args, argTypes := tys })
    {f : FuncId} {vs : List AV} (hf : s.ev fo = .clo f []) (hv : viewL s.H (evsA args.toList s.ev) = some vs) (hids : idsL (evsA args.toList s.ev) = []) {Qr : Row → Prop} (hok : OKm C f vs (fun _ => none) 0 (NewRow Qr))
    (k : ∀ row, Qr row → AWL C N ops Q rest { tm := upd s.tm d (.ref s.nx 0 row.es.length), H := updH s.H s.nx (.row row), nx := s.nx + 1 }) : AWL C N ops Q (o :: rest) s := by
  rintro S0 w0 a w hE ⟨σ, hσ⟩
  obtain ⟨⟨fn, hfn, hname, hbody⟩, hcall⟩ := hok
  have hfo := hσ.ev fo
  rw [hf] at hfo
  simp only [Rep] at hfo
  obtain ⟨ca, hca, hcs, hcr⟩ := hfo
  have hce : ca = #[] := by simpa using hcs
  subst hce
  have hargs : RepL σ w (evsA args.toList s.ev) (fun i => (args.map a.eval)[i]?) := repL_evs (σ := σ) (w := w) (fun x => hσ.ev x) args
  obtain ⟨g1, _, g3⟩ := viewL_sound hσ.inv (S' := σ.S) (fun b h => h) _ _ vs hv (fun id hid b hb => by rw [hids] at hid; cases hid) hargs
  have hEw : C.E w := hC.E _ _ hσ.below hE
  have hi0 : Inv w.heap.size (Fr.of σ.S) w (fun _ => none) (pureSg σ.S) :=
    ⟨fun id => by simp [pureSg], fun id _ => ⟨rfl, fun b h => by simp [pureSg] at h⟩, fun b h => ⟨(hσ.inv.S_lt b h).1, .inl h⟩, fun b id h => by simp [pureSg] at h, fun id r h => by simp at h, fun id kt et es h => by simp at h, trivial⟩
  have hsz : (args.map a.eval).size = vs.length := by rw [← g1]; simp [evsA_map]
  have hc := hcall (Fr.of σ.S) w w (pureSg σ.S) (args.map a.eval) hEw hi0 (fun _ _ => rfl) (Below.refl _ _) hsz g3
  refine wpList_plain hg fun K hK => ?_
  have hexec : (execOp a.eval o).run C.P w = .ok (.enter f (args.map a.eval)) w := by
    have hb : (fn.name == "runtime.NumGoroutine") ≠ true := by simp [hname]
    simp only [execOp, ho, resolve, hca, Deferred.ofValue, Sem.run_bind, Sem.run_pure, Result.andThen_ok, invoke, callFunc, run_program, hfn, if_neg hb, hbody, Bool.false_eq_true, if_false]
    simp
  simp only [Oper.wp, hexec, Oper.upon]
  refine hc.mono ?_
  rintro e w' ⟨v, r, σ', H', nx', rfl, ⟨i, row, rfl, hrow, hfro, hflat, hne, hq⟩, hb, hi', hnx', hle', hrep⟩
  dsimp only
  rw [hd]
  have hH : H' i = some (.row row) := by
    unfold rowAt at hrow
    split at hrow
    · rename_i r' hr'; injection hrow with hrow; subst hrow; exact hr'
    · cases hrow
  have hri := hi'.row i row hH
  obtain ⟨bb, hcur⟩ : ∃ b, σ'.cur i = some b := by
    cases hcq : σ'.cur i with
    | none => exact absurd (hri.empty hcq) hne
    | some b => exact ⟨b, rfl⟩
  obtain ⟨a1, a2, a3, a4, arr, a5, a6⟩ := hri.cur bb hcur
  have hbb := hi'.own_lt bb i a1
  have hnone : s.H s.nx = none := hσ.nx _ (Nat.le_refl _)
  have hinv := hσ.inv.take hnone hσ.size hb hbb.1 hbb.2 row (σ'.cap bb) arr a5 a3 a4 a6 hfro hri.lo hri.each hflat (hri.con bb hcur)
  have hlet := hσ.inv.le_take (n := row.es.length) (k := row.k) (cap := σ'.cap bb) hnone hb hbb.1
  have hbel : Below w0.heap.size w w' := hb.mono hσ.size
  refine hK _ _ (k row hq S0 w0 _ w' hE ⟨_, hσ.put hN (s' := { tm := upd s.tm d (.ref s.nx 0 row.es.length), H := updH s.H s.nx (.row row), nx := s.nx + 1 }) hinv (fun id hid => ?_) hlet hbel ?_ rfl⟩)
  · show updH s.H s.nx _ id = none
    have hid' : s.nx + 1 ≤ id := hid
    simp only [updH]; rw [if_neg (by omega)]; exact hσ.nx id (by omega)
  · simp only [Rep] at hrep ⊢
    obtain ⟨_, A, cap, hvv, h1, h2, h3, h4⟩ := hrep
    obtain ⟨b2, q1, q2, q3⟩ : ∃ b, σ'.cur i = some b ∧ A = some ⟨b, 0, none⟩ ∧ cap = σ'.cap b := by
      rcases h4 trivial hri.len.symm with h | h
      · rw [hcur] at h; cases h.1
      · exact h
    rw [hcur] at q1
    injection q1 with q1
    subst q1
    refine ⟨.inl rfl, A, cap, hvv, h1, h2, fun _ => ⟨bb, by rw [q2]; simp, by simp [Sg.push], by simp [Sg.push]⟩, fun _ _ => .inr ⟨bb, by simp [Sg.push], q2, by rw [q3]; simp [Sg.push]⟩⟩
end
end Go.Pg

set_option maxHeartbeats 8000000
set_option linter.unusedSimpArgs false
set_option linter.unusedVariables false
set_option maxRecDepth 10000
namespace Go.Proofs.Hs
open Go Go.Pg Go.Proofs

theorem flat_ints (l : List Int) : flatE (l.map eInt) := by
  intro e he c hc
  obtain ⟨x, _, rfl⟩ := List.mem_map.1 he
  rw [List.mem_singleton.1 hc]; exact ⟨_, rfl⟩
theorem ne_nil_len {l : List Int} (h : 0 < l.length) : l ≠ [] := by intro e; rw [e] at h; simp at h
theorem ArrivalsN_ok (h : House) (n0 t : Int) (hfit : h.Fit) (hv : h.V) (hn : 0 ≤ n0 ∧ n0 < (h.rooms.length : Int)) (ht : 0 ≤ t ∧ t ≤ 1073741823) : OKm cx 54 [.agg (eHouse h), ai n0, ai t] (fun _ => none) 0 (NewRow fun r => r = { k := 1, es := (arrR h n0.toNat t).map eInt, ty := 3, lo := h.rooms.length }) := by
  have hrn := hv.rooms
  have hgl := gates_len h
  have hwn := hv.nw
  have hna := hn.1
  have hnb := hn.2
  have hnc : n0.toNat < h.rooms.length := by omega
  refine OKm.of_body cx_ok (rs := [.tmp 6]) Tryd.func54 rfl (by decide +kernel) rfl (by simp [Tryd.ntmps54]) ?_
  simp only [Tryd.ntmps54]
  repeat' first
    | apply AW.seq | apply AW.region | apply AW.ret | apply AW.block | apply AW.skip | apply AW.exit | apply AW.scope | apply AW.label | apply AWL.nil | apply D.nil
    | refine W.draw cx_mixed (by decide +kernel) ?_
    | ((first | (apply W.step cx_ok; decide) | (apply D.step cx_ok; decide; decide) | apply W.store cx_ok | (apply W.gS; rfl; decide) | (apply D.gS; rfl; decide; decide) | apply AW.cond); (simp (disch := omega) only [push_cast, simprocAttr] <;> rfl); all_goals try ((with_reducible intro hI); try first | (cases hI; done) | (simp only [INTS, not_true_eq_false] at hI; try first | (exfalso; omega) | (have hT : True := hI; clear hT hI))))
    | ((first | (apply W.gU; rfl; decide) | (apply D.gU; rfl; decide; decide)); (simp (disch := omega) only [push_cast, simprocAttr] <;> rfl))
    | ((first | apply W.retC | apply W.endC' | apply W.retM | apply W.endM' | apply W.ret1 | apply W.end1 | apply W.ret2 | apply W.end2 | apply W.ret3 | apply W.end3 | apply W.ret0 | apply W.end0); (iterate 2 (try (simp (disch := omega) only [push_cast, simprocAttr] <;> rfl))))
  refine AW.adopt 7 1 3 ?_ ?_
  · simp (disch := omega) only [push_cast, simprocAttr]
  refine AW.adopt 8 1 4 ?_ ?_
  · simp (disch := omega) only [push_cast, simprocAttr]
  refine AW.loop (fun n s => ∃ (k : Nat) (ou : List Int) (dn : List Bool), n = h.rooms.length - k ∧ (k ≤ h.rooms.length) ∧ (ou = List.replicate k (1073741824 : Int)) ∧ (dn = List.replicate k false) ∧ (ou.length = k) ∧ (dn.length = k) ∧ 3 ≤ s.nx ∧ s.tm 1 = ai n0 ∧ s.tm 2 = ai t ∧ s.tm 3 = .ptr 0 0 0 1 ∧ s.tm 7 = .ref 1 0 k ∧ s.tm 8 = .ref 2 0 k ∧ s.tm 9 = ai k ∧ Pg.rowAt s.H (0) = some ({ k := 3, es := [eHouse h], ty := 26 }) ∧ Pg.rowAt s.H (1) = some ({ k := 1, es := ou.map eInt, ty := 3, lo := k }) ∧ Pg.rowAt s.H (2) = some ({ k := 1, es := dn.map eBool, ty := 4, lo := k })) (h.rooms.length) ⟨0, [], [], rfl, (Nat.zero_le _), rfl, rfl, rfl, rfl, ?_, ?_, ?_, ?_, ?_, ?_, ?_, ?_, ?_, ?_⟩ ?_
  iterate 10 (first | (simp (disch := omega) only [push_cast, simprocAttr] <;> first | rfl | omega) | omega)
  rintro n s ⟨k, ou, dn, hn, hp0, hp1, hp2, hp3, hp4, hnl, hS⟩
  have hZ : (0 : Nat) ≠ s.nx ∧ s.nx ≠ (0 : Nat) ∧ (1 : Nat) ≠ s.nx ∧ s.nx ≠ (1 : Nat) ∧ (2 : Nat) ≠ s.nx ∧ s.nx ≠ (2 : Nat) := by omega
  by_cases hk : k < h.rooms.length
  · have hk1 : (k : Int) < (h.rooms.length : Int) := by omega
    repeat' first
      | apply AW.seq | apply AW.region | apply AW.ret | apply AW.block | apply AW.skip | apply AW.exit | apply AW.scope | apply AW.label | apply AWL.nil | apply D.nil
      | refine W.draw cx_mixed (by decide +kernel) ?_
      | ((first | (apply W.step cx_ok; decide) | (apply D.step cx_ok; decide; decide) | apply W.store cx_ok | (apply W.gS; rfl; decide) | (apply D.gS; rfl; decide; decide) | apply AW.cond); (simp (disch := omega) only [push_cast, simprocAttr, hS, hZ, hk1, hp3, hp4] <;> rfl); all_goals try ((with_reducible intro hI); try first | (cases hI; done) | (simp only [INTS, not_true_eq_false] at hI; try first | (exfalso; omega) | (have hT : True := hI; clear hT hI))))
      | ((first | (apply W.gU; rfl; decide) | (apply D.gU; rfl; decide; decide)); (simp (disch := omega) only [push_cast, simprocAttr, hS, hZ, hk1, hp3, hp4] <;> rfl))
      | (apply W.append cx_ok; decide; rfl; rfl; rfl; decide; (iterate 3 (simp (disch := omega) only [push_cast, simprocAttr, hS, hZ, hk1, hp3, hp4] <;> rfl)); simp; (rfl); ((try dsimp only); (try simp only [List.length_map, List.length_append, List.length_cons, List.length_nil]); omega); ((try dsimp only); (try simp only [List.length_map, List.length_append, List.length_cons, List.length_nil]); omega))
      | ((first | apply W.retC | apply W.endC' | apply W.retM | apply W.endM' | apply W.ret1 | apply W.end1 | apply W.ret2 | apply W.end2 | apply W.ret3 | apply W.end3 | apply W.ret0 | apply W.end0); (iterate 2 (try (simp (disch := omega) only [push_cast, simprocAttr, hS, hZ, hk1, hp3, hp4] <;> rfl))))
    all_goals
      (refine ⟨h.rooms.length - (k + 1), ?_, k + 1, ou ++ [1073741824], dn ++ [false], rfl, (by omega), (by rw [hp1, rep_app]), (by rw [hp2, rep_app]), (by rw [List.length_append, hp3]; rfl), (by rw [List.length_append, hp4]; rfl), ?_, ?_, ?_, ?_, ?_, ?_, ?_, ?_, ?_, ?_⟩; (omega); all_goals first | (simp (disch := omega) only [push_cast, simprocAttr, hS, hZ, hk1, hp3, hp4] <;> first | rfl | omega) | omega)
  · have hk1 : ¬ (k : Int) < (h.rooms.length : Int) := by omega
    have hk2 : k = h.rooms.length := by omega
    subst hk2
    have hq1 : n0.toNat < ou.length := by omega
    repeat' first
      | apply AW.seq | apply AW.region | apply AW.ret | apply AW.block | apply AW.skip | apply AW.exit | apply AW.scope | apply AW.label | apply AWL.nil | apply D.nil
      | refine W.draw cx_mixed (by decide +kernel) ?_
      | ((first | (apply W.step cx_ok; decide) | (apply D.step cx_ok; decide; decide) | apply W.store cx_ok | (apply W.gS; rfl; decide) | (apply D.gS; rfl; decide; decide) | apply AW.cond); (simp (disch := omega) only [push_cast, simprocAttr, hS, hZ, hk1, hna, hnb, hq1, hnc, hp3, hp4, Nat.le_refl] <;> rfl); all_goals try ((with_reducible intro hI); try first | (cases hI; done) | (simp only [INTS, not_true_eq_false] at hI; try first | (exfalso; omega) | (have hT : True := hI; clear hT hI))))
      | ((first | (apply W.gU; rfl; decide) | (apply D.gU; rfl; decide; decide)); (simp (disch := omega) only [push_cast, simprocAttr, hS, hZ, hk1, hna, hnb, hq1, hnc, hp3, hp4, Nat.le_refl] <;> rfl))
      | ((first | (apply W.callv cx_ok; decide) | (apply D.callv cx_ok; decide; decide)); (iterate 2 (simp (disch := omega) only [push_cast, simprocAttr, hS, hZ, hk1, hna, hnb, hq1, hnc, hp3, hp4, Nat.le_refl] <;> rfl)); (with_reducible first | exact GatesR_ok h hfit.nw); try first | rfl | (simp (disch := omega) only [push_cast, simprocAttr, hS, hZ, hk1, hna, hnb, hq1, hnc, hp3, hp4, Nat.le_refl] <;> rfl))
      | ((first | apply W.retC | apply W.endC' | apply W.retM | apply W.endM' | apply W.ret1 | apply W.end1 | apply W.ret2 | apply W.end2 | apply W.ret3 | apply W.end3 | apply W.ret0 | apply W.end0); (iterate 2 (try (simp (disch := omega) only [push_cast, simprocAttr, hS, hZ, hk1, hna, hnb, hq1, hnc, hp3, hp4, Nat.le_refl] <;> rfl))))
    refine AW.loop (fun n s => ∃ (k : Nat) (out : List Int) (done : List Bool), n = h.rooms.length - k ∧ (k ≤ h.rooms.length) ∧ (out.length = h.rooms.length) ∧ (done.length = h.rooms.length) ∧ ((arrN h).dijF (h.rooms.length - k) out done = arrR h n0.toNat t) ∧ (∀ x ∈ out, 0 ≤ x ∧ x ≤ 1073741824) ∧ 3 ≤ s.nx ∧ s.tm 3 = .ptr 0 0 0 1 ∧ s.tm 7 = .ref 1 0 h.rooms.length ∧ s.tm 8 = .ref 2 0 h.rooms.length ∧ s.tm 10 = .lst ((gates h).map eGateR) ∧ s.tm 11 = ai k ∧ Pg.rowAt s.H (0) = some ({ k := 3, es := [eHouse h], ty := 26 }) ∧ Pg.rowAt s.H (1) = some ({ k := 1, es := out.map eInt, ty := 3, lo := h.rooms.length }) ∧ Pg.rowAt s.H (2) = some ({ k := 1, es := done.map eBool, ty := 4, lo := h.rooms.length })) (h.rooms.length) ⟨0, ou.set n0.toNat t, dn, rfl, (Nat.zero_le _), (by rw [List.length_set]; exact hp3), hp4, (by rw [hp1, hp2]; rfl), (by intro x hx; rw [hp1] at hx; rcases List.mem_or_eq_of_mem_set hx with hx | rfl; (rw [List.mem_replicate] at hx; omega); omega), ?_, ?_, ?_, ?_, ?_, ?_, ?_, ?_, ?_⟩ ?_
    iterate 9 (first | (simp (disch := omega) only [push_cast, simprocAttr, hS, hZ, hk1, hna, hnb, hq1, hnc, hp3, hp4] <;> first | rfl | omega) | omega)
    rintro n1 s1 ⟨k1, out1, done1, hn1, hp01, hp11, hp21, hp31, hp41, hnl1, hS1⟩
    have hZ1 : (0 : Nat) ≠ s1.nx ∧ s1.nx ≠ (0 : Nat) ∧ (1 : Nat) ≠ s1.nx ∧ s1.nx ≠ (1 : Nat) ∧ (2 : Nat) ≠ s1.nx ∧ s1.nx ≠ (2 : Nat) := by omega
    by_cases hk1 : k1 < h.rooms.length
    · have hk1a : (k1 : Int) < (h.rooms.length : Int) := by omega
      repeat' first
        | apply AW.seq | apply AW.region | apply AW.ret | apply AW.block | apply AW.skip | apply AW.exit | apply AW.scope | apply AW.label | apply AWL.nil | apply D.nil
        | refine W.draw cx_mixed (by decide +kernel) ?_
        | ((first | (apply W.step cx_ok; decide) | (apply D.step cx_ok; decide; decide) | apply W.store cx_ok | (apply W.gS; rfl; decide) | (apply D.gS; rfl; decide; decide) | apply AW.cond); (simp (disch := omega) only [push_cast, simprocAttr, hS1, hZ1, hk1a] <;> rfl); all_goals try ((with_reducible intro hI); try first | (cases hI; done) | (simp only [INTS, not_true_eq_false] at hI; try first | (exfalso; omega) | (have hT : True := hI; clear hT hI))))
        | ((first | (apply W.gU; rfl; decide) | (apply D.gU; rfl; decide; decide)); (simp (disch := omega) only [push_cast, simprocAttr, hS1, hZ1, hk1a] <;> rfl))
        | ((first | apply W.retC | apply W.endC' | apply W.retM | apply W.endM' | apply W.ret1 | apply W.end1 | apply W.ret2 | apply W.end2 | apply W.ret3 | apply W.end3 | apply W.ret0 | apply W.end0); (iterate 2 (try (simp (disch := omega) only [push_cast, simprocAttr, hS1, hZ1, hk1a] <;> rfl))))
      refine AW.loop (fun n s => ∃ (i : Nat) (c : Int), n = h.rooms.length - i ∧ (i ≤ h.rooms.length) ∧ ((arrN h).selL out1 done1 (h.rooms.length - i) i c = (arrN h).sel out1 done1) ∧ (-1 ≤ c ∧ c < (h.rooms.length : Int)) ∧ 3 ≤ s.nx ∧ s.tm 3 = .ptr 0 0 0 1 ∧ s.tm 7 = .ref 1 0 h.rooms.length ∧ s.tm 8 = .ref 2 0 h.rooms.length ∧ s.tm 10 = .lst ((gates h).map eGateR) ∧ s.tm 11 = ai k1 ∧ s.tm 12 = ai c ∧ s.tm 13 = ai i ∧ Pg.rowAt s.H (0) = some ({ k := 3, es := [eHouse h], ty := 26 }) ∧ Pg.rowAt s.H (1) = some ({ k := 1, es := out1.map eInt, ty := 3, lo := h.rooms.length }) ∧ Pg.rowAt s.H (2) = some ({ k := 1, es := done1.map eBool, ty := 4, lo := h.rooms.length })) (h.rooms.length) ⟨0, -1, rfl, (Nat.zero_le _), (by unfold Lab.Net.sel; rw [hp11]; rfl), (by omega), ?_, ?_, ?_, ?_, ?_, ?_, ?_, ?_, ?_, ?_, ?_⟩ ?_
      iterate 11 (first | (simp (disch := omega) only [push_cast, simprocAttr, hS1, hZ1, hk1a] <;> first | rfl | omega) | omega)
      rintro n2 s2 ⟨i2, c2, hn2, hp02, hp12, hp22, hnl2, hS2⟩
      have hZ2 : (0 : Nat) ≠ s2.nx ∧ s2.nx ≠ (0 : Nat) ∧ (1 : Nat) ≠ s2.nx ∧ s2.nx ≠ (1 : Nat) ∧ (2 : Nat) ≠ s2.nx ∧ s2.nx ≠ (2 : Nat) := by omega
      by_cases hi : i2 < h.rooms.length
      · have hia : (i2 : Int) < (h.rooms.length : Int) := by omega
        have g1 : i2 < out1.length := by omega
        have g2 : i2 < done1.length := by omega
        have g3 : 0 ≤ max c2 0 := by omega
        have g4 : max c2 0 < (h.rooms.length : Int) := by omega
        have g5 : (max c2 0).toNat < out1.length := by omega
        have g6 : (max c2 0).toNat = c2.toNat := by omega
        have g7 : c2.toNat < out1.length := by omega
        have hsl : (arrN h).selL out1 done1 (h.rooms.length - i2) i2 c2 = (arrN h).selL out1 done1 (h.rooms.length - (i2 + 1)) (i2 + 1) (if (arrN h).selC out1 done1 i2 c2 = true then (i2 : Int) else c2) := by
          rw [show h.rooms.length - i2 = (h.rooms.length - (i2 + 1)) + 1 by omega]; rfl
        have hsc := arrN_selC (h := h) (out := out1) (done := done1) (i := i2) (c := c2) g1 g7
        repeat' first
          | apply AW.seq | apply AW.region | apply AW.ret | apply AW.block | apply AW.skip | apply AW.exit | apply AW.scope | apply AW.label | apply AWL.nil | apply D.nil
          | refine W.draw cx_mixed (by decide +kernel) ?_
          | ((first | (apply W.step cx_ok; decide) | (apply D.step cx_ok; decide; decide) | apply W.store cx_ok | (apply W.gS; rfl; decide) | (apply D.gS; rfl; decide; decide) | apply AW.cond); (simp (disch := omega) only [push_cast, simprocAttr, hS2, hZ2, hia, g1, g2, g3, g4, g6, g7, getD_eBool, get_eBool, hp11, hp21] <;> rfl); all_goals try ((with_reducible intro hI); try first | (cases hI; done) | (simp only [INTS, not_true_eq_false] at hI; try first | (exfalso; omega) | (have hT : True := hI; clear hT hI))))
          | ((first | (apply W.gU; rfl; decide) | (apply D.gU; rfl; decide; decide)); (simp (disch := omega) only [push_cast, simprocAttr, hS2, hZ2, hia, g1, g2, g3, g4, g6, g7, getD_eBool, get_eBool, hp11, hp21] <;> rfl))
          | ((first | apply W.retC | apply W.endC' | apply W.retM | apply W.endM' | apply W.ret1 | apply W.end1 | apply W.ret2 | apply W.end2 | apply W.ret3 | apply W.end3 | apply W.ret0 | apply W.end0); (iterate 2 (try (simp (disch := omega) only [push_cast, simprocAttr, hS2, hZ2, hia, g1, g2, g3, g4, g6, g7, getD_eBool, get_eBool, hp11, hp21] <;> rfl))))
        all_goals first
          | (have hcc : (arrN h).selC out1 done1 i2 c2 = true := by rw [hsc]; simp only [INTS]; first | omega | (simp_all; omega) | (simp_all; done)
             rw [hsl, if_pos hcc] at hp12
             (refine ⟨h.rooms.length - (i2 + 1), ?_, i2 + 1, (i2 : Int), rfl, (by omega), hp12, (by omega), ?_, ?_, ?_, ?_, ?_, ?_, ?_, ?_, ?_, ?_, ?_⟩; (omega); all_goals first | (simp (disch := omega) only [push_cast, simprocAttr, hS2, hZ2, hia, g1, g2, g3, g4, g6, g7, getD_eBool, get_eBool, hp11, hp21] <;> first | rfl | omega) | omega))
          | (have hcc : ¬ (arrN h).selC out1 done1 i2 c2 = true := by rw [hsc]; simp only [INTS]; first | omega | (simp_all; omega) | (simp_all; done)
             rw [hsl, if_neg hcc] at hp12
             (refine ⟨h.rooms.length - (i2 + 1), ?_, i2 + 1, c2, rfl, (by omega), hp12, (by omega), ?_, ?_, ?_, ?_, ?_, ?_, ?_, ?_, ?_, ?_, ?_⟩; (omega); all_goals first | (simp (disch := omega) only [push_cast, simprocAttr, hS2, hZ2, hia, g1, g2, g3, g4, g6, g7, getD_eBool, get_eBool, hp11, hp21] <;> first | rfl | omega) | omega))
      · have hia : ¬ (i2 : Int) < (h.rooms.length : Int) := by omega
        have hce : c2 = (arrN h).sel out1 done1 := by rw [← hp12, show h.rooms.length - i2 = 0 by omega]; rfl
        have hdj : (arrN h).dijF (h.rooms.length - k1) out1 done1 = if (arrN h).sel out1 done1 < 0 then out1 else (arrN h).dijF (h.rooms.length - (k1 + 1)) ((gates h).foldl ((arrN h).relax ((arrN h).sel out1 done1).toNat) out1) (done1.set ((arrN h).sel out1 done1).toNat true) := by
          rw [show h.rooms.length - k1 = (h.rooms.length - (k1 + 1)) + 1 by omega]; rfl
        rw [← hce, hp31] at hdj
        by_cases hcn : c2 < 0
        · rw [if_pos hcn] at hdj
          repeat' first
            | apply AW.seq | apply AW.region | apply AW.ret | apply AW.block | apply AW.skip | apply AW.exit | apply AW.scope | apply AW.label | apply AWL.nil | apply D.nil
            | refine W.draw cx_mixed (by decide +kernel) ?_
            | ((first | (apply W.step cx_ok; decide) | (apply D.step cx_ok; decide; decide) | apply W.store cx_ok | (apply W.gS; rfl; decide) | (apply D.gS; rfl; decide; decide) | apply AW.cond); (simp (disch := omega) only [push_cast, simprocAttr, hS2, hZ2, hia, hcn, hp11, Nat.le_refl] <;> rfl); all_goals try ((with_reducible intro hI); try first | (cases hI; done) | (simp only [INTS, not_true_eq_false] at hI; try first | (exfalso; omega) | (have hT : True := hI; clear hT hI))))
            | ((first | (apply W.gU; rfl; decide) | (apply D.gU; rfl; decide; decide)); (simp (disch := omega) only [push_cast, simprocAttr, hS2, hZ2, hia, hcn, hp11, Nat.le_refl] <;> rfl))
            | ((first | apply W.retC | apply W.endC' | apply W.retM | apply W.endM' | apply W.ret1 | apply W.end1 | apply W.ret2 | apply W.end2 | apply W.ret3 | apply W.end3 | apply W.ret0 | apply W.end0); (iterate 2 (try (simp (disch := omega) only [push_cast, simprocAttr, hS2, hZ2, hia, hcn, hp11, Nat.le_refl] <;> rfl))))
          all_goals
            ((try simp only [thenQ, blockQ, loopQ, scopeQ, if_true, reduceIte])
             first | apply W.retX (vs := [.ref 1 0 h.rooms.length]) | apply W.endX (vs := [.ref 1 0 h.rooms.length])
             · simp (disch := omega) only [push_cast, simprocAttr, hS2, hZ2, hia, hcn, hp11, Nat.le_refl] <;> rfl
             refine ⟨1, { k := 1, es := out1.map eInt, ty := 3, lo := h.rooms.length }, by simp [bundle, hp11], ?_, rfl, flat_ints _, by simpa using ne_nil_len (by omega), by rw [hdj]⟩
             simp (disch := omega) only [push_cast, simprocAttr, hS2, hZ2, hia, hcn, hp11, Nat.le_refl])
        · rw [if_neg hcn] at hdj
          have g1 : 0 ≤ c2 := by omega
          have g2 : c2 < (h.rooms.length : Int) := by omega
          have g3 : c2.toNat < out1.length := by omega
          have g4 : c2.toNat < done1.length := by omega
          have g5 : c2.toNat < h.rooms.length := by omega
          have hso := ((Lab.sel_ok (arrN_ok hv) out1 done1).some (by rw [← hce]; omega)).2.2.1
          rw [← hce, lab_at g3] at hso
          have hvl : out1.getD c2.toNat 0 < 1073741824 := by have hx : out1.getD c2.toNat 0 < 1073741824 := hso; omega
          repeat' first
            | apply AW.seq | apply AW.region | apply AW.ret | apply AW.block | apply AW.skip | apply AW.exit | apply AW.scope | apply AW.label | apply AWL.nil | apply D.nil
            | refine W.draw cx_mixed (by decide +kernel) ?_
            | ((first | (apply W.step cx_ok; decide) | (apply D.step cx_ok; decide; decide) | apply W.store cx_ok | (apply W.gS; rfl; decide) | (apply D.gS; rfl; decide; decide) | apply AW.cond); (simp (disch := omega) only [push_cast, simprocAttr, hS2, hZ2, hia, hcn, g1, g2, g3, g4, g5, getD_eBool, get_eBool, hp11, hp21] <;> rfl); all_goals try ((with_reducible intro hI); try first | (cases hI; done) | (simp only [INTS, not_true_eq_false] at hI; try first | (exfalso; omega) | (have hT : True := hI; clear hT hI))))
            | ((first | (apply W.gU; rfl; decide) | (apply D.gU; rfl; decide; decide)); (simp (disch := omega) only [push_cast, simprocAttr, hS2, hZ2, hia, hcn, g1, g2, g3, g4, g5, getD_eBool, get_eBool, hp11, hp21] <;> rfl))
            | ((first | apply W.retC | apply W.endC' | apply W.retM | apply W.endM' | apply W.ret1 | apply W.end1 | apply W.ret2 | apply W.end2 | apply W.ret3 | apply W.end3 | apply W.ret0 | apply W.end0); (iterate 2 (try (simp (disch := omega) only [push_cast, simprocAttr, hS2, hZ2, hia, hcn, g1, g2, g3, g4, g5, getD_eBool, get_eBool, hp11, hp21] <;> rfl))))
          refine AW.loop (fun n s => ∃ (j : Nat) (out : List Int) (rest : List Gate), n = rest.length ∧ ((gates h).drop j = rest) ∧ (out.length = h.rooms.length) ∧ (∀ x ∈ out, 0 ≤ x ∧ x ≤ 1073741824) ∧ (rest.foldl ((arrN h).relax c2.toNat) out = (gates h).foldl ((arrN h).relax c2.toNat) out1) ∧ (out.getD c2.toNat 0 = out1.getD c2.toNat 0) ∧ 3 ≤ s.nx ∧ s.tm 3 = .ptr 0 0 0 1 ∧ s.tm 7 = .ref 1 0 h.rooms.length ∧ s.tm 8 = .ref 2 0 h.rooms.length ∧ s.tm 10 = .lst ((gates h).map eGateR) ∧ s.tm 11 = ai k1 ∧ s.tm 12 = ai c2 ∧ s.tm 14 = ai j ∧ Pg.rowAt s.H (0) = some ({ k := 3, es := [eHouse h], ty := 26 }) ∧ Pg.rowAt s.H (1) = some ({ k := 1, es := out.map eInt, ty := 3, lo := h.rooms.length }) ∧ Pg.rowAt s.H (2) = some ({ k := 1, es := (done1.set c2.toNat true).map eBool, ty := 4, lo := h.rooms.length })) ((gates h).length) ⟨0, out1, _, rfl, rfl, hp11, hp41, rfl, rfl, ?_, ?_, ?_, ?_, ?_, ?_, ?_, ?_, ?_, ?_, ?_⟩ ?_
          iterate 11 (first | (simp (disch := omega) only [push_cast, simprocAttr, hS2, hZ2, hia, hcn, g1, g2, g3, g4, g5, getD_eBool, get_eBool, hp11, hp21] <;> first | rfl | omega) | omega)
          rintro n3 s3 ⟨j3, out3, rest3, hn3, hp03, hp13, hp23, hp33, hp43, hnl3, hS3⟩
          have hZ3 : (0 : Nat) ≠ s3.nx ∧ s3.nx ≠ (0 : Nat) ∧ (1 : Nat) ≠ s3.nx ∧ s3.nx ≠ (1 : Nat) ∧ (2 : Nat) ≠ s3.nx ∧ s3.nx ≠ (2 : Nat) := by omega
          rcases rest3 with _ | ⟨x3, rest3⟩
          · have hk3 := drop_nil hp03
            repeat' first
              | apply AW.seq | apply AW.region | apply AW.ret | apply AW.block | apply AW.skip | apply AW.exit | apply AW.scope | apply AW.label | apply AWL.nil | apply D.nil
              | refine W.draw cx_mixed (by decide +kernel) ?_
              | ((first | (apply W.step cx_ok; decide) | (apply D.step cx_ok; decide; decide) | apply W.store cx_ok | (apply W.gS; rfl; decide) | (apply D.gS; rfl; decide; decide) | apply AW.cond); (simp (disch := omega) only [push_cast, simprocAttr, hS3, hZ3, hk3] <;> rfl); all_goals try ((with_reducible intro hI); try first | (cases hI; done) | (simp only [INTS, not_true_eq_false] at hI; try first | (exfalso; omega) | (have hT : True := hI; clear hT hI))))
              | ((first | (apply W.gU; rfl; decide) | (apply D.gU; rfl; decide; decide)); (simp (disch := omega) only [push_cast, simprocAttr, hS3, hZ3, hk3] <;> rfl))
              | ((first | apply W.retC | apply W.endC' | apply W.retM | apply W.endM' | apply W.ret1 | apply W.end1 | apply W.ret2 | apply W.end2 | apply W.ret3 | apply W.end3 | apply W.ret0 | apply W.end0); (iterate 2 (try (simp (disch := omega) only [push_cast, simprocAttr, hS3, hZ3, hk3] <;> rfl))))
            all_goals
              (have hfo : out3 = (gates h).foldl ((arrN h).relax c2.toNat) out1 := by rw [← hp33]; rfl
               (refine ⟨h.rooms.length - (k1 + 1), ?_, k1 + 1, out3, done1.set c2.toNat true, rfl, (by omega), hp13, (by rw [List.length_set]; exact hp21), (by rw [hfo]; exact hdj.symm), hp23, ?_, ?_, ?_, ?_, ?_, ?_, ?_, ?_, ?_⟩; (omega); all_goals first | (simp (disch := omega) only [push_cast, simprocAttr, hS3, hZ3] <;> first | rfl | omega) | omega))
          · obtain ⟨hk3, hg3, hd'3, hl'3, hm3, hx3⟩ := drop_cons hp03 eGateR []
            have hgo := gate_ok hv hm3
            have q1 := hgo.from'.1
            have q2 := hgo.from'.2
            have q3 := hgo.to.1
            have q4 := hgo.to.2
            have q5 : x3.from'.toNat < out3.length := by omega
            have q6 : x3.to.toNat < out3.length := by omega
            have q7 : c2.toNat < out3.length := by omega
            have q8 : x3.from'.toNat < h.rooms.length := by omega
            have q9 : x3.to.toNat < h.rooms.length := by omega
            have hft := (gatesL_ok h.ways 0 _ _ hv.ways x3 hm3).2.2.2.2
            have hcb := hp23 _ (List.mem_of_getElem? (getD_set' out3 c2.toNat 0 q7))
            have hrx := arrN_relax (h := h) (c := c2.toNat) (out := out3) (g := x3) (by omega) q7
            by_cases hsr : x3.from' = c2
            · have hsq : (x3.from' = c2) = True := eq_true hsr
              have hcv : out3.getD c2.toNat 0 < 1073741824 := by rw [hp43]; exact hvl
              rw [if_pos (by omega)] at hrx
              repeat' first
                | apply AW.seq | apply AW.region | apply AW.ret | apply AW.block | apply AW.skip | apply AW.exit | apply AW.scope | apply AW.label | apply AWL.nil | apply D.nil
                | refine AW.draw (id := 27) cx_mixed [17] [] [] 0 (by decide +kernel) ?_
                | refine W.draw cx_mixed (by decide +kernel) ?_
                | ((first | (apply W.step cx_ok; decide) | (apply D.step cx_ok; decide; decide) | apply W.store cx_ok | (apply W.gS; rfl; decide) | (apply D.gS; rfl; decide; decide) | apply AW.cond); (simp (disch := omega) only [push_cast, simprocAttr, hS3, hZ3, hk3, hg3, q1, q2, q3, q4, q5, q6, q7, q8, q9, g1, g2, g5, hp13, hsq] <;> rfl); all_goals try ((with_reducible intro hI); try first | (cases hI; done) | (simp only [INTS, not_true_eq_false] at hI; try first | (exfalso; omega) | (have hT : True := hI; clear hT hI))))
                | ((first | (apply W.gU; rfl; decide) | (apply D.gU; rfl; decide; decide) | (apply D.store cx_ok; decide) | (apply D.stept cx_ok; decide; decide) | (apply D.stepm cx_ok; decide; decide)); (simp (disch := omega) only [push_cast, simprocAttr, hS3, hZ3, hk3, hg3, q1, q2, q3, q4, q5, q6, q7, q8, q9, g1, g2, g5, hp13, hsq] <;> rfl); try first | exact .inl rfl | exact .inr (by simp))
                | ((apply D.alloct cx_ok; decide; decide); (simp (disch := omega) only [push_cast, simprocAttr, hS3, hZ3, hk3, hg3, q1, q2, q3, q4, q5, q6, q7, q8, q9, g1, g2, g5, hp13, hsq] <;> rfl); first | exact .inl rfl | exact .inr (by simp))
                | ((first | (apply W.callv cx_ok; decide) | (apply D.callv cx_ok; decide; decide) | (apply D.callvt cx_ok; decide; decide)); (iterate 2 (simp (disch := omega) only [push_cast, simprocAttr, hS3, hZ3, hk3, hg3, q1, q2, q3, q4, q5, q6, q7, q8, q9, g1, g2, g5, hp13, hsq] <;> rfl)); (with_reducible first | exact enterR_ok h x3 _ hv hgo (by omega) (by omega)); try first | rfl | (simp (disch := omega) only [push_cast, simprocAttr, hS3, hZ3, hk3, hg3, q1, q2, q3, q4, q5, q6, q7, q8, q9, g1, g2, g5, hp13, hsq] <;> rfl))
                | ((first | apply W.retC | apply W.endC' | apply W.retM | apply W.endM' | apply W.ret1 | apply W.end1 | apply W.ret2 | apply W.end2 | apply W.ret3 | apply W.end3 | apply W.ret0 | apply W.end0); (iterate 2 (try (simp (disch := omega) only [push_cast, simprocAttr, hS3, hZ3, hk3, hg3, q1, q2, q3, q4, q5, q6, q7, q8, q9, g1, g2, g5, hp13, hsq] <;> rfl))))
              all_goals
                (have hnew := enter_spec hv hgo (t := out3.getD c2.toNat 0) (by omega) (by omega)
                 (refine ⟨rest3.length, ?_, j3 + 1, (out3.set x3.to.toNat (min (out3.getD x3.to.toNat 0) (enter h x3 (out3.getD c2.toNat 0)))), rest3, rfl, hd'3, (by rw [List.length_set]; exact hp13), (by intro y hy; rcases List.mem_or_eq_of_mem_set hy with hy | rfl; exact hp23 y hy; (have := hp23 _ (List.mem_of_getElem? (getD_set' out3 x3.to.toNat 0 (by omega))); omega)), (by rw [← hp33, List.foldl_cons, hrx]), (by rw [List.getD_eq_getElem?_getD, List.getElem?_set, if_neg (by omega), ← List.getD_eq_getElem?_getD]; exact hp43), ?_, ?_, ?_, ?_, ?_, ?_, ?_, ?_, ?_, ?_, ?_⟩; ((simp only [List.length_cons] at *; omega)); all_goals first | (simp (disch := omega) only [push_cast, simprocAttr, hS3, hZ3, hk3, hg3, q1, q2, q3, q4, q5, q6, q7, q8, q9, g1, g2, g5, hp13, hsq] <;> first | rfl | omega) | omega))
            · rw [if_neg (by omega)] at hrx
              repeat' first
                | apply AW.seq | apply AW.region | apply AW.ret | apply AW.block | apply AW.skip | apply AW.exit | apply AW.scope | apply AW.label | apply AWL.nil | apply D.nil
                | refine W.draw cx_mixed (by decide +kernel) ?_
                | ((first | (apply W.step cx_ok; decide) | (apply D.step cx_ok; decide; decide) | apply W.store cx_ok | (apply W.gS; rfl; decide) | (apply D.gS; rfl; decide; decide) | apply AW.cond); (simp (disch := omega) only [push_cast, simprocAttr, hS3, hZ3, hk3, hg3, q1, q2, q3, q4, q5, q6, q7, q8, q9, g1, g2, g5, hp13, hsr] <;> rfl); all_goals try ((with_reducible intro hI); try first | (cases hI; done) | (simp only [INTS, not_true_eq_false] at hI; try first | (exfalso; omega) | (have hT : True := hI; clear hT hI))))
                | ((first | (apply W.gU; rfl; decide) | (apply D.gU; rfl; decide; decide)); (simp (disch := omega) only [push_cast, simprocAttr, hS3, hZ3, hk3, hg3, q1, q2, q3, q4, q5, q6, q7, q8, q9, g1, g2, g5, hp13, hsr] <;> rfl))
                | ((first | apply W.retC | apply W.endC' | apply W.retM | apply W.endM' | apply W.ret1 | apply W.end1 | apply W.ret2 | apply W.end2 | apply W.ret3 | apply W.end3 | apply W.ret0 | apply W.end0); (iterate 2 (try (simp (disch := omega) only [push_cast, simprocAttr, hS3, hZ3, hk3, hg3, q1, q2, q3, q4, q5, q6, q7, q8, q9, g1, g2, g5, hp13, hsr] <;> rfl))))
              all_goals
                (refine ⟨rest3.length, ?_, j3 + 1, out3, rest3, rfl, hd'3, hp13, hp23, (by rw [← hp33, List.foldl_cons, hrx]), hp43, ?_, ?_, ?_, ?_, ?_, ?_, ?_, ?_, ?_, ?_, ?_⟩; ((simp only [List.length_cons] at *; omega)); all_goals first | (simp (disch := omega) only [push_cast, simprocAttr, hS3, hZ3, hk3, hg3, q1, q2, q3, q4, q5, q6, q7, q8, q9, g1, g2, g5, hp13, hsr] <;> first | rfl | omega) | omega)
    · have hk1a : ¬ (k1 : Int) < (h.rooms.length : Int) := by omega
      have hfin : out1 = arrR h n0.toNat t := by rw [← hp31, show h.rooms.length - k1 = 0 by omega]; rfl
      repeat' first
        | apply AW.seq | apply AW.region | apply AW.ret | apply AW.block | apply AW.skip | apply AW.exit | apply AW.scope | apply AW.label | apply AWL.nil | apply D.nil
        | refine W.draw cx_mixed (by decide +kernel) ?_
        | ((first | (apply W.step cx_ok; decide) | (apply D.step cx_ok; decide; decide) | apply W.store cx_ok | (apply W.gS; rfl; decide) | (apply D.gS; rfl; decide; decide) | apply AW.cond); (simp (disch := omega) only [push_cast, simprocAttr, hS1, hZ1, hk1a, hp11, Nat.le_refl] <;> rfl); all_goals try ((with_reducible intro hI); try first | (cases hI; done) | (simp only [INTS, not_true_eq_false] at hI; try first | (exfalso; omega) | (have hT : True := hI; clear hT hI))))
        | ((first | (apply W.gU; rfl; decide) | (apply D.gU; rfl; decide; decide)); (simp (disch := omega) only [push_cast, simprocAttr, hS1, hZ1, hk1a, hp11, Nat.le_refl] <;> rfl))
        | ((first | apply W.retC | apply W.endC' | apply W.retM | apply W.endM' | apply W.ret1 | apply W.end1 | apply W.ret2 | apply W.end2 | apply W.ret3 | apply W.end3 | apply W.ret0 | apply W.end0); (iterate 2 (try (simp (disch := omega) only [push_cast, simprocAttr, hS1, hZ1, hk1a, hp11, Nat.le_refl] <;> rfl))))
      all_goals
        ((try simp only [thenQ, blockQ, loopQ, scopeQ, if_true, reduceIte])
         first | apply W.retX (vs := [.ref 1 0 h.rooms.length]) | apply W.endX (vs := [.ref 1 0 h.rooms.length])
         · simp (disch := omega) only [push_cast, simprocAttr, hS1, hZ1, hk1a, hp11, Nat.le_refl] <;> rfl
         refine ⟨1, { k := 1, es := out1.map eInt, ty := 3, lo := h.rooms.length }, by simp [bundle, hp11], ?_, rfl, flat_ints _, by simpa using ne_nil_len (by omega), by rw [hfin]⟩
         simp (disch := omega) only [push_cast, simprocAttr, hS1, hZ1, hk1a, hp11, Nat.le_refl])


end Go.Proofs.Hs

set_option maxHeartbeats 8000000
set_option linter.unusedSimpArgs false
set_option linter.unusedVariables false
set_option maxRecDepth 10000
namespace Go.Proofs.Hs
open Go Go.Pg Go.Proofs

theorem Plain_ok (h : House) (hfit : h.Fit) : OKv cx 100 [.agg (eHouse h)] (.agg (eHouse (plainH h))) := by
  have hfw := hfit.nw
  refine OKat.of_bodyM cx_ok (rs := [.cell 2 26]) Tryd.func100 rfl (by decide +kernel) rfl (by simp [Tryd.ntmps100]) ?_
  simp only [Tryd.ntmps100]
  repeat' first
    | apply AW.seq | apply AW.region | apply AW.ret | apply AW.block | apply AW.skip | apply AW.exit | apply AW.scope | apply AW.label | apply AWL.nil
    | ((first | (apply W.step cx_ok; decide) | apply W.store cx_ok | apply AW.cond); (simp (disch := omega) only [push_cast, simprocAttr] <;> rfl); all_goals try ((with_reducible intro hI); try first | (cases hI; done) | (simp only [INTS, not_true_eq_false] at hI; try first | (exfalso; omega) | (have hT : True := hI; clear hT hI))))
    | ((first | apply W.retM | apply W.endM'); (iterate 2 (try (simp (disch := omega) only [push_cast, simprocAttr] <;> rfl))))
  refine AW.adoptCell 2 0 2 5 76 (r := { k := 3, es := [[.lst (h.rooms.map eRoom), .v (.slice none 0 0), .v (.slice none 0 0)]], ty := 26 }) (by simp (disch := omega) only [push_cast, simprocAttr]) (by rfl) ?_
  refine AW.loop (fun n s => ∃ (k : Nat) (ow : List Way), n = h.ways.length - k ∧ (ow = (h.ways.take k).map dropW) ∧ (ow.length = k) ∧ (k ≤ h.ways.length) ∧ 4 ≤ s.nx ∧ s.tm 1 = .ptr 0 0 0 1 ∧ s.tm 2 = .ptr 1 0 0 1 ∧ s.tm 3 = .ptr 2 0 0 1 ∧ s.tm 4 = ai k ∧ Pg.rowAt s.H (0) = some ({ k := 3, es := [eHouse h], ty := 26 }) ∧ Pg.rowAt s.H (1) = some ({ k := 3, es := [[.v (.slice none 0 0), .v (.slice none 0 0), .v (.slice none 0 0)]], ty := 26 }) ∧ Pg.rowAt s.H (2) = some ({ k := 3, es := [[.lst (h.rooms.map eRoom), .v (.slice none 0 0), .ref 3 0 k]], ty := 26 }) ∧ Pg.rowAt s.H (3) = some ({ k := 5, es := ow.map eWay, ty := 76, lo := k })) (h.ways.length) ⟨0, [], rfl, rfl, rfl, (Nat.zero_le _), ?_, ?_, ?_, ?_, ?_, ?_, ?_, ?_, ?_⟩ ?_
  iterate 9 (first | (simp (disch := omega) only [push_cast, simprocAttr] <;> first | rfl | omega) | omega)
  rintro n s ⟨k, ow, hn, hp0, hp1, hp2, hnl, hS⟩
  have hZ : (0 : Nat) ≠ s.nx ∧ s.nx ≠ (0 : Nat) ∧ (1 : Nat) ≠ s.nx ∧ s.nx ≠ (1 : Nat) ∧ (2 : Nat) ≠ s.nx ∧ s.nx ≠ (2 : Nat) ∧ (3 : Nat) ≠ s.nx ∧ s.nx ≠ (3 : Nat) := by omega
  by_cases hk : k < h.ways.length
  · have hk1 : (k : Int) < (h.ways.length : Int) := by omega
    obtain ⟨w, hw⟩ : ∃ w, h.ways[k]? = some w := ⟨_, List.getElem?_eq_getElem hk⟩
    have hgw : (h.ways.map eWay).getD k [] = eWay w := by rw [List.getD_eq_getElem?_getD, List.getElem?_map, hw]; rfl
    have hz1 : (s.nx = 1) = False := eq_false (by omega)
    have hz2 : (s.nx = 2) = False := eq_false (by omega)
    have hdd : ow ++ [dropW w] = (h.ways.take (k + 1)).map dropW := by rw [List.take_add_one, hw, List.map_append, ← hp0]; rfl
    repeat' first
      | apply AW.seq | apply AW.region | apply AW.ret | apply AW.block | apply AW.skip | apply AW.exit | apply AW.scope | apply AW.label | apply AWL.nil
      | ((first | (apply W.step cx_ok; decide) | apply W.store cx_ok | apply AW.cond); (simp (disch := omega) only [push_cast, simprocAttr, hS, hZ, hk1, hgw, hp1, hz1, hz2] <;> rfl); all_goals try ((with_reducible intro hI); try first | (cases hI; done) | (simp only [INTS, not_true_eq_false] at hI; try first | (exfalso; omega) | (have hT : True := hI; clear hT hI))))
      | (apply W.append cx_ok; decide; rfl; rfl; rfl; decide; (iterate 3 (simp (disch := omega) only [push_cast, simprocAttr, hS, hZ, hk1, hgw, hp1, hz1, hz2] <;> rfl)); simp; (rfl); ((try dsimp only); (try simp only [List.length_map, List.length_append, List.length_cons, List.length_nil]); omega); ((try dsimp only); (try simp only [List.length_map, List.length_append, List.length_cons, List.length_nil]); omega))
      | ((first | apply W.retM | apply W.endM'); (iterate 2 (try (simp (disch := omega) only [push_cast, simprocAttr, hS, hZ, hk1, hgw, hp1, hz1, hz2] <;> rfl))))
    all_goals
      (refine ⟨h.ways.length - (k + 1), ?_, k + 1, ow ++ [dropW w], rfl, hdd, (by simp [hp1]), (by omega), ?_, ?_, ?_, ?_, ?_, ?_, ?_, ?_, ?_⟩; (omega); all_goals first | (simp (disch := omega) only [push_cast, simprocAttr, hS, hZ, hk1, hgw, hp1, hz1, hz2, dropW] <;> first | rfl | omega) | omega)
  · have hk1 : ¬ ((k : Int) < (h.ways.length : Int)) := by omega
    have hkn : k = h.ways.length := by omega
    have hfin : ow = h.ways.map dropW := by rw [hp0, hkn, List.take_length]
    repeat' first
      | apply AW.seq | apply AW.region | apply AW.ret | apply AW.block | apply AW.skip | apply AW.exit | apply AW.scope | apply AW.label | apply AWL.nil
      | ((first | (apply W.step cx_ok; decide) | apply W.store cx_ok | apply AW.cond); (simp (disch := omega) only [push_cast, simprocAttr, hS, hZ, hk1, hp1] <;> rfl); all_goals try ((with_reducible intro hI); try first | (cases hI; done) | (simp only [INTS, not_true_eq_false] at hI; try first | (exfalso; omega) | (have hT : True := hI; clear hT hI))))
      | ((first | apply W.retM | apply W.endM'); (iterate 2 (try (simp (disch := omega) only [push_cast, simprocAttr, hS, hZ, hk1, hp1] <;> rfl))))
    all_goals (show _ = _; rw [hfin]; rfl)
def mapM (row : List Int) (k : Nat) : List Int := (row.take k).map noneR ++ row.drop k
theorem mapM_zero (row : List Int) : mapM row 0 = row := by simp [mapM]
theorem mapM_all (row : List Int) : mapM row row.length = row.map noneR := by simp [mapM]
theorem mapM_at {row : List Int} {k : Nat} (hk : k < row.length) : (mapM row k).getD k 0 = row.getD k 0 := by
  unfold mapM
  rw [List.getD_eq_getElem?_getD, List.getElem?_append_right (by simp; omega), List.getElem?_drop, List.getD_eq_getElem?_getD]
  congr 2; simp; omega
theorem mapM_set {row : List Int} {k : Nat} (hk : k < row.length) : (mapM row k).set k (noneR (row.getD k 0)) = mapM row (k + 1) := by
  have hl : (mapM row k).length = row.length := by simp [mapM]; omega
  apply List.ext_getElem?
  intro i
  rw [List.getElem?_set, hl]
  unfold mapM
  simp only [List.getElem?_append, List.length_map, List.length_take, List.getElem?_map, List.getElem?_take, List.getElem?_drop]
  rcases Nat.lt_trichotomy i k with h | h | h
  · rw [if_neg (by omega), if_pos (by omega), if_pos (by omega), if_pos (by omega), if_pos (by omega)]
  · subst h
    rw [if_pos rfl, if_pos hk, if_pos (by omega), if_pos (by omega), getD_set' row i 0 hk]; rfl
  · rw [if_neg (by omega), if_neg (by omega), if_neg (by omega)]
    congr 1; omega
theorem plain_fit {h : House} (hfit : h.Fit) : (plainH h).Fit := ⟨hfit.names, fun d hd => by simp [plainH] at hd, hfit.rooms, by simp [plainH], by simpa [plainH] using hfit.nw⟩
theorem Row_ok (h : House) (a : Int) (hfit : h.Fit) (hv : h.V) (ha : 0 ≤ a ∧ a < (h.rooms.length : Int)) : OKv cx 59 [.agg (eHouse h), ai a] (lInt (distH h a.toNat)) := by
  have hrn := hv.rooms
  have hpf := plain_fit hfit
  have hpv := plain_V hv
  rw [dist_is hv (by omega)]
  unfold rowR
  refine OKat.of_body (rs := [4]) Tryd.func59 rfl (by decide +kernel) rfl (by simp [Tryd.ntmps59]) ?_
  simp only [Tryd.ntmps59]
  repeat' first
    | apply AW.seq | apply AW.region | apply AW.ret | apply AW.block | apply AW.skip | apply AW.exit | apply AW.scope | apply AW.label | apply AWL.nil
    | ((first | (apply W.step cx_ok; decide) | apply W.store cx_ok | apply AW.cond); (simp (disch := omega) only [push_cast, simprocAttr] <;> rfl); all_goals try ((with_reducible intro hI); try first | (cases hI; done) | (simp only [INTS, not_true_eq_false] at hI; try first | (exfalso; omega) | (have hT : True := hI; clear hT hI))))
    | ((apply W.callv cx_ok; decide); (iterate 2 (simp (disch := omega) only [push_cast, simprocAttr] <;> rfl)); (with_reducible first | exact Plain_ok _ hfit); try first | rfl | (simp (disch := omega) only [push_cast, simprocAttr] <;> rfl))
    | ((first | apply W.ret1 | apply W.end1); (iterate 2 (try (simp (disch := omega) only [push_cast, simprocAttr] <;> rfl))))
  have hl := (arrR_is hpv (a := a.toNat) (show a.toNat < h.rooms.length by omega) (t := 0) (by omega)).1
  have hl' : (arrR (plainH h) a.toNat 0).length = h.rooms.length := hl
  refine AWL.calln cx_ok rfl rfl (by decide) rfl (f := 54) (vs := [.agg (eHouse (plainH h)), ai a, ai 0]) (by simp (disch := omega) only [push_cast, simprocAttr]) (by simp (disch := omega) only [push_cast, simprocAttr] <;> rfl) (by simp (disch := omega) only [push_cast, simprocAttr] <;> rfl) (ArrivalsN_ok (plainH h) a 0 hpf hpv ha (by omega)) ?_
  rintro row rfl
  generalize arrR (plainH h) a.toNat 0 = R at *
  have hpl : (plainH h).rooms.length = h.rooms.length := rfl
  repeat' first
    | apply AW.seq | apply AW.region | apply AW.ret | apply AW.block | apply AW.skip | apply AW.exit | apply AW.scope | apply AW.label | apply AWL.nil
    | ((first | (apply W.step cx_ok; decide) | apply W.store cx_ok | apply AW.cond); (simp (disch := omega) only [push_cast, simprocAttr, hl, hl', hpl] <;> rfl); all_goals try ((with_reducible intro hI); try first | (cases hI; done) | (simp only [INTS, not_true_eq_false] at hI; try first | (exfalso; omega) | (have hT : True := hI; clear hT hI))))
    | ((first | apply W.ret1 | apply W.end1); (iterate 2 (try (simp (disch := omega) only [push_cast, simprocAttr, hl, hl', hpl] <;> rfl))))
  refine AW.loop (fun n s => ∃ (k : Nat) (row : List Int), n = h.rooms.length - k ∧ (row = mapM R k) ∧ (row.length = h.rooms.length) ∧ (k ≤ h.rooms.length) ∧ 3 ≤ s.nx ∧ s.tm 6 = .ref 2 0 h.rooms.length ∧ s.tm 7 = ai k ∧ Pg.rowAt s.H (2) = some ({ k := 1, es := row.map eInt, ty := 3, lo := h.rooms.length })) (h.rooms.length) ⟨0, R, rfl, (mapM_zero R).symm, hl', (by omega), ?_, ?_, ?_, ?_⟩ ?_
  iterate 4 (first | (simp (disch := omega) only [push_cast, simprocAttr, hl', hpl] <;> first | rfl | omega) | omega)
  rintro n1 s1 ⟨k1, row1, hn1, hp01, hp11, hp21, hnl1, hS1⟩
  have hZ1 : (2 : Nat) ≠ s1.nx ∧ s1.nx ≠ (2 : Nat) := by omega
  by_cases hk : k1 < h.rooms.length
  · have hk1 : (k1 : Int) < (h.rooms.length : Int) := by omega
    have hk2 : k1 < row1.length := by omega
    have hat : row1.getD k1 0 = R.getD k1 0 := by rw [hp01]; exact mapM_at (by omega)
    by_cases hnv : row1.getD k1 0 = 1073741824
    · have hnT : (row1.getD k1 0 = 1073741824) = True := eq_true hnv
      repeat' first
        | apply AW.seq | apply AW.region | apply AW.ret | apply AW.block | apply AW.skip | apply AW.exit | apply AW.scope | apply AW.label | apply AWL.nil
        | ((first | (apply W.step cx_ok; decide) | apply W.store cx_ok | apply AW.cond); (simp (disch := omega) only [push_cast, simprocAttr, hS1, hZ1, hk, hk1, hk2, hp11, hnT] <;> rfl); all_goals try ((with_reducible intro hI); try first | (cases hI; done) | (simp only [INTS, not_true_eq_false] at hI; try first | (exfalso; omega) | (have hT : True := hI; clear hT hI))))
        | ((first | apply W.ret1 | apply W.end1); (iterate 2 (try (simp (disch := omega) only [push_cast, simprocAttr, hS1, hZ1, hk, hk1, hk2, hp11, hnT] <;> rfl))))
      all_goals
        (have hset : row1.set k1 (-1) = mapM R (k1 + 1) := by rw [hp01, ← mapM_set (by omega), ← hat, hnv]; rfl
         (refine ⟨h.rooms.length - (k1 + 1), ?_, k1 + 1, row1.set k1 (-1), rfl, hset, (by rw [List.length_set]; exact hp11), (by omega), ?_, ?_, ?_, ?_⟩; (omega); all_goals first | (simp (disch := omega) only [push_cast, simprocAttr, hS1, hZ1, hk, hk1, hk2, hp11, hnT] <;> first | rfl | omega) | omega))
    · have hnF : (row1.getD k1 0 = 1073741824) = False := eq_false hnv
      repeat' first
        | apply AW.seq | apply AW.region | apply AW.ret | apply AW.block | apply AW.skip | apply AW.exit | apply AW.scope | apply AW.label | apply AWL.nil
        | ((first | (apply W.step cx_ok; decide) | apply W.store cx_ok | apply AW.cond); (simp (disch := omega) only [push_cast, simprocAttr, hS1, hZ1, hk, hk1, hk2, hp11, hnF] <;> rfl); all_goals try ((with_reducible intro hI); try first | (cases hI; done) | (simp only [INTS, not_true_eq_false] at hI; try first | (exfalso; omega) | (have hT : True := hI; clear hT hI))))
        | ((first | apply W.ret1 | apply W.end1); (iterate 2 (try (simp (disch := omega) only [push_cast, simprocAttr, hS1, hZ1, hk, hk1, hk2, hp11, hnF] <;> rfl))))
      all_goals
        (have hset : row1 = mapM R (k1 + 1) := by
           rw [← mapM_set (by omega), ← hp01, ← hat]
           have : noneR (row1.getD k1 0) = row1.getD k1 0 := if_neg hnv
           rw [this, List.getD_eq_getElem?_getD, List.getElem?_eq_getElem (by omega)]; simp
         (refine ⟨h.rooms.length - (k1 + 1), ?_, k1 + 1, row1, rfl, hset, hp11, (by omega), ?_, ?_, ?_, ?_⟩; (omega); all_goals first | (simp (disch := omega) only [push_cast, simprocAttr, hS1, hZ1, hk, hk1, hk2, hp11, hnF] <;> first | rfl | omega) | omega))
  · have hk1 : ¬ ((k1 : Int) < (h.rooms.length : Int)) := by omega
    have hkn : k1 = R.length := by omega
    have hro : row1 = R.map noneR := by rw [hp01, hkn, mapM_all]
    repeat' first
      | apply AW.seq | apply AW.region | apply AW.ret | apply AW.block | apply AW.skip | apply AW.exit | apply AW.scope | apply AW.label | apply AWL.nil
      | ((first | (apply W.step cx_ok; decide) | apply W.store cx_ok | apply AW.cond); (simp (disch := omega) only [push_cast, simprocAttr, hS1, hZ1, hk1, hp11] <;> rfl); all_goals try ((with_reducible intro hI); try first | (cases hI; done) | (simp only [INTS, not_true_eq_false] at hI; try first | (exfalso; omega) | (have hT : True := hI; clear hT hI))))
      | ((first | apply W.ret1 | apply W.end1); (iterate 2 (try (simp (disch := omega) only [push_cast, simprocAttr, hS1, hZ1, hk1, hp11] <;> rfl))))
    all_goals (show _ = _; rw [hro])


end Go.Proofs.Hs

set_option maxHeartbeats 8000000
set_option linter.unusedSimpArgs false
set_option linter.unusedVariables false
set_option maxRecDepth 10000
namespace Go.Proofs.Hs
open Go Go.Pg Go.Proofs

theorem dists_len (h : House) : (distsH h).length = h.rooms.length := by simp [distsH]
theorem dists_at (h : House) {a : Nat} (ha : a < h.rooms.length) : ((distsH h).map eRow).getD a [] = eRow (distH h a) := by
  rw [List.getD_eq_getElem?_getD]; simp [distsH, ha]
theorem askedNo_ok (h : House) (a b : Int) (hfit : h.Fit) : OKv cx 74 [.agg (eHouse h), .lst [[ai a], [ai b]], .lst []] (ai (askedE h [a, b] [])) := asked_ok h [a, b] [] hfit (by simp) (by simp)
theorem twoE_no (h : House) (a b : Int) : twoE h a 0 b 0 = askedE h [a, b] [] := by
  rw [twoE_eq]
  unfold askedE
  have : timeB 0 = true := by decide
  simp [this]
def leastH (h : House) (a b : Int) : Int × Int :=
  if askedE h [a, b] [] ≠ 0 then (0, askedE h [a, b] []) else if (distH h a.toNat).getD b.toNat 0 < 0 then (0, 5) else ((distH h a.toNat).getD b.toNat 0, 0)
theorem Least_ok (h : House) (a b : Int) (hfit : h.Fit) : OKv cx 55 [.agg (eHouse h), ai a, ai b] (.tup [ai (leastH h a b).1, ai (leastH h a b).2]) := by
  by_cases he : askedE h [a, b] [] = 0
  · obtain ⟨hc, hrr, _⟩ := askedE_zero he
    have hra := hrr a (by simp)
    have hrb := hrr b (by simp)
    unfold isRoom at hra hrb
    have hv := Check_V hc
    have hL : leastH h a b = if (distH h a.toNat).getD b.toNat 0 < 0 then (0, 5) else ((distH h a.toNat).getD b.toNat 0, 0) := if_neg (by simp [he])
    have hdl := dists_len h
    have hgA := dists_at h (a := a.toNat) (by omega)
    have hrl2 : (distH h a.toNat).length = h.rooms.length := (dist_sim hv (by omega)).2.len
    have a1 := hra.1
    have a2 := hra.2
    have a3 : a.toNat < (distsH h).length := by omega
    have a4 : a.toNat < h.rooms.length := by omega
    have b1 := hrb.1
    have b2 := hrb.2
    have b3 : b.toNat < (distH h a.toNat).length := by omega
    have b4 : b.toNat < h.rooms.length := by omega
    obtain ⟨D, hD⟩ : ∃ x, distH h a.toNat = x := ⟨_, rfl⟩
    rw [hD] at hL hgA hrl2 b3
    by_cases hng : D.getD b.toNat 0 < 0
    · rw [if_pos hng] at hL
      refine OKat.of_body (rs := [6, 7]) Tryd.func55 rfl (by decide +kernel) rfl (by simp [Tryd.ntmps55]) ?_
      simp only [Tryd.ntmps55]
      repeat' first
        | apply AW.seq | apply AW.region | apply AW.ret | apply AW.block | apply AW.skip | apply AW.exit | apply AW.scope | apply AW.label | apply AWL.nil
        | ((first | (apply W.step cx_ok; decide) | apply AW.cond); (simp (disch := omega) only [push_cast, simprocAttr, he, hdl, hgA, a1, a2, a3, a4, b1, b2, b3, b4, hrl2, hng] <;> rfl); all_goals try ((with_reducible intro hI); try first | (cases hI; done) | (simp only [INTS, not_true_eq_false] at hI; try first | (exfalso; omega) | (have hT : True := hI; clear hT hI))))
        | ((apply W.callv cx_ok; decide); (iterate 2 (simp (disch := omega) only [push_cast, simprocAttr, he, hdl, hgA, a1, a2, a3, a4, b1, b2, b3, b4, hrl2, hng] <;> rfl)); (with_reducible first | exact askedNo_ok _ _ _ hfit | exact distances_ok h hfit hv); try first | rfl | (simp (disch := omega) only [push_cast, simprocAttr, he, hdl, hgA, a1, a2, a3, a4, b1, b2, b3, b4, hrl2, hng] <;> rfl))
        | ((first | apply W.ret2 | apply W.end2); (iterate 2 (try (simp (disch := omega) only [push_cast, simprocAttr, he, hdl, hgA, a1, a2, a3, a4, b1, b2, b3, b4, hrl2, hng] <;> rfl))))
      all_goals (show _ = _; rw [hL])
    · rw [if_neg hng] at hL
      refine OKat.of_body (rs := [6, 7]) Tryd.func55 rfl (by decide +kernel) rfl (by simp [Tryd.ntmps55]) ?_
      simp only [Tryd.ntmps55]
      repeat' first
        | apply AW.seq | apply AW.region | apply AW.ret | apply AW.block | apply AW.skip | apply AW.exit | apply AW.scope | apply AW.label | apply AWL.nil
        | ((first | (apply W.step cx_ok; decide) | apply AW.cond); (simp (disch := omega) only [push_cast, simprocAttr, he, hdl, hgA, a1, a2, a3, a4, b1, b2, b3, b4, hrl2, hng] <;> rfl); all_goals try ((with_reducible intro hI); try first | (cases hI; done) | (simp only [INTS, not_true_eq_false] at hI; try first | (exfalso; omega) | (have hT : True := hI; clear hT hI))))
        | ((apply W.callv cx_ok; decide); (iterate 2 (simp (disch := omega) only [push_cast, simprocAttr, he, hdl, hgA, a1, a2, a3, a4, b1, b2, b3, b4, hrl2, hng] <;> rfl)); (with_reducible first | exact askedNo_ok _ _ _ hfit | exact distances_ok h hfit hv); try first | rfl | (simp (disch := omega) only [push_cast, simprocAttr, he, hdl, hgA, a1, a2, a3, a4, b1, b2, b3, b4, hrl2, hng] <;> rfl))
        | ((first | apply W.ret2 | apply W.end2); (iterate 2 (try (simp (disch := omega) only [push_cast, simprocAttr, he, hdl, hgA, a1, a2, a3, a4, b1, b2, b3, b4, hrl2, hng] <;> rfl))))
      all_goals (show _ = _; rw [hL])
  · have hL : leastH h a b = (0, askedE h [a, b] []) := if_pos he
    refine OKat.of_body (rs := [6, 7]) Tryd.func55 rfl (by decide +kernel) rfl (by simp [Tryd.ntmps55]) ?_
    simp only [Tryd.ntmps55]
    repeat' first
      | apply AW.seq | apply AW.region | apply AW.ret | apply AW.block | apply AW.skip | apply AW.exit | apply AW.scope | apply AW.label | apply AWL.nil
      | ((first | (apply W.step cx_ok; decide) | apply AW.cond); (simp (disch := omega) only [push_cast, simprocAttr, he] <;> rfl); all_goals try ((with_reducible intro hI); try first | (cases hI; done) | (simp only [INTS, not_true_eq_false] at hI; try first | (exfalso; omega) | (have hT : True := hI; clear hT hI))))
      | ((apply W.callv cx_ok; decide); (iterate 2 (simp (disch := omega) only [push_cast, simprocAttr, he] <;> rfl)); (with_reducible first | exact askedNo_ok _ _ _ hfit); try first | rfl | (simp (disch := omega) only [push_cast, simprocAttr, he] <;> rfl))
      | ((first | apply W.ret2 | apply W.end2); (iterate 2 (try (simp (disch := omega) only [push_cast, simprocAttr, he] <;> rfl))))
    all_goals (show _ = _; rw [hL])
theorem LeastR_ok (h : House) (a b : Int) (hfit : h.Fit) : OKv cx 56 [.agg (eHouse h), ai a, ai b] (.tup [ai (leastH h a b).1, ai (leastH h a b).2]) := by
  by_cases he : askedE h [a, b] [] = 0
  · obtain ⟨hc, hrr, _⟩ := askedE_zero he
    have hra := hrr a (by simp)
    have hrb := hrr b (by simp)
    unfold isRoom at hra hrb
    have hv := Check_V hc
    have he2 := twoE_no h a b
    have hL : leastH h a b = if (distH h a.toNat).getD b.toNat 0 < 0 then (0, 5) else ((distH h a.toNat).getD b.toNat 0, 0) := if_neg (by simp [he])
    have hdl := dists_len h
    have hgA := dists_at h (a := a.toNat) (by omega)
    have hrl2 : (distH h a.toNat).length = h.rooms.length := (dist_sim hv (by omega)).2.len
    have a1 := hra.1
    have a2 := hra.2
    have a3 : a.toNat < (distsH h).length := by omega
    have a4 : a.toNat < h.rooms.length := by omega
    have b1 := hrb.1
    have b2 := hrb.2
    have b3 : b.toNat < (distH h a.toNat).length := by omega
    have b4 : b.toNat < h.rooms.length := by omega
    obtain ⟨D, hD⟩ : ∃ x, distH h a.toNat = x := ⟨_, rfl⟩
    rw [hD] at hL hgA hrl2 b3
    have hro := Row_ok h a hfit hv hra
    rw [hD] at hro
    by_cases hng : D.getD b.toNat 0 < 0
    · rw [if_pos hng] at hL
      refine OKat.of_body (rs := [6, 7]) Tryd.func56 rfl (by decide +kernel) rfl (by simp [Tryd.ntmps56]) ?_
      simp only [Tryd.ntmps56]
      repeat' first
        | apply AW.seq | apply AW.region | apply AW.ret | apply AW.block | apply AW.skip | apply AW.exit | apply AW.scope | apply AW.label | apply AWL.nil
        | ((first | (apply W.step cx_ok; decide) | apply AW.cond); (simp (disch := omega) only [push_cast, simprocAttr, he, he2, hdl, hgA, a1, a2, a3, a4, b1, b2, b3, b4, hrl2, hng] <;> rfl); all_goals try ((with_reducible intro hI); try first | (cases hI; done) | (simp only [INTS, not_true_eq_false] at hI; try first | (exfalso; omega) | (have hT : True := hI; clear hT hI))))
        | ((apply W.callv cx_ok; decide); (iterate 2 (simp (disch := omega) only [push_cast, simprocAttr, he, he2, hdl, hgA, a1, a2, a3, a4, b1, b2, b3, b4, hrl2, hng] <;> rfl)); (with_reducible first | exact Two_ok _ _ _ _ _ hfit | exact hro); try first | rfl | (simp (disch := omega) only [push_cast, simprocAttr, he, he2, hdl, hgA, a1, a2, a3, a4, b1, b2, b3, b4, hrl2, hng] <;> rfl))
        | ((first | apply W.ret2 | apply W.end2); (iterate 2 (try (simp (disch := omega) only [push_cast, simprocAttr, he, he2, hdl, hgA, a1, a2, a3, a4, b1, b2, b3, b4, hrl2, hng] <;> rfl))))
      all_goals (show _ = _; rw [hL])
    · rw [if_neg hng] at hL
      refine OKat.of_body (rs := [6, 7]) Tryd.func56 rfl (by decide +kernel) rfl (by simp [Tryd.ntmps56]) ?_
      simp only [Tryd.ntmps56]
      repeat' first
        | apply AW.seq | apply AW.region | apply AW.ret | apply AW.block | apply AW.skip | apply AW.exit | apply AW.scope | apply AW.label | apply AWL.nil
        | ((first | (apply W.step cx_ok; decide) | apply AW.cond); (simp (disch := omega) only [push_cast, simprocAttr, he, he2, hdl, hgA, a1, a2, a3, a4, b1, b2, b3, b4, hrl2, hng] <;> rfl); all_goals try ((with_reducible intro hI); try first | (cases hI; done) | (simp only [INTS, not_true_eq_false] at hI; try first | (exfalso; omega) | (have hT : True := hI; clear hT hI))))
        | ((apply W.callv cx_ok; decide); (iterate 2 (simp (disch := omega) only [push_cast, simprocAttr, he, he2, hdl, hgA, a1, a2, a3, a4, b1, b2, b3, b4, hrl2, hng] <;> rfl)); (with_reducible first | exact Two_ok _ _ _ _ _ hfit | exact hro); try first | rfl | (simp (disch := omega) only [push_cast, simprocAttr, he, he2, hdl, hgA, a1, a2, a3, a4, b1, b2, b3, b4, hrl2, hng] <;> rfl))
        | ((first | apply W.ret2 | apply W.end2); (iterate 2 (try (simp (disch := omega) only [push_cast, simprocAttr, he, he2, hdl, hgA, a1, a2, a3, a4, b1, b2, b3, b4, hrl2, hng] <;> rfl))))
      all_goals (show _ = _; rw [hL])
  · have hL : leastH h a b = (0, askedE h [a, b] []) := if_pos he
    have he2 := twoE_no h a b
    refine OKat.of_body (rs := [6, 7]) Tryd.func56 rfl (by decide +kernel) rfl (by simp [Tryd.ntmps56]) ?_
    simp only [Tryd.ntmps56]
    repeat' first
      | apply AW.seq | apply AW.region | apply AW.ret | apply AW.block | apply AW.skip | apply AW.exit | apply AW.scope | apply AW.label | apply AWL.nil
      | ((first | (apply W.step cx_ok; decide) | apply AW.cond); (simp (disch := omega) only [push_cast, simprocAttr, he, he2] <;> rfl); all_goals try ((with_reducible intro hI); try first | (cases hI; done) | (simp only [INTS, not_true_eq_false] at hI; try first | (exfalso; omega) | (have hT : True := hI; clear hT hI))))
      | ((apply W.callv cx_ok; decide); (iterate 2 (simp (disch := omega) only [push_cast, simprocAttr, he, he2] <;> rfl)); (with_reducible first | exact Two_ok _ _ _ _ _ hfit); try first | rfl | (simp (disch := omega) only [push_cast, simprocAttr, he, he2] <;> rfl))
      | ((first | apply W.ret2 | apply W.end2); (iterate 2 (try (simp (disch := omega) only [push_cast, simprocAttr, he, he2] <;> rfl))))
    all_goals (show _ = _; rw [hL])

def distancesH (h : House) : List (List Int) × Int := if (Check h).1 ≠ 0 then ([], (Check h).1) else (distsH h, 0)
theorem askedNN_okR (h : House) (hfit : h.Fit) : OKv cx 74 [.agg (eHouse h), .lst [], .lst []] (ai (Check h).1) := by
  have h1 := asked_ok h [] [] hfit (by simp) (by simp)
  have h2 : askedE h [] [] = (Check h).1 := by unfold askedE; split <;> simp_all
  rw [h2] at h1
  exact h1
theorem Distances_ok (h : House) (hfit : h.Fit) : OKv cx 57 [.agg (eHouse h)] (.tup [.lst ((distancesH h).1.map eRow), ai (distancesH h).2]) := by
  by_cases hc : (Check h).1 = 0
  · have hE : distancesH h = (distsH h, 0) := if_neg (by simp [hc])
    refine OKat.of_body (rs := [2, 3]) Tryd.func57 rfl (by decide +kernel) rfl (by simp [Tryd.ntmps57]) ?_
    simp only [Tryd.ntmps57]
    repeat' first
      | apply AW.seq | apply AW.region | apply AW.ret | apply AW.block | apply AW.skip | apply AW.exit | apply AW.scope | apply AW.label | apply AWL.nil
      | ((first | (apply W.step cx_ok; decide) | apply AW.cond); (simp (disch := omega) only [push_cast, simprocAttr, hc] <;> rfl); all_goals try ((with_reducible intro hI); try first | (cases hI; done) | (simp only [INTS, not_true_eq_false] at hI; try first | (exfalso; omega) | (have hT : True := hI; clear hT hI))))
      | ((apply W.callv cx_ok; decide); (iterate 2 (simp (disch := omega) only [push_cast, simprocAttr, hc] <;> rfl)); (with_reducible first | exact askedNN_okR _ hfit | exact distances_ok h hfit (Check_V hc)); try first | rfl | (simp (disch := omega) only [push_cast, simprocAttr, hc] <;> rfl))
      | ((first | apply W.ret2 | apply W.end2); (iterate 2 (try (simp (disch := omega) only [push_cast, simprocAttr, hc] <;> rfl))))
    all_goals (show _ = _; rw [hE])
  · have hE : distancesH h = ([], (Check h).1) := if_pos hc
    refine OKat.of_body (rs := [2, 3]) Tryd.func57 rfl (by decide +kernel) rfl (by simp [Tryd.ntmps57]) ?_
    simp only [Tryd.ntmps57]
    repeat' first
      | apply AW.seq | apply AW.region | apply AW.ret | apply AW.block | apply AW.skip | apply AW.exit | apply AW.scope | apply AW.label | apply AWL.nil
      | ((first | (apply W.step cx_ok; decide) | apply AW.cond); (simp (disch := omega) only [push_cast, simprocAttr, hc] <;> rfl); all_goals try ((with_reducible intro hI); try first | (cases hI; done) | (simp only [INTS, not_true_eq_false] at hI; try first | (exfalso; omega) | (have hT : True := hI; clear hT hI))))
      | ((apply W.callv cx_ok; decide); (iterate 2 (simp (disch := omega) only [push_cast, simprocAttr, hc] <;> rfl)); (with_reducible first | exact askedNN_okR _ hfit); try first | rfl | (simp (disch := omega) only [push_cast, simprocAttr, hc] <;> rfl))
      | ((first | apply W.ret2 | apply W.end2); (iterate 2 (try (simp (disch := omega) only [push_cast, simprocAttr, hc] <;> rfl))))
    all_goals (show _ = _; rw [hE]; rfl)

end Go.Proofs.Hs
