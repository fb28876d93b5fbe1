/-
  Contracts of functions, proved by going through their code. No conditions.
-/
import Derived.Test.YtmcchoalekmklaaGreatZbd
import Derived.Test.YtmcchoalekmklaaGreatZbe
set_option linter.unusedVariables false
set_option linter.unusedSimpArgs false
namespace Go.Proofs.Hs
open Go Go.Pg Go.Proofs Go.Proofs.Yt Go.Proofs.Lab
def House.nextAt (h : House) (g : Gate) (t : Int) : Int := if 0 ≤ g.door then next (h.door g.door) t else t
def House.lastAt (h : House) (g : Gate) (t : Int) : Int := if 0 ≤ g.door then last (h.door g.door) t else t
def enter (h : House) (g : Gate) (t : Int) : Int := if 1073741823 < h.nextAt g t + g.secs then 1073741824 else h.nextAt g t + g.secs
def depart (h : House) (g : Gate) (t : Int) : Int := if t - g.secs < 0 then -1 else h.lastAt g (t - g.secs)
theorem gatesL_ok : ∀ (l : List Way) (i : Nat) (nr nd : Nat), (∀ w ∈ l, w.OK nr nd) → ∀ g ∈ gatesL i l, (0 ≤ g.from' ∧ g.from' < (nr : Int)) ∧ (0 ≤ g.to ∧ g.to < (nr : Int)) ∧ (1 ≤ g.secs ∧ g.secs ≤ 3600) ∧ (-1 ≤ g.door ∧ g.door < (nd : Int)) ∧ g.from' ≠ g.to
  | [], _, _, _, _, g, hg => by simp [gatesL] at hg
  | w :: rest, i, nr, nd, hw, g, hg => by
    have h0 := hw w (by simp)
    unfold Way.OK at h0
    unfold gatesL at hg
    rcases List.mem_cons.1 hg with rfl | hg
    · dsimp only; omega
    · rcases List.mem_append.1 hg with hg | hg
      · split at hg
        · simp only [List.mem_singleton] at hg; subst hg; dsimp only; omega
        · simp at hg
      · exact gatesL_ok rest (i + 1) nr nd (fun x hx => hw x (by simp [hx])) g hg
theorem gate_ok {h : House} (hv : h.V) {g : Gate} (hg : g ∈ gates h) : g.OK h := by
  obtain ⟨h1, h2, h3, h4, _⟩ := gatesL_ok h.ways 0 _ _ hv.ways g hg
  exact ⟨h1, h2, h3, h4⟩
section
variable {h : House} {g : Gate}
theorem nextAt_ge (hv : h.V) (hg : g.OK h) {t : Int} (h0 : 0 ≤ t) (h1 : t ≤ 1073741824) : t ≤ h.nextAt g t ∧ h.nextAt g t ≤ 1073741824 := by
  unfold House.nextAt
  split
  · rename_i hd
    have hn := next_is (hv.door hd hg.door.2) h0 h1
    have := hn.ge
    rcases hn.at' with e | ⟨e, _⟩ <;> omega
  · omega
theorem nextAt_mono (hv : h.V) (hg : g.OK h) {t u : Int} (h0 : 0 ≤ t) (hu : t ≤ u) (h1 : u ≤ 1073741824) : h.nextAt g t ≤ h.nextAt g u := by
  unfold House.nextAt
  split
  · rename_i hd; exact next_mono (hv.door hd hg.door.2) h0 hu h1
  · exact hu
theorem lastAt_le (hv : h.V) (hg : g.OK h) {t : Int} (h0 : -1 ≤ t) : -1 ≤ h.lastAt g t ∧ h.lastAt g t ≤ t := by
  unfold House.lastAt
  split
  · rename_i hd
    have hn := last_is (hv.door hd hg.door.2) h0
    have := hn.le
    rcases hn.at' with e | ⟨e, _⟩ <;> omega
  · omega
theorem lastAt_mono (hv : h.V) (hg : g.OK h) {t u : Int} (h0 : -1 ≤ t) (hu : t ≤ u) : h.lastAt g t ≤ h.lastAt g u := by
  unfold House.lastAt
  split
  · rename_i hd; exact last_mono (hv.door hd hg.door.2) h0 hu
  · exact hu
theorem enter_spec (hv : h.V) (hg : g.OK h) {t : Int} (h0 : 0 ≤ t) (h1 : t ≤ 1073741823) : t < enter h g t ∧ enter h g t ≤ 1073741824 := by
  have := nextAt_ge hv hg h0 (by omega)
  have := hg.secs
  unfold enter; split <;> omega
theorem enter_mono (hv : h.V) (hg : g.OK h) {t u : Int} (h0 : 0 ≤ t) (hu : t ≤ u) (h1 : u ≤ 1073741824) : enter h g t ≤ enter h g u := by
  have := nextAt_mono hv hg h0 hu h1
  unfold enter; split <;> split <;> omega
theorem depart_spec (hv : h.V) (hg : g.OK h) {t : Int} (h0 : 0 ≤ t) : -1 ≤ depart h g t ∧ depart h g t < t := by
  have := hg.secs
  unfold depart
  split
  · omega
  · have := lastAt_le hv hg (t := t - g.secs) (by omega); omega
theorem depart_mono (hv : h.V) (hg : g.OK h) {t u : Int} (h0 : -1 ≤ t) (hu : t ≤ u) : depart h g t ≤ depart h g u := by
  have := hg.secs
  unfold depart
  split
  · split
    · omega
    · have := lastAt_le hv hg (t := u - g.secs) (by omega); omega
  · rw [if_neg (by omega)]; exact lastAt_mono hv hg (by omega) (by omega)
end
def arrN (h : House) : Net Gate := { μ := id, inf := 1073741824, src := fun g => g.from'.toNat, dst := fun g => g.to.toNat, f := enter h, gs := gates h, In := fun x => 0 ≤ x ∧ x ≤ 1073741824 }
def depN (h : House) : Net Gate := { μ := Neg.neg, inf := -1, src := fun g => g.to.toNat, dst := fun g => g.from'.toNat, f := depart h, gs := gates h, In := fun x => -1 ≤ x ∧ x ≤ 1073741823 }
theorem arrN_ok {h : House} (hv : h.V) : (arrN h).OK h.rooms.length := by
  refine ⟨fun x y _ _ h => h, (show (0 : Int) ≤ 1073741824 ∧ (1073741824 : Int) ≤ 1073741824 by decide), fun x hx => hx.2, fun g hg => ?_, fun g hg => ?_, fun g hg x hx hl => ?_, fun g hg x y hx hy hxy hyl => ?_, fun g hg x hx hl => ?_⟩
  · have := (gate_ok hv hg).from'; show g.from'.toNat < _; omega
  · have := (gate_ok hv hg).to; show g.to.toNat < _; omega
  · have hx' : 0 ≤ x ∧ x ≤ 1073741824 := hx
    have hl' : x < 1073741824 := hl
    have := enter_spec hv (gate_ok hv hg) hx'.1 (by omega)
    show 0 ≤ enter h g x ∧ enter h g x ≤ 1073741824
    omega
  · exact enter_mono hv (gate_ok hv hg) hx.1 hxy hy.2
  · have hl' : x < 1073741824 := hl
    exact (enter_spec hv (gate_ok hv hg) hx.1 (by omega)).1
theorem depN_ok {h : House} (hv : h.V) : (depN h).OK h.rooms.length := by
  refine ⟨fun x y _ _ h => ?_, (show (-1 : Int) ≤ -1 ∧ (-1 : Int) ≤ 1073741823 by decide), fun x hx => ?_, fun g hg => ?_, fun g hg => ?_, fun g hg x hx hl => ?_, fun g hg x y hx hy hxy hyl => ?_, fun g hg x hx hl => ?_⟩
  · have h' : -x = -y := h
    omega
  · have hx' : -1 ≤ x ∧ x ≤ 1073741823 := hx
    show -x ≤ -(-1)
    omega
  · have := (gate_ok hv hg).to; show g.to.toNat < _; omega
  · have := (gate_ok hv hg).from'; show g.from'.toNat < _; omega
  · have hx' : -1 ≤ x ∧ x ≤ 1073741823 := hx
    have hl' : -x < -(-1) := hl
    have := depart_spec hv (gate_ok hv hg) (t := x) (by omega)
    show -1 ≤ depart h g x ∧ depart h g x ≤ 1073741823
    omega
  · have hx' : -1 ≤ x ∧ x ≤ 1073741823 := hx
    have hy' : -1 ≤ y ∧ y ≤ 1073741823 := hy
    have hxy' : -x ≤ -y := hxy
    have hyl' : -y < -(-1) := hyl
    have := depart_mono hv (gate_ok hv hg) (t := y) (u := x) (by omega) (by omega)
    show -(depart h g x) ≤ -(depart h g y)
    omega
  · have hx' : -1 ≤ x ∧ x ≤ 1073741823 := hx
    have hl' : -x < -(-1) := hl
    have := depart_spec hv (gate_ok hv hg) (t := x) (by omega)
    show -x < -(depart h g x)
    omega
def arrR (h : House) (from' : Nat) (t : Int) : List Int := (arrN h).dijF h.rooms.length ((List.replicate h.rooms.length 1073741824).set from' t) (List.replicate h.rooms.length false)
def depR (h : House) (to : Nat) (t : Int) : List Int := (depN h).dijF h.rooms.length ((List.replicate h.rooms.length (-1)).set to t) (List.replicate h.rooms.length false)
theorem arrR_is {h : House} (hv : h.V) {a : Nat} (ha : a < h.rooms.length) {t : Int} (ht : 0 ≤ t ∧ t ≤ 1073741824) : (arrR h a t).length = h.rooms.length ∧ IsArr (arrN h) a t ((arrN h).lab (arrR h a t)) :=
  dij_is (arrN_ok hv) ha ht
theorem depR_is {h : House} (hv : h.V) {a : Nat} (ha : a < h.rooms.length) {t : Int} (ht : -1 ≤ t ∧ t ≤ 1073741823) : (depR h a t).length = h.rooms.length ∧ IsArr (depN h) a t ((depN h).lab (depR h a t)) :=
  dij_is (depN_ok hv) ha ht
def impr (f : Gate → Int → Int) (row : List Int) (g : Gate) : Bool :=
  decide (0 ≤ row.getD g.from'.toNat 0) && (decide (0 ≤ f g (row.getD g.from'.toNat 0)) && (decide (row.getD g.to.toNat 0 < 0) || decide (f g (row.getD g.from'.toNat 0) < row.getD g.to.toNat 0)))
def spreadF (f : Gate → Int → Int) (gs : List Gate) : Nat → List Int → List Gate → List Int × List Gate
  | 0, row, by' => (row, by')
  | k + 1, row, by' => match gs.find? (impr f row) with
    | none => (row, by')
    | some g => spreadF f gs k (row.set g.to.toNat (f g (row.getD g.from'.toNat 0))) (by'.set g.to.toNat g)
def room1 (x : Int) : Int := if x < 0 then 1073741824 else x
def spreadM (row : List Int) : Nat := sumN (row.map room1)
def spread (f : Gate → Int → Int) (gs : List Gate) (row : List Int) : List Int × List Gate := spreadF f gs (spreadM row + 1) row (List.replicate row.length .zero)
theorem getD_set' (row : List Int) (i : Nat) (x : Int) (h : i < row.length) : row[i]? = some (row.getD i 0) := by
  rw [List.getD_eq_getElem?_getD, List.getElem?_eq_getElem h]; rfl
theorem spreadM_lt {row : List Int} {i : Nat} {x : Int} (hi : i < row.length) (h0 : 0 ≤ x) (hx : x < 1073741824) (hb : row.getD i 0 < 0 ∨ x < row.getD i 0) : spreadM (row.set i x) < spreadM row := by
  unfold spreadM
  rw [List.map_set]
  refine sumN_set _ i _ (room1 (row.getD i 0)) ?_ ?_ ?_
  · rw [List.getElem?_map, getD_set' row i 0 hi]; rfl
  · unfold room1; split <;> omega
  · unfold room1
    rw [if_neg (by omega)]
    split <;> omega
def NextOK (f : Gate → Int → Int) (gs : List Gate) (n : Nat) : Prop := ∀ g ∈ gs, g.to.toNat < n ∧ ∀ x, 0 ≤ x → f g x < 1073741824
theorem impr_iff {f : Gate → Int → Int} {row : List Int} {g : Gate} : impr f row g = true ↔ 0 ≤ row.getD g.from'.toNat 0 ∧ 0 ≤ f g (row.getD g.from'.toNat 0) ∧ (row.getD g.to.toNat 0 < 0 ∨ f g (row.getD g.from'.toNat 0) < row.getD g.to.toNat 0) := by
  unfold impr
  simp only [Bool.and_eq_true, decide_eq_true_eq, Bool.or_eq_true]
theorem spreadF_end {f : Gate → Int → Int} {gs : List Gate} {n : Nat} (P : List Int → List Gate → Prop) (hP : ∀ row by' g, P row by' → g ∈ gs → impr f row g = true → P (row.set g.to.toNat (f g (row.getD g.from'.toNat 0))) (by'.set g.to.toNat g))
    (hf : NextOK f gs n) : ∀ (k : Nat) (row : List Int) (by' : List Gate), row.length = n → spreadM row < k → P row by' →
    (spreadF f gs k row by').1.length = n ∧ P (spreadF f gs k row by').1 (spreadF f gs k row by').2 ∧ ∀ g ∈ gs, impr f (spreadF f gs k row by').1 g = false
  | 0, row, by', hn, hk, hp => by omega
  | k + 1, row, by', hn, hk, hp => by
    unfold spreadF
    cases hg : gs.find? (impr f row) with
    | none =>
      dsimp only
      refine ⟨hn, hp, fun g hgm => ?_⟩
      have := List.find?_eq_none.1 hg g hgm
      simpa using this
    | some g =>
      dsimp only
      have hgm := List.mem_of_find?_eq_some hg
      have hgi := List.find?_some hg
      obtain ⟨i1, i2, i3⟩ := impr_iff.1 hgi
      obtain ⟨g1, g2⟩ := hf g hgm
      refine spreadF_end P hP hf k _ _ (by simp [hn]) ?_ (hP _ _ _ hp hgm hgi)
      have := spreadM_lt (row := row) (i := g.to.toNat) (x := f g (row.getD g.from'.toNat 0)) (by omega) i2 (g2 _ i1) i3
      omega
def nextH (h : House) (g : Gate) (t : Int) : Int := if enter h g t ≠ 1073741824 then enter h g t else -1
theorem getD_map0 (row : List Int) (i : Nat) : (row.map room1).getD i 1073741824 = if i < row.length then room1 (row.getD i 0) else 1073741824 := by
  rw [List.getD_eq_getElem?_getD, List.getElem?_map]
  split
  · rename_i hi; rw [getD_set' row i 0 hi]; rfl
  · rename_i hi; rw [List.getElem?_eq_none (by omega)]; rfl
theorem spread_is {h : House} (hv : h.V) {a : Nat} (ha : a < h.rooms.length) {t : Int} (ht : 0 ≤ t ∧ t ≤ 1073741823) :
    (spread (nextH h) (gates h) ((List.replicate h.rooms.length (-1)).set a t)).1.map room1 = arrR h a t := by
  have hN := arrN_ok hv
  let P : List Int → List Gate → Prop := fun row _ => RowOK (arrN h) h.rooms.length a t (row.map room1) ∧ ∀ x ∈ row, -1 ≤ x ∧ x ≤ 1073741823
  have hlen0 : ((List.replicate h.rooms.length (-1 : Int)).set a t).length = h.rooms.length := by simp
  have hf : NextOK (nextH h) (gates h) h.rooms.length := fun g hg => ⟨by have := (gate_ok hv hg).to; omega, fun x hx => by
    unfold nextH
    split
    · rename_i hne
      have hg' := gate_ok hv hg
      unfold enter at hne ⊢
      split
      · rename_i hc; rw [if_pos hc] at hne; exact absurd rfl hne
      · omega
    · decide⟩
  have hmap : ((List.replicate h.rooms.length (-1 : Int)).set a t).map room1 = (List.replicate h.rooms.length (arrN h).inf).set a t := by
    rw [List.map_set, List.map_replicate]
    have : room1 t = t := by unfold room1; rw [if_neg (by omega)]
    rw [this]; rfl
  have hlab : ∀ (row : List Int) (i : Nat), (arrN h).lab (row.map room1) i = if i < row.length then room1 (row.getD i 0) else 1073741824 := fun row i => getD_map0 row i
  obtain ⟨e1, ⟨e2, e3⟩, e4⟩ := spreadF_end P (f := nextH h) (gs := gates h) (fun row by' g ⟨hp, hb⟩ hg hi => by
    obtain ⟨i1, i2, i3⟩ := impr_iff.1 hi
    have hrl : row.length = h.rooms.length := by have := hp.len; simpa using this
    have hs := hN.src g hg
    have hd := hN.dst g hg
    have hsl : (arrN h).lab (row.map room1) ((arrN h).src g) = row.getD g.from'.toNat 0 := by
      rw [hlab, if_pos (by rw [hrl]; exact hs)]
      show room1 (row.getD g.from'.toNat 0) = _
      unfold room1; rw [if_neg (by omega)]
    have hne : enter h g (row.getD g.from'.toNat 0) ≠ 1073741824 := fun e => by unfold nextH at i2; rw [if_neg (by simpa using e)] at i2; omega
    have hfe : nextH h g (row.getD g.from'.toNat 0) = enter h g (row.getD g.from'.toNat 0) := by unfold nextH; rw [if_pos hne]
    have hxb : row.getD g.from'.toNat 0 ≤ 1073741823 := (hb _ (List.mem_of_getElem? (getD_set' row _ 0 (by rw [hrl]; exact hs)))).2
    have hsp := enter_spec hv (gate_ok hv hg) i1 hxb
    have hput := hp.put hN hg (by rw [hsl]; show row.getD g.from'.toNat 0 < 1073741824; omega) (by
      rw [hsl, hlab, if_pos (by rw [hrl]; exact hd)]
      show enter h g (row.getD g.from'.toNat 0) ≤ room1 (row.getD g.to.toNat 0)
      unfold room1
      split <;> omega)
    have hset : (row.set g.to.toNat (nextH h g (row.getD g.from'.toNat 0))).map room1 = (row.map room1).set ((arrN h).dst g) ((arrN h).f g ((arrN h).lab (row.map room1) ((arrN h).src g))) := by
      rw [List.map_set, hsl, hfe]
      have : room1 (enter h g (row.getD g.from'.toNat 0)) = enter h g (row.getD g.from'.toNat 0) := by unfold room1; rw [if_neg (by omega)]
      rw [this]; rfl
    refine ⟨by rw [hset]; exact hput, fun x hx => ?_⟩
    rcases List.mem_or_eq_of_mem_set hx with hx | rfl
    · exact hb x hx
    · rw [hfe] at i2 ⊢; omega) hf (spreadM ((List.replicate h.rooms.length (-1 : Int)).set a t) + 1) _ (List.replicate ((List.replicate h.rooms.length (-1 : Int)).set a t).length .zero) hlen0 (by omega)
      ⟨by rw [hmap]; exact rowOK_init hN ha ⟨ht.1, by omega⟩, fun x hx => by
        rcases List.mem_or_eq_of_mem_set hx with hx | rfl
        · rw [List.mem_replicate] at hx; omega
        · omega⟩
  refine dij_eq hN ha ⟨ht.1, by omega⟩ (by rw [List.length_map]; exact e1) (e2.is hN fun g hg hl hbt => ?_)
  have hno := e4 g hg
  have hrl := e1
  unfold spread at hl hbt
  generalize (spreadF (nextH h) (gates h) (spreadM ((List.replicate h.rooms.length (-1 : Int)).set a t) + 1) ((List.replicate h.rooms.length (-1)).set a t) (List.replicate ((List.replicate h.rooms.length (-1 : Int)).set a t).length Gate.zero)).1 = row at *
  rw [hlab, if_pos (by rw [hrl]; exact hN.src g hg)] at hl hbt
  rw [hlab, if_pos (by rw [hrl]; exact hN.dst g hg)] at hbt
  have hl' : room1 (row.getD g.from'.toNat 0) < 1073741824 := hl
  have hbt' : enter h g (room1 (row.getD g.from'.toNat 0)) < room1 (row.getD g.to.toNat 0) := hbt
  have h0 : 0 ≤ row.getD g.from'.toNat 0 := by
    by_cases hx : row.getD g.from'.toNat 0 < 0
    · unfold room1 at hl'; rw [if_pos hx] at hl'; omega
    · omega
  have hr1 : room1 (row.getD g.from'.toNat 0) = row.getD g.from'.toNat 0 := by unfold room1; rw [if_neg (by omega)]
  rw [hr1] at hbt' hl'
  have hsp := enter_spec hv (gate_ok hv hg) h0 (by omega)
  have hto : row.getD g.to.toNat 0 ≤ 1073741823 := (e3 _ (List.mem_of_getElem? (getD_set' row _ 0 (by rw [hrl]; exact hN.dst g hg)))).2
  have hne : enter h g (row.getD g.from'.toNat 0) ≠ 1073741824 := by
    intro e
    rw [e] at hbt'
    unfold room1 at hbt'
    split at hbt' <;> omega
  have hfe : nextH h g (row.getD g.from'.toNat 0) = enter h g (row.getD g.from'.toNat 0) := by unfold nextH; rw [if_pos hne]
  have : impr (nextH h) row g = true := impr_iff.2 ⟨h0, by rw [hfe]; omega, by
    rw [hfe]
    unfold room1 at hbt'
    split at hbt'
    · exact .inl (by assumption)
    · exact .inr hbt'⟩
  rw [this] at hno; cases hno
def lateStep (f : Gate → Int → Int) (p : List Int × Bool) (g : Gate) : List Int × Bool :=
  if p.1.getD g.to.toNat 0 < 0 then p else if p.1.getD g.from'.toNat 0 < f g (p.1.getD g.to.toNat 0) then (p.1.set g.from'.toNat (f g (p.1.getD g.to.toNat 0)), true) else p
def lateF (f : Gate → Int → Int) (gs : List Gate) : Nat → List Int → List Int
  | 0, row => row
  | k + 1, row => if (gs.foldl (lateStep f) (row, false)).2 = true then lateF f gs k (gs.foldl (lateStep f) (row, false)).1 else (gs.foldl (lateStep f) (row, false)).1
def lateM (row : List Int) : Nat := sumN (row.map fun x => 1073741823 - x)
def late (h : House) (to : Nat) (t : Int) : List Int := lateF (depart h) (gates h) (lateM ((List.replicate h.rooms.length (-1)).set to t) + 1) ((List.replicate h.rooms.length (-1)).set to t)
theorem lateM_lt {row : List Int} {i : Nat} {x : Int} (hi : i < row.length) (hx : x ≤ 1073741823) (hb : row.getD i 0 < x) : lateM (row.set i x) < lateM row := by
  unfold lateM
  rw [List.map_set]
  exact sumN_set _ i _ (1073741823 - row.getD i 0) (by rw [List.getElem?_map, getD_set' row i 0 hi]; rfl) (by omega) (by omega)
theorem late_pass {h : House} (hv : h.V) {a : Nat} {t : Int} : ∀ (l : List Gate) (row : List Int) (ch : Bool), (∀ g ∈ l, g ∈ gates h) → RowOK (depN h) h.rooms.length a t row →
    RowOK (depN h) h.rooms.length a t (l.foldl (lateStep (depart h)) (row, ch)).1 ∧ lateM (l.foldl (lateStep (depart h)) (row, ch)).1 ≤ lateM row ∧
    (ch = true → (l.foldl (lateStep (depart h)) (row, ch)).2 = true) ∧
    (ch = false → (l.foldl (lateStep (depart h)) (row, ch)).2 = true → lateM (l.foldl (lateStep (depart h)) (row, ch)).1 < lateM row) ∧
    ((l.foldl (lateStep (depart h)) (row, ch)).2 = false → (l.foldl (lateStep (depart h)) (row, ch)).1 = row ∧ ∀ g ∈ l, 0 ≤ row.getD g.to.toNat 0 → ¬ row.getD g.from'.toNat 0 < depart h g (row.getD g.to.toNat 0))
  | [], row, ch, _, hp => ⟨hp, Nat.le_refl _, (fun h => h), (fun h h' => by rw [h] at h'; cases h'), (fun _ => ⟨rfl, fun g hg => by cases hg⟩)⟩
  | g :: l, row, ch, hl, hp => by
    have hN := depN_ok hv
    have hg := hl g (by simp)
    have hrl : row.length = h.rooms.length := hp.len
    have hs : g.to.toNat < row.length := by rw [hrl]; exact hN.src g hg
    have hd : g.from'.toNat < row.length := by rw [hrl]; exact hN.dst g hg
    simp only [List.foldl_cons]
    have hsl : (depN h).lab row ((depN h).src g) = row.getD g.to.toNat 0 := by
      show row.getD g.to.toNat (-1) = _
      rw [List.getD_eq_getElem?_getD, List.getD_eq_getElem?_getD, List.getElem?_eq_getElem hs]; rfl
    have hdl : (depN h).lab row ((depN h).dst g) = row.getD g.from'.toNat 0 := by
      show row.getD g.from'.toNat (-1) = _
      rw [List.getD_eq_getElem?_getD, List.getD_eq_getElem?_getD, List.getElem?_eq_getElem hd]; rfl
    by_cases h1 : row.getD g.to.toNat 0 < 0
    · have e : lateStep (depart h) (row, ch) g = (row, ch) := by unfold lateStep; rw [if_pos h1]
      rw [e]
      obtain ⟨i1, i2, i3, i4, i5⟩ := late_pass hv l row ch (fun x hx => hl x (by simp [hx])) hp
      refine ⟨i1, i2, i3, i4, fun hc => ⟨(i5 hc).1, fun x hx h0 => ?_⟩⟩
      rcases List.mem_cons.1 hx with rfl | hx
      · omega
      · exact (i5 hc).2 x hx h0
    · by_cases h2 : row.getD g.from'.toNat 0 < depart h g (row.getD g.to.toNat 0)
      · have e : lateStep (depart h) (row, ch) g = (row.set g.from'.toNat (depart h g (row.getD g.to.toNat 0)), true) := by unfold lateStep; rw [if_neg h1, if_pos h2]
        rw [e]
        have hx0 : row.getD g.to.toNat 0 ≤ 1073741823 := (hp.In _ (List.mem_of_getElem? (getD_set' row _ 0 hs))).2
        have hsp := depart_spec hv (gate_ok hv hg) (t := row.getD g.to.toNat 0) (by omega)
        have hput := hp.put hN hg (by rw [hsl]; show -(row.getD g.to.toNat 0) < -(-1); omega) (by
          rw [hsl, hdl]
          show -(depart h g (row.getD g.to.toNat 0)) ≤ -(row.getD g.from'.toNat 0)
          omega)
        rw [hsl] at hput
        have hm := lateM_lt (row := row) (i := g.from'.toNat) (x := depart h g (row.getD g.to.toNat 0)) hd (by omega) h2
        obtain ⟨i1, i2, i3, i4, i5⟩ := late_pass hv l (row.set g.from'.toNat (depart h g (row.getD g.to.toNat 0))) true (fun x hx => hl x (by simp [hx])) hput
        refine ⟨i1, by omega, fun _ => i3 rfl, fun _ _ => by omega, fun hc => ?_⟩
        rw [i3 rfl] at hc; cases hc
      · have e : lateStep (depart h) (row, ch) g = (row, ch) := by unfold lateStep; rw [if_neg h1, if_neg h2]
        rw [e]
        obtain ⟨i1, i2, i3, i4, i5⟩ := late_pass hv l row ch (fun x hx => hl x (by simp [hx])) hp
        refine ⟨i1, i2, i3, i4, fun hc => ⟨(i5 hc).1, fun x hx h0 => ?_⟩⟩
        rcases List.mem_cons.1 hx with rfl | hx
        · exact h2
        · exact (i5 hc).2 x hx h0
theorem lateF_is {h : House} (hv : h.V) {a : Nat} {t : Int} : ∀ (k : Nat) (row : List Int), RowOK (depN h) h.rooms.length a t row → lateM row < k →
    (lateF (depart h) (gates h) k row).length = h.rooms.length ∧ IsArr (depN h) a t ((depN h).lab (lateF (depart h) (gates h) k row))
  | 0, row, _, hk => by omega
  | k + 1, row, hp, hk => by
    have hN := depN_ok hv
    obtain ⟨i1, i2, i3, i4, i5⟩ := late_pass hv (gates h) row false (fun _ h => h) hp
    unfold lateF
    by_cases hc : ((gates h).foldl (lateStep (depart h)) (row, false)).2 = true
    · rw [if_pos hc]
      exact lateF_is hv k _ i1 (by have := i4 rfl hc; omega)
    · rw [if_neg hc]
      obtain ⟨j1, j2⟩ := i5 (by simpa using hc)
      rw [j1]
      have hrl : row.length = h.rooms.length := hp.len
      refine ⟨hrl, hp.is hN fun g hg hl hb => ?_⟩
      have hsl : (depN h).lab row ((depN h).src g) = row.getD g.to.toNat 0 := by
        show row.getD g.to.toNat (-1) = _
        rw [List.getD_eq_getElem?_getD, List.getD_eq_getElem?_getD, List.getElem?_eq_getElem (by rw [hrl]; exact hN.src g hg)]; rfl
      have hdl : (depN h).lab row ((depN h).dst g) = row.getD g.from'.toNat 0 := by
        show row.getD g.from'.toNat (-1) = _
        rw [List.getD_eq_getElem?_getD, List.getD_eq_getElem?_getD, List.getElem?_eq_getElem (by rw [hrl]; exact hN.dst g hg)]; rfl
      rw [hsl] at hl hb
      rw [hdl] at hb
      have hl' : -(row.getD g.to.toNat 0) < -(-1) := hl
      have hb' : -(depart h g (row.getD g.to.toNat 0)) < -(row.getD g.from'.toNat 0) := hb
      exact j2 g hg (by omega) (by omega)
theorem late_is {h : House} (hv : h.V) {a : Nat} (ha : a < h.rooms.length) {t : Int} (ht : 0 ≤ t ∧ t ≤ 1073741823) : late h a t = depR h a t := by
  obtain ⟨h1, h2⟩ := lateF_is hv (lateM ((List.replicate h.rooms.length (-1)).set a t) + 1) _ (rowOK_init (depN_ok hv) ha (t := t) ⟨by omega, ht.2⟩) (Nat.lt_succ_self _)
  exact dij_eq (depN_ok hv) ha ⟨by omega, ht.2⟩ h1 h2
end Go.Proofs.Hs

set_option maxHeartbeats 8000000
set_option maxRecDepth 10000
namespace Go.Proofs.Hs
open Go Go.Pg Go.Proofs Go.Proofs.Yt
theorem enter_ok (h : House) (g : Gate) (t : Int) (hv : h.V) (hg : g.OK h) (h0 : 0 ≤ t) (h1 : t ≤ 1073741824) : OKv cx 33 [.agg (eHouse h), .agg (eGate g), ai t] (ai (enter h g t)) := by
  have hb := nextAt_ge hv hg h0 h1
  have hs := hg.secs
  by_cases hdn : 0 ≤ g.door
  · have hdl := hg.door.2
    have hdv := hv.door hdn hdl
    have hdg : (h.doors.map eDoor).getD g.door.toNat [] = eDoor (h.door g.door) := getD_map eDoor h.doors _ [] ⟨[], []⟩ (by omega)
    have hn : h.nextAt g t = next (h.door g.door) t := if_pos hdn
    rw [hn] at hb
    refine OKat.of_body (rs := [6]) Tryz.func33 rfl (by decide +kernel) rfl (by simp [Tryz.ntmps33]) ?_
    simp only [Tryz.ntmps33]
    repeat' first
      | apply jA | apply jB | apply jC | apply jE | apply jI
      | ((first | (apply jK kO; decide) | apply jR); (simp (disch := omega) only [push_cast, simprocAttr, hdn, hdl, hdg] <;> rfl); all_goals try ((with_reducible intro hI); try first | (cases hI; done) | (simp only [INTS] at hI; try first | (exfalso; omega) | (have hT : True := hI; clear hT hI))))
      | ((apply jV kO; decide); (iterate 2 (simp (disch := omega) only [push_cast, simprocAttr, hdn, hdl, hdg] <;> rfl)); (with_reducible exact next_ok _ _ hdv.ok h0 h1); try first | rfl | (simp (disch := omega) only [push_cast, simprocAttr, hdn, hdl, hdg] <;> rfl))
      | ((apply W.ret1); (iterate 2 (try (simp (disch := omega) only [push_cast, simprocAttr, hdn, hdl, hdg] <;> rfl))))
    all_goals (show _ = _; unfold enter; rw [hn]; first | rw [if_pos (by omega)] | rw [if_neg (by omega)])
  · have hn : h.nextAt g t = t := if_neg hdn
    refine OKat.of_body (rs := [6]) Tryz.func33 rfl (by decide +kernel) rfl (by simp [Tryz.ntmps33]) ?_
    simp only [Tryz.ntmps33]
    repeat' first
      | apply jA | apply jB | apply jC | apply jE | apply jI
      | ((first | (apply jK kO; decide) | apply jR); (simp (disch := omega) only [push_cast, simprocAttr, hdn] <;> rfl); all_goals try ((with_reducible intro hI); try first | (cases hI; done) | (simp only [INTS] at hI; try first | (exfalso; omega) | (have hT : True := hI; clear hT hI))))
      | ((apply W.ret1); (iterate 2 (try (simp (disch := omega) only [push_cast, simprocAttr, hdn] <;> rfl))))
    all_goals (show _ = _; unfold enter; rw [hn]; first | rw [if_pos (by omega)] | rw [if_neg (by omega)])
theorem depart_ok (h : House) (g : Gate) (t : Int) (hv : h.V) (hg : g.OK h) (h0 : 0 ≤ t) (h1 : t ≤ 1073741824) : OKv cx 31 [.agg (eHouse h), .agg (eGate g), ai t] (ai (depart h g t)) := by
  have hs := hg.secs
  by_cases hdn : 0 ≤ g.door
  · have hdl := hg.door.2
    have hdv := hv.door hdn hdl
    have hdg : (h.doors.map eDoor).getD g.door.toNat [] = eDoor (h.door g.door) := getD_map eDoor h.doors _ [] ⟨[], []⟩ (by omega)
    have hn : h.lastAt g (t - g.secs) = last (h.door g.door) (t - g.secs) := if_pos hdn
    refine OKat.of_body (rs := [6]) Tryz.func31 rfl (by decide +kernel) rfl (by simp [Tryz.ntmps31]) ?_
    simp only [Tryz.ntmps31]
    repeat' first
      | apply jA | apply jB | apply jC | apply jE | apply jI
      | ((first | (apply jK kO; decide) | apply jR); (simp (disch := omega) only [push_cast, simprocAttr, hdn, hdl, hdg] <;> rfl); all_goals try ((with_reducible intro hI); try first | (cases hI; done) | (simp only [INTS] at hI; try first | (exfalso; omega) | (have hT : True := hI; clear hT hI))))
      | ((apply jV kO; decide); (iterate 2 (simp (disch := omega) only [push_cast, simprocAttr, hdn, hdl, hdg] <;> rfl)); (with_reducible exact last_ok _ _ hdv.ok (by omega) (by omega)); try first | rfl | (simp (disch := omega) only [push_cast, simprocAttr, hdn, hdl, hdg] <;> rfl))
      | ((apply W.ret1); (iterate 2 (try (simp (disch := omega) only [push_cast, simprocAttr, hdn, hdl, hdg] <;> rfl))))
    all_goals (show _ = _; unfold depart; rw [hn]; first | rw [if_pos (by omega)] | rw [if_neg (by omega)])
  · have hn : h.lastAt g (t - g.secs) = t - g.secs := if_neg hdn
    refine OKat.of_body (rs := [6]) Tryz.func31 rfl (by decide +kernel) rfl (by simp [Tryz.ntmps31]) ?_
    simp only [Tryz.ntmps31]
    repeat' first
      | apply jA | apply jB | apply jC | apply jE | apply jI
      | ((first | (apply jK kO; decide) | apply jR); (simp (disch := omega) only [push_cast, simprocAttr, hdn] <;> rfl); all_goals try ((with_reducible intro hI); try first | (cases hI; done) | (simp only [INTS] at hI; try first | (exfalso; omega) | (have hT : True := hI; clear hT hI))))
      | ((apply W.ret1); (iterate 2 (try (simp (disch := omega) only [push_cast, simprocAttr, hdn] <;> rfl))))
    all_goals (show _ = _; unfold depart; rw [hn]; first | rw [if_pos (by omega)] | rw [if_neg (by omega)])
theorem arrNext_ok (h : House) (g : Gate) (t : Int) (hv : h.V) (hg : g.OK h) (h0 : 0 ≤ t) (h1 : t ≤ 1073741824) : OKv cx 53 [.agg (eGate g), ai t, .iptr (eHouse h) 0] (ai (nextH h g t)) := by
  refine OKat.of_body (rs := [5]) Tryz.func53 rfl (by decide +kernel) rfl (by simp [Tryz.ntmps53]) ?_
  simp only [Tryz.ntmps53]
  repeat' first
    | apply jA | apply jB | apply jC | apply jE | apply jI
    | ((first | (apply jK kO; decide) | apply jR); (simp (disch := omega) only [push_cast, simprocAttr] <;> rfl); all_goals try ((with_reducible intro hI); try first | (cases hI; done) | (simp only [INTS] at hI; try first | (exfalso; omega) | (have hT : True := hI; clear hT hI))))
    | ((apply jV kO; decide); (iterate 2 (simp (disch := omega) only [push_cast, simprocAttr] <;> rfl)); (with_reducible exact enter_ok h g t hv hg h0 h1); try first | rfl | (simp (disch := omega) only [push_cast, simprocAttr] <;> rfl))
    | ((apply W.ret1); (iterate 2 (try (simp (disch := omega) only [push_cast, simprocAttr] <;> rfl))))
  all_goals (show _ = _; unfold nextH; first | rw [if_pos (by assumption)] | rw [if_neg (by simp [*])])
theorem better_ok (a b : Int) : OKv cx 54 [ai a, ai b] (ab (decide (b < 0) || decide (a < b))) := by
  refine OKat.of_body (rs := [4]) Tryz.func54 rfl (by decide +kernel) rfl (by simp [Tryz.ntmps54]) ?_
  simp only [Tryz.ntmps54]
  repeat' first
    | apply jA | apply jB | apply jC | apply jI
    | ((first | (apply jK kO; decide) | (apply jN; rfl; decide)); (simp (disch := omega) only [push_cast, simprocAttr] <;> rfl); all_goals try ((with_reducible intro hI); try first | (cases hI; done) | (simp only [INTS] at hI; try first | (exfalso; omega) | (have hT : True := hI; clear hT hI))))
    | ((apply W.ret1); (iterate 2 (try (simp (disch := omega) only [push_cast, simprocAttr] <;> rfl))))
  all_goals (show _ = _; first | (simp [*]; done) | (simp; omega))
end Go.Proofs.Hs

namespace Go.Proofs.Hs
open Go Go.Pg Go.Proofs Go.Proofs.Yt
theorem rep_step (k m : Nat) (a b : Int) : (List.replicate k a ++ List.replicate (m + 1) b).set k a = List.replicate (k + 1) a ++ List.replicate m b := by
  apply List.ext_getElem?
  intro i
  rw [List.getElem?_set]
  simp only [List.getElem?_append, List.getElem?_replicate, List.length_replicate, List.length_append]
  split
  · subst_vars; simp
  · split
    · rw [if_pos (by omega), if_pos (by omega)]
    · split
      · rw [if_neg (by omega), if_pos (by omega)]
      · rw [if_neg (by omega), if_neg (by omega)]
def fillR (n k : Nat) (a : Int) : List Int := List.replicate k a ++ List.replicate (n - k) 0
theorem fillR_len {n k : Nat} {a : Int} (h : k ≤ n) : (fillR n k a).length = n := by simp [fillR]; omega
theorem fillR_set {n k : Nat} {a : Int} (h : k < n) : (fillR n k a).set k a = fillR n (k + 1) a := by
  unfold fillR
  rw [show n - k = (n - (k + 1)) + 1 by omega, rep_step]
theorem fillR_zero (n : Nat) (a : Int) : fillR n 0 a = List.replicate n 0 := by simp [fillR]
theorem fillR_all (n : Nat) (a : Int) : fillR n n a = List.replicate n a := by simp [fillR]
theorem map_rep0 (n : Nat) : (List.replicate n (0 : Int)).map eInt = List.replicate n [ai 0] := by rw [List.map_replicate]
def latestH (h : House) (n t : Int) : List Int × Int := if roomE h n t ≠ 0 then ([], roomE h n t) else (late h n.toNat t, 0)
theorem late_step1 {h : House} (hv : h.V) {a : Nat} {t : Int} {g : Gate} (hg : g ∈ gates h) {row : List Int} (ch : Bool) (hp : Lab.RowOK (depN h) h.rooms.length a t row) : Lab.RowOK (depN h) h.rooms.length a t (lateStep (depart h) (row, ch) g).1 :=
  (late_pass hv [g] row ch (by simpa using hg) hp).1
theorem Latest_ok (h : House) (n0 t : Int) (hfit : h.Fit) : OKv cx 12 [.agg (eHouse h), ai n0, ai t] (.tup [lInt (latestH h n0 t).1, ai (latestH h n0 t).2]) := by
  by_cases he : roomE h n0 t = 0
  · obtain ⟨hc, hn, ht⟩ := roomE_zero he
    unfold timeOK at ht
    have hv := Check_V hc
    have hrn := hv.rooms
    have hgl := gates_len h
    have hwn := hv.nw
    have hL : latestH h n0 t = (late h n0.toNat t, 0) := if_neg (by simp [he])
    have hms : (h.rooms.length : Int) * 8 ≤ 281474976710656 := by omega
    have hms2 : (h.rooms.length : Int) ≤ 281474976710656 := by omega
    have hna := hn.1
    have hnb := hn.2
    have hnc : n0.toNat < h.rooms.length := by omega
    rw [hL]
    refine OKat.of_body (rs := [6, 7]) Tryz.func12 rfl (by decide +kernel) rfl (by simp [Tryz.ntmps12]) ?_
    simp only [Tryz.ntmps12]
    repeat' first
      | apply jA | apply jB | apply jD | apply jE | apply jI
      | ((first | (apply jK kO; decide) | apply jR); (simp (disch := omega) only [push_cast, simprocAttr, he, askedE_one, hms, hms2] <;> rfl); all_goals try ((with_reducible intro hI); try first | (cases hI; done) | (simp only [INTS] at hI; try first | (exfalso; omega) | (have hT : True := hI; clear hT hI))))
      | ((apply jV kO; decide); (iterate 2 (simp (disch := omega) only [push_cast, simprocAttr, he, askedE_one, hms, hms2] <;> rfl)); (with_reducible exact askedOne_ok _ _ _ hfit); try first | rfl | (simp (disch := omega) only [push_cast, simprocAttr, he, askedE_one, hms, hms2] <;> rfl))
    refine AW.loop (fun n s => ∃ (k : Nat) (row : List Int), n = h.rooms.length - k ∧ (row = fillR h.rooms.length k (-1)) ∧ (row.length = h.rooms.length) ∧ (k ≤ h.rooms.length) ∧ 4 ≤ s.nx ∧ s.tm 1 = ai n0 ∧ s.tm 2 = ai t ∧ s.tm 3 = .ptr 0 0 0 1 ∧ s.tm 9 = .ref 3 0 h.rooms.length ∧ s.tm 30 = ai h.rooms.length ∧ s.tm 31 = ai k ∧ Pg.rowAt s.H (0) = some ({ k := 3, es := [eHouse h], ty := 26 }) ∧ Pg.rowAt s.H (3) = some ({ k := 1, es := row.map eInt, ty := 3 })) (h.rooms.length) ⟨0, fillR h.rooms.length 0 (-1), rfl, rfl, (fillR_len (by omega)), (by omega), ?_, ?_, ?_, ?_, ?_, ?_, ?_, ?_, ?_⟩ ?_
    iterate 9 (first | (simp (disch := omega) only [push_cast, simprocAttr, fillR_zero, map_rep0, he, askedE_one] <;> first | rfl | omega) | omega)
    rintro n s ⟨k, row, hn, hp0, hp1, hp2, hnl, hS⟩
    have hZ : (0 : Nat) ≠ s.nx ∧ s.nx ≠ (0 : Nat) ∧ (3 : Nat) ≠ s.nx ∧ s.nx ≠ (3 : Nat) := by omega
    by_cases hk : k < h.rooms.length
    · have hk1 : (k : Int) < (h.rooms.length : Int) := by omega
      have hk2 : k < row.length := by omega
      repeat' first
        | apply jA | apply jB | apply jD | apply jE | apply jI
        | ((first | (apply jK kO; decide) | apply jM kO | apply jR); (simp (disch := omega) only [push_cast, simprocAttr, hS, hZ, hk, hk1, hk2, hp1] <;> rfl); all_goals try ((with_reducible intro hI); try first | (cases hI; done) | (simp only [INTS] at hI; try first | (exfalso; omega) | (have hT : True := hI; clear hT hI))))
      all_goals
        (have hset : row.set k (-1) = fillR h.rooms.length (k + 1) (-1) := by rw [hp0]; exact fillR_set hk
         (refine ⟨h.rooms.length - (k + 1), ?_, k + 1, row.set k (-1), rfl, hset, (by rw [List.length_set]; exact hp1), (by omega), ?_, ?_, ?_, ?_, ?_, ?_, ?_, ?_, ?_⟩; (omega); all_goals first | (simp (disch := omega) only [push_cast, simprocAttr, hS, hZ, hk, hk1, hk2, hp1] <;> first | rfl | omega) | omega))
    · have hk1 : ¬ ((k : Int) < (h.rooms.length : Int)) := by omega
      have hkn : k = h.rooms.length := by omega
      have hrow : row = List.replicate h.rooms.length (-1) := by rw [hp0, hkn, fillR_all]
      have hnd : n0.toNat < row.length := by omega
      repeat' first
        | apply jA | apply jB | apply jD | apply jF | apply jI
        | ((first | (apply jK kO; decide) | apply jM kO | apply jR); (simp (disch := omega) only [push_cast, simprocAttr, hS, hZ, hk, hk1, hna, hnb, hnd] <;> rfl); all_goals try ((with_reducible intro hI); try first | (cases hI; done) | (simp only [INTS] at hI; try first | (exfalso; omega) | (have hT : True := hI; clear hT hI))))
        | ((apply jV kO; decide); (iterate 2 (simp (disch := omega) only [push_cast, simprocAttr, hS, hZ, hk, hk1, hna, hnb, hnd] <;> rfl)); (with_reducible exact gates_ok h hfit.nw); try first | rfl | (simp (disch := omega) only [push_cast, simprocAttr, hS, hZ, hk, hk1, hna, hnb, hnd] <;> rfl))
      refine AW.loop (fun n s => ∃ (k : Nat) (row : List Int) (ch : Bool), n = (if ch = true then k else 0) ∧ (row.length = h.rooms.length) ∧ (Lab.RowOK (depN h) h.rooms.length n0.toNat t row) ∧ (ch = true → lateM row < k ∧ lateF (depart h) (gates h) k row = late h n0.toNat t) ∧ (ch = false → row = late h n0.toNat t) ∧ 4 ≤ s.nx ∧ s.tm 3 = .ptr 0 0 0 1 ∧ s.tm 9 = .ref 3 0 h.rooms.length ∧ s.tm 11 = .lst ((gates h).map eGate) ∧ s.tm 12 = ab ch ∧ Pg.rowAt s.H (0) = some ({ k := 3, es := [eHouse h], ty := 26 }) ∧ Pg.rowAt s.H (3) = some ({ k := 1, es := row.map eInt, ty := 3 })) ((lateM (row.set n0.toNat t) + 1)) ⟨(lateM (row.set n0.toNat t) + 1), row.set n0.toNat t, true, rfl, (by rw [List.length_set]; exact hp1), (by rw [hrow]; exact Lab.rowOK_init (depN_ok hv) hnc (t := t) ⟨by omega, ht.2⟩), (fun _ => ⟨Nat.lt_succ_self _, by rw [hrow]; rfl⟩), (fun hx => by cases hx), ?_, ?_, ?_, ?_, ?_, ?_, ?_⟩ ?_
      iterate 7 (first | (simp (disch := omega) only [push_cast, simprocAttr, hS, hZ, hk, hk1, hna, hnb, hnd] <;> first | rfl | omega) | omega)
      rintro n2 s2 ⟨k2, row2, ch2, hn2, hp02, hp12, hp22, hp32, hnl2, hS2⟩
      have hZ2 : (0 : Nat) ≠ s2.nx ∧ s2.nx ≠ (0 : Nat) ∧ (3 : Nat) ≠ s2.nx ∧ s2.nx ≠ (3 : Nat) := by omega
      cases ch2 with
      | false =>
        repeat' first
          | apply jA | apply jB | apply jC | apply jF | apply jI
          | ((first | (apply jK kO; decide) | apply jR); (simp (disch := omega) only [push_cast, simprocAttr, hS2, hZ2, hp02] <;> rfl); all_goals try ((with_reducible intro hI); try first | (cases hI; done) | (simp only [INTS] at hI; try first | (exfalso; omega) | (have hT : True := hI; clear hT hI))))
          | ((apply W.ret2); (iterate 2 (try (simp (disch := omega) only [push_cast, simprocAttr, hS2, hZ2, hp02] <;> rfl))))
        all_goals (show _ = _; rw [hp32 rfl])
      | true =>
        obtain ⟨hm2, hF2⟩ := hp22 rfl
        repeat' first
          | apply jA | apply jB | apply jD | apply jE | apply jI
          | ((first | (apply jK kO; decide) | apply jR); (simp (disch := omega) only [push_cast, simprocAttr, hS2, hZ2] <;> rfl); all_goals try ((with_reducible intro hI); try first | (cases hI; done) | (simp only [INTS] at hI; try first | (exfalso; omega) | (have hT : True := hI; clear hT hI))))
        refine AW.loop (fun n s => ∃ (j : Nat) (row : List Int) (ch : Bool) (rest : List Gate), n = rest.length ∧ ((gates h).drop j = rest) ∧ (row.length = h.rooms.length) ∧ (Lab.RowOK (depN h) h.rooms.length n0.toNat t row) ∧ (rest.foldl (lateStep (depart h)) (row, ch) = (gates h).foldl (lateStep (depart h)) (row2, false)) ∧ 4 ≤ s.nx ∧ s.tm 3 = .ptr 0 0 0 1 ∧ s.tm 9 = .ref 3 0 h.rooms.length ∧ s.tm 11 = .lst ((gates h).map eGate) ∧ s.tm 12 = ab ch ∧ s.tm 45 = .lst ((gates h).map eGate) ∧ s.tm 46 = ai (gates h).length ∧ s.tm 47 = ai j ∧ Pg.rowAt s.H (0) = some ({ k := 3, es := [eHouse h], ty := 26 }) ∧ Pg.rowAt s.H (3) = some ({ k := 1, es := row.map eInt, ty := 3 })) ((gates h).length) ⟨0, row2, false, _, rfl, rfl, hp02, hp12, rfl, ?_, ?_, ?_, ?_, ?_, ?_, ?_, ?_, ?_, ?_⟩ ?_
        iterate 10 (first | (simp (disch := omega) only [push_cast, simprocAttr, hS2, hZ2] <;> first | rfl | omega) | omega)
        rintro n3 s3 ⟨j3, row3, ch3, rest3, hn3, hp03, hp13, hp23, hp33, hnl3, hS3⟩
        have hZ3 : (0 : Nat) ≠ s3.nx ∧ s3.nx ≠ (0 : Nat) ∧ (3 : Nat) ≠ s3.nx ∧ s3.nx ≠ (3 : Nat) := by omega
        rcases rest3 with _ | ⟨x3, rest3⟩
        · have hk3 := drop_nil hp03
          repeat' first
            | apply jA | apply jB | apply jF | apply jI
            | ((first | (apply jK kO; decide) | apply jR); (simp (disch := omega) only [push_cast, simprocAttr, hS3, hZ3, hk3] <;> rfl); all_goals try ((with_reducible intro hI); try first | (cases hI; done) | (simp only [INTS] at hI; try first | (exfalso; omega) | (have hT : True := hI; clear hT hI))))
          all_goals
            (obtain ⟨i1, i2, i3, i4, i5⟩ := late_pass hv (gates h) row2 false (fun _ h => h) hp12
             have i4 := i4 rfl
             rw [← hp33] at i1 i4 i5
             simp only [List.foldl_nil] at i1 i4 i5
             have hk0 : k2 ≠ 0 := by omega
             obtain ⟨k', rfl⟩ : ∃ k', k2 = k' + 1 := ⟨k2 - 1, by omega⟩
             unfold lateF at hF2
             rw [← hp33] at hF2
             simp only [List.foldl_nil] at hF2
             have hmeas : (if ch3 = true then k' else 0) < n2 := by rw [hn2]; simp; split <;> omega
             (refine ⟨(if ch3 = true then k' else 0), ?_, k', row3, ch3, rfl, hp13, hp23, (fun hx => ⟨by have := i4 hx; omega, by simp only [hx, if_true] at hF2; exact hF2⟩), (fun hx => by simp only [hx, Bool.false_eq_true, if_false] at hF2; exact hF2), ?_, ?_, ?_, ?_, ?_, ?_, ?_⟩; (exact hmeas); all_goals first | (simp (disch := omega) only [push_cast, simprocAttr, hS3, hZ3] <;> first | rfl | omega) | omega))
        · obtain ⟨hk3, hg3, hd'3, hl'3, hm3, hx3⟩ := drop_cons hp03 eGate []
          have hgo := gate_ok hv hm3
          have g1 := hgo.from'.1
          have g2 := hgo.from'.2
          have g3 := hgo.to.1
          have g4 := hgo.to.2
          have g5 : x3.from'.toNat < row3.length := by omega
          have g6 : x3.to.toNat < row3.length := by omega
          have hb := hp23.In _ (List.mem_of_getElem? (getD_set' row3 x3.to.toNat 0 g6))
          have hb1 : row3.getD x3.to.toNat 0 ≤ 1073741823 := hb.2
          repeat' first
            | apply jA | apply jB | apply jD | apply jE | apply jF | apply jI
            | refine W.draw cx_mixed (by decide +kernel) ?_
            | ((first | (apply jK kO; decide) | (apply jL kO; decide; decide) | apply jM kO | apply jR); (simp (disch := omega) only [push_cast, simprocAttr, hS3, hZ3, hk3, hg3, g1, g2, g3, g4, g5, g6] <;> rfl); all_goals try ((with_reducible intro hI); try first | (cases hI; done) | (simp only [INTS] at hI; try first | (exfalso; omega) | (have hT : True := hI; clear hT hI))))
            | ((apply jW kO; decide; decide); (iterate 2 (simp (disch := omega) only [push_cast, simprocAttr, hS3, hZ3, hk3, hg3, g1, g2, g3, g4, g5, g6] <;> rfl)); (with_reducible exact depart_ok h x3 _ hv hgo (by omega) (by omega)); try first | rfl | (simp (disch := omega) only [push_cast, simprocAttr, hS3, hZ3, hk3, hg3, g1, g2, g3, g4, g5, g6] <;> rfl))
          all_goals first
            | (have hq : lateStep (depart h) (row3, ch3) x3 = (row3, ch3) := by unfold lateStep; dsimp only; rw [if_pos (by assumption)]
               (refine ⟨rest3.length, ?_, j3 + 1, row3, ch3, rest3, rfl, hd'3, (by first | exact hp13 | (rw [List.length_set]; exact hp13)), (by have := late_step1 hv hm3 ch3 hp23; rw [hq] at this; exact this), (by rw [← hp33, List.foldl_cons, hq]), ?_, ?_, ?_, ?_, ?_, ?_, ?_, ?_, ?_, ?_⟩; ((simp only [List.length_cons] at *; omega)); all_goals first | (simp (disch := omega) only [push_cast, simprocAttr, hS3, hZ3, hg3, hk3, g1, g2, g3, g4, g5, g6] <;> first | rfl | omega) | omega))
            | (have hq : lateStep (depart h) (row3, ch3) x3 = (row3.set x3.from'.toNat (depart h x3 (row3.getD x3.to.toNat 0)), true) := by unfold lateStep; dsimp only; rw [if_neg (by omega), if_pos (by omega)]
               (refine ⟨rest3.length, ?_, j3 + 1, row3.set x3.from'.toNat (depart h x3 (row3.getD x3.to.toNat 0)), true, rest3, rfl, hd'3, (by first | exact hp13 | (rw [List.length_set]; exact hp13)), (by have := late_step1 hv hm3 ch3 hp23; rw [hq] at this; exact this), (by rw [← hp33, List.foldl_cons, hq]), ?_, ?_, ?_, ?_, ?_, ?_, ?_, ?_, ?_, ?_⟩; ((simp only [List.length_cons] at *; omega)); all_goals first | (simp (disch := omega) only [push_cast, simprocAttr, hS3, hZ3, hg3, hk3, g1, g2, g3, g4, g5, g6] <;> first | rfl | omega) | omega))
            | (have hq : lateStep (depart h) (row3, ch3) x3 = (row3, ch3) := by unfold lateStep; dsimp only; rw [if_neg (by omega), if_neg (by omega)]
               (refine ⟨rest3.length, ?_, j3 + 1, row3, ch3, rest3, rfl, hd'3, (by first | exact hp13 | (rw [List.length_set]; exact hp13)), (by have := late_step1 hv hm3 ch3 hp23; rw [hq] at this; exact this), (by rw [← hp33, List.foldl_cons, hq]), ?_, ?_, ?_, ?_, ?_, ?_, ?_, ?_, ?_, ?_⟩; ((simp only [List.length_cons] at *; omega)); all_goals first | (simp (disch := omega) only [push_cast, simprocAttr, hS3, hZ3, hg3, hk3, g1, g2, g3, g4, g5, g6] <;> first | rfl | omega) | omega))
  ·
    refine OKat.of_body (rs := [6, 7]) Tryz.func12 rfl (by decide +kernel) rfl (by simp [Tryz.ntmps12]) ?_
    simp only [Tryz.ntmps12]
    repeat' first
      | apply jA | apply jB | apply jC | apply jI
      | ((first | (apply jK kO; decide) | apply jR); (simp (disch := omega) only [push_cast, simprocAttr, he, askedE_one] <;> rfl); all_goals try ((with_reducible intro hI); try first | (cases hI; done) | (simp only [INTS] at hI; try first | (exfalso; omega) | (have hT : True := hI; clear hT hI))))
      | ((apply jV kO; decide); (iterate 2 (simp (disch := omega) only [push_cast, simprocAttr, he, askedE_one] <;> rfl)); (with_reducible exact askedOne_ok _ _ _ hfit); try first | rfl | (simp (disch := omega) only [push_cast, simprocAttr, he, askedE_one] <;> rfl))
      | ((apply W.ret2); (iterate 2 (try (simp (disch := omega) only [push_cast, simprocAttr, he, askedE_one] <;> rfl))))
    all_goals (show _ = _; unfold latestH; rw [if_pos he]; rfl)
end Go.Proofs.Hs
