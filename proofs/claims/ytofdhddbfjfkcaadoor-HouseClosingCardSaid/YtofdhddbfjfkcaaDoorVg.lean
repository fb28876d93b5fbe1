/-
  Contracts of functions, proved by going through their code. No conditions.
-/
import Derived.Test.YtofdhddbfjfkcaaDoorHe
import Derived.Test.YtofdhddbfjfkcaaDoorHf
import Derived.Test.YtofdhddbfjfkcaaDoorVd
set_option maxHeartbeats 8000000
set_option linter.unusedSimpArgs false
set_option linter.unusedVariables false
set_option maxRecDepth 10000
namespace Go.Proofs.Hs
open Go Go.Pg Go.Proofs

/-! What a door that is shut in a span, too, is: plain. -/
theorem shutH_spec (most : Int) : ∀ (l : List Span) (s : Span), 0 ≤ s.lo ∧ s.lo ≤ s.hi ∧ s.hi ≤ most → Ord most l →
    Ord most (shutH l s false) ∧ (∀ n, (∃ x ∈ shutH l s false, x.lo ≤ n ∧ n ≤ x.hi) ↔ (s.lo ≤ n ∧ n ≤ s.hi) ∨ ∃ x ∈ l, x.lo ≤ n ∧ n ≤ x.hi) ∧
    (∀ b, b ≤ s.lo → (∀ x ∈ l, b ≤ x.lo) → ∀ y ∈ shutH l s false, b ≤ y.lo)
  | [], s, hs, _ => by
    simp only [shutH, Bool.false_eq_true, if_false]
    refine ⟨⟨?_, List.pairwise_singleton _ _⟩, fun n => by simp, fun b hb _ y hy => ?_⟩
    · intro x hx; rw [List.mem_singleton.1 hx]; exact hs
    · rw [List.mem_singleton.1 hy]; exact hb
  | x :: rest, s, hs, ho => by
    have hx := ho.1 x (by simp)
    have hp := List.pairwise_cons.1 ho.2
    have hor : Ord most rest := ⟨fun y hy => ho.1 y (by simp [hy]), hp.2⟩
    unfold shutH
    by_cases h1 : x = s
    · rw [if_pos h1, shutH_true rest s hs.2.1 (fun y hy => ⟨(hor.1 y hy).2.1, by have := hp.1 y hy; rw [h1] at this; omega⟩)]
      refine ⟨ho, fun n => ⟨fun h => .inr h, fun h => ?_⟩, fun b hb hl => hl⟩
      rcases h with h | h
      · exact ⟨x, by simp, by rw [h1]; exact h⟩
      · exact h
    · rw [if_neg h1]
      by_cases h2 : x.hi + 1 < s.lo
      · rw [if_pos h2]
        obtain ⟨i1, i2, i3⟩ := shutH_spec most rest s hs hor
        refine ⟨⟨fun y hy => ?_, List.pairwise_cons.2 ⟨fun y hy => i3 (x.hi + 2) (by omega) (fun z hz => hp.1 z hz) y hy, i1.2⟩⟩, fun n => ?_, fun b hb hl y hy => ?_⟩
        · rcases List.mem_cons.1 hy with rfl | hy
          · exact hx
          · exact i1.1 y hy
        · have := i2 n
          simp only [List.mem_cons, exists_eq_or_imp, this]
          constructor <;> (rintro (h | h | h) <;> simp_all)
        · rcases List.mem_cons.1 hy with rfl | hy
          · exact hl _ (by simp)
          · exact i3 b hb (fun z hz => hl z (by simp [hz])) y hy
      · rw [if_neg h2]
        by_cases h3 : s.hi + 1 < x.lo
        · rw [if_pos h3, if_neg (by decide), shutH_true rest s hs.2.1 (fun y hy => ⟨(hor.1 y hy).2.1, by have := hp.1 y hy; omega⟩)]
          refine ⟨⟨fun y hy => ?_, List.pairwise_cons.2 ⟨fun y hy => ?_, ho.2⟩⟩, fun n => ?_, fun b hb hl y hy => ?_⟩
          · rcases List.mem_cons.1 hy with rfl | hy
            · exact hs
            · exact ho.1 y hy
          · rcases List.mem_cons.1 hy with rfl | hy
            · omega
            · have := hp.1 y hy; omega
          · simp only [List.mem_cons, or_and_right, exists_or, exists_eq_left]
          · rcases List.mem_cons.1 hy with rfl | hy
            · exact hb
            · exact hl y hy
        · rw [if_neg h3]
          obtain ⟨i1, i2, i3⟩ := shutH_spec most rest (mergeS s x) (by simp only [mergeS]; omega) hor
          refine ⟨i1, fun n => ?_, fun b hb hl y hy => i3 b (by have := hl x (by simp); simp only [mergeS]; omega) (fun z hz => hl z (by simp [hz])) y hy⟩
          rw [i2 n]
          simp only [List.mem_cons, or_and_right, exists_or, exists_eq_left]
          rw [← or_assoc]
          have hm : ((mergeS s x).lo ≤ n ∧ n ≤ (mergeS s x).hi) ↔ ((s.lo ≤ n ∧ n ≤ s.hi) ∨ (x.lo ≤ n ∧ n ≤ x.hi)) := by simp only [mergeS]; omega
          rw [hm]

theorem shut_inS {most : Int} {l : List Span} {s : Span} (hs : 0 ≤ s.lo ∧ s.lo ≤ s.hi ∧ s.hi ≤ most) (ho : Ord most l) (n : Int) : inS (shutH l s false) n = true ↔ (s.lo ≤ n ∧ n ≤ s.hi) ∨ inS l n = true := by
  rw [inS_iff, inS_iff]; exact (shutH_spec most l s hs ho).2.1 n

/-! ## The house whose door is shut, too -/
theorem chkD_all : ∀ (l : List Door) (i : Nat), chkD i l = none ↔ ∀ d ∈ l, orderly d.hours 86399 = true ∧ orderly d.shut 1073741823 = true
  | [], i => by simp [chkD]
  | d :: l, i => by
    unfold chkD
    split
    · rename_i h; rw [chkD_all l (i + 1)]
      constructor
      · intro hh x hx
        rcases List.mem_cons.1 hx with rfl | hx
        · exact h
        · exact hh x hx
      · exact fun hh x hx => hh x (by simp [hx])
    · rename_i h
      constructor
      · intro hh; cases hh
      · intro hh; exact absurd (hh d (by simp)) h
theorem Check_set {h : House} (hc : (Check h).1 = 0) {i : Nat} {d' : Door} (hd : orderly d'.hours 86399 = true ∧ orderly d'.shut 1073741823 = true) : (Check ⟨h.rooms, h.doors.set i d', h.ways⟩).1 = 0 := by
  unfold Check at hc ⊢
  simp only [List.length_set]
  split at hc
  · cases hc
  · rename_i c1
    rw [if_neg c1]
    split at hc
    · cases hc
    · rename_i c2
      rw [if_neg c2]
      unfold chk1 at hc ⊢
      split at hc
      · rename_i e he; exact absurd hc (chkR_ne0 _ _ _ _ he)
      · rename_i c3
        simp only [c3]
        unfold chk2 at hc ⊢
        split at hc
        · rename_i e he; exact absurd hc (chkD_ne0 _ _ _ he)
        · rename_i c4
          have c5 : chkD 0 (h.doors.set i d') = none := (chkD_all _ _).2 fun d hdm => by
            rcases List.mem_or_eq_of_mem_set hdm with h1 | h1
            · exact (chkD_all _ _).1 c4 d h1
            · rw [h1]; exact hd
          simp only [c5]
          unfold chk3 at hc ⊢
          simp only [List.length_set]
          exact hc

structure Shutter (h n : House) : Prop where
  rooms : n.rooms = h.rooms
  ways : n.ways = h.ways
  len : n.doors.length = h.doors.length
  less : ∀ (k u : Int), openR (n.door k) u = true → openR (h.door k) u = true
theorem shut_is {h : House} {k : Int} {s : Span} (he : (shutDoor h k s).2 = 0) : (Check h).1 = 0 ∧ (0 ≤ k ∧ k < (h.doors.length : Int)) ∧ (0 ≤ s.lo ∧ s.lo ≤ s.hi ∧ s.hi ≤ 1073741823) ∧
    (Check (shutDoor h k s).1).1 = 0 ∧ Shutter h (shutDoor h k s).1 ∧ ∀ u, openR ((shutDoor h k s).1.door k) u = (openR (h.door k) u && !(decide (s.lo ≤ u) && decide (u ≤ s.hi))) := by
  unfold shutDoor at he ⊢
  by_cases h1 : doorE h k [] ≠ 0
  · rw [if_pos h1] at he; exact absurd he h1
  · rw [if_neg h1] at he ⊢
    by_cases h2 : s.hi < s.lo ∨ timeB s.lo = false ∨ timeB s.hi = false
    · rw [if_pos h2] at he; exact absurd he (by decide)
    · rw [if_neg h2] at he ⊢
      by_cases h3 : 8 < (shutH (h.door k).shut s false).length
      · rw [if_pos h3] at he; exact absurd he (by decide)
      · rw [if_neg h3]
        obtain ⟨hc, hk, _⟩ := doorE_zero (h := h) (n := k) (ts := []) (by simpa using h1)
        have hs : 0 ≤ s.lo ∧ s.lo ≤ s.hi ∧ s.hi ≤ 1073741823 := by
          simp only [timeB, not_or, Bool.and_eq_false_iff, decide_eq_false_iff_not] at h2; omega
        have hv := Check_V hc
        have hd := hv.door hk.1 hk.2
        obtain ⟨ho, hin, _⟩ := shutH_spec 1073741823 _ s hs hd.shut.2
        have hkk : h.door (k.toNat : Nat) = h.door k := by rw [show ((k.toNat : Nat) : Int) = k by omega]
        have hdo : ∀ j : Int, (⟨h.rooms, setDoor h k.toNat (shutH (h.door k).shut s false), h.ways⟩ : House).door j = if j.toNat = k.toNat then ⟨(h.door k).hours, shutH (h.door k).shut s false⟩ else h.door j := fun j => by
          rw [setDoor, hkk]
          unfold House.door
          simp only [List.getD_eq_getElem?_getD, List.getElem?_set]
          have : k.toNat < h.doors.length := by omega
          by_cases hj : k.toNat = j.toNat
          · rw [if_pos hj, if_pos hj.symm, if_pos this]; rfl
          · rw [if_neg hj, if_neg (fun e => hj e.symm)]
        have hop : ∀ u, openR ⟨(h.door k).hours, shutH (h.door k).shut s false⟩ u = (openR (h.door k) u && !(decide (s.lo ≤ u) && decide (u ≤ s.hi))) := fun u => by
          have := shut_inS hs hd.shut.2 u
          unfold openR
          rw [Bool.eq_iff_iff]
          simp only [Bool.and_eq_true, Bool.not_eq_true', Bool.and_eq_false_iff, decide_eq_false_iff_not]
          rw [← Bool.not_eq_true, this, ← Bool.not_eq_true]
          by_cases ha : s.lo ≤ u <;> by_cases hb : u ≤ s.hi <;> simp [ha, hb]
        refine ⟨hc, hk, hs, Check_set hc ⟨(orderly_iff (by decide)).2 ?_, (orderly_iff (by decide)).2 ⟨by simp only []; omega, ho⟩⟩, ⟨rfl, rfl, by simp [setDoor], fun j u => ?_⟩, fun u => ?_⟩
        · rw [hkk]; exact hd.hours
        · rw [hdo j]
          split
          · rename_i hj
            rw [hop u, Bool.and_eq_true]
            have : h.door j = h.door k := by simp only [House.door, hj]
            rw [this]; exact fun h => h.1
          · exact id
        · rw [hdo k, if_pos rfl]; exact hop u

section
variable {h n : House} (hv : h.V) (nv : n.V) (hs : Shutter h n)
include hs
theorem Shutter.gates : gates n = gates h := by unfold Hs.gates; rw [hs.ways]
theorem Shutter.ok {g : Gate} (hg : g.OK h) : g.OK n := ⟨by rw [hs.rooms]; exact hg.from', by rw [hs.rooms]; exact hg.to, hg.secs, by rw [hs.len]; exact hg.door⟩
include hv nv
theorem Shutter.next {g : Gate} (hg : g.OK h) {t : Int} (h0 : 0 ≤ t) (h1 : t ≤ 1073741824) : h.nextAt g t ≤ n.nextAt g t := by
  unfold House.nextAt
  split
  · rename_i hd
    have a := next_is (hv.door hd hg.door.2) h0 h1
    have b := next_is (nv.door hd (by rw [hs.len]; exact hg.door.2)) h0 h1
    rcases (by omega : Hs.next (n.door g.door) t < Hs.next (h.door g.door) t ∨ Hs.next (h.door g.door) t ≤ Hs.next (n.door g.door) t) with hl | hl
    · rcases b.at' with e | ⟨e1, e2⟩
      · rcases a.at' with f | ⟨f, _⟩ <;> omega
      · exact absurd (hs.less _ _ e2) (a.no _ b.ge hl e1)
    · exact hl
  · omega
theorem Shutter.last {g : Gate} (hg : g.OK h) {t : Int} (h0 : -1 ≤ t) : n.lastAt g t ≤ h.lastAt g t := by
  unfold House.lastAt
  split
  · rename_i hd
    have a := last_is (hv.door hd hg.door.2) h0
    have b := last_is (nv.door hd (by rw [hs.len]; exact hg.door.2)) h0
    rcases (by omega : Hs.last (h.door g.door) t < Hs.last (n.door g.door) t ∨ Hs.last (n.door g.door) t ≤ Hs.last (h.door g.door) t) with hl | hl
    · rcases b.at' with e | ⟨e1, e2⟩
      · rcases a.at' with f | ⟨f, _⟩ <;> omega
      · exact absurd (hs.less _ _ e2) (a.no _ b.le hl e1)
    · exact hl
  · omega
theorem Shutter.enter {g : Gate} (hg : g.OK h) {t : Int} (h0 : 0 ≤ t) (h1 : t ≤ 1073741824) : Hs.enter h g t ≤ Hs.enter n g t := by
  have := hs.next hv nv hg h0 h1
  unfold Hs.enter
  split <;> split <;> omega
theorem Shutter.depart {g : Gate} (hg : g.OK h) {t : Int} (h0 : 0 ≤ t) : Hs.depart n g t ≤ Hs.depart h g t := by
  unfold Hs.depart
  split
  · omega
  · exact hs.last hv nv hg (by omega)
open Lab in
theorem Shutter.arr {a : Nat} {t : Int} (ha : a < h.rooms.length) (ht : 0 ≤ t ∧ t ≤ 1073741824) (r : Nat) : (arrN h).lab (arrR h a t) r ≤ (arrN n).lab (arrR n a t) r := by
  obtain ⟨l1, h1⟩ := arrR_is hv ha ht
  obtain ⟨l2, h2⟩ := arrR_is nv (a := a) (by rw [hs.rooms]; exact ha) ht
  refine h2.most (arrN_ok nv) (M := (arrN h).lab (arrR h a t)) ⟨h1.closed.In, fun g hg hl => ?_⟩ h1.start r
  have hg' : g ∈ Hs.gates h := by rw [← hs.gates]; exact hg
  have hgo := gate_ok hv hg'
  have h3 := h1.closed.rel g hg' hl
  have h4 := h1.closed.In g.from'.toNat
  exact Int.le_trans h3 (hs.enter hv nv hgo h4.1 h4.2)
open Lab in
theorem Shutter.dep {a : Nat} {t : Int} (ha : a < h.rooms.length) (ht : -1 ≤ t ∧ t ≤ 1073741823) (r : Nat) : (depN n).lab (depR n a t) r ≤ (depN h).lab (depR h a t) r := by
  obtain ⟨l1, h1⟩ := depR_is hv ha ht
  obtain ⟨l2, h2⟩ := depR_is nv (a := a) (by rw [hs.rooms]; exact ha) ht
  have h5 := h2.most (depN_ok nv) (M := (depN h).lab (depR h a t)) ⟨h1.closed.In, fun g hg hl => ?_⟩ h1.start r
  · exact Int.le_of_neg_le_neg h5
  · have hg' : g ∈ Hs.gates h := by rw [← hs.gates]; exact hg
    have hgo := gate_ok hv hg'
    have h3 := h1.closed.rel g hg' hl
    have h4 := h1.closed.In g.to.toNat
    have hl' : -((depN h).lab (depR h a t) g.to.toNat) < -(-1) := hl
    have h6 : 0 ≤ (depN h).lab (depR h a t) g.to.toNat := by omega
    exact Int.le_trans h3 (Int.neg_le_neg (hs.depart hv nv hgo h6))
open Lab in
theorem Shutter.wall {a ta b tb : Int} {l : List Int} (ha : 0 ≤ a ∧ a < (h.rooms.length : Int)) (hb : 0 ≤ b ∧ b < (h.rooms.length : Int)) (hw : isWall h a ta b tb l = true) : isWall n a ta b tb l = true := by
  obtain ⟨h1, h2, h3, h4⟩ := (isWall_iff hv ha hb).1 hw
  refine (isWall_iff nv (by rw [hs.rooms]; exact ha) (by rw [hs.rooms]; exact hb)).2 ⟨by rw [hs.rooms]; exact h1, ⟨h2.In, fun g hg hl => ?_⟩, h3, h4⟩
  have hg' : g ∈ Hs.gates h := by rw [← hs.gates]; exact hg
  have hgo := gate_ok hv hg'
  have h5 := h2.rel g hg' hl
  have h6 := h2.In g.from'.toNat
  exact Int.le_trans h5 (hs.enter hv nv hgo h6.1 h6.2)
end
end Go.Proofs.Hs
