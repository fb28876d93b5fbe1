/-
  Contracts of functions, proved by going through their code. No conditions.
-/
import Derived.Test.YtdlflcambboojaaVaa
import Derived.Test.YtdlflcambboojaaVap
import Derived.Test.YtdlflcambboojaaVar
set_option linter.unusedVariables false
set_option linter.unusedSimpArgs false
set_option maxHeartbeats 8000000
set_option maxRecDepth 10000
namespace Go.Proofs.Ks
open Go Go.Pg Go.Proofs
attribute [push_cast] rowAt_mask
def Rows (H : Nat → Option AO) (n : Nat) (o : Mx) : Prop := ∀ x, x < n → Pg.rowAt H (1 + x) = some { k := 1, es := (o.getD x []).map eInt, ty := 3 }
theorem Rows.upd {H : Nat → Option AO} {n : Nat} {o : Mx} {id : Nat} {a : AO} (h : Rows H n o) (hid : id = 0 ∨ n < id) : Rows (updH H id a) n o := fun x hx => by
  have := h x hx
  unfold Pg.rowAt updH
  rw [if_neg (by omega)]; exact this
theorem Rows.set {H : Nat → Option AO} {n i k : Nat} {o : Mx} {v : Int} (h : Rows H n o) (hi : i < o.length) : Rows (updH H (1 + i) (.row { k := 1, es := ((o.getD i []).map eInt).set k [ai v], ty := 3 })) n (mset o i k v) := fun x hx => by
  by_cases e : x = i
  · subst e
    have e1 : (mset o x k v).getD x [] = (o.getD x []).set k v := by
      unfold mset; rw [List.getD_eq_getElem?_getD, List.getElem?_set]; simp [hi]
    rw [e1, List.map_set]
    unfold Pg.rowAt updH; simp
  · have e1 : (mset o i k v).getD x [] = o.getD x [] := by
      unfold mset; rw [List.getD_eq_getElem?_getD, List.getElem?_set, if_neg (fun h => e h.symm), ← List.getD_eq_getElem?_getD]
    rw [e1]
    have := h x hx
    unfold Pg.rowAt updH
    rw [if_neg (by omega)]; exact this
theorem Rows.succ {H : Nat → Option AO} {k : Nat} {o : Mx} (h : Rows H k o) (hk : Pg.rowAt H (1 + k) = some { k := 1, es := (o.getD k []).map eInt, ty := 3 }) : Rows H (k + 1) o := fun x hx => by
  by_cases e : x = k
  · subst e; exact hk
  · exact h x (by omega)
end Go.Proofs.Ks

namespace Go.Proofs.Ks
structure LkOK (n : Nat) (l : Lk) : Prop where
  a : l.a < n
  b : l.b < n
  m : -1073741823 ≤ l.m ∧ l.m ≤ 1073741823
  ne : l.a ≠ l.b
theorem at_mark_ge {r : Rec} {more : List Int} {p : Int} (h : p ∈ marksR r more) : (3 + r.strikes.length : Int) ≤ atI 4 p 0 (nodesR r more) ∧ atI 4 p 0 (nodesR r more) < ((nodesR r more).length : Int) := by
  obtain ⟨h1, h2⟩ := at_mark h
  refine ⟨?_, h2⟩
  have e : atI 4 p 0 (nodesR r more) = atI 4 p (0 + (nd0 ++ ndS r.strikes.length).length) (ndM (marksR r more)) := by
    unfold nodesR
    refine atI_append 4 p _ _ 0 fun x hx => ?_
    rintro ⟨h3, _⟩
    rcases List.mem_append.1 hx with hx | hx
    · unfold nd0 at hx
      simp only [List.mem_cons, List.not_mem_nil, or_false] at hx
      rcases hx with rfl | rfl | rfl <;> simp at h3
    · unfold ndS at hx
      obtain ⟨i, _, rfl⟩ := List.mem_map.1 hx
      simp at h3
  rw [e] at h1 ⊢
  rcases atI_case 4 p (ndM (marksR r more)) (0 + (nd0 ++ ndS r.strikes.length).length) with ⟨h3, _⟩ | ⟨i, _, h3, _⟩
  · rw [h3] at h1; exact absurd h1 (by decide)
  · rw [h3, List.length_append, nd0_len, ndS_len]; omega
theorem bothL_ok {n k : Nat} {x : Span} (h0 : 0 < k) (hk : k < n) (hx : 0 ≤ x.lo ∧ x.lo ≤ x.hi ∧ x.hi ≤ 1073741823) : ∀ l ∈ bothL k x, LkOK n l := by
  intro l hl
  unfold bothL at hl
  simp only [List.mem_cons, List.not_mem_nil, or_false] at hl
  rcases hl with rfl | rfl
  · exact ⟨by dsimp only; omega, hk, by dsimp only; omega, by dsimp only; omega⟩
  · exact ⟨hk, by dsimp only; omega, by dsimp only; omega, by dsimp only; omega⟩
theorem needleL_ok {r : Rec} {more : List Int} {k : Nat} {x : Span} (hk : k < 3 + r.strikes.length) (h1 : x.lo ∈ marksR r more) (h2 : x.hi + 1 ∈ marksR r more) : ∀ l ∈ needleL (nodesR r more) k x, LkOK (nodesR r more).length l := by
  intro l hl
  obtain ⟨a1, a2⟩ := at_mark_ge h1
  obtain ⟨b1, b2⟩ := at_mark_ge h2
  unfold needleL at hl
  simp only [List.mem_cons, List.not_mem_nil, or_false] at hl
  rcases hl with rfl | rfl
  · exact ⟨by dsimp only; omega, by dsimp only; omega, by dsimp only; omega, by dsimp only; omega⟩
  · exact ⟨by dsimp only; omega, by dsimp only; omega, by dsimp only; omega, by dsimp only; omega⟩
theorem pairL_ok {s : Session} (hs : s.R) {n i : Nat} {x : Int} (hx : 0 ≤ x) : ∀ (l : List Int) (k : Nat), i < k → k + l.length ≤ n → (∀ y ∈ l, x ≤ y ∧ y ≤ 43200) → (∀ z ∈ pairL s i x k l, LkOK n z) ∧ (pairL s i x k l).length = 2 * l.length
  | [], k, _, _, _ => ⟨fun z hz => by simp [pairL] at hz, rfl⟩
  | y :: l, k, hik, hkn, hy => by
    obtain ⟨y1, y2⟩ := hy y (by simp)
    obtain ⟨b1, b2, b3, b4⟩ := leastR_bound s x y hs hx y1 y2
    simp only [List.length_cons] at hkn
    obtain ⟨h1, h2⟩ := pairL_ok hs (n := n) (i := i) hx l (k + 1) (by omega) (by omega) (fun z hz => hy z (by simp [hz]))
    refine ⟨fun z hz => ?_, by simp only [pairL, List.length_cons, h2]; omega⟩
    simp only [pairL, List.mem_cons] at hz
    rcases hz with rfl | rfl | hz
    · exact ⟨by dsimp only; omega, by dsimp only; omega, by dsimp only; omega, by dsimp only; omega⟩
    · exact ⟨by dsimp only; omega, by dsimp only; omega, by dsimp only; omega, by dsimp only; omega⟩
    · exact h1 z hz
theorem pairsL_ok {s : Session} (hs : s.R) {n : Nat} : ∀ (l : List Int) (i : Nat), i + l.length ≤ n → l.Pairwise (· < ·) → (∀ y ∈ l, 0 ≤ y ∧ y ≤ 43200) → (∀ z ∈ pairsL s i l, LkOK n z) ∧ (pairsL s i l).length ≤ 2 * l.length * l.length
  | [], i, _, _, _ => ⟨fun z hz => by simp [pairsL] at hz, by simp [pairsL]⟩
  | x :: l, i, hin, hp, hy => by
    obtain ⟨p1, p2⟩ := List.pairwise_cons.1 hp
    obtain ⟨x1, x2⟩ := hy x (by simp)
    simp only [List.length_cons] at hin
    obtain ⟨h1, h2⟩ := pairL_ok hs (n := n) (i := i) x1 l (i + 1) (by omega) (by omega) (fun y h => ⟨Int.le_of_lt (p1 y h), (hy y (by simp [h])).2⟩)
    obtain ⟨g1, g2⟩ := pairsL_ok hs (n := n) l (i + 1) (by omega) p2 (fun y h => hy y (by simp [h]))
    refine ⟨fun z hz => ?_, ?_⟩
    · simp only [pairsL, List.mem_append] at hz
      rcases hz with hz | hz
      · exact h1 z hz
      · exact g1 z hz
    · simp only [pairsL, List.length_append, List.length_cons, h2]
      have : 2 * (l.length + 1) * (l.length + 1) = 2 * l.length * l.length + 4 * l.length + 2 := by
        simp only [Nat.mul_add, Nat.add_mul]; omega
      omega
theorem sgL_ok {r : Rec} (hv : r.V) {n : Nat} (hn : 3 + r.strikes.length ≤ n) : ∀ l : List Sight, (∀ x ∈ l, x ∈ r.sights) → (∀ z ∈ sgL r l, LkOK n z) ∧ (sgL r l).length = 2 * l.length
  | [], _ => ⟨fun z hz => by simp [sgL] at hz, rfl⟩
  | x :: l, h => by
    obtain ⟨h1, h2⟩ := sgL_ok hv hn l (fun y hy => h y (by simp [hy]))
    have hx := hv.sights x (h x (by simp))
    obtain ⟨i1, i2⟩ := strikeI_lt (n := x.strike) (l := r.strikes) (k := r.strikes.length) (by rw [List.take_length]; exact hx.2.2.2)
    have hb := bothL_ok (n := n) (k := (3 + strikeI x.strike 0 r.strikes).toNat) (x := x.seen) (by omega) (by omega) ⟨hx.1, hx.2.1, hx.2.2.1⟩
    refine ⟨fun z hz => ?_, by simp only [sgL, List.length_append, bothL_len, h2, List.length_cons]; omega⟩
    simp only [sgL, List.mem_append] at hz
    rcases hz with hz | hz
    · exact hb z hz
    · exact h1 z hz
theorem rwL_ok {S n : Nat} (hn : 3 + S ≤ n) : ∀ (c i : Nat), i + c = S + 1 → (∀ z ∈ rwL S c i, LkOK n z) ∧ (rwL S c i).length = c
  | 0, i, _ => ⟨fun z hz => by simp [rwL] at hz, rfl⟩
  | c + 1, i, h => by
    obtain ⟨h1, h2⟩ := rwL_ok hn c (i + 1) (by omega)
    refine ⟨fun z hz => ?_, by simp [rwL, h2]⟩
    simp only [rwL, List.mem_cons] at hz
    rcases hz with rfl | hz
    · unfold rowK
      refine ⟨?_, ?_, by dsimp only; omega, ?_⟩ <;> dsimp only <;> (try split) <;> (try split) <;> omega
    · exact h1 z hz
theorem ndL_ok {r : Rec} {more : List Int} : ∀ (l : List Strike) (i : Nat), i + l.length ≤ r.strikes.length → (∀ x ∈ l, x ∈ r.strikes) → (∀ z ∈ ndL (nodesR r more) i l, LkOK (nodesR r more).length z) ∧ (ndL (nodesR r more) i l).length = 2 * l.length
  | [], _, _, _ => ⟨fun z hz => by simp [ndL] at hz, rfl⟩
  | x :: l, i, hi, h => by
    simp only [List.length_cons] at hi
    obtain ⟨h1, h2⟩ := ndL_ok (more := more) l (i + 1) (by omega) (fun y hy => h y (by simp [hy]))
    have hx := h x (by simp)
    have hb := needleL_ok (r := r) (more := more) (k := 3 + i) (x := x.pos) (by omega) (marksR_mem.2 (.inr (.inl ⟨x, hx, .inl rfl⟩))) (marksR_mem.2 (.inr (.inl ⟨x, hx, .inr rfl⟩)))
    refine ⟨fun z hz => ?_, by simp only [ndL, List.length_append, needleL_len, h2, List.length_cons]; omega⟩
    simp only [ndL, List.mem_append] at hz
    rcases hz with hz | hz
    · exact hb z hz
    · exact h1 z hz
theorem linksR_ok {r : Rec} (hv : r.V) {more : List Int} (hml : more.length ≤ 8) (hmb : ∀ a ∈ more, 0 ≤ a ∧ a ≤ 43200) : (∀ l ∈ linksR r more, LkOK (nodesR r more).length l) ∧ (linksR r more).length ≤ 10000 ∧ (nodesR r more).length ≤ 100 := by
  have hnl := nodesR_len r more
  have hmk := marksR_len r more
  have hns := hv.nstrikes
  have hng := hv.nsights
  have h3 : 3 + r.strikes.length ≤ (nodesR r more).length := by omega
  have hm := fun p => marksR_mem (r := r) (more := more) (a := p)
  have b1 := bothL_ok (n := (nodesR r more).length) (k := 1) (x := r.s.inn) (by omega) (by omega) hv.inn
  have b2 := bothL_ok (n := (nodesR r more).length) (k := 2) (x := r.s.out) (by omega) (by omega) hv.out
  obtain ⟨s1, s2⟩ := sgL_ok hv h3 r.sights (fun _ h => h)
  obtain ⟨w1, w2⟩ := rwL_ok h3 (r.strikes.length + 1) 0 (by omega)
  have d1 := needleL_ok (r := r) (more := more) (k := 1) (x := r.s.zero) (by omega) ((hm _).2 (.inl (.inl rfl))) ((hm _).2 (.inl (.inr (.inl rfl))))
  have d2 := needleL_ok (r := r) (more := more) (k := 2) (x := r.s.fin) (by omega) ((hm _).2 (.inl (.inr (.inr (.inl rfl))))) ((hm _).2 (.inl (.inr (.inr (.inr rfl)))))
  obtain ⟨n1, n2⟩ := ndL_ok (r := r) (more := more) r.strikes 0 (by omega) (fun _ h => h)
  obtain ⟨p1, p2⟩ := pairsL_ok hv.r (n := (nodesR r more).length) (marksR r more) (3 + r.strikes.length) (by omega) (marksR_sorted r more) (fun y h => marksR_bound hv hmb h)
  have hp : 2 * (marksR r more).length * (marksR r more).length ≤ 2 * 36 * 36 := Nat.mul_le_mul (by omega) (by omega)
  refine ⟨fun l hl => ?_, ?_, by omega⟩
  · unfold linksR at hl
    simp only [List.mem_append] at hl
    rcases hl with h | h | h | h | h | h | h | h
    · exact b1 l h
    · exact b2 l h
    · exact s1 l h
    · exact w1 l h
    · exact d1 l h
    · exact n1 l h
    · exact d2 l h
    · exact p1 l h
  · unfold linksR
    simp only [List.length_append, bothL_len, needleL_len, s2, w2, n2]
    omega
end Go.Proofs.Ks
