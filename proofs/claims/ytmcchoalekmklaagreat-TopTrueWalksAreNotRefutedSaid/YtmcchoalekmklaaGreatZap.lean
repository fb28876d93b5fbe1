/-
  Contracts of functions, proved by going through their code. No conditions.
-/
import Derived.Lib.SlicesCompact
import Derived.Test.YtmcchoalekmklaaGreatZaj
import Derived.Test.YtmcchoalekmklaaGreatZao
set_option linter.unusedVariables false
set_option linter.unusedSimpArgs false
namespace Go.Proofs.Ks
structure LkOK (n : Nat) (l : Lk) : Prop where
  a : l.a < n
  b : l.b < n
  m : -1073741823 ≤ l.m ∧ l.m ≤ 1073741823
  ne : l.a ≠ l.b
theorem at_mark_ge {r : Rec} {more : List Int} {p : Int} (h : p ∈ marksR r more) : (3 + r.strikes.length : Int) ≤ atI 4 p 0 (nodesR r more) ∧ atI 4 p 0 (nodesR r more) < ((nodesR r more).length : Int) := by
  obtain ⟨h1, h2⟩ := at_mark h
  refine ⟨?_, h2⟩
  have e : atI 4 p 0 (nodesR r more) = atI 4 p (0 + (nd0 ++ ndS r.strikes.length).length) (ndM (marksR r more)) := by
    unfold nodesR
    refine atI_append 4 p _ _ 0 fun x hx => ?_
    rintro ⟨h3, _⟩
    rcases List.mem_append.1 hx with hx | hx
    · unfold nd0 at hx
      simp only [List.mem_cons, List.not_mem_nil, or_false] at hx
      rcases hx with rfl | rfl | rfl <;> simp at h3
    · unfold ndS at hx
      obtain ⟨i, _, rfl⟩ := List.mem_map.1 hx
      simp at h3
  rw [e] at h1 ⊢
  rcases atI_case 4 p (ndM (marksR r more)) (0 + (nd0 ++ ndS r.strikes.length).length) with ⟨h3, _⟩ | ⟨i, _, h3, _⟩
  · rw [h3] at h1; exact absurd h1 (by decide)
  · rw [h3, List.length_append, nd0_len, ndS_len]; omega
theorem bothL_ok {n k : Nat} {x : Span} (h0 : 0 < k) (hk : k < n) (hx : 0 ≤ x.lo ∧ x.lo ≤ x.hi ∧ x.hi ≤ 1073741823) : ∀ l ∈ bothL k x, LkOK n l := by
  intro l hl
  unfold bothL at hl
  simp only [List.mem_cons, List.not_mem_nil, or_false] at hl
  rcases hl with rfl | rfl
  · exact ⟨by dsimp only; omega, hk, by dsimp only; omega, by dsimp only; omega⟩
  · exact ⟨hk, by dsimp only; omega, by dsimp only; omega, by dsimp only; omega⟩
theorem needleL_ok {r : Rec} {more : List Int} {k : Nat} {x : Span} (hk : k < 3 + r.strikes.length) (h1 : x.lo ∈ marksR r more) (h2 : x.hi + 1 ∈ marksR r more) : ∀ l ∈ needleL (nodesR r more) k x, LkOK (nodesR r more).length l := by
  intro l hl
  obtain ⟨a1, a2⟩ := at_mark_ge h1
  obtain ⟨b1, b2⟩ := at_mark_ge h2
  unfold needleL at hl
  simp only [List.mem_cons, List.not_mem_nil, or_false] at hl
  rcases hl with rfl | rfl
  · exact ⟨by dsimp only; omega, by dsimp only; omega, by dsimp only; omega, by dsimp only; omega⟩
  · exact ⟨by dsimp only; omega, by dsimp only; omega, by dsimp only; omega, by dsimp only; omega⟩
theorem pairL_ok {s : Session} (hs : s.R) {n i : Nat} {x : Int} (hx : 0 ≤ x) : ∀ (l : List Int) (k : Nat), i < k → k + l.length ≤ n → (∀ y ∈ l, x ≤ y ∧ y ≤ 43200) → (∀ z ∈ pairL s i x k l, LkOK n z) ∧ (pairL s i x k l).length = 2 * l.length
  | [], k, _, _, _ => ⟨fun z hz => by simp [pairL] at hz, rfl⟩
  | y :: l, k, hik, hkn, hy => by
    obtain ⟨y1, y2⟩ := hy y (by simp)
    obtain ⟨b1, b2, b3, b4⟩ := leastR_bound s x y hs hx y1 y2
    simp only [List.length_cons] at hkn
    obtain ⟨h1, h2⟩ := pairL_ok hs (n := n) (i := i) hx l (k + 1) (by omega) (by omega) (fun z hz => hy z (by simp [hz]))
    refine ⟨fun z hz => ?_, by simp only [pairL, List.length_cons, h2]; omega⟩
    simp only [pairL, List.mem_cons] at hz
    rcases hz with rfl | rfl | hz
    · exact ⟨by dsimp only; omega, by dsimp only; omega, by dsimp only; omega, by dsimp only; omega⟩
    · exact ⟨by dsimp only; omega, by dsimp only; omega, by dsimp only; omega, by dsimp only; omega⟩
    · exact h1 z hz
theorem pairsL_ok {s : Session} (hs : s.R) {n : Nat} : ∀ (l : List Int) (i : Nat), i + l.length ≤ n → l.Pairwise (· < ·) → (∀ y ∈ l, 0 ≤ y ∧ y ≤ 43200) → (∀ z ∈ pairsL s i l, LkOK n z) ∧ (pairsL s i l).length ≤ 2 * l.length * l.length
  | [], i, _, _, _ => ⟨fun z hz => by simp [pairsL] at hz, by simp [pairsL]⟩
  | x :: l, i, hin, hp, hy => by
    obtain ⟨p1, p2⟩ := List.pairwise_cons.1 hp
    obtain ⟨x1, x2⟩ := hy x (by simp)
    simp only [List.length_cons] at hin
    obtain ⟨h1, h2⟩ := pairL_ok hs (n := n) (i := i) x1 l (i + 1) (by omega) (by omega) (fun y h => ⟨Int.le_of_lt (p1 y h), (hy y (by simp [h])).2⟩)
    obtain ⟨g1, g2⟩ := pairsL_ok hs (n := n) l (i + 1) (by omega) p2 (fun y h => hy y (by simp [h]))
    refine ⟨fun z hz => ?_, ?_⟩
    · simp only [pairsL, List.mem_append] at hz
      rcases hz with hz | hz
      · exact h1 z hz
      · exact g1 z hz
    · simp only [pairsL, List.length_append, List.length_cons, h2]
      have : 2 * (l.length + 1) * (l.length + 1) = 2 * l.length * l.length + 4 * l.length + 2 := by
        simp only [Nat.mul_add, Nat.add_mul]; omega
      omega
theorem sgL_ok {r : Rec} (hv : r.V) {n : Nat} (hn : 3 + r.strikes.length ≤ n) : ∀ l : List Sight, (∀ x ∈ l, x ∈ r.sights) → (∀ z ∈ sgL r l, LkOK n z) ∧ (sgL r l).length = 2 * l.length
  | [], _ => ⟨fun z hz => by simp [sgL] at hz, rfl⟩
  | x :: l, h => by
    obtain ⟨h1, h2⟩ := sgL_ok hv hn l (fun y hy => h y (by simp [hy]))
    have hx := hv.sights x (h x (by simp))
    obtain ⟨i1, i2⟩ := strikeI_lt (n := x.strike) (l := r.strikes) (k := r.strikes.length) (by rw [List.take_length]; exact hx.2.2.2)
    have hb := bothL_ok (n := n) (k := (3 + strikeI x.strike 0 r.strikes).toNat) (x := x.seen) (by omega) (by omega) ⟨hx.1, hx.2.1, hx.2.2.1⟩
    refine ⟨fun z hz => ?_, by simp only [sgL, List.length_append, bothL_len, h2, List.length_cons]; omega⟩
    simp only [sgL, List.mem_append] at hz
    rcases hz with hz | hz
    · exact hb z hz
    · exact h1 z hz
theorem rwL_ok {S n : Nat} (hn : 3 + S ≤ n) : ∀ (c i : Nat), i + c = S + 1 → (∀ z ∈ rwL S c i, LkOK n z) ∧ (rwL S c i).length = c
  | 0, i, _ => ⟨fun z hz => by simp [rwL] at hz, rfl⟩
  | c + 1, i, h => by
    obtain ⟨h1, h2⟩ := rwL_ok hn c (i + 1) (by omega)
    refine ⟨fun z hz => ?_, by simp [rwL, h2]⟩
    simp only [rwL, List.mem_cons] at hz
    rcases hz with rfl | hz
    · unfold rowK
      refine ⟨?_, ?_, by dsimp only; omega, ?_⟩ <;> dsimp only <;> (try split) <;> (try split) <;> omega
    · exact h1 z hz
theorem ndL_ok {r : Rec} {more : List Int} : ∀ (l : List Strike) (i : Nat), i + l.length ≤ r.strikes.length → (∀ x ∈ l, x ∈ r.strikes) → (∀ z ∈ ndL (nodesR r more) i l, LkOK (nodesR r more).length z) ∧ (ndL (nodesR r more) i l).length = 2 * l.length
  | [], _, _, _ => ⟨fun z hz => by simp [ndL] at hz, rfl⟩
  | x :: l, i, hi, h => by
    simp only [List.length_cons] at hi
    obtain ⟨h1, h2⟩ := ndL_ok (more := more) l (i + 1) (by omega) (fun y hy => h y (by simp [hy]))
    have hx := h x (by simp)
    have hb := needleL_ok (r := r) (more := more) (k := 3 + i) (x := x.pos) (by omega) (marksR_mem.2 (.inr (.inl ⟨x, hx, .inl rfl⟩))) (marksR_mem.2 (.inr (.inl ⟨x, hx, .inr rfl⟩)))
    refine ⟨fun z hz => ?_, by simp only [ndL, List.length_append, needleL_len, h2, List.length_cons]; omega⟩
    simp only [ndL, List.mem_append] at hz
    rcases hz with hz | hz
    · exact hb z hz
    · exact h1 z hz
theorem linksR_ok {r : Rec} (hv : r.V) {more : List Int} (hml : more.length ≤ 8) (hmb : ∀ a ∈ more, 0 ≤ a ∧ a ≤ 43200) : (∀ l ∈ linksR r more, LkOK (nodesR r more).length l) ∧ (linksR r more).length ≤ 10000 ∧ (nodesR r more).length ≤ 100 := by
  have hnl := nodesR_len r more
  have hmk := marksR_len r more
  have hns := hv.nstrikes
  have hng := hv.nsights
  have h3 : 3 + r.strikes.length ≤ (nodesR r more).length := by omega
  have hm := fun p => marksR_mem (r := r) (more := more) (a := p)
  have b1 := bothL_ok (n := (nodesR r more).length) (k := 1) (x := r.s.inn) (by omega) (by omega) hv.inn
  have b2 := bothL_ok (n := (nodesR r more).length) (k := 2) (x := r.s.out) (by omega) (by omega) hv.out
  obtain ⟨s1, s2⟩ := sgL_ok hv h3 r.sights (fun _ h => h)
  obtain ⟨w1, w2⟩ := rwL_ok h3 (r.strikes.length + 1) 0 (by omega)
  have d1 := needleL_ok (r := r) (more := more) (k := 1) (x := r.s.zero) (by omega) ((hm _).2 (.inl (.inl rfl))) ((hm _).2 (.inl (.inr (.inl rfl))))
  have d2 := needleL_ok (r := r) (more := more) (k := 2) (x := r.s.fin) (by omega) ((hm _).2 (.inl (.inr (.inr (.inl rfl))))) ((hm _).2 (.inl (.inr (.inr (.inr rfl)))))
  obtain ⟨n1, n2⟩ := ndL_ok (r := r) (more := more) r.strikes 0 (by omega) (fun _ h => h)
  obtain ⟨p1, p2⟩ := pairsL_ok hv.r (n := (nodesR r more).length) (marksR r more) (3 + r.strikes.length) (by omega) (marksR_sorted r more) (fun y h => marksR_bound hv hmb h)
  have hp : 2 * (marksR r more).length * (marksR r more).length ≤ 2 * 36 * 36 := Nat.mul_le_mul (by omega) (by omega)
  refine ⟨fun l hl => ?_, ?_, by omega⟩
  · unfold linksR at hl
    simp only [List.mem_append] at hl
    rcases hl with h | h | h | h | h | h | h | h
    · exact b1 l h
    · exact b2 l h
    · exact s1 l h
    · exact w1 l h
    · exact d1 l h
    · exact n1 l h
    · exact d2 l h
    · exact p1 l h
  · unfold linksR
    simp only [List.length_append, bothL_len, needleL_len, s2, w2, n2]
    omega
end Go.Proofs.Ks

set_option maxHeartbeats 8000000
set_option maxRecDepth 10000
namespace Go.Proofs.Ks
open Go Go.Pg Go.Proofs Go.Proofs.Yt
theorem links_facts {r : Rec} (hv : r.V) {more : List Int} (hml : more.length ≤ 8) (hmb : ∀ a ∈ more, 0 ≤ a ∧ a ≤ 43200) : (nodesR r more).length ≤ 100 ∧ (linksR r more).length ≤ 10000 ∧ (∀ l ∈ linksR r more, l.a < (nodesR r more).length ∧ l.b < (nodesR r more).length) ∧ (∀ l ∈ linksR r more, -1073741823 ≤ l.m ∧ l.m ≤ 1073741823) ∧ ∀ l ∈ linksR r more, l.a ≠ l.b := by
  obtain ⟨h1, h2, h3⟩ := linksR_ok hv hml hmb
  exact ⟨h3, h2, fun l hl => ⟨(h1 l hl).a, (h1 l hl).b⟩, fun l hl => (h1 l hl).m, fun l hl => (h1 l hl).ne⟩
end Go.Proofs.Ks

namespace Go.Proofs.Ks
open Go Go.Pg Go.Proofs Go.Proofs.Yt
theorem rowAt_ext {H0 H : Nat → Option AO} (h : ∀ id x, H0 id = some x → H id = some x) {i : Nat} {r : Pg.Row} (hr : Pg.rowAt H0 i = some r) : Pg.rowAt H i = some r := by
  have h1 := h i _ (Pg.rowAt_eq hr)
  unfold Pg.rowAt; rw [h1]
def ixM (N : List Node) : List (Key × AV) := (N.map keyN).zip (idxV 0 N.length)
theorem at_r (N : List Node) (kd nm : Int) {g m : Nat} {a b : AV} {H0 : Nat → Option AO} (hg : Pg.rowAt H0 g = some { k := 3, es := [[a, .map m, b]], ty := 145 }) (hm : H0 m = some (.mp (.map .pair) 0 (ixM N))) :
    OKr cx 27 [.ptr g 0 0 1, ai kd, ai nm] H0 (ai (atP kd nm N)) := by
  intro H nx hx
  have hg1 := rowAt_ext hx hg
  have hm1 := hx _ _ hm
  unfold ixM at hm1
  refine OKm.of_body kO (rs := [.tmp 6]) Tryz.func27 rfl (by decide +kernel) rfl (by simp [Tryz.ntmps27]) ?_
  simp only [Tryz.ntmps27]
  repeat' first
    | apply jA | apply jB | apply jC | apply jI
    | ((apply jK kO; decide); (simp (disch := omega) only [push_cast, simprocAttr, node_look, zM, TyD.isAgg, hg1, hm1] <;> rfl))

  all_goals
    ((first | apply W.retX | apply W.endX); (simp (disch := omega) only [push_cast, simprocAttr, hg1, hm1] <;> rfl); (refine ⟨?_, ?_, ?_⟩ <;> (first | rfl | (simp (disch := omega) only [push_cast, simprocAttr, hg1, hm1] <;> rfl))))
theorem between0_m (nd : Int) (x : Span) (hn : 0 ≤ nd) (hb : 0 ≤ x.lo ∧ x.lo ≤ 1099511627776) {lb : Nat} {H : Nat → Option AO} {nx : Nat} (hlb : lb < nx) {args : List AV} (ha : args = [ai nd, .agg (eSpan x), .ptr lb 0 0 1])
    (h1 : Pg.rowAt H lb = some { k := 1, es := [[.v (.slice none 0 0)]], ty := 143 }) :
    OKm cx 83 args H nx (fun r H' nx' => r = .tup [] ∧ H' = updH (updH (updH (updH H nx (.row { k := 2, es := [eSpan x], ty := 29 })) (nx + 1) (.row { k := 3, es := (bothL nd.toNat x).map eLink, ty := 171 })) (nx + 2) (.row { k := 3, es := (bothL nd.toNat x).map eLink, ty := 171, lo := 2 })) lb (.row { k := 1, es := [[.ref (nx + 2) 0 2]], ty := 143 }) ∧ nx' = nx + 3) := by
  subst ha
  have en : ((nd.toNat : Nat) : Int) = nd := Int.toNat_of_nonneg hn
  refine OKm.of_body kO (rs := []) Tryz.func83 rfl (by decide +kernel) rfl (by simp [Tryz.ntmps83]) ?_
  simp only [Tryz.ntmps83]
  repeat' first
    | apply jA | apply jB | apply jI
    | ((first | (apply jK kO; decide) | apply jM kO); (simp (disch := (first | omega | (simp only [vC]; omega))) only [push_cast, simprocAttr, takeM, dropM, zK, zA, zB, zN, zQ, zR, zO, zP, zT, zS, zU, leT, zH, pureL, pureA, natNe, h1, zJ] <;> rfl))
    | (apply jT kO; decide; rfl; rfl; rfl; decide; (iterate 3 (simp (disch := (first | omega | (simp only [vC]; omega))) only [push_cast, simprocAttr, takeM, dropM, zK, zA, zB, zN, zQ, zR, zO, zP, zT, zS, zU, leT, zH, pureL, pureA, natNe, h1, zJ] <;> rfl)); (first | (focus (simp; done)) | (intro c hc; obtain ⟨x, _, rfl⟩ := List.mem_map.1 hc; rfl)); ((first | rfl | simp (disch := omega) only [push_cast])); ((try dsimp only); (try simp only [vC]); omega); ((try dsimp only); (try simp only [vC]); omega))

  all_goals
    ((first | apply W.retX | apply W.endX); (simp (disch := omega) only [push_cast, simprocAttr] <;> rfl); (refine ⟨rfl, ?_, ?_⟩ <;> (simp (disch := omega) only [push_cast, simprocAttr, natNe, h1, bothL, zX, zW, zD, zC, yD, en, zV, zJ, St.put, putH, maxNx, yA, updO, upd_twice] <;> rfl)))
theorem between_m (nd : Int) (x : Span) (hn : 0 ≤ nd) (hb : 0 ≤ x.lo ∧ x.lo ≤ 1099511627776) (L : List Lk) {lw : Nat} (hl : L.length ≤ 1000000) {lb lo : Nat} {H : Nat → Option AO} {nx : Nat} (hne : lb ≠ lo) (hlb : lb < nx) (hlo : lo < nx) {args : List AV} (ha : args = [ai nd, .agg (eSpan x), .ptr lb 0 0 1])
    (h1 : Pg.rowAt H lb = some { k := 1, es := [[.ref lo 0 L.length]], ty := 143 }) (h2 : Pg.rowAt H lo = some { k := 3, es := L.map eLink, ty := 171, lo := lw }) (hlw : lw ≤ L.length) :
    OKm cx 83 args H nx (fun r H' nx' => r = .tup [] ∧ H' = updH (updH (updH (updH H nx (.row { k := 2, es := [eSpan x], ty := 29 })) (nx + 1) (.row { k := 3, es := (bothL nd.toNat x).map eLink, ty := 171 })) lo (.row { k := 3, es := (L ++ bothL nd.toNat x).map eLink, ty := 171, lo := L.length + 2 })) lb (.row { k := 1, es := [[.ref lo 0 (L.length + 2)]], ty := 143 }) ∧ nx' = nx + 2) := by
  subst ha
  have en : ((nd.toNat : Nat) : Int) = nd := Int.toNat_of_nonneg hn
  refine OKm.of_body kO (rs := []) Tryz.func83 rfl (by decide +kernel) rfl (by simp [Tryz.ntmps83]) ?_
  simp only [Tryz.ntmps83]
  repeat' first
    | apply jA | apply jB | apply jI
    | ((first | (apply jK kO; decide) | apply jM kO); (simp (disch := (first | omega | (simp only [vC]; omega))) only [push_cast, simprocAttr, takeM, dropM, zK, zA, zB, zN, zQ, zR, zO, zP, zT, zS, zU, leT, zH, pureL, pureA, natNe, h1, h2, hlw] <;> rfl))
    | (apply jT kO; decide; rfl; rfl; rfl; decide; (iterate 3 (simp (disch := (first | omega | (simp only [vC]; omega))) only [push_cast, simprocAttr, takeM, dropM, zK, zA, zB, zN, zQ, zR, zO, zP, zT, zS, zU, leT, zH, pureL, pureA, natNe, h1, h2, hlw] <;> rfl)); (first | (focus (simp; done)) | (intro c hc; obtain ⟨x, _, rfl⟩ := List.mem_map.1 hc; rfl)); ((first | rfl | simp (disch := omega) only [push_cast])); ((try dsimp only); (try simp only [vC]); omega); ((try dsimp only); (try simp only [vC]); omega))

  all_goals
    ((first | apply W.retX | apply W.endX); (simp (disch := omega) only [push_cast, simprocAttr] <;> rfl); (refine ⟨rfl, ?_, ?_⟩ <;> (simp (disch := omega) only [push_cast, simprocAttr, natNe, h1, h2, bothL, zY, zX, zW, zE, zD, zC, yD, en, zV, zJ, St.put, putH, updO] <;> rfl)))
theorem ixM_snoc (N : List Node) (n : Node) : ixM (N ++ [n]) = ixM N ++ [(keyN n, ai N.length)] := by
  unfold ixM idxV
  rw [List.map_append, List.length_append, List.length_singleton, List.range'_concat, List.map_append, List.zip_append (by simp)]
  simp
theorem putM_new (v : AV) (kd nm : Int) : ∀ (l : List (Key × AV)), (∀ x ∈ l, x.1 ≠ .pair kd nm) → (∀ x ∈ l, ∃ a b, x.1 = .pair a b) → putM (.pair kd nm) v l = l ++ [(.pair kd nm, v)]
  | [], _, _ => rfl
  | (k, u) :: l, h, h2 => by
    obtain ⟨a, b, hk⟩ := h2 (k, u) (by simp)
    simp only at hk
    subst hk
    have h1 := h (.pair a b, u) (by simp)
    have ih := putM_new v kd nm l (fun x hx => h x (by simp [hx])) (fun x hx => h2 x (by simp [hx]))
    have hs : Key.same (.pair kd nm) (.pair a b) = false := by
      simp only [Key.same]
      cases hq : (kd == a && nm == b) with
      | false => rfl
      | true => simp only [Bool.and_eq_true, beq_iff_eq] at hq; exact absurd (by rw [hq.1, hq.2]) h1
    simp only [putM, hs, Bool.false_eq_true, if_false, ih, List.cons_append]
theorem putM_ix {N : List Node} {n : Node} (h : n ∉ N) : putM (.pair n.kind n.num) (ai N.length) (ixM N) = ixM (N ++ [n]) := by
  rw [ixM_snoc]
  refine putM_new _ _ _ _ (fun x hx => ?_) (fun x hx => ?_)
  all_goals
    obtain ⟨y, hy, hxy⟩ := List.mem_map.1 (List.of_mem_zip hx).1
  · rw [← hxy]; intro e
    simp only [keyN, Key.pair.injEq] at e
    have : y = n := by cases y; cases n; simp_all
    exact h (this ▸ hy)
  · exact ⟨y.kind, y.num, hxy.symm⟩
structure SysB (H : Nat → Option AO) (c g nd m : Nat) (N : List Node) (b : AV) : Prop where
  c : Pg.rowAt H c = some { k := 1, es := [[.ptr g 0 0 1]], ty := 106 }
  g : Pg.rowAt H g = some { k := 3, es := [[.ref nd 0 N.length, .map m, b]], ty := 145 }
  nd : Pg.rowAt H nd = some { k := 2, es := N.map eNode, ty := 147, lo := N.length }
  m : H m = some (.mp (.map .pair) 0 (ixM N))
theorem add_m (N : List Node) (n : Node) (hl : N.length ≤ 1000000) (hnew : n ∉ N) {b : AV} {c g nd m : Nat} {H : Nat → Option AO} {nx : Nat} (hS : SysB H c g nd m N b) (hd1 : c ≠ g ∧ c ≠ nd ∧ c ≠ m) (hd2 : g ≠ nd ∧ g ≠ m ∧ nd ≠ m) (hc : c < nx) (hg : g < nx) (hnd : nd < nx) (hm : m < nx) :
    OKm cx 68 [.agg (eNode n), .ptr c 0 0 1] H nx (fun r H' nx' => SysB H' c g nd m (N ++ [n]) b ∧ nx ≤ nx' ∧ ∀ j, j < nx → j ≠ g → j ≠ nd → j ≠ m → H' j = H j) := by
  have h1 := hS.c
  have h2 := hS.g
  have h3 := hS.nd
  have h4 := hS.m
  have hput := putM_ix hnew
  obtain ⟨d1, d2, d3⟩ := hd1
  obtain ⟨d4, d5, d6⟩ := hd2
  refine OKm.of_body kO (rs := []) Tryz.func68 rfl (by decide +kernel) rfl (by simp [Tryz.ntmps68]) ?_
  simp only [Tryz.ntmps68]
  refine AW.fresh fun hfr0 => ?_
  have hfr : ∀ id, nx ≤ id → H id = none := hfr0
  repeat' first
    | apply jA | apply jB | apply jI | apply jJ
    | refine AW.draw (id := 1) cx_mixed [10] [] [] 0 (by decide +kernel) ?_
    | refine AW.draw (id := 2) cx_mixed [7, 10] [0, 8, 9] [nd, g] 11 (by decide +kernel) ?_
    | ((first | (apply jK kO; decide) | (apply jL kO; decide; decide)); (simp (disch := (first | omega | (simp only [vC]; omega))) only [push_cast, simprocAttr, takeM, dropM, zK, zA, zB, zN, zQ, zR, zO, zP, zT, zS, zU, leT, zH, pureL, pureA, natNe, hfr, h1, h2, h3, h4, hput, zI, zG, TyD.isAgg] <;> rfl))
    | ((first | (apply D.store kO; decide) | (apply D.stept kO; decide; decide) | (apply D.mapUpdate kO; decide) | (apply D.stepm kO; decide; decide)); (simp (disch := (first | omega | (simp only [vC]; omega))) only [push_cast, simprocAttr, takeM, dropM, zK, zA, zB, zN, zQ, zR, zO, zP, zT, zS, zU, leT, zH, pureL, pureA, natNe, hfr, h1, h2, h3, h4, hput, zI, zG, TyD.isAgg] <;> rfl); try first | exact .inl rfl | exact .inr (by simp))
    | ((apply D.alloc kO; decide; decide); (simp (disch := (first | omega | (simp only [vC]; omega))) only [push_cast, simprocAttr, takeM, dropM, zK, zA, zB, zN, zQ, zR, zO, zP, zT, zS, zU, leT, zH, pureL, pureA, natNe, hfr, h1, h2, h3, h4, hput, zI, zG, TyD.isAgg] <;> rfl); (simp (disch := (first | omega | (simp only [vC]; omega))) only [push_cast, simprocAttr, takeM, dropM, zK, zA, zB, zN, zQ, zR, zO, zP, zT, zS, zU, leT, zH, pureL, pureA, natNe, hfr, h1, h2, h3, h4, hput, zI, zG, TyD.isAgg, updH_at, zJ]); (simp (disch := (first | omega | (simp only [vC]; omega))) only [push_cast, simprocAttr, takeM, dropM, zK, zA, zB, zN, zQ, zR, zO, zP, zT, zS, zU, leT, zH, pureL, pureA, natNe, hfr, h1, h2, h3, h4, hput, zI, zG, TyD.isAgg] <;> omega))
    | (apply jU kO; decide; decide; rfl; rfl; rfl; decide; (iterate 3 (simp (disch := (first | omega | (simp only [vC]; omega))) only [push_cast, simprocAttr, takeM, dropM, zK, zA, zB, zN, zQ, zR, zO, zP, zT, zS, zU, leT, zH, pureL, pureA, natNe, hfr, h1, h2, h3, h4, hput, zI, zG, TyD.isAgg] <;> rfl)); (first | (focus (simp; done)) | (intro c hc; obtain ⟨x, _, rfl⟩ := List.mem_map.1 hc; rfl)); ((first | rfl | (simp (disch := omega) only [push_cast]; done))); ((try dsimp only); (try simp only [vC]); omega); ((try dsimp only); (try simp only [vC]); omega); first | exact .inl rfl | exact .inr (by simp))

  all_goals
    ((first | apply W.retX | apply W.endX); (simp (disch := omega) only [push_cast, simprocAttr, natNe, hfr, h1, h2, h3, h4, hput, zI, zG, TyD.isAgg] <;> rfl); (refine ⟨⟨?_, ?_, ?_, ?_⟩, ?_, fun j hj hj1 hj2 hj3 => ?_⟩ <;> (first | rfl | (simp (disch := omega) only [push_cast, simprocAttr, natNe, hfr, h1, h2, h3, h4, hput, zI, zG, TyD.isAgg, zJ, zY, zX, zW, zE, zD, zC, isEmpty_map, lo_len, zV] <;> first | rfl | omega) | omega)))
structure SysY (H : Nat → Option AO) (rb gb pb g m : Nat) (r : Rec) (pl : List Int) (N : List Node) : Prop where
  r : Pg.rowAt H rb = some { k := 14, es := [eRec r], ty := 50 }
  gb : Pg.rowAt H gb = some { k := 1, es := [[.ptr g 0 0 1]], ty := 106 }
  pb : Pg.rowAt H pb = some { k := 1, es := [[lInt pl]], ty := 40 }
  g : ∃ a b, Pg.rowAt H g = some { k := 3, es := [[a, .map m, b]], ty := 145 }
  m : H m = some (.mp (.map .pair) 0 (ixM N))
theorem all_m (r : Rec) (pl : List Int) {g : Nat} {H : Nat → Option AO} {nx : Nat} :
    OKm cx 70 [.ptr g 0 0 1, .agg (eRec r), lInt pl] H nx (fun v H' nx' => v = .clo 82 [.ptr (nx + 1) 0 0 1, .ptr nx 0 0 1, .ptr (nx + 2) 0 0 1] ∧ Pg.rowAt H' nx = some { k := 1, es := [[.ptr g 0 0 1]], ty := 106 } ∧
      Pg.rowAt H' (nx + 1) = some { k := 14, es := [eRec r], ty := 50 } ∧ Pg.rowAt H' (nx + 2) = some { k := 1, es := [[lInt pl]], ty := 40 } ∧ nx' = nx + 3 ∧ ∀ j, j < nx → H' j = H j) := by
  refine OKm.of_body kO (rs := [.tmp 6]) Tryz.func70 rfl (by decide +kernel) rfl (by simp [Tryz.ntmps70]) ?_
  simp only [Tryz.ntmps70]
  repeat' first
    | apply jA | apply jB | apply jC | apply jI
    | ((apply jK kO; decide); (simp (disch := omega) only [push_cast, simprocAttr, natNe] <;> rfl))

  all_goals
    ((first | apply W.retX | apply W.endX); (simp (disch := omega) only [push_cast, simprocAttr, natNe] <;> rfl); (refine ⟨?_, ?_, ?_, ?_, ?_, fun j hj => ?_⟩ <;> (first | rfl | (simp (disch := omega) only [push_cast, simprocAttr, natNe, zJ] <;> first | rfl | omega) | omega)))
theorem inside_ok (p : Stop) (x y : Int) : OKv cx 84 [.agg (eStop p), .iptr [ai x] 0, .iptr [ai y] 0] (ab (decide (x ≤ p.pos) && decide (p.pos < y))) := by
  refine OKat.of_body (rs := [4]) Tryz.func84 rfl (by decide +kernel) rfl (by simp [Tryz.ntmps84]) ?_
  simp only [Tryz.ntmps84]
  repeat' first
    | apply jA | apply jB | apply jC | apply jI
    | ((first | (apply jK kO; decide) | (apply jN; rfl; decide)); (simp (disch := omega) only [push_cast, simprocAttr] <;> rfl); all_goals try ((with_reducible intro hI); try first | (cases hI; done) | (simp only [INTS, zL] at hI; try first | (exfalso; omega) | (have hT : True := hI; clear hT hI))))
    | ((apply W.ret1); (iterate 2 (try (simp (disch := omega) only [push_cast, simprocAttr] <;> rfl))))
  all_goals (show _ = _; first | rfl | (simp [*]; done) | (simp; omega) | (simp_all; omega))
theorem secsHi_ok (p : Stop) : OKv cx 87 [.agg (eStop p)] (ai p.secs.hi) := by
  refine OKat.of_body (rs := [2]) Tryz.func87 rfl (by decide +kernel) rfl (by simp [Tryz.ntmps87]) ?_
  simp only [Tryz.ntmps87]
  repeat' first
    | apply jA | apply jB | apply jC | apply jI
    | ((apply jK kO; decide); (simp (disch := omega) only [push_cast, simprocAttr] <;> rfl))
    | ((apply W.ret1); (iterate 2 (try (simp (disch := omega) only [push_cast, simprocAttr] <;> rfl))))
  all_goals (show _ = _; rfl)
theorem secsLo_ok (p : Stop) : OKv cx 88 [.agg (eStop p)] (ai p.secs.lo) := by
  refine OKat.of_body (rs := [2]) Tryz.func88 rfl (by decide +kernel) rfl (by simp [Tryz.ntmps88]) ?_
  simp only [Tryz.ntmps88]
  repeat' first
    | apply jA | apply jB | apply jC | apply jI
    | ((apply jK kO; decide); (simp (disch := omega) only [push_cast, simprocAttr] <;> rfl))
    | ((apply W.ret1); (iterate 2 (try (simp (disch := omega) only [push_cast, simprocAttr] <;> rfl))))
  all_goals (show _ = _; rfl)
def sumS (f : Stop → Int) (x y : Int) : List Stop → Int → Int
  | [], n => n
  | t :: l, n => sumS f x y l (if x ≤ t.pos ∧ t.pos < y then n + f t else n)
theorem addS_sum (x y : Int) : ∀ (l : List Stop) (p : Int × Int), addS x y l p = (p.1 + sumS (·.secs.lo) x y l 0, p.2 + sumS (·.secs.hi) x y l 0)
  | [], p => by simp [addS, sumS]
  | t :: l, p => by
    have go : ∀ (f : Stop → Int) (l : List Stop) (n : Int), sumS f x y l n = n + sumS f x y l 0 := by
      intro f l
      induction l with
      | nil => intro n; simp [sumS]
      | cons t l ih =>
        intro n; unfold sumS
        by_cases hc : x ≤ t.pos ∧ t.pos < y
        · simp only [if_pos hc]; rw [ih (n + f t), ih (0 + f t)]; omega
        · simp only [if_neg hc]; exact ih n
    rw [addS, addS_sum x y l, sumS, sumS]
    by_cases hc : x ≤ t.pos ∧ t.pos < y
    · simp only [if_pos hc]; rw [go (fun t => t.secs.lo) l (0 + t.secs.lo), go (fun t => t.secs.hi) l (0 + t.secs.hi)]; ext <;> dsimp only <;> omega
    · simp only [if_neg hc]
theorem sumHi_ok (l : List Stop) (x y : Int) (hl : l.length ≤ 4) (hb : ∀ t ∈ l, 0 ≤ t.secs.lo ∧ t.secs.lo ≤ t.secs.hi ∧ t.secs.hi ≤ 36000) : OKv cx 86 [lStop l, .clo 84 [.iptr [ai x] 0, .iptr [ai y] 0], .clo 87 []] (ai (sumS (·.secs.hi) x y l 0)) := by
  obtain ⟨RES, hRES⟩ : ∃ z, sumS (·.secs.hi) x y l 0 = z := ⟨_, rfl⟩
  rw [hRES]
  refine OKat.of_body (rs := [6]) Tryz.func86 rfl (by decide +kernel) rfl (by simp [Tryz.ntmps86]) ?_
  simp only [Tryz.ntmps86]
  repeat' first
    | apply jA | apply jB | apply jD | apply jI
    | ((apply jK kO; decide); (simp (disch := omega) only [push_cast, simprocAttr] <;> rfl))
  refine AW.loop (fun n s => ∃ (k : Nat) (m : Int) (rest : List Stop), n = rest.length ∧ (l.drop k = rest) ∧ (sumS (·.secs.hi) x y rest m = RES) ∧ (0 ≤ m ∧ m + 36000 * rest.length ≤ 144000) ∧ 0 ≤ s.nx ∧ s.tm 1 = .clo 84 [.iptr [ai x] 0, .iptr [ai y] 0] ∧ s.tm 2 = .clo 87 [] ∧ s.tm 7 = ai m ∧ s.tm 10 = lStop l ∧ s.tm 11 = ai l.length ∧ s.tm 12 = ai k) (l.length) ⟨0, 0, l, rfl, rfl, hRES, (by omega), ?_, ?_, ?_, ?_, ?_, ?_, ?_⟩ ?_
  iterate 7 (first | (simp (disch := omega) only [push_cast, simprocAttr] <;> first | rfl | omega) | omega)
  rintro n s ⟨k, m, rest, hn, hp0, hp1, hp2, hnl, hS⟩
  rcases rest with _ | ⟨t, rest⟩
  · have hk := drop_nil hp0
    rw [sumS] at hp1
    subst hp1
    repeat' first
      | apply jA | apply jB | apply jC | apply jF | apply jI
      | ((first | (apply jK kO; decide) | apply jR); (simp (disch := omega) only [push_cast, simprocAttr, hS, hk] <;> rfl); all_goals try ((with_reducible intro hI); try first | (cases hI; done) | (simp only [INTS, zL] at hI; try first | (exfalso; omega) | (have hT : True := hI; clear hT hI))))
      | ((apply W.ret1); (iterate 2 (try (simp (disch := omega) only [push_cast, simprocAttr, hS, hk] <;> rfl))))
    all_goals (show _ = _; rfl)
  · obtain ⟨hk, hg, hd', hl', hm, hx⟩ := drop_cons hp0 eStop []
    have ht := hb t hm
    simp only [List.length_cons] at hp2
    rw [sumS] at hp1
    by_cases hc : x ≤ t.pos ∧ t.pos < y
    · have hc1 := hc.1
      have hc2 := hc.2
      rw [if_pos hc] at hp1
      repeat' first
        | apply jA | apply jB | apply jD | apply jE | apply jI
        | ((first | (apply jK kO; decide) | apply jM kO | apply jR); (simp (disch := omega) only [push_cast, simprocAttr, hS, hk, hg, hx, hc1, hc2, zP] <;> rfl); all_goals try ((with_reducible intro hI); try first | (cases hI; done) | (simp only [INTS, zL] at hI; try first | (exfalso; omega) | (have hT : True := hI; clear hT hI))))
        | ((apply jV kO; decide); (iterate 2 (simp (disch := omega) only [push_cast, simprocAttr, hS, hk, hg, hx, hc1, hc2, zP] <;> rfl)); (with_reducible first | exact inside_ok t x y | exact secsHi_ok t); try first | rfl | (simp (disch := omega) only [push_cast, simprocAttr, hS, hk, hg, hx, hc1, hc2, zP] <;> rfl))
      all_goals (refine ⟨rest.length, ?_, k + 1, m + t.secs.hi, rest, rfl, hd', hp1, (by omega), ?_, ?_, ?_, ?_, ?_, ?_, ?_⟩; ((simp only [List.length_cons] at *; omega)); all_goals first | (simp (disch := omega) only [push_cast, simprocAttr, hS, hk, hg, hx] <;> first | rfl | omega) | omega)
    · have hcF : (decide (x ≤ t.pos) && decide (t.pos < y)) = false := by
        cases hq : (decide (x ≤ t.pos) && decide (t.pos < y)) with
        | false => rfl
        | true => simp only [Bool.and_eq_true, decide_eq_true_eq] at hq; exact absurd hq hc
      rw [if_neg hc] at hp1
      repeat' first
        | apply jA | apply jB | apply jD | apply jE | apply jI
        | ((first | (apply jK kO; decide) | apply jM kO | apply jR); (simp (disch := omega) only [push_cast, simprocAttr, hS, hk, hg, hx, hcF] <;> rfl); all_goals try ((with_reducible intro hI); try first | (cases hI; done) | (simp only [INTS, zL] at hI; try first | (exfalso; omega) | (have hT : True := hI; clear hT hI))))
        | ((apply jV kO; decide); (iterate 2 (simp (disch := omega) only [push_cast, simprocAttr, hS, hk, hg, hx, hcF] <;> rfl)); (with_reducible exact (hcF ▸ inside_ok t x y)); try first | rfl | (simp (disch := omega) only [push_cast, simprocAttr, hS, hk, hg, hx, hcF] <;> rfl))
      all_goals (refine ⟨rest.length, ?_, k + 1, m, rest, rfl, hd', hp1, (by omega), ?_, ?_, ?_, ?_, ?_, ?_, ?_⟩; ((simp only [List.length_cons] at *; omega)); all_goals first | (simp (disch := omega) only [push_cast, simprocAttr, hS, hk, hg, hx] <;> first | rfl | omega) | omega)
theorem sumLo_ok (l : List Stop) (x y : Int) (hl : l.length ≤ 4) (hb : ∀ t ∈ l, 0 ≤ t.secs.lo ∧ t.secs.lo ≤ t.secs.hi ∧ t.secs.hi ≤ 36000) : OKv cx 86 [lStop l, .clo 84 [.iptr [ai x] 0, .iptr [ai y] 0], .clo 88 []] (ai (sumS (·.secs.lo) x y l 0)) := by
  obtain ⟨RES, hRES⟩ : ∃ z, sumS (·.secs.lo) x y l 0 = z := ⟨_, rfl⟩
  rw [hRES]
  refine OKat.of_body (rs := [6]) Tryz.func86 rfl (by decide +kernel) rfl (by simp [Tryz.ntmps86]) ?_
  simp only [Tryz.ntmps86]
  repeat' first
    | apply jA | apply jB | apply jD | apply jI
    | ((apply jK kO; decide); (simp (disch := omega) only [push_cast, simprocAttr] <;> rfl))
  refine AW.loop (fun n s => ∃ (k : Nat) (m : Int) (rest : List Stop), n = rest.length ∧ (l.drop k = rest) ∧ (sumS (·.secs.lo) x y rest m = RES) ∧ (0 ≤ m ∧ m + 36000 * rest.length ≤ 144000) ∧ 0 ≤ s.nx ∧ s.tm 1 = .clo 84 [.iptr [ai x] 0, .iptr [ai y] 0] ∧ s.tm 2 = .clo 88 [] ∧ s.tm 7 = ai m ∧ s.tm 10 = lStop l ∧ s.tm 11 = ai l.length ∧ s.tm 12 = ai k) (l.length) ⟨0, 0, l, rfl, rfl, hRES, (by omega), ?_, ?_, ?_, ?_, ?_, ?_, ?_⟩ ?_
  iterate 7 (first | (simp (disch := omega) only [push_cast, simprocAttr] <;> first | rfl | omega) | omega)
  rintro n s ⟨k, m, rest, hn, hp0, hp1, hp2, hnl, hS⟩
  rcases rest with _ | ⟨t, rest⟩
  · have hk := drop_nil hp0
    rw [sumS] at hp1
    subst hp1
    repeat' first
      | apply jA | apply jB | apply jC | apply jF | apply jI
      | ((first | (apply jK kO; decide) | apply jR); (simp (disch := omega) only [push_cast, simprocAttr, hS, hk] <;> rfl); all_goals try ((with_reducible intro hI); try first | (cases hI; done) | (simp only [INTS, zL] at hI; try first | (exfalso; omega) | (have hT : True := hI; clear hT hI))))
      | ((apply W.ret1); (iterate 2 (try (simp (disch := omega) only [push_cast, simprocAttr, hS, hk] <;> rfl))))
    all_goals (show _ = _; rfl)
  · obtain ⟨hk, hg, hd', hl', hm, hx⟩ := drop_cons hp0 eStop []
    have ht := hb t hm
    simp only [List.length_cons] at hp2
    rw [sumS] at hp1
    by_cases hc : x ≤ t.pos ∧ t.pos < y
    · have hc1 := hc.1
      have hc2 := hc.2
      rw [if_pos hc] at hp1
      repeat' first
        | apply jA | apply jB | apply jD | apply jE | apply jI
        | ((first | (apply jK kO; decide) | apply jM kO | apply jR); (simp (disch := omega) only [push_cast, simprocAttr, hS, hk, hg, hx, hc1, hc2, zP] <;> rfl); all_goals try ((with_reducible intro hI); try first | (cases hI; done) | (simp only [INTS, zL] at hI; try first | (exfalso; omega) | (have hT : True := hI; clear hT hI))))
        | ((apply jV kO; decide); (iterate 2 (simp (disch := omega) only [push_cast, simprocAttr, hS, hk, hg, hx, hc1, hc2, zP] <;> rfl)); (with_reducible first | exact inside_ok t x y | exact secsLo_ok t); try first | rfl | (simp (disch := omega) only [push_cast, simprocAttr, hS, hk, hg, hx, hc1, hc2, zP] <;> rfl))
      all_goals (refine ⟨rest.length, ?_, k + 1, m + t.secs.lo, rest, rfl, hd', hp1, (by omega), ?_, ?_, ?_, ?_, ?_, ?_, ?_⟩; ((simp only [List.length_cons] at *; omega)); all_goals first | (simp (disch := omega) only [push_cast, simprocAttr, hS, hk, hg, hx] <;> first | rfl | omega) | omega)
    · have hcF : (decide (x ≤ t.pos) && decide (t.pos < y)) = false := by
        cases hq : (decide (x ≤ t.pos) && decide (t.pos < y)) with
        | false => rfl
        | true => simp only [Bool.and_eq_true, decide_eq_true_eq] at hq; exact absurd hq hc
      rw [if_neg hc] at hp1
      repeat' first
        | apply jA | apply jB | apply jD | apply jE | apply jI
        | ((first | (apply jK kO; decide) | apply jM kO | apply jR); (simp (disch := omega) only [push_cast, simprocAttr, hS, hk, hg, hx, hcF] <;> rfl); all_goals try ((with_reducible intro hI); try first | (cases hI; done) | (simp only [INTS, zL] at hI; try first | (exfalso; omega) | (have hT : True := hI; clear hT hI))))
        | ((apply jV kO; decide); (iterate 2 (simp (disch := omega) only [push_cast, simprocAttr, hS, hk, hg, hx, hcF] <;> rfl)); (with_reducible exact (hcF ▸ inside_ok t x y)); try first | rfl | (simp (disch := omega) only [push_cast, simprocAttr, hS, hk, hg, hx, hcF] <;> rfl))
      all_goals (refine ⟨rest.length, ?_, k + 1, m, rest, rfl, hd', hp1, (by omega), ?_, ?_, ?_, ?_, ?_, ?_, ?_⟩; ((simp only [List.length_cons] at *; omega)); all_goals first | (simp (disch := omega) only [push_cast, simprocAttr, hS, hk, hg, hx] <;> first | rfl | omega) | omega)
end Go.Proofs.Ks

namespace Go.Proofs.Ks
open Go Go.Proofs
theorem take_snoc {α : Type} {l : List α} {k : Nat} {x : α} {rest : List α} (h : l.drop k = x :: rest) : l.take (k + 1) = l.take k ++ [x] := by
  have h0 : l[k]? = some x := by
    have := congrArg (fun m => m[0]?) h
    simpa using this
  rw [List.take_add_one, h0]; rfl
theorem sorted_ext : ∀ {a b : List Int}, a.Pairwise (· < ·) → b.Pairwise (· < ·) → (∀ x, x ∈ a ↔ x ∈ b) → a = b
  | [], [], _, _, _ => rfl
  | [], y :: b, _, _, h => absurd ((h y).2 (by simp)) (by simp)
  | x :: a, [], _, _, h => absurd ((h x).1 (by simp)) (by simp)
  | x :: a, y :: b, ha, hb, h => by
    rw [List.pairwise_cons] at ha hb
    have hxy : x = y := by
      have h1 := (h x).1 (by simp)
      have h2 := (h y).2 (by simp)
      rw [List.mem_cons] at h1 h2
      rcases h1 with h1 | h1
      · exact h1
      · rcases h2 with h2 | h2
        · exact h2.symm
        · have := hb.1 x h1; have := ha.1 y h2; omega
    subst hxy
    rw [sorted_ext ha.2 hb.2 fun z => ?_]
    have hz := h z
    rw [List.mem_cons, List.mem_cons] at hz
    constructor
    · intro hm
      rcases hz.1 (.inr hm) with e | e
      · have := ha.1 z hm; omega
      · exact e
    · intro hm
      rcases hz.2 (.inr hm) with e | e
      · have := hb.1 z hm; omega
      · exact e
theorem get_b (l : List Int) (i : Nat) (h : i < l.length) : l.toArray[i]! = l[i] := by
  rw [getElem!_pos _ i (by simpa using h)]; simp
theorem compact_mem {l : List Int} {a : Int} : a ∈ Lib.compact l ↔ a ∈ l := by
  unfold Lib.compact Lib.compactUpTo
  simp only [List.mem_map, List.mem_filter, List.mem_range]
  constructor
  · rintro ⟨i, ⟨hi, _⟩, rfl⟩
    rw [get_b l i hi]; exact List.getElem_mem hi
  · intro h
    obtain ⟨i, hi, rfl⟩ := List.getElem_of_mem h
    have key : ∀ (n i : Nat), i < n → (hi : i < l.length) → ∃ j, (j < l.length ∧ Lib.keeps l.toArray j = true) ∧ l.toArray[j]! = l[i] := by
      intro n
      induction n with
      | zero => intro i h; omega
      | succ n ih =>
        intro i hn hi
        by_cases hk : Lib.keeps l.toArray i = true
        · exact ⟨i, ⟨hi, hk⟩, get_b l i hi⟩
        · simp only [Lib.keeps, decide_eq_true_eq, not_or, ne_eq, Decidable.not_not] at hk
          obtain ⟨j, h1, h2⟩ := ih (i - 1) (by omega) (by omega)
          refine ⟨j, h1, h2.trans ?_⟩
          have := hk.2
          rw [get_b l i hi, get_b l (i - 1) (by omega)] at this
          exact this.symm
    exact key (i + 1) i (by omega) hi
theorem compact_sorted {l : List Int} (h : l.Pairwise (· ≤ ·)) : (Lib.compact l).Pairwise (· < ·) := by
  unfold Lib.compact Lib.compactUpTo
  rw [List.pairwise_map]
  have h0 : ((List.range l.length).filter (Lib.keeps l.toArray)).Pairwise (· < ·) := List.Pairwise.filter _ List.pairwise_lt_range
  refine List.Pairwise.imp_of_mem (fun {i j} hi hj hij => ?_) h0
  simp only [List.mem_filter, List.mem_range] at hi hj
  obtain ⟨hj, hk⟩ := hj
  simp only [Lib.keeps, decide_eq_true_eq] at hk
  have hk' := hk.resolve_left (by omega)
  rw [get_b l j hj, get_b l (j - 1) (by omega)] at hk'
  rw [get_b l i hi.1, get_b l j hj]
  have h1 : l[j - 1]'(by omega) ≤ l[j] := List.pairwise_iff_getElem.1 h (j - 1) j (by omega) hj (by omega)
  have h2 : l[i]'(hi.1) ≤ l[j - 1]'(by omega) := by
    by_cases e : i = j - 1
    · subst e; exact Int.le_refl _
    · exact List.pairwise_iff_getElem.1 h i (j - 1) hi.1 (by omega) (by omega)
  omega
theorem sort_sorted (l : List Int) : (l.mergeSort fun x y => decide (x ≤ y)).Pairwise (· ≤ ·) := by
  have h := List.pairwise_mergeSort (le := fun (x y : Int) => decide (x ≤ y)) (fun a b c h1 h2 => by simp only [decide_eq_true_eq] at *; omega) (fun a b => by simp only [Bool.or_eq_true, decide_eq_true_eq]; omega) l
  exact h.imp fun h => by simpa using h
theorem cut_eq {l m : List Int} (hm : m.Pairwise (· < ·)) (h : ∀ a, a ∈ m ↔ a ∈ l) : Lib.compact (l.mergeSort fun x y => decide (x ≤ y)) = m :=
  sorted_ext (compact_sorted (sort_sorted l)) hm fun x => by rw [compact_mem, List.mem_mergeSort, h]
def markL (r : Rec) (more : List Int) : List Int := [r.s.zero.lo, r.s.zero.hi + 1, r.s.fin.lo, r.s.fin.hi + 1] ++ (more ++ r.strikes.flatMap fun x => [x.pos.lo, x.pos.hi + 1])
theorem markL_cut (r : Rec) (more : List Int) : Lib.compact ((markL r more).mergeSort fun x y => decide (x ≤ y)) = marksR r more :=
  cut_eq (marksR_sorted r more) fun a => by
    rw [marksR_mem]
    unfold markL
    simp only [List.mem_append, List.mem_cons, List.not_mem_nil, or_false, List.mem_flatMap]
    constructor
    · rintro (h | ⟨x, hx, h⟩ | h)
      · exact .inl h
      · exact .inr (.inr ⟨x, hx, h⟩)
      · exact .inr (.inl h)
    · rintro (h | h | ⟨x, hx, h⟩)
      · exact .inl h
      · exact .inr (.inr h)
      · exact .inr (.inl ⟨x, hx, h⟩)
end Go.Proofs.Ks
