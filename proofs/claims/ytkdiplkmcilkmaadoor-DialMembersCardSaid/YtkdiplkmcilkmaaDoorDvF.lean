/-
  Contracts of functions, proved by going through their code. No conditions.
-/
import Derived.Test.YtkdiplkmcilkmaaDoorDav
import Derived.Test.YtkdiplkmcilkmaaDoorDtN
import Derived.Test.YtkdiplkmcilkmaaDoorDtC
import Derived.Test.YtkdiplkmcilkmaaDoorDvA
set_option linter.unusedVariables false
set_option linter.unusedSimpArgs false
set_option maxHeartbeats 8000000
set_option maxRecDepth 10000
namespace Go.Proofs.Ds
open Go Go.Pg Go.Proofs
def nearL (l : List Arc) (t n : Int) : Bool := l.any fun x => (hasF x t || decide (apartF t x.from_ ≤ n)) || decide (apartF t (angF (x.from_ + x.len)) ≤ n)
theorem has_arcs {L : List Span} (h1 : canon L) (h2 : inC L) (t : Int) : hasL (arcsF L) t = true ↔ memS (angF t) L := by
  rw [hasL_iff (arcsF_spec h1 h2).1, spans_arcs h1 h2]
theorem near_any {l : List Arc} (hv : ∀ x ∈ l, validA x = true) {n : Int} (hn : 0 ≤ n ∧ n < 700) (t : Int) : hasL (l.map fun x => wideF x n) t = nearL l t n := by
  unfold hasL nearL
  induction l with
  | nil => rfl
  | cons x l ih =>
    rw [List.map_cons, List.any_cons, List.any_cons, ih fun y hy => hv y (by simp [hy]), wide_near (hv x (by simp)) hn]
theorem law8_ok (hs : OKv cx 19 [] (ab true)) (h0 : SortKC0 Tryd.prog 130) (a b : List Arc) (by_ t0 : Int) (ha : a.length ≤ 9223372036854775807) (hb : b.length ≤ 9223372036854775807) : OKv cx 8 [lArc a, lArc b, ai by_, ai t0] (ab true) := by
  have hf1 : ∀ l x, flatA (.tup [.lst l, .v x]) = false := fun _ _ => rfl
  have hf2 : ∀ x y, flatA (.tup [.v x, .v y]) = true := fun _ _ => rfl
  have u1 := usual_ok a ha
  have u2 := usual_ok b hb
  cases g1 : usualF a with
  | false =>
    rw [g1] at u1
    refine OKat.of_body (rs := [8]) Tryd.func8 rfl (by decide +kernel) rfl (by simp [Tryd.ntmps8]) ?_
    simp only [Tryd.ntmps8]
    repeat' first
      | apply AW.seq | apply AW.region | apply AW.ret | apply AW.block | apply AW.skip | apply AW.exit | apply AW.scope | apply AW.label | apply AWL.nil | apply D.nil
      | refine W.draw cx_mixed (by decide +kernel) ?_
      | ((first | (apply W.step cx_ok; decide) | (apply D.step cx_ok; decide; decide) | (apply W.gS; rfl; decide) | (apply D.gS; rfl; decide; decide) | apply AW.cond); (simp (disch := omega) only [push_cast, simprocAttr, natNe, List.mem_cons, List.not_mem_nil, TyD.isAgg, Nat.add_assoc, List.map_nil, List.length_nil, Bool.and_self, Bool.and_true, Bool.true_and, Bool.false_and, Bool.and_false, Bool.not_true, Bool.not_false, Bool.false_eq_true, beq_self_eq_true, Bool.not_not] <;> rfl); all_goals try ((with_reducible intro hI); try first | (cases hI; done) | (simp only [INTS, not_true_eq_false] at hI; try first | (exfalso; omega) | (have hT : True := hI; clear hT hI))))
      | ((first | (apply W.gU; rfl; decide) | (apply D.gU; rfl; decide; decide)); (simp (disch := omega) only [push_cast, simprocAttr, natNe, List.mem_cons, List.not_mem_nil, TyD.isAgg, Nat.add_assoc, List.map_nil, List.length_nil, Bool.and_self, Bool.and_true, Bool.true_and, Bool.false_and, Bool.and_false, Bool.not_true, Bool.not_false, Bool.false_eq_true, beq_self_eq_true, Bool.not_not] <;> rfl))
      | ((first | (apply W.callv cx_ok; decide) | (apply D.callv cx_ok; decide; decide)); (iterate 2 (simp (disch := omega) only [push_cast, simprocAttr, natNe, List.mem_cons, List.not_mem_nil, TyD.isAgg, Nat.add_assoc, List.map_nil, List.length_nil, Bool.and_self, Bool.and_true, Bool.true_and, Bool.false_and, Bool.and_false, Bool.not_true, Bool.not_false, Bool.false_eq_true, beq_self_eq_true, Bool.not_not] <;> rfl)); (with_reducible first | exact hs | exact u1); try first | rfl | (simp (disch := omega) only [push_cast, simprocAttr, natNe, List.mem_cons, List.not_mem_nil, TyD.isAgg, Nat.add_assoc, List.map_nil, List.length_nil, Bool.and_self, Bool.and_true, Bool.true_and, Bool.false_and, Bool.and_false, Bool.not_true, Bool.not_false, Bool.false_eq_true, beq_self_eq_true, Bool.not_not] <;> rfl))
      | ((first | apply W.ret1 | apply W.end1); (iterate 2 (try (simp (disch := omega) only [push_cast, simprocAttr, natNe, List.mem_cons, List.not_mem_nil, TyD.isAgg, Nat.add_assoc, List.map_nil, List.length_nil, Bool.and_self, Bool.and_true, Bool.true_and, Bool.false_and, Bool.and_false, Bool.not_true, Bool.not_false, Bool.false_eq_true, beq_self_eq_true, Bool.not_not] <;> rfl))))

    all_goals (show _ = _; rfl)
  | true =>
  rw [g1] at u1
  cases g2 : usualF b with
  | false =>
    rw [g2] at u2
    refine OKat.of_body (rs := [8]) Tryd.func8 rfl (by decide +kernel) rfl (by simp [Tryd.ntmps8]) ?_
    simp only [Tryd.ntmps8]
    repeat' first
      | apply AW.seq | apply AW.region | apply AW.ret | apply AW.block | apply AW.skip | apply AW.exit | apply AW.scope | apply AW.label | apply AWL.nil | apply D.nil
      | refine W.draw cx_mixed (by decide +kernel) ?_
      | ((first | (apply W.step cx_ok; decide) | (apply D.step cx_ok; decide; decide) | (apply W.gS; rfl; decide) | (apply D.gS; rfl; decide; decide) | apply AW.cond); (simp (disch := omega) only [push_cast, simprocAttr, natNe, List.mem_cons, List.not_mem_nil, TyD.isAgg, Nat.add_assoc, List.map_nil, List.length_nil, Bool.and_self, Bool.and_true, Bool.true_and, Bool.false_and, Bool.and_false, Bool.not_true, Bool.not_false, Bool.false_eq_true, beq_self_eq_true, Bool.not_not] <;> rfl); all_goals try ((with_reducible intro hI); try first | (cases hI; done) | (simp only [INTS, not_true_eq_false] at hI; try first | (exfalso; omega) | (have hT : True := hI; clear hT hI))))
      | ((first | (apply W.gU; rfl; decide) | (apply D.gU; rfl; decide; decide)); (simp (disch := omega) only [push_cast, simprocAttr, natNe, List.mem_cons, List.not_mem_nil, TyD.isAgg, Nat.add_assoc, List.map_nil, List.length_nil, Bool.and_self, Bool.and_true, Bool.true_and, Bool.false_and, Bool.and_false, Bool.not_true, Bool.not_false, Bool.false_eq_true, beq_self_eq_true, Bool.not_not] <;> rfl))
      | ((first | (apply W.callv cx_ok; decide) | (apply D.callv cx_ok; decide; decide)); (iterate 2 (simp (disch := omega) only [push_cast, simprocAttr, natNe, List.mem_cons, List.not_mem_nil, TyD.isAgg, Nat.add_assoc, List.map_nil, List.length_nil, Bool.and_self, Bool.and_true, Bool.true_and, Bool.false_and, Bool.and_false, Bool.not_true, Bool.not_false, Bool.false_eq_true, beq_self_eq_true, Bool.not_not] <;> rfl)); (with_reducible first | exact hs | exact u1 | exact u2); try first | rfl | (simp (disch := omega) only [push_cast, simprocAttr, natNe, List.mem_cons, List.not_mem_nil, TyD.isAgg, Nat.add_assoc, List.map_nil, List.length_nil, Bool.and_self, Bool.and_true, Bool.true_and, Bool.false_and, Bool.and_false, Bool.not_true, Bool.not_false, Bool.false_eq_true, beq_self_eq_true, Bool.not_not] <;> rfl))
      | ((first | apply W.ret1 | apply W.end1); (iterate 2 (try (simp (disch := omega) only [push_cast, simprocAttr, natNe, List.mem_cons, List.not_mem_nil, TyD.isAgg, Nat.add_assoc, List.map_nil, List.length_nil, Bool.and_self, Bool.and_true, Bool.true_and, Bool.false_and, Bool.and_false, Bool.not_true, Bool.not_false, Bool.false_eq_true, beq_self_eq_true, Bool.not_not] <;> rfl))))

    all_goals (show _ = _; rfl)
  | true =>
  rw [g2] at u2
  unfold usualF at g1 g2
  simp only [Bool.and_eq_true, decide_eq_true_eq] at g1 g2
  obtain ⟨la, ea⟩ := g1
  obtain ⟨lb, eb⟩ := g2
  have va := (checkL_zero ea).2
  have vb := (checkL_zero eb).2
  have vab : ∀ x ∈ a ++ b, validA x = true := fun x hx => (List.mem_append.1 hx).elim (va x) (vb x)
  obtain ⟨a1, a2, am⟩ := spans_spec va
  obtain ⟨b1, b2, bm⟩ := spans_spec vb
  obtain ⟨ab1, ab2, abm⟩ := spans_spec vab
  obtain ⟨in1, inm⟩ := meet_spec a1 b1
  have in2 : inC (meetF (spansS a) (spansS b)) := inC_of_mem in1 fun z hz => mem_inC a2 ((inm z).1 hz).1
  obtain ⟨rb1, rb2, rbm⟩ := restS_spec b1 b2
  obtain ⟨ou1, oum⟩ := meet_spec a1 rb1
  have ou2 : inC (meetF (spansS a) (restS (spansS b))) := inC_of_mem ou1 fun z hz => mem_inC a2 ((oum z).1 hz).1
  have q1 := Angle_ok by_
  have d1 := angF_bd by_
  obtain ⟨X, hX⟩ : ∃ z, angF by_ = z := ⟨_, rfl⟩
  rw [hX] at q1 d1
  have hn0 : X.tmod 700 = X % 700 := Int.tmod_eq_emod_of_nonneg d1.1
  obtain ⟨n0, hN⟩ : ∃ z, X % 700 = z := ⟨_, rfl⟩
  have hnb : 0 ≤ n0 ∧ n0 < 700 := by omega
  rw [hN] at hn0
  have hwv : ∀ x ∈ a.map (fun x => wideF x n0), validA x = true := fun x hx => by
    obtain ⟨y, hy, rfl⟩ := List.mem_map.1 hx
    exact wide_valid (va y hy) hnb.1
  obtain ⟨w1, w2, wm⟩ := spans_spec hwv
  have p1 := Normal_good h0 a ea
  have p2 := Union_good h0 a b ea eb
  have p3 := Meet_good h0 a b ea eb
  have p4 := Minus_good h0 a b ea eb
  have p5 := Minus_good h0 b a eb ea
  have p6 := Covers_good h0 a b ea eb
  have p7 := Grow_good h0 a n0 ea ⟨hnb.1, by omega⟩
  have ha1 := angF_bd t0
  have kk1 : hasL (arcsF (spansS a)) t0 = hasL a t0 := by
    rw [Bool.eq_iff_iff, has_arcs a1 a2, hasL_iff va]
  have kk2 : hasL (arcsF (spansS (a ++ b))) t0 = (hasL a t0 || hasL b t0) := by
    rw [Bool.eq_iff_iff, has_arcs ab1 ab2, Bool.or_eq_true, hasL_iff va, hasL_iff vb, abm, am, bm]
    unfold piecesL
    rw [List.flatMap_append, memS_append]
  have kk3 : hasL (arcsF (meetF (spansS a) (spansS b))) t0 = (hasL a t0 && hasL b t0) := by
    rw [Bool.eq_iff_iff, has_arcs in1 in2, Bool.and_eq_true, hasL_iff va, hasL_iff vb, inm]
  have kk4 : hasL (arcsF (meetF (spansS a) (restS (spansS b)))) t0 = (hasL a t0 && !hasL b t0) := by
    rw [Bool.eq_iff_iff, has_arcs ou1 ou2, Bool.and_eq_true, Bool.not_eq_true', Bool.eq_false_iff, ne_eq, hasL_iff va, hasL_iff vb, oum, rbm]
    exact ⟨fun h => ⟨h.1, h.2.2.2⟩, fun h => ⟨h.1, ha1.1, by omega, h.2⟩⟩
  have kk5 : hasL (growL a n0) t0 = nearL a t0 n0 := by
    rw [← near_any va hnb t0, Bool.eq_iff_iff]
    unfold growL
    rw [has_arcs w1 w2, hasL_iff hwv]
  have s1 := apart_ok _ (arcsF_norm a1 a2) (by have := arcs_len a1 a2; omega)
  have s2 := apart_ok _ (arcsF_norm ab1 ab2) (by have := arcs_len ab1 ab2; omega)
  have s3 := apart_ok _ (arcsF_norm in1 in2) (by have := arcs_len in1 in2; omega)
  have s4 := apart_ok _ (arcsF_norm ou1 ou2) (by have := arcs_len ou1 ou2; omega)
  have s5 : OKv cx 58 [lArc (growL a n0)] (ab true) := apart_ok _ (arcsF_norm w1 w2) (show (arcsF (spansS (a.map fun x => wideF x n0))).length ≤ _ by have := arcs_len w1 w2; omega)
  have h1 := has_ok a t0 (by omega)
  have h2 := has_ok b t0 (by omega)
  have h3 := has_ok _ t0 (show (arcsF (spansS a)).length ≤ _ by have := arcs_len a1 a2; omega)
  have h4 := has_ok _ t0 (show (arcsF (spansS (a ++ b))).length ≤ _ by have := arcs_len ab1 ab2; omega)
  have h5 := has_ok _ t0 (show (arcsF (meetF (spansS a) (spansS b))).length ≤ _ by have := arcs_len in1 in2; omega)
  have h6 := has_ok _ t0 (show (arcsF (meetF (spansS a) (restS (spansS b)))).length ≤ _ by have := arcs_len ou1 ou2; omega)
  have h7 : OKv cx 57 [lArc (growL a n0), ai t0] (ab (hasL (growL a n0) t0)) := has_ok _ t0 (show (growL a n0).length ≤ _ by have := arcs_len w1 w2; unfold growL; omega)
  rw [kk1] at h3
  rw [kk2] at h4
  rw [kk3] at h5
  rw [kk4] at h6
  rw [kk5] at h7
  clear kk1 kk2 kk3 kk4 kk5
  obtain ⟨RES, hRES⟩ : ∃ z, nearL a t0 n0 = z := ⟨_, rfl⟩
  rw [hRES] at h7
  unfold coversF at p6
  have hz : decide (((arcsF (meetF (spansS b) (restS (spansS a)))).length : Int) = 0) = decide (meetF (spansS b) (restS (spansS a)) = []) := by
    rw [Bool.eq_iff_iff, decide_eq_true_iff, decide_eq_true_iff, ← arcsF_nil]
    generalize arcsF (meetF (spansS b) (restS (spansS a))) = R
    cases R with
    | nil => exact ⟨fun _ => rfl, fun _ => rfl⟩
    | cons x R => exact ⟨fun h => by rw [List.length_cons] at h; omega, fun h => by cases h⟩
  obtain ⟨CV, hCV⟩ : ∃ z, decide (meetF (spansS b) (restS (spansS a)) = []) = z := ⟨_, rfl⟩
  rw [hCV] at hz p6
  generalize arcsF (meetF (spansS b) (restS (spansS a))) = LEFT at *
  have hz2 : ((LEFT.length : Int) == 0) = CV := hz
  generalize growL a n0 = G at *
  generalize arcsF (spansS a) = NA at *
  generalize arcsF (spansS (a ++ b)) = NAB at *
  generalize arcsF (meetF (spansS a) (spansS b)) = NIN at *
  generalize arcsF (meetF (spansS a) (restS (spansS b))) = NOU at *
  generalize hasL a t0 = P at *
  generalize hasL b t0 = BQ at *
  clear wm am bm abm inm oum rbm a1 a2 b1 b2 ab1 ab2 in1 in2 ou1 ou2 rb1 rb2 w1 w2 hwv vab hCV hX hN
  cases P with
  | true =>
    rw [Bool.true_or] at h4
    rw [Bool.true_and] at h5 h6
    refine OKat.of_body (rs := [8]) Tryd.func8 rfl (by decide +kernel) rfl (by simp [Tryd.ntmps8]) ?_
    simp only [Tryd.ntmps8]
    repeat' first
      | apply AW.seq | apply AW.region | apply AW.ret | apply AW.block | apply AW.skip | apply AW.exit | apply AW.scope | apply AW.label | apply AWL.nil | apply D.nil
      | refine W.draw cx_mixed (by decide +kernel) ?_
      | ((first | (apply W.step cx_ok; decide) | (apply D.step cx_ok; decide; decide) | (apply W.gS; rfl; decide) | (apply D.gS; rfl; decide; decide) | apply AW.cond); (simp (disch := omega) only [push_cast, simprocAttr, natNe, List.mem_cons, List.not_mem_nil, TyD.isAgg, Nat.add_assoc, List.map_nil, List.length_nil, Bool.and_self, Bool.and_true, Bool.true_and, Bool.false_and, Bool.and_false, Bool.not_true, Bool.not_false, Bool.false_eq_true, beq_self_eq_true, Bool.not_not, hz, hz2, hn0, hf1, hf2, St.back] <;> rfl); all_goals try ((with_reducible intro hI); try first | (cases hI; done) | (simp only [INTS, not_true_eq_false] at hI; try first | (exfalso; omega) | (have hT : True := hI; clear hT hI))))
      | ((first | (apply W.gU; rfl; decide) | (apply D.gU; rfl; decide; decide)); (simp (disch := omega) only [push_cast, simprocAttr, natNe, List.mem_cons, List.not_mem_nil, TyD.isAgg, Nat.add_assoc, List.map_nil, List.length_nil, Bool.and_self, Bool.and_true, Bool.true_and, Bool.false_and, Bool.and_false, Bool.not_true, Bool.not_false, Bool.false_eq_true, beq_self_eq_true, Bool.not_not, hz, hz2, hn0, hf1, hf2, St.back] <;> rfl))
      | ((first | (apply W.callv cx_ok; decide) | (apply D.callv cx_ok; decide; decide)); (iterate 2 (simp (disch := omega) only [push_cast, simprocAttr, natNe, List.mem_cons, List.not_mem_nil, TyD.isAgg, Nat.add_assoc, List.map_nil, List.length_nil, Bool.and_self, Bool.and_true, Bool.true_and, Bool.false_and, Bool.and_false, Bool.not_true, Bool.not_false, Bool.false_eq_true, beq_self_eq_true, Bool.not_not, hz, hz2, hn0, hf1, hf2, St.back] <;> rfl)); (with_reducible first | exact hs | exact u1 | exact u2 | exact p1 | exact p2 | exact p3 | exact p4 | exact p5 | exact p6 | exact p7 | exact q1 | exact h1 | exact h2 | exact h3 | exact h4 | exact h5 | exact h6 | exact s1 | exact s2 | exact s3 | exact s4 | exact s5); try first | rfl | (simp (disch := omega) only [push_cast, simprocAttr, natNe, List.mem_cons, List.not_mem_nil, TyD.isAgg, Nat.add_assoc, List.map_nil, List.length_nil, Bool.and_self, Bool.and_true, Bool.true_and, Bool.false_and, Bool.and_false, Bool.not_true, Bool.not_false, Bool.false_eq_true, beq_self_eq_true, Bool.not_not, hz, hz2, hn0, hf1, hf2, St.back] <;> rfl))
      | ((first | apply W.ret1 | apply W.end1); (iterate 2 (try (simp (disch := omega) only [push_cast, simprocAttr, natNe, List.mem_cons, List.not_mem_nil, TyD.isAgg, Nat.add_assoc, List.map_nil, List.length_nil, Bool.and_self, Bool.and_true, Bool.true_and, Bool.false_and, Bool.and_false, Bool.not_true, Bool.not_false, Bool.false_eq_true, beq_self_eq_true, Bool.not_not, hz, hz2, hn0, hf1, hf2, St.back] <;> rfl))))

    refine AW.loop (fun n s => ∃ (k : Nat) (NB : Bool) (rest : List Arc), n = rest.length ∧ (a.drop k = rest) ∧ ((NB || nearL rest t0 n0) = RES) ∧ s.tm 0 = lArc a ∧ s.tm 3 = ai t0 ∧ s.tm 21 = ai n0 ∧ s.tm 22 = lArc G ∧ s.tm 26 = ab NB ∧ s.tm 27 = ai k) (a.length) ⟨0, false, a, rfl, rfl, (by rw [Bool.false_or]; exact hRES), ?_, ?_, ?_, ?_, ?_, ?_⟩ ?_
    iterate 6 (first | (simp (disch := omega) only [push_cast, simprocAttr, natNe, List.mem_cons, List.not_mem_nil, TyD.isAgg, Nat.add_assoc, List.map_nil, List.length_nil, Bool.and_self, Bool.and_true, Bool.true_and, Bool.false_and, Bool.and_false, Bool.not_true, Bool.not_false, Bool.false_eq_true, beq_self_eq_true, Bool.not_not, hz, hz2, hn0, hf1, hf2, St.back] <;> first | rfl | omega) | omega)
    rintro n1 s1 ⟨k1, NB1, rest1, hn1, hp01, hp11, hS1⟩
    rcases rest1 with _ | ⟨x, rest1⟩
    · have hk := drop_nil hp01
      have hq : NB1 = RES := by rw [show nearL ([] : List Arc) t0 n0 = false from rfl, Bool.or_false] at hp11; exact hp11
      subst hq
      repeat' first
        | apply AW.seq | apply AW.region | apply AW.ret | apply AW.block | apply AW.skip | apply AW.exit | apply AW.scope | apply AW.label | apply AWL.nil | apply D.nil
        | refine W.draw cx_mixed (by decide +kernel) ?_
        | ((first | (apply W.step cx_ok; decide) | (apply D.step cx_ok; decide; decide) | (apply W.gS; rfl; decide) | (apply D.gS; rfl; decide; decide) | apply AW.cond); (simp (disch := omega) only [push_cast, simprocAttr, hS1, natNe, List.mem_cons, List.not_mem_nil, TyD.isAgg, Nat.add_assoc, List.map_nil, List.length_nil, Bool.and_self, Bool.and_true, Bool.true_and, Bool.false_and, Bool.and_false, Bool.not_true, Bool.not_false, Bool.false_eq_true, beq_self_eq_true, Bool.not_not, hk] <;> rfl); all_goals try ((with_reducible intro hI); try first | (cases hI; done) | (simp only [INTS, not_true_eq_false] at hI; try first | (exfalso; omega) | (have hT : True := hI; clear hT hI))))
        | ((first | (apply W.gU; rfl; decide) | (apply D.gU; rfl; decide; decide)); (simp (disch := omega) only [push_cast, simprocAttr, hS1, natNe, List.mem_cons, List.not_mem_nil, TyD.isAgg, Nat.add_assoc, List.map_nil, List.length_nil, Bool.and_self, Bool.and_true, Bool.true_and, Bool.false_and, Bool.and_false, Bool.not_true, Bool.not_false, Bool.false_eq_true, beq_self_eq_true, Bool.not_not, hk] <;> rfl))
        | ((first | (apply W.callv cx_ok; decide) | (apply D.callv cx_ok; decide; decide)); (iterate 2 (simp (disch := omega) only [push_cast, simprocAttr, hS1, natNe, List.mem_cons, List.not_mem_nil, TyD.isAgg, Nat.add_assoc, List.map_nil, List.length_nil, Bool.and_self, Bool.and_true, Bool.true_and, Bool.false_and, Bool.and_false, Bool.not_true, Bool.not_false, Bool.false_eq_true, beq_self_eq_true, Bool.not_not, hk] <;> rfl)); (with_reducible first | exact hs | exact h7); try first | rfl | (simp (disch := omega) only [push_cast, simprocAttr, hS1, natNe, List.mem_cons, List.not_mem_nil, TyD.isAgg, Nat.add_assoc, List.map_nil, List.length_nil, Bool.and_self, Bool.and_true, Bool.true_and, Bool.false_and, Bool.and_false, Bool.not_true, Bool.not_false, Bool.false_eq_true, beq_self_eq_true, Bool.not_not, hk] <;> rfl))
        | ((first | apply W.ret1 | apply W.end1); (iterate 2 (try (simp (disch := omega) only [push_cast, simprocAttr, hS1, natNe, List.mem_cons, List.not_mem_nil, TyD.isAgg, Nat.add_assoc, List.map_nil, List.length_nil, Bool.and_self, Bool.and_true, Bool.true_and, Bool.false_and, Bool.and_false, Bool.not_true, Bool.not_false, Bool.false_eq_true, beq_self_eq_true, Bool.not_not, hk] <;> rfl))))

      all_goals (show _ = _; rfl)
    obtain ⟨hk, hg, hd', hl', hm', hx⟩ := drop_cons hp01 eArc []
    have v := va x hm'
    obtain ⟨v1, v2, v3, v4, v5⟩ := validA_iff.1 v
    have e1 := Has_ok x t0
    have e2 := Apart_ok t0 x.from_
    have e3 := Angle_ok (x.from_ + x.len)
    have e4 := Apart_ok t0 (angF (x.from_ + x.len))
    cases hNB : NB1 with
    | true =>
      rw [hNB] at hS1 hp11
      have hp : (true || nearL rest1 t0 n0) = RES := hp11
      repeat' first
        | apply AW.seq | apply AW.region | apply AW.ret | apply AW.block | apply AW.skip | apply AW.exit | apply AW.scope | apply AW.label | apply AWL.nil | apply D.nil
        | refine W.draw cx_mixed (by decide +kernel) ?_
        | ((first | (apply W.step cx_ok; decide) | (apply D.step cx_ok; decide; decide) | (apply W.gS; rfl; decide) | (apply D.gS; rfl; decide; decide) | apply AW.cond); (simp (disch := omega) only [push_cast, simprocAttr, hS1, natNe, List.mem_cons, List.not_mem_nil, TyD.isAgg, Nat.add_assoc, List.map_nil, List.length_nil, Bool.and_self, Bool.and_true, Bool.true_and, Bool.false_and, Bool.and_false, Bool.not_true, Bool.not_false, Bool.false_eq_true, beq_self_eq_true, Bool.not_not, hk, hg, hx] <;> rfl); all_goals try ((with_reducible intro hI); try first | (cases hI; done) | (simp only [INTS, not_true_eq_false] at hI; try first | (exfalso; omega) | (have hT : True := hI; clear hT hI))))
        | ((first | (apply W.gU; rfl; decide) | (apply D.gU; rfl; decide; decide)); (simp (disch := omega) only [push_cast, simprocAttr, hS1, natNe, List.mem_cons, List.not_mem_nil, TyD.isAgg, Nat.add_assoc, List.map_nil, List.length_nil, Bool.and_self, Bool.and_true, Bool.true_and, Bool.false_and, Bool.and_false, Bool.not_true, Bool.not_false, Bool.false_eq_true, beq_self_eq_true, Bool.not_not, hk, hg, hx] <;> rfl))
        | ((first | (apply W.callv cx_ok; decide) | (apply D.callv cx_ok; decide; decide)); (iterate 2 (simp (disch := omega) only [push_cast, simprocAttr, hS1, natNe, List.mem_cons, List.not_mem_nil, TyD.isAgg, Nat.add_assoc, List.map_nil, List.length_nil, Bool.and_self, Bool.and_true, Bool.true_and, Bool.false_and, Bool.and_false, Bool.not_true, Bool.not_false, Bool.false_eq_true, beq_self_eq_true, Bool.not_not, hk, hg, hx] <;> rfl)); (with_reducible first | exact e1 | exact e2 | exact e3 | exact e4); try first | rfl | (simp (disch := omega) only [push_cast, simprocAttr, hS1, natNe, List.mem_cons, List.not_mem_nil, TyD.isAgg, Nat.add_assoc, List.map_nil, List.length_nil, Bool.and_self, Bool.and_true, Bool.true_and, Bool.false_and, Bool.and_false, Bool.not_true, Bool.not_false, Bool.false_eq_true, beq_self_eq_true, Bool.not_not, hk, hg, hx] <;> rfl))
        | ((first | apply W.ret1 | apply W.end1); (iterate 2 (try (simp (disch := omega) only [push_cast, simprocAttr, hS1, natNe, List.mem_cons, List.not_mem_nil, TyD.isAgg, Nat.add_assoc, List.map_nil, List.length_nil, Bool.and_self, Bool.and_true, Bool.true_and, Bool.false_and, Bool.and_false, Bool.not_true, Bool.not_false, Bool.false_eq_true, beq_self_eq_true, Bool.not_not, hk, hg, hx] <;> rfl))))

      all_goals (refine ⟨rest1.length, ?_, k1 + 1, true, rest1, rfl, hd', hp, ?_, ?_, ?_, ?_, ?_, ?_⟩; ((simp only [List.length_cons] at *; omega)); all_goals first | (simp (disch := omega) only [push_cast, simprocAttr, hS1, natNe, List.mem_cons, List.not_mem_nil, TyD.isAgg, Nat.add_assoc, List.map_nil, List.length_nil, Bool.and_self, Bool.and_true, Bool.true_and, Bool.false_and, Bool.and_false, Bool.not_true, Bool.not_false, Bool.false_eq_true, beq_self_eq_true, Bool.not_not, hk, hg, hx] <;> first | rfl | omega) | omega)
    | false =>
    rw [hNB] at hS1 hp11
    have hp : (((hasF x t0 || decide (apartF t0 x.from_ ≤ n0)) || decide (apartF t0 (angF (x.from_ + x.len)) ≤ n0)) || nearL rest1 t0 n0) = RES := by rw [Bool.false_or] at hp11; exact hp11
    cases hh : hasF x t0 with
    | true =>
      rw [hh] at e1 hp
      have hp' : (true || nearL rest1 t0 n0) = RES := by simpa using hp
      repeat' first
        | apply AW.seq | apply AW.region | apply AW.ret | apply AW.block | apply AW.skip | apply AW.exit | apply AW.scope | apply AW.label | apply AWL.nil | apply D.nil
        | refine W.draw cx_mixed (by decide +kernel) ?_
        | ((first | (apply W.step cx_ok; decide) | (apply D.step cx_ok; decide; decide) | (apply W.gS; rfl; decide) | (apply D.gS; rfl; decide; decide) | apply AW.cond); (simp (disch := omega) only [push_cast, simprocAttr, hS1, natNe, List.mem_cons, List.not_mem_nil, TyD.isAgg, Nat.add_assoc, List.map_nil, List.length_nil, Bool.and_self, Bool.and_true, Bool.true_and, Bool.false_and, Bool.and_false, Bool.not_true, Bool.not_false, Bool.false_eq_true, beq_self_eq_true, Bool.not_not, hk, hg, hx] <;> rfl); all_goals try ((with_reducible intro hI); try first | (cases hI; done) | (simp only [INTS, not_true_eq_false] at hI; try first | (exfalso; omega) | (have hT : True := hI; clear hT hI))))
        | ((first | (apply W.gU; rfl; decide) | (apply D.gU; rfl; decide; decide)); (simp (disch := omega) only [push_cast, simprocAttr, hS1, natNe, List.mem_cons, List.not_mem_nil, TyD.isAgg, Nat.add_assoc, List.map_nil, List.length_nil, Bool.and_self, Bool.and_true, Bool.true_and, Bool.false_and, Bool.and_false, Bool.not_true, Bool.not_false, Bool.false_eq_true, beq_self_eq_true, Bool.not_not, hk, hg, hx] <;> rfl))
        | ((first | (apply W.callv cx_ok; decide) | (apply D.callv cx_ok; decide; decide)); (iterate 2 (simp (disch := omega) only [push_cast, simprocAttr, hS1, natNe, List.mem_cons, List.not_mem_nil, TyD.isAgg, Nat.add_assoc, List.map_nil, List.length_nil, Bool.and_self, Bool.and_true, Bool.true_and, Bool.false_and, Bool.and_false, Bool.not_true, Bool.not_false, Bool.false_eq_true, beq_self_eq_true, Bool.not_not, hk, hg, hx] <;> rfl)); (with_reducible first | exact e1 | exact e2 | exact e3 | exact e4); try first | rfl | (simp (disch := omega) only [push_cast, simprocAttr, hS1, natNe, List.mem_cons, List.not_mem_nil, TyD.isAgg, Nat.add_assoc, List.map_nil, List.length_nil, Bool.and_self, Bool.and_true, Bool.true_and, Bool.false_and, Bool.and_false, Bool.not_true, Bool.not_false, Bool.false_eq_true, beq_self_eq_true, Bool.not_not, hk, hg, hx] <;> rfl))
        | ((first | apply W.ret1 | apply W.end1); (iterate 2 (try (simp (disch := omega) only [push_cast, simprocAttr, hS1, natNe, List.mem_cons, List.not_mem_nil, TyD.isAgg, Nat.add_assoc, List.map_nil, List.length_nil, Bool.and_self, Bool.and_true, Bool.true_and, Bool.false_and, Bool.and_false, Bool.not_true, Bool.not_false, Bool.false_eq_true, beq_self_eq_true, Bool.not_not, hk, hg, hx] <;> rfl))))

      all_goals (refine ⟨rest1.length, ?_, k1 + 1, true, rest1, rfl, hd', hp', ?_, ?_, ?_, ?_, ?_, ?_⟩; ((simp only [List.length_cons] at *; omega)); all_goals first | (simp (disch := omega) only [push_cast, simprocAttr, hS1, natNe, List.mem_cons, List.not_mem_nil, TyD.isAgg, Nat.add_assoc, List.map_nil, List.length_nil, Bool.and_self, Bool.and_true, Bool.true_and, Bool.false_and, Bool.and_false, Bool.not_true, Bool.not_false, Bool.false_eq_true, beq_self_eq_true, Bool.not_not, hk, hg, hx] <;> first | rfl | omega) | omega)
    | false =>
    rw [hh, Bool.false_or] at hp
    rw [hh] at e1
    by_cases g1 : apartF t0 x.from_ ≤ n0
    · have gT := eq_true g1
      rw [decide_eq_true g1] at hp
      have hp' : (true || nearL rest1 t0 n0) = RES := by simpa using hp
      repeat' first
        | apply AW.seq | apply AW.region | apply AW.ret | apply AW.block | apply AW.skip | apply AW.exit | apply AW.scope | apply AW.label | apply AWL.nil | apply D.nil
        | refine W.draw cx_mixed (by decide +kernel) ?_
        | ((first | (apply W.step cx_ok; decide) | (apply D.step cx_ok; decide; decide) | (apply W.gS; rfl; decide) | (apply D.gS; rfl; decide; decide) | apply AW.cond); (simp (disch := omega) only [push_cast, simprocAttr, hS1, natNe, List.mem_cons, List.not_mem_nil, TyD.isAgg, Nat.add_assoc, List.map_nil, List.length_nil, Bool.and_self, Bool.and_true, Bool.true_and, Bool.false_and, Bool.and_false, Bool.not_true, Bool.not_false, Bool.false_eq_true, beq_self_eq_true, Bool.not_not, hk, hg, hx, gT] <;> rfl); all_goals try ((with_reducible intro hI); try first | (cases hI; done) | (simp only [INTS, not_true_eq_false] at hI; try first | (exfalso; omega) | (have hT : True := hI; clear hT hI))))
        | ((first | (apply W.gU; rfl; decide) | (apply D.gU; rfl; decide; decide)); (simp (disch := omega) only [push_cast, simprocAttr, hS1, natNe, List.mem_cons, List.not_mem_nil, TyD.isAgg, Nat.add_assoc, List.map_nil, List.length_nil, Bool.and_self, Bool.and_true, Bool.true_and, Bool.false_and, Bool.and_false, Bool.not_true, Bool.not_false, Bool.false_eq_true, beq_self_eq_true, Bool.not_not, hk, hg, hx, gT] <;> rfl))
        | ((first | (apply W.callv cx_ok; decide) | (apply D.callv cx_ok; decide; decide)); (iterate 2 (simp (disch := omega) only [push_cast, simprocAttr, hS1, natNe, List.mem_cons, List.not_mem_nil, TyD.isAgg, Nat.add_assoc, List.map_nil, List.length_nil, Bool.and_self, Bool.and_true, Bool.true_and, Bool.false_and, Bool.and_false, Bool.not_true, Bool.not_false, Bool.false_eq_true, beq_self_eq_true, Bool.not_not, hk, hg, hx, gT] <;> rfl)); (with_reducible first | exact e1 | exact e2 | exact e3 | exact e4); try first | rfl | (simp (disch := omega) only [push_cast, simprocAttr, hS1, natNe, List.mem_cons, List.not_mem_nil, TyD.isAgg, Nat.add_assoc, List.map_nil, List.length_nil, Bool.and_self, Bool.and_true, Bool.true_and, Bool.false_and, Bool.and_false, Bool.not_true, Bool.not_false, Bool.false_eq_true, beq_self_eq_true, Bool.not_not, hk, hg, hx, gT] <;> rfl))
        | ((first | apply W.ret1 | apply W.end1); (iterate 2 (try (simp (disch := omega) only [push_cast, simprocAttr, hS1, natNe, List.mem_cons, List.not_mem_nil, TyD.isAgg, Nat.add_assoc, List.map_nil, List.length_nil, Bool.and_self, Bool.and_true, Bool.true_and, Bool.false_and, Bool.and_false, Bool.not_true, Bool.not_false, Bool.false_eq_true, beq_self_eq_true, Bool.not_not, hk, hg, hx, gT] <;> rfl))))

      all_goals (refine ⟨rest1.length, ?_, k1 + 1, true, rest1, rfl, hd', hp', ?_, ?_, ?_, ?_, ?_, ?_⟩; ((simp only [List.length_cons] at *; omega)); all_goals first | (simp (disch := omega) only [push_cast, simprocAttr, hS1, natNe, List.mem_cons, List.not_mem_nil, TyD.isAgg, Nat.add_assoc, List.map_nil, List.length_nil, Bool.and_self, Bool.and_true, Bool.true_and, Bool.false_and, Bool.and_false, Bool.not_true, Bool.not_false, Bool.false_eq_true, beq_self_eq_true, Bool.not_not, hk, hg, hx, gT] <;> first | rfl | omega) | omega)
    · have gF := eq_false g1
      rw [decide_eq_false g1, Bool.false_or] at hp
      obtain ⟨DB, hDB⟩ : ∃ z, decide (apartF t0 (angF (x.from_ + x.len)) ≤ n0) = z := ⟨_, rfl⟩
      rw [hDB] at hp
      repeat' first
        | apply AW.seq | apply AW.region | apply AW.ret | apply AW.block | apply AW.skip | apply AW.exit | apply AW.scope | apply AW.label | apply AWL.nil | apply D.nil
        | refine W.draw cx_mixed (by decide +kernel) ?_
        | ((first | (apply W.step cx_ok; decide) | (apply D.step cx_ok; decide; decide) | (apply W.gS; rfl; decide) | (apply D.gS; rfl; decide; decide) | apply AW.cond); (simp (disch := omega) only [push_cast, simprocAttr, hS1, natNe, List.mem_cons, List.not_mem_nil, TyD.isAgg, Nat.add_assoc, List.map_nil, List.length_nil, Bool.and_self, Bool.and_true, Bool.true_and, Bool.false_and, Bool.and_false, Bool.not_true, Bool.not_false, Bool.false_eq_true, beq_self_eq_true, Bool.not_not, hk, hg, hx, gF, hDB] <;> rfl); all_goals try ((with_reducible intro hI); try first | (cases hI; done) | (simp only [INTS, not_true_eq_false] at hI; try first | (exfalso; omega) | (have hT : True := hI; clear hT hI))))
        | ((first | (apply W.gU; rfl; decide) | (apply D.gU; rfl; decide; decide)); (simp (disch := omega) only [push_cast, simprocAttr, hS1, natNe, List.mem_cons, List.not_mem_nil, TyD.isAgg, Nat.add_assoc, List.map_nil, List.length_nil, Bool.and_self, Bool.and_true, Bool.true_and, Bool.false_and, Bool.and_false, Bool.not_true, Bool.not_false, Bool.false_eq_true, beq_self_eq_true, Bool.not_not, hk, hg, hx, gF, hDB] <;> rfl))
        | ((first | (apply W.callv cx_ok; decide) | (apply D.callv cx_ok; decide; decide)); (iterate 2 (simp (disch := omega) only [push_cast, simprocAttr, hS1, natNe, List.mem_cons, List.not_mem_nil, TyD.isAgg, Nat.add_assoc, List.map_nil, List.length_nil, Bool.and_self, Bool.and_true, Bool.true_and, Bool.false_and, Bool.and_false, Bool.not_true, Bool.not_false, Bool.false_eq_true, beq_self_eq_true, Bool.not_not, hk, hg, hx, gF, hDB] <;> rfl)); (with_reducible first | exact e1 | exact e2 | exact e3 | exact e4); try first | rfl | (simp (disch := omega) only [push_cast, simprocAttr, hS1, natNe, List.mem_cons, List.not_mem_nil, TyD.isAgg, Nat.add_assoc, List.map_nil, List.length_nil, Bool.and_self, Bool.and_true, Bool.true_and, Bool.false_and, Bool.and_false, Bool.not_true, Bool.not_false, Bool.false_eq_true, beq_self_eq_true, Bool.not_not, hk, hg, hx, gF, hDB] <;> rfl))
        | ((first | apply W.ret1 | apply W.end1); (iterate 2 (try (simp (disch := omega) only [push_cast, simprocAttr, hS1, natNe, List.mem_cons, List.not_mem_nil, TyD.isAgg, Nat.add_assoc, List.map_nil, List.length_nil, Bool.and_self, Bool.and_true, Bool.true_and, Bool.false_and, Bool.and_false, Bool.not_true, Bool.not_false, Bool.false_eq_true, beq_self_eq_true, Bool.not_not, hk, hg, hx, gF, hDB] <;> rfl))))

      all_goals (refine ⟨rest1.length, ?_, k1 + 1, DB, rest1, rfl, hd', hp, ?_, ?_, ?_, ?_, ?_, ?_⟩; ((simp only [List.length_cons] at *; omega)); all_goals first | (simp (disch := omega) only [push_cast, simprocAttr, hS1, natNe, List.mem_cons, List.not_mem_nil, TyD.isAgg, Nat.add_assoc, List.map_nil, List.length_nil, Bool.and_self, Bool.and_true, Bool.true_and, Bool.false_and, Bool.and_false, Bool.not_true, Bool.not_false, Bool.false_eq_true, beq_self_eq_true, Bool.not_not, hk, hg, hx, gF, hDB] <;> first | rfl | omega) | omega)
  | false =>
    rw [Bool.false_or] at h4
    rw [Bool.false_and] at h5 h6
    refine OKat.of_body (rs := [8]) Tryd.func8 rfl (by decide +kernel) rfl (by simp [Tryd.ntmps8]) ?_
    simp only [Tryd.ntmps8]
    repeat' first
      | apply AW.seq | apply AW.region | apply AW.ret | apply AW.block | apply AW.skip | apply AW.exit | apply AW.scope | apply AW.label | apply AWL.nil | apply D.nil
      | refine W.draw cx_mixed (by decide +kernel) ?_
      | ((first | (apply W.step cx_ok; decide) | (apply D.step cx_ok; decide; decide) | (apply W.gS; rfl; decide) | (apply D.gS; rfl; decide; decide) | apply AW.cond); (simp (disch := omega) only [push_cast, simprocAttr, natNe, List.mem_cons, List.not_mem_nil, TyD.isAgg, Nat.add_assoc, List.map_nil, List.length_nil, Bool.and_self, Bool.and_true, Bool.true_and, Bool.false_and, Bool.and_false, Bool.not_true, Bool.not_false, Bool.false_eq_true, beq_self_eq_true, Bool.not_not, hz, hz2, hn0, hf1, hf2, St.back] <;> rfl); all_goals try ((with_reducible intro hI); try first | (cases hI; done) | (simp only [INTS, not_true_eq_false] at hI; try first | (exfalso; omega) | (have hT : True := hI; clear hT hI))))
      | ((first | (apply W.gU; rfl; decide) | (apply D.gU; rfl; decide; decide)); (simp (disch := omega) only [push_cast, simprocAttr, natNe, List.mem_cons, List.not_mem_nil, TyD.isAgg, Nat.add_assoc, List.map_nil, List.length_nil, Bool.and_self, Bool.and_true, Bool.true_and, Bool.false_and, Bool.and_false, Bool.not_true, Bool.not_false, Bool.false_eq_true, beq_self_eq_true, Bool.not_not, hz, hz2, hn0, hf1, hf2, St.back] <;> rfl))
      | ((first | (apply W.callv cx_ok; decide) | (apply D.callv cx_ok; decide; decide)); (iterate 2 (simp (disch := omega) only [push_cast, simprocAttr, natNe, List.mem_cons, List.not_mem_nil, TyD.isAgg, Nat.add_assoc, List.map_nil, List.length_nil, Bool.and_self, Bool.and_true, Bool.true_and, Bool.false_and, Bool.and_false, Bool.not_true, Bool.not_false, Bool.false_eq_true, beq_self_eq_true, Bool.not_not, hz, hz2, hn0, hf1, hf2, St.back] <;> rfl)); (with_reducible first | exact hs | exact u1 | exact u2 | exact p1 | exact p2 | exact p3 | exact p4 | exact p5 | exact p6 | exact p7 | exact q1 | exact h1 | exact h2 | exact h3 | exact h4 | exact h5 | exact h6 | exact s1 | exact s2 | exact s3 | exact s4 | exact s5); try first | rfl | (simp (disch := omega) only [push_cast, simprocAttr, natNe, List.mem_cons, List.not_mem_nil, TyD.isAgg, Nat.add_assoc, List.map_nil, List.length_nil, Bool.and_self, Bool.and_true, Bool.true_and, Bool.false_and, Bool.and_false, Bool.not_true, Bool.not_false, Bool.false_eq_true, beq_self_eq_true, Bool.not_not, hz, hz2, hn0, hf1, hf2, St.back] <;> rfl))
      | ((first | apply W.ret1 | apply W.end1); (iterate 2 (try (simp (disch := omega) only [push_cast, simprocAttr, natNe, List.mem_cons, List.not_mem_nil, TyD.isAgg, Nat.add_assoc, List.map_nil, List.length_nil, Bool.and_self, Bool.and_true, Bool.true_and, Bool.false_and, Bool.and_false, Bool.not_true, Bool.not_false, Bool.false_eq_true, beq_self_eq_true, Bool.not_not, hz, hz2, hn0, hf1, hf2, St.back] <;> rfl))))

    refine AW.loop (fun n s => ∃ (k : Nat) (NB : Bool) (rest : List Arc), n = rest.length ∧ (a.drop k = rest) ∧ ((NB || nearL rest t0 n0) = RES) ∧ s.tm 0 = lArc a ∧ s.tm 3 = ai t0 ∧ s.tm 21 = ai n0 ∧ s.tm 22 = lArc G ∧ s.tm 26 = ab NB ∧ s.tm 27 = ai k) (a.length) ⟨0, false, a, rfl, rfl, (by rw [Bool.false_or]; exact hRES), ?_, ?_, ?_, ?_, ?_, ?_⟩ ?_
    iterate 6 (first | (simp (disch := omega) only [push_cast, simprocAttr, natNe, List.mem_cons, List.not_mem_nil, TyD.isAgg, Nat.add_assoc, List.map_nil, List.length_nil, Bool.and_self, Bool.and_true, Bool.true_and, Bool.false_and, Bool.and_false, Bool.not_true, Bool.not_false, Bool.false_eq_true, beq_self_eq_true, Bool.not_not, hz, hz2, hn0, hf1, hf2, St.back] <;> first | rfl | omega) | omega)
    rintro n1 s1 ⟨k1, NB1, rest1, hn1, hp01, hp11, hS1⟩
    rcases rest1 with _ | ⟨x, rest1⟩
    · have hk := drop_nil hp01
      have hq : NB1 = RES := by rw [show nearL ([] : List Arc) t0 n0 = false from rfl, Bool.or_false] at hp11; exact hp11
      subst hq
      repeat' first
        | apply AW.seq | apply AW.region | apply AW.ret | apply AW.block | apply AW.skip | apply AW.exit | apply AW.scope | apply AW.label | apply AWL.nil | apply D.nil
        | refine W.draw cx_mixed (by decide +kernel) ?_
        | ((first | (apply W.step cx_ok; decide) | (apply D.step cx_ok; decide; decide) | (apply W.gS; rfl; decide) | (apply D.gS; rfl; decide; decide) | apply AW.cond); (simp (disch := omega) only [push_cast, simprocAttr, hS1, natNe, List.mem_cons, List.not_mem_nil, TyD.isAgg, Nat.add_assoc, List.map_nil, List.length_nil, Bool.and_self, Bool.and_true, Bool.true_and, Bool.false_and, Bool.and_false, Bool.not_true, Bool.not_false, Bool.false_eq_true, beq_self_eq_true, Bool.not_not, hk] <;> rfl); all_goals try ((with_reducible intro hI); try first | (cases hI; done) | (simp only [INTS, not_true_eq_false] at hI; try first | (exfalso; omega) | (have hT : True := hI; clear hT hI))))
        | ((first | (apply W.gU; rfl; decide) | (apply D.gU; rfl; decide; decide)); (simp (disch := omega) only [push_cast, simprocAttr, hS1, natNe, List.mem_cons, List.not_mem_nil, TyD.isAgg, Nat.add_assoc, List.map_nil, List.length_nil, Bool.and_self, Bool.and_true, Bool.true_and, Bool.false_and, Bool.and_false, Bool.not_true, Bool.not_false, Bool.false_eq_true, beq_self_eq_true, Bool.not_not, hk] <;> rfl))
        | ((first | (apply W.callv cx_ok; decide) | (apply D.callv cx_ok; decide; decide)); (iterate 2 (simp (disch := omega) only [push_cast, simprocAttr, hS1, natNe, List.mem_cons, List.not_mem_nil, TyD.isAgg, Nat.add_assoc, List.map_nil, List.length_nil, Bool.and_self, Bool.and_true, Bool.true_and, Bool.false_and, Bool.and_false, Bool.not_true, Bool.not_false, Bool.false_eq_true, beq_self_eq_true, Bool.not_not, hk] <;> rfl)); (with_reducible first | exact hs | exact h7); try first | rfl | (simp (disch := omega) only [push_cast, simprocAttr, hS1, natNe, List.mem_cons, List.not_mem_nil, TyD.isAgg, Nat.add_assoc, List.map_nil, List.length_nil, Bool.and_self, Bool.and_true, Bool.true_and, Bool.false_and, Bool.and_false, Bool.not_true, Bool.not_false, Bool.false_eq_true, beq_self_eq_true, Bool.not_not, hk] <;> rfl))
        | ((first | apply W.ret1 | apply W.end1); (iterate 2 (try (simp (disch := omega) only [push_cast, simprocAttr, hS1, natNe, List.mem_cons, List.not_mem_nil, TyD.isAgg, Nat.add_assoc, List.map_nil, List.length_nil, Bool.and_self, Bool.and_true, Bool.true_and, Bool.false_and, Bool.and_false, Bool.not_true, Bool.not_false, Bool.false_eq_true, beq_self_eq_true, Bool.not_not, hk] <;> rfl))))

      all_goals (show _ = _; rfl)
    obtain ⟨hk, hg, hd', hl', hm', hx⟩ := drop_cons hp01 eArc []
    have v := va x hm'
    obtain ⟨v1, v2, v3, v4, v5⟩ := validA_iff.1 v
    have e1 := Has_ok x t0
    have e2 := Apart_ok t0 x.from_
    have e3 := Angle_ok (x.from_ + x.len)
    have e4 := Apart_ok t0 (angF (x.from_ + x.len))
    cases hNB : NB1 with
    | true =>
      rw [hNB] at hS1 hp11
      have hp : (true || nearL rest1 t0 n0) = RES := hp11
      repeat' first
        | apply AW.seq | apply AW.region | apply AW.ret | apply AW.block | apply AW.skip | apply AW.exit | apply AW.scope | apply AW.label | apply AWL.nil | apply D.nil
        | refine W.draw cx_mixed (by decide +kernel) ?_
        | ((first | (apply W.step cx_ok; decide) | (apply D.step cx_ok; decide; decide) | (apply W.gS; rfl; decide) | (apply D.gS; rfl; decide; decide) | apply AW.cond); (simp (disch := omega) only [push_cast, simprocAttr, hS1, natNe, List.mem_cons, List.not_mem_nil, TyD.isAgg, Nat.add_assoc, List.map_nil, List.length_nil, Bool.and_self, Bool.and_true, Bool.true_and, Bool.false_and, Bool.and_false, Bool.not_true, Bool.not_false, Bool.false_eq_true, beq_self_eq_true, Bool.not_not, hk, hg, hx] <;> rfl); all_goals try ((with_reducible intro hI); try first | (cases hI; done) | (simp only [INTS, not_true_eq_false] at hI; try first | (exfalso; omega) | (have hT : True := hI; clear hT hI))))
        | ((first | (apply W.gU; rfl; decide) | (apply D.gU; rfl; decide; decide)); (simp (disch := omega) only [push_cast, simprocAttr, hS1, natNe, List.mem_cons, List.not_mem_nil, TyD.isAgg, Nat.add_assoc, List.map_nil, List.length_nil, Bool.and_self, Bool.and_true, Bool.true_and, Bool.false_and, Bool.and_false, Bool.not_true, Bool.not_false, Bool.false_eq_true, beq_self_eq_true, Bool.not_not, hk, hg, hx] <;> rfl))
        | ((first | (apply W.callv cx_ok; decide) | (apply D.callv cx_ok; decide; decide)); (iterate 2 (simp (disch := omega) only [push_cast, simprocAttr, hS1, natNe, List.mem_cons, List.not_mem_nil, TyD.isAgg, Nat.add_assoc, List.map_nil, List.length_nil, Bool.and_self, Bool.and_true, Bool.true_and, Bool.false_and, Bool.and_false, Bool.not_true, Bool.not_false, Bool.false_eq_true, beq_self_eq_true, Bool.not_not, hk, hg, hx] <;> rfl)); (with_reducible first | exact e1 | exact e2 | exact e3 | exact e4); try first | rfl | (simp (disch := omega) only [push_cast, simprocAttr, hS1, natNe, List.mem_cons, List.not_mem_nil, TyD.isAgg, Nat.add_assoc, List.map_nil, List.length_nil, Bool.and_self, Bool.and_true, Bool.true_and, Bool.false_and, Bool.and_false, Bool.not_true, Bool.not_false, Bool.false_eq_true, beq_self_eq_true, Bool.not_not, hk, hg, hx] <;> rfl))
        | ((first | apply W.ret1 | apply W.end1); (iterate 2 (try (simp (disch := omega) only [push_cast, simprocAttr, hS1, natNe, List.mem_cons, List.not_mem_nil, TyD.isAgg, Nat.add_assoc, List.map_nil, List.length_nil, Bool.and_self, Bool.and_true, Bool.true_and, Bool.false_and, Bool.and_false, Bool.not_true, Bool.not_false, Bool.false_eq_true, beq_self_eq_true, Bool.not_not, hk, hg, hx] <;> rfl))))

      all_goals (refine ⟨rest1.length, ?_, k1 + 1, true, rest1, rfl, hd', hp, ?_, ?_, ?_, ?_, ?_, ?_⟩; ((simp only [List.length_cons] at *; omega)); all_goals first | (simp (disch := omega) only [push_cast, simprocAttr, hS1, natNe, List.mem_cons, List.not_mem_nil, TyD.isAgg, Nat.add_assoc, List.map_nil, List.length_nil, Bool.and_self, Bool.and_true, Bool.true_and, Bool.false_and, Bool.and_false, Bool.not_true, Bool.not_false, Bool.false_eq_true, beq_self_eq_true, Bool.not_not, hk, hg, hx] <;> first | rfl | omega) | omega)
    | false =>
    rw [hNB] at hS1 hp11
    have hp : (((hasF x t0 || decide (apartF t0 x.from_ ≤ n0)) || decide (apartF t0 (angF (x.from_ + x.len)) ≤ n0)) || nearL rest1 t0 n0) = RES := by rw [Bool.false_or] at hp11; exact hp11
    cases hh : hasF x t0 with
    | true =>
      rw [hh] at e1 hp
      have hp' : (true || nearL rest1 t0 n0) = RES := by simpa using hp
      repeat' first
        | apply AW.seq | apply AW.region | apply AW.ret | apply AW.block | apply AW.skip | apply AW.exit | apply AW.scope | apply AW.label | apply AWL.nil | apply D.nil
        | refine W.draw cx_mixed (by decide +kernel) ?_
        | ((first | (apply W.step cx_ok; decide) | (apply D.step cx_ok; decide; decide) | (apply W.gS; rfl; decide) | (apply D.gS; rfl; decide; decide) | apply AW.cond); (simp (disch := omega) only [push_cast, simprocAttr, hS1, natNe, List.mem_cons, List.not_mem_nil, TyD.isAgg, Nat.add_assoc, List.map_nil, List.length_nil, Bool.and_self, Bool.and_true, Bool.true_and, Bool.false_and, Bool.and_false, Bool.not_true, Bool.not_false, Bool.false_eq_true, beq_self_eq_true, Bool.not_not, hk, hg, hx] <;> rfl); all_goals try ((with_reducible intro hI); try first | (cases hI; done) | (simp only [INTS, not_true_eq_false] at hI; try first | (exfalso; omega) | (have hT : True := hI; clear hT hI))))
        | ((first | (apply W.gU; rfl; decide) | (apply D.gU; rfl; decide; decide)); (simp (disch := omega) only [push_cast, simprocAttr, hS1, natNe, List.mem_cons, List.not_mem_nil, TyD.isAgg, Nat.add_assoc, List.map_nil, List.length_nil, Bool.and_self, Bool.and_true, Bool.true_and, Bool.false_and, Bool.and_false, Bool.not_true, Bool.not_false, Bool.false_eq_true, beq_self_eq_true, Bool.not_not, hk, hg, hx] <;> rfl))
        | ((first | (apply W.callv cx_ok; decide) | (apply D.callv cx_ok; decide; decide)); (iterate 2 (simp (disch := omega) only [push_cast, simprocAttr, hS1, natNe, List.mem_cons, List.not_mem_nil, TyD.isAgg, Nat.add_assoc, List.map_nil, List.length_nil, Bool.and_self, Bool.and_true, Bool.true_and, Bool.false_and, Bool.and_false, Bool.not_true, Bool.not_false, Bool.false_eq_true, beq_self_eq_true, Bool.not_not, hk, hg, hx] <;> rfl)); (with_reducible first | exact e1 | exact e2 | exact e3 | exact e4); try first | rfl | (simp (disch := omega) only [push_cast, simprocAttr, hS1, natNe, List.mem_cons, List.not_mem_nil, TyD.isAgg, Nat.add_assoc, List.map_nil, List.length_nil, Bool.and_self, Bool.and_true, Bool.true_and, Bool.false_and, Bool.and_false, Bool.not_true, Bool.not_false, Bool.false_eq_true, beq_self_eq_true, Bool.not_not, hk, hg, hx] <;> rfl))
        | ((first | apply W.ret1 | apply W.end1); (iterate 2 (try (simp (disch := omega) only [push_cast, simprocAttr, hS1, natNe, List.mem_cons, List.not_mem_nil, TyD.isAgg, Nat.add_assoc, List.map_nil, List.length_nil, Bool.and_self, Bool.and_true, Bool.true_and, Bool.false_and, Bool.and_false, Bool.not_true, Bool.not_false, Bool.false_eq_true, beq_self_eq_true, Bool.not_not, hk, hg, hx] <;> rfl))))

      all_goals (refine ⟨rest1.length, ?_, k1 + 1, true, rest1, rfl, hd', hp', ?_, ?_, ?_, ?_, ?_, ?_⟩; ((simp only [List.length_cons] at *; omega)); all_goals first | (simp (disch := omega) only [push_cast, simprocAttr, hS1, natNe, List.mem_cons, List.not_mem_nil, TyD.isAgg, Nat.add_assoc, List.map_nil, List.length_nil, Bool.and_self, Bool.and_true, Bool.true_and, Bool.false_and, Bool.and_false, Bool.not_true, Bool.not_false, Bool.false_eq_true, beq_self_eq_true, Bool.not_not, hk, hg, hx] <;> first | rfl | omega) | omega)
    | false =>
    rw [hh, Bool.false_or] at hp
    rw [hh] at e1
    by_cases g1 : apartF t0 x.from_ ≤ n0
    · have gT := eq_true g1
      rw [decide_eq_true g1] at hp
      have hp' : (true || nearL rest1 t0 n0) = RES := by simpa using hp
      repeat' first
        | apply AW.seq | apply AW.region | apply AW.ret | apply AW.block | apply AW.skip | apply AW.exit | apply AW.scope | apply AW.label | apply AWL.nil | apply D.nil
        | refine W.draw cx_mixed (by decide +kernel) ?_
        | ((first | (apply W.step cx_ok; decide) | (apply D.step cx_ok; decide; decide) | (apply W.gS; rfl; decide) | (apply D.gS; rfl; decide; decide) | apply AW.cond); (simp (disch := omega) only [push_cast, simprocAttr, hS1, natNe, List.mem_cons, List.not_mem_nil, TyD.isAgg, Nat.add_assoc, List.map_nil, List.length_nil, Bool.and_self, Bool.and_true, Bool.true_and, Bool.false_and, Bool.and_false, Bool.not_true, Bool.not_false, Bool.false_eq_true, beq_self_eq_true, Bool.not_not, hk, hg, hx, gT] <;> rfl); all_goals try ((with_reducible intro hI); try first | (cases hI; done) | (simp only [INTS, not_true_eq_false] at hI; try first | (exfalso; omega) | (have hT : True := hI; clear hT hI))))
        | ((first | (apply W.gU; rfl; decide) | (apply D.gU; rfl; decide; decide)); (simp (disch := omega) only [push_cast, simprocAttr, hS1, natNe, List.mem_cons, List.not_mem_nil, TyD.isAgg, Nat.add_assoc, List.map_nil, List.length_nil, Bool.and_self, Bool.and_true, Bool.true_and, Bool.false_and, Bool.and_false, Bool.not_true, Bool.not_false, Bool.false_eq_true, beq_self_eq_true, Bool.not_not, hk, hg, hx, gT] <;> rfl))
        | ((first | (apply W.callv cx_ok; decide) | (apply D.callv cx_ok; decide; decide)); (iterate 2 (simp (disch := omega) only [push_cast, simprocAttr, hS1, natNe, List.mem_cons, List.not_mem_nil, TyD.isAgg, Nat.add_assoc, List.map_nil, List.length_nil, Bool.and_self, Bool.and_true, Bool.true_and, Bool.false_and, Bool.and_false, Bool.not_true, Bool.not_false, Bool.false_eq_true, beq_self_eq_true, Bool.not_not, hk, hg, hx, gT] <;> rfl)); (with_reducible first | exact e1 | exact e2 | exact e3 | exact e4); try first | rfl | (simp (disch := omega) only [push_cast, simprocAttr, hS1, natNe, List.mem_cons, List.not_mem_nil, TyD.isAgg, Nat.add_assoc, List.map_nil, List.length_nil, Bool.and_self, Bool.and_true, Bool.true_and, Bool.false_and, Bool.and_false, Bool.not_true, Bool.not_false, Bool.false_eq_true, beq_self_eq_true, Bool.not_not, hk, hg, hx, gT] <;> rfl))
        | ((first | apply W.ret1 | apply W.end1); (iterate 2 (try (simp (disch := omega) only [push_cast, simprocAttr, hS1, natNe, List.mem_cons, List.not_mem_nil, TyD.isAgg, Nat.add_assoc, List.map_nil, List.length_nil, Bool.and_self, Bool.and_true, Bool.true_and, Bool.false_and, Bool.and_false, Bool.not_true, Bool.not_false, Bool.false_eq_true, beq_self_eq_true, Bool.not_not, hk, hg, hx, gT] <;> rfl))))

      all_goals (refine ⟨rest1.length, ?_, k1 + 1, true, rest1, rfl, hd', hp', ?_, ?_, ?_, ?_, ?_, ?_⟩; ((simp only [List.length_cons] at *; omega)); all_goals first | (simp (disch := omega) only [push_cast, simprocAttr, hS1, natNe, List.mem_cons, List.not_mem_nil, TyD.isAgg, Nat.add_assoc, List.map_nil, List.length_nil, Bool.and_self, Bool.and_true, Bool.true_and, Bool.false_and, Bool.and_false, Bool.not_true, Bool.not_false, Bool.false_eq_true, beq_self_eq_true, Bool.not_not, hk, hg, hx, gT] <;> first | rfl | omega) | omega)
    · have gF := eq_false g1
      rw [decide_eq_false g1, Bool.false_or] at hp
      obtain ⟨DB, hDB⟩ : ∃ z, decide (apartF t0 (angF (x.from_ + x.len)) ≤ n0) = z := ⟨_, rfl⟩
      rw [hDB] at hp
      repeat' first
        | apply AW.seq | apply AW.region | apply AW.ret | apply AW.block | apply AW.skip | apply AW.exit | apply AW.scope | apply AW.label | apply AWL.nil | apply D.nil
        | refine W.draw cx_mixed (by decide +kernel) ?_
        | ((first | (apply W.step cx_ok; decide) | (apply D.step cx_ok; decide; decide) | (apply W.gS; rfl; decide) | (apply D.gS; rfl; decide; decide) | apply AW.cond); (simp (disch := omega) only [push_cast, simprocAttr, hS1, natNe, List.mem_cons, List.not_mem_nil, TyD.isAgg, Nat.add_assoc, List.map_nil, List.length_nil, Bool.and_self, Bool.and_true, Bool.true_and, Bool.false_and, Bool.and_false, Bool.not_true, Bool.not_false, Bool.false_eq_true, beq_self_eq_true, Bool.not_not, hk, hg, hx, gF, hDB] <;> rfl); all_goals try ((with_reducible intro hI); try first | (cases hI; done) | (simp only [INTS, not_true_eq_false] at hI; try first | (exfalso; omega) | (have hT : True := hI; clear hT hI))))
        | ((first | (apply W.gU; rfl; decide) | (apply D.gU; rfl; decide; decide)); (simp (disch := omega) only [push_cast, simprocAttr, hS1, natNe, List.mem_cons, List.not_mem_nil, TyD.isAgg, Nat.add_assoc, List.map_nil, List.length_nil, Bool.and_self, Bool.and_true, Bool.true_and, Bool.false_and, Bool.and_false, Bool.not_true, Bool.not_false, Bool.false_eq_true, beq_self_eq_true, Bool.not_not, hk, hg, hx, gF, hDB] <;> rfl))
        | ((first | (apply W.callv cx_ok; decide) | (apply D.callv cx_ok; decide; decide)); (iterate 2 (simp (disch := omega) only [push_cast, simprocAttr, hS1, natNe, List.mem_cons, List.not_mem_nil, TyD.isAgg, Nat.add_assoc, List.map_nil, List.length_nil, Bool.and_self, Bool.and_true, Bool.true_and, Bool.false_and, Bool.and_false, Bool.not_true, Bool.not_false, Bool.false_eq_true, beq_self_eq_true, Bool.not_not, hk, hg, hx, gF, hDB] <;> rfl)); (with_reducible first | exact e1 | exact e2 | exact e3 | exact e4); try first | rfl | (simp (disch := omega) only [push_cast, simprocAttr, hS1, natNe, List.mem_cons, List.not_mem_nil, TyD.isAgg, Nat.add_assoc, List.map_nil, List.length_nil, Bool.and_self, Bool.and_true, Bool.true_and, Bool.false_and, Bool.and_false, Bool.not_true, Bool.not_false, Bool.false_eq_true, beq_self_eq_true, Bool.not_not, hk, hg, hx, gF, hDB] <;> rfl))
        | ((first | apply W.ret1 | apply W.end1); (iterate 2 (try (simp (disch := omega) only [push_cast, simprocAttr, hS1, natNe, List.mem_cons, List.not_mem_nil, TyD.isAgg, Nat.add_assoc, List.map_nil, List.length_nil, Bool.and_self, Bool.and_true, Bool.true_and, Bool.false_and, Bool.and_false, Bool.not_true, Bool.not_false, Bool.false_eq_true, beq_self_eq_true, Bool.not_not, hk, hg, hx, gF, hDB] <;> rfl))))

      all_goals (refine ⟨rest1.length, ?_, k1 + 1, DB, rest1, rfl, hd', hp, ?_, ?_, ?_, ?_, ?_, ?_⟩; ((simp only [List.length_cons] at *; omega)); all_goals first | (simp (disch := omega) only [push_cast, simprocAttr, hS1, natNe, List.mem_cons, List.not_mem_nil, TyD.isAgg, Nat.add_assoc, List.map_nil, List.length_nil, Bool.and_self, Bool.and_true, Bool.true_and, Bool.false_and, Bool.and_false, Bool.not_true, Bool.not_false, Bool.false_eq_true, beq_self_eq_true, Bool.not_not, hk, hg, hx, gF, hDB] <;> first | rfl | omega) | omega)
end Go.Proofs.Ds
