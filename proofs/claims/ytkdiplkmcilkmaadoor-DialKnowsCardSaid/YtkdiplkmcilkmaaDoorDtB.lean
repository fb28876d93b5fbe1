/-
  Contracts of functions, proved by going through their code. No conditions.
-/
import Derived.Test.YtkdiplkmcilkmaaDoorDtA
set_option linter.unusedVariables false
set_option linter.unusedSimpArgs false
set_option maxHeartbeats 8000000
set_option maxRecDepth 10000
namespace Go.Proofs.Ds
open Go Go.Pg Go.Proofs
theorem growS_bd : ∀ (l : List Span) (s : Span), (∀ t ∈ l, 0 ≤ t.lo ∧ t.lo ≤ t.hi ∧ t.hi ≤ 43199) → (0 ≤ s.lo ∧ s.lo ≤ s.hi ∧ s.hi ≤ 43199) → 0 ≤ (growS s l).lo ∧ (growS s l).lo ≤ (growS s l).hi ∧ (growS s l).hi ≤ 43199
  | [], _, _, h => h
  | t :: l, s, hl, h => by
    have ht := hl t (by simp)
    unfold growS
    refine growS_bd l _ (fun u hu => hl u (by simp [hu])) ?_
    split
    · exact h
    · dsimp only; omega
theorem leftS_sub : ∀ (l : List Span) (s : Span), ∀ t ∈ leftS s l, t ∈ l
  | [], _, t, ht => by cases ht
  | x :: l, s, t, ht => by
    unfold leftS at ht
    split at ht
    · rcases List.mem_cons.1 ht with rfl | ht
      · simp
      · exact List.mem_cons_of_mem _ (leftS_sub l _ t ht)
    · exact List.mem_cons_of_mem _ (leftS_sub l _ t ht)
theorem putD_bd {l : List Span} {s : Span} (hl : (∀ t ∈ l, 0 ≤ t.lo ∧ t.lo ≤ t.hi ∧ t.hi ≤ 43199)) (h : 0 ≤ s.lo ∧ s.lo ≤ s.hi ∧ s.hi ≤ 43199) : (∀ t ∈ putD l s, 0 ≤ t.lo ∧ t.lo ≤ t.hi ∧ t.hi ≤ 43199) := by
  intro t ht
  unfold putD insB at ht
  rw [(insB_ahead _ _).1, (insB_ahead _ _).2] at ht
  rcases List.mem_append.1 ht with ht | ht
  · exact hl t (leftS_sub _ _ t (List.mem_of_mem_take ht))
  · rcases List.mem_cons.1 ht with rfl | ht
    · exact growS_bd l s hl h
    · exact hl t (leftS_sub _ _ t (List.mem_of_mem_drop ht))
theorem putD_len (l : List Span) (s : Span) : (putD l s).length ≤ l.length + 1 := by
  unfold putD insB
  rw [(insB_ahead _ _).1, (insB_ahead _ _).2]
  have := leftS_len l s
  simp only [List.length_append, List.length_cons, List.length_take, List.length_drop]
  omega
theorem putAll_app (m a b : List Span) : putAll m (a ++ b) = putAll (putAll m a) b := List.foldl_append
theorem Rspans_ok (l : List Arc) (hv : ∀ x ∈ l, validA x = true) (hl : l.length ≤ 400000) : OKv cx 92 [lArc l] (lSpan (spansS l)) := by
  obtain ⟨RES, hRES⟩ : ∃ z, putAll [] (piecesL l) = z := ⟨_, rfl⟩
  have hR : spansS l = RES := hRES
  rw [hR]
  refine OKat.of_body (rs := [2]) Tryd.func92 rfl (by decide +kernel) rfl (by simp [Tryd.ntmps92]) ?_
  simp only [Tryd.ntmps92]
  repeat' first
    | apply AW.seq | apply AW.region | apply AW.ret | apply AW.block | apply AW.skip | apply AW.exit | apply AW.scope | apply AW.label | apply AWL.nil | apply D.nil
    | refine W.draw cx_mixed (by decide +kernel) ?_
    | ((first | (apply W.step cx_ok; decide) | (apply D.step cx_ok; decide; decide) | apply AW.cond); (simp (disch := omega) only [push_cast, simprocAttr, natNe, List.mem_cons, List.not_mem_nil, TyD.isAgg, Nat.add_assoc, List.map_nil, List.length_nil, Bool.and_self, Bool.and_true, Bool.true_and, Bool.false_and, Bool.and_false, Bool.not_true, Bool.not_false, Bool.false_eq_true] <;> rfl); all_goals try ((with_reducible intro hI); try first | (cases hI; done) | (simp only [INTS, not_true_eq_false] at hI; try first | (exfalso; omega) | (have hT : True := hI; clear hT hI))))
    | ((first | apply W.ret1 | apply W.end1); (iterate 2 (try (simp (disch := omega) only [push_cast, simprocAttr, natNe, List.mem_cons, List.not_mem_nil, TyD.isAgg, Nat.add_assoc, List.map_nil, List.length_nil, Bool.and_self, Bool.and_true, Bool.true_and, Bool.false_and, Bool.and_false, Bool.not_true, Bool.not_false, Bool.false_eq_true] <;> rfl))))

  refine AW.freeze (t := 3) (v := lSpan []) (by simp (disch := omega) only [push_cast, simprocAttr, natNe, List.mem_cons, List.not_mem_nil, TyD.isAgg, Nat.add_assoc, List.map_nil, List.length_nil, Bool.and_self, Bool.and_true, Bool.true_and, Bool.false_and, Bool.and_false, Bool.not_true, Bool.not_false, Bool.false_eq_true] <;> rfl) ?_
  refine AW.loop (fun n s => ∃ (k : Nat) (M : List Span) (rest : List Arc), n = rest.length ∧ (l.drop k = rest) ∧ (putAll M (piecesL rest) = RES) ∧ ((∀ t ∈ M, 0 ≤ t.lo ∧ t.lo ≤ t.hi ∧ t.hi ≤ 43199)) ∧ (M.length ≤ 2 * k) ∧ (k ≤ l.length) ∧ s.tm 0 = lArc l ∧ s.tm 3 = lSpan M ∧ s.tm 4 = ai k) (l.length) ⟨0, [], l, rfl, rfl, hRES, (fun t ht => by cases ht), (Nat.zero_le _), (Nat.zero_le _), ?_, ?_, ?_⟩ ?_
  iterate 3 (first | (simp (disch := omega) only [push_cast, simprocAttr, natNe, List.mem_cons, List.not_mem_nil, TyD.isAgg, Nat.add_assoc, List.map_nil, List.length_nil, Bool.and_self, Bool.and_true, Bool.true_and, Bool.false_and, Bool.and_false, Bool.not_true, Bool.not_false, Bool.false_eq_true] <;> first | rfl | omega) | omega)
  rintro n1 s1 ⟨k1, M1, rest1, hn1, hp01, hp11, hp21, hp31, hp41, hS1⟩
  rcases rest1 with _ | ⟨x, rest1⟩
  · have hk := drop_nil hp01
    have hq : M1 = RES := hp11
    subst hq
    repeat' first
      | apply AW.seq | apply AW.region | apply AW.ret | apply AW.block | apply AW.skip | apply AW.exit | apply AW.scope | apply AW.label | apply AWL.nil | apply D.nil
      | refine W.draw cx_mixed (by decide +kernel) ?_
      | ((first | (apply W.step cx_ok; decide) | (apply D.step cx_ok; decide; decide) | apply AW.cond); (simp (disch := omega) only [push_cast, simprocAttr, hS1, natNe, List.mem_cons, List.not_mem_nil, TyD.isAgg, Nat.add_assoc, List.map_nil, List.length_nil, Bool.and_self, Bool.and_true, Bool.true_and, Bool.false_and, Bool.and_false, Bool.not_true, Bool.not_false, Bool.false_eq_true, hk] <;> rfl); all_goals try ((with_reducible intro hI); try first | (cases hI; done) | (simp only [INTS, not_true_eq_false] at hI; try first | (exfalso; omega) | (have hT : True := hI; clear hT hI))))
      | ((first | apply W.ret1 | apply W.end1); (iterate 2 (try (simp (disch := omega) only [push_cast, simprocAttr, hS1, natNe, List.mem_cons, List.not_mem_nil, TyD.isAgg, Nat.add_assoc, List.map_nil, List.length_nil, Bool.and_self, Bool.and_true, Bool.true_and, Bool.false_and, Bool.and_false, Bool.not_true, Bool.not_false, Bool.false_eq_true, hk] <;> rfl))))

    all_goals (show _ = _; rfl)
  obtain ⟨hk, hg, hd', hl', hm', hx⟩ := drop_cons hp01 eArc []
  obtain ⟨v1, v2, v3, v4, v5⟩ := validA_iff.1 (hv x hm')
  have hp : putAll (putAll M1 (piecesF x)) (piecesL rest1) = RES := by rw [← putAll_app]; exact hp11
  unfold piecesF at hp
  by_cases he : x.from_ + x.len < 43200
  · rw [if_pos he] at hp
    have hq : (x.from_ + x.len < 43200) = True := eq_true he
    have c1 := put_ok M1 ⟨x.from_, x.from_ + x.len⟩ hp21 (by dsimp only; omega) (by omega)
    have b1 := putD_bd hp21 (s := ⟨x.from_, x.from_ + x.len⟩) (by dsimp only; omega)
    have b2 := putD_len M1 ⟨x.from_, x.from_ + x.len⟩
    repeat' first
      | apply AW.seq | apply AW.region | apply AW.ret | apply AW.block | apply AW.skip | apply AW.exit | apply AW.scope | apply AW.label | apply AWL.nil | apply D.nil
      | refine W.draw cx_mixed (by decide +kernel) ?_
      | ((first | (apply W.step cx_ok; decide) | (apply D.step cx_ok; decide; decide) | apply AW.cond); (simp (disch := omega) only [push_cast, simprocAttr, hS1, natNe, List.mem_cons, List.not_mem_nil, TyD.isAgg, Nat.add_assoc, List.map_nil, List.length_nil, Bool.and_self, Bool.and_true, Bool.true_and, Bool.false_and, Bool.and_false, Bool.not_true, Bool.not_false, Bool.false_eq_true, hk, hg, hx, hq] <;> rfl); all_goals try ((with_reducible intro hI); try first | (cases hI; done) | (simp only [INTS, not_true_eq_false] at hI; try first | (exfalso; omega) | (have hT : True := hI; clear hT hI))))
      | ((first | (apply W.callv cx_ok; decide) | (apply D.callv cx_ok; decide; decide)); (iterate 2 (simp (disch := omega) only [push_cast, simprocAttr, hS1, natNe, List.mem_cons, List.not_mem_nil, TyD.isAgg, Nat.add_assoc, List.map_nil, List.length_nil, Bool.and_self, Bool.and_true, Bool.true_and, Bool.false_and, Bool.and_false, Bool.not_true, Bool.not_false, Bool.false_eq_true, hk, hg, hx, hq] <;> rfl)); (with_reducible first | exact c1); try first | rfl | (simp (disch := omega) only [push_cast, simprocAttr, hS1, natNe, List.mem_cons, List.not_mem_nil, TyD.isAgg, Nat.add_assoc, List.map_nil, List.length_nil, Bool.and_self, Bool.and_true, Bool.true_and, Bool.false_and, Bool.and_false, Bool.not_true, Bool.not_false, Bool.false_eq_true, hk, hg, hx, hq] <;> rfl))
      | ((first | apply W.ret1 | apply W.end1); (iterate 2 (try (simp (disch := omega) only [push_cast, simprocAttr, hS1, natNe, List.mem_cons, List.not_mem_nil, TyD.isAgg, Nat.add_assoc, List.map_nil, List.length_nil, Bool.and_self, Bool.and_true, Bool.true_and, Bool.false_and, Bool.and_false, Bool.not_true, Bool.not_false, Bool.false_eq_true, hk, hg, hx, hq] <;> rfl))))

    all_goals (refine ⟨rest1.length, ?_, k1 + 1, (putD M1 ⟨x.from_, x.from_ + x.len⟩), rest1, rfl, hd', hp, b1, (by omega), (by omega), ?_, ?_, ?_⟩; ((simp only [List.length_cons] at *; omega)); all_goals first | (simp (disch := omega) only [push_cast, simprocAttr, hS1, natNe, List.mem_cons, List.not_mem_nil, TyD.isAgg, Nat.add_assoc, List.map_nil, List.length_nil, Bool.and_self, Bool.and_true, Bool.true_and, Bool.false_and, Bool.and_false, Bool.not_true, Bool.not_false, Bool.false_eq_true, hk, hg, hx, hq] <;> first | rfl | omega) | omega)
  · rw [if_neg he] at hp
    have hq : (x.from_ + x.len < 43200) = False := eq_false he
    have c1 := put_ok M1 ⟨x.from_, 43199⟩ hp21 (by dsimp only; omega) (by omega)
    have b1 := putD_bd hp21 (s := ⟨x.from_, 43199⟩) (by dsimp only; omega)
    have b2 := putD_len M1 ⟨x.from_, 43199⟩
    have hp' : putAll (putD (putD M1 ⟨x.from_, 43199⟩) ⟨0, x.from_ + x.len - 43200⟩) (piecesL rest1) = RES := hp
    obtain ⟨M2, hM2⟩ : ∃ z, putD M1 ⟨x.from_, 43199⟩ = z := ⟨_, rfl⟩
    rw [hM2] at c1 b1 b2 hp'
    have c2 := put_ok M2 ⟨0, x.from_ + x.len - 43200⟩ b1 (by dsimp only; omega) (by omega)
    have b3 := putD_bd b1 (s := ⟨0, x.from_ + x.len - 43200⟩) (by dsimp only; omega)
    have b4 := putD_len M2 ⟨0, x.from_ + x.len - 43200⟩
    repeat' first
      | apply AW.seq | apply AW.region | apply AW.ret | apply AW.block | apply AW.skip | apply AW.exit | apply AW.scope | apply AW.label | apply AWL.nil | apply D.nil
      | refine W.draw cx_mixed (by decide +kernel) ?_
      | ((first | (apply W.step cx_ok; decide) | (apply D.step cx_ok; decide; decide) | apply AW.cond); (simp (disch := omega) only [push_cast, simprocAttr, hS1, natNe, List.mem_cons, List.not_mem_nil, TyD.isAgg, Nat.add_assoc, List.map_nil, List.length_nil, Bool.and_self, Bool.and_true, Bool.true_and, Bool.false_and, Bool.and_false, Bool.not_true, Bool.not_false, Bool.false_eq_true, hk, hg, hx, hq] <;> rfl); all_goals try ((with_reducible intro hI); try first | (cases hI; done) | (simp only [INTS, not_true_eq_false] at hI; try first | (exfalso; omega) | (have hT : True := hI; clear hT hI))))
      | ((first | (apply W.callv cx_ok; decide) | (apply D.callv cx_ok; decide; decide)); (iterate 2 (simp (disch := omega) only [push_cast, simprocAttr, hS1, natNe, List.mem_cons, List.not_mem_nil, TyD.isAgg, Nat.add_assoc, List.map_nil, List.length_nil, Bool.and_self, Bool.and_true, Bool.true_and, Bool.false_and, Bool.and_false, Bool.not_true, Bool.not_false, Bool.false_eq_true, hk, hg, hx, hq] <;> rfl)); (with_reducible first | exact c1 | exact c2); try first | rfl | (simp (disch := omega) only [push_cast, simprocAttr, hS1, natNe, List.mem_cons, List.not_mem_nil, TyD.isAgg, Nat.add_assoc, List.map_nil, List.length_nil, Bool.and_self, Bool.and_true, Bool.true_and, Bool.false_and, Bool.and_false, Bool.not_true, Bool.not_false, Bool.false_eq_true, hk, hg, hx, hq] <;> rfl))
      | ((first | apply W.ret1 | apply W.end1); (iterate 2 (try (simp (disch := omega) only [push_cast, simprocAttr, hS1, natNe, List.mem_cons, List.not_mem_nil, TyD.isAgg, Nat.add_assoc, List.map_nil, List.length_nil, Bool.and_self, Bool.and_true, Bool.true_and, Bool.false_and, Bool.and_false, Bool.not_true, Bool.not_false, Bool.false_eq_true, hk, hg, hx, hq] <;> rfl))))

    all_goals (refine ⟨rest1.length, ?_, k1 + 1, (putD M2 ⟨0, x.from_ + x.len - 43200⟩), rest1, rfl, hd', hp', b3, (by omega), (by omega), ?_, ?_, ?_⟩; ((simp only [List.length_cons] at *; omega)); all_goals first | (simp (disch := omega) only [push_cast, simprocAttr, hS1, natNe, List.mem_cons, List.not_mem_nil, TyD.isAgg, Nat.add_assoc, List.map_nil, List.length_nil, Bool.and_self, Bool.and_true, Bool.true_and, Bool.false_and, Bool.and_false, Bool.not_true, Bool.not_false, Bool.false_eq_true, hk, hg, hx, hq] <;> first | rfl | omega) | omega)
theorem Rcommon_ok (a b : List Span) (ha : (∀ t ∈ a, 0 ≤ t.lo ∧ t.lo ≤ t.hi ∧ t.hi ≤ 43199)) (hb : (∀ t ∈ b, 0 ≤ t.lo ∧ t.lo ≤ t.hi ∧ t.hi ≤ 43199)) (hla : a.length ≤ 900) (hlb : b.length ≤ 900) : OKv cx 93 [lSpan a, lSpan b] (lSpan (commonD a b)) := by
  obtain ⟨RES, hRES⟩ : ∃ z, putAll [] (cutsD a b) = z := ⟨_, rfl⟩
  have hR : commonD a b = RES := hRES
  rw [hR]
  refine OKat.of_body (rs := [4]) Tryd.func93 rfl (by decide +kernel) rfl (by simp [Tryd.ntmps93]) ?_
  simp only [Tryd.ntmps93]
  repeat' first
    | apply AW.seq | apply AW.region | apply AW.ret | apply AW.block | apply AW.skip | apply AW.exit | apply AW.scope | apply AW.label | apply AWL.nil | apply D.nil
    | refine W.draw cx_mixed (by decide +kernel) ?_
    | ((first | (apply W.step cx_ok; decide) | (apply D.step cx_ok; decide; decide) | apply W.store cx_ok | apply AW.cond); (simp (disch := omega) only [push_cast, simprocAttr, natNe, List.mem_cons, List.not_mem_nil, TyD.isAgg, Nat.add_assoc, List.map_nil, List.length_nil, Bool.and_self, Bool.and_true, Bool.true_and, Bool.false_and, Bool.and_false, Bool.not_true, Bool.not_false, Bool.false_eq_true] <;> rfl); all_goals try ((with_reducible intro hI); try first | (cases hI; done) | (simp only [INTS, not_true_eq_false] at hI; try first | (exfalso; omega) | (have hT : True := hI; clear hT hI))))
    | ((first | apply W.ret1 | apply W.end1); (iterate 2 (try (simp (disch := omega) only [push_cast, simprocAttr, natNe, List.mem_cons, List.not_mem_nil, TyD.isAgg, Nat.add_assoc, List.map_nil, List.length_nil, Bool.and_self, Bool.and_true, Bool.true_and, Bool.false_and, Bool.and_false, Bool.not_true, Bool.not_false, Bool.false_eq_true] <;> rfl))))

  refine AW.freeze (t := 5) (v := lSpan []) (by simp (disch := omega) only [push_cast, simprocAttr, natNe, List.mem_cons, List.not_mem_nil, TyD.isAgg, Nat.add_assoc, List.map_nil, List.length_nil, Bool.and_self, Bool.and_true, Bool.true_and, Bool.false_and, Bool.and_false, Bool.not_true, Bool.not_false, Bool.false_eq_true] <;> rfl) ?_
  refine AW.loop (fun n s => ∃ (k : Nat) (M rest : List Span), n = rest.length ∧ (a.drop k = rest) ∧ (putAll M (cutsD rest b) = RES) ∧ ((∀ t ∈ M, 0 ≤ t.lo ∧ t.lo ≤ t.hi ∧ t.hi ≤ 43199)) ∧ (M.length ≤ k * b.length) ∧ (k ≤ a.length) ∧ s.tm 0 = lSpan a ∧ s.tm 1 = lSpan b ∧ s.tm 5 = lSpan M ∧ s.tm 6 = ai k) (a.length) ⟨0, [], a, rfl, rfl, hRES, (fun t ht => by cases ht), (by simp), (Nat.zero_le _), ?_, ?_, ?_, ?_⟩ ?_
  iterate 4 (first | (simp (disch := omega) only [push_cast, simprocAttr, natNe, List.mem_cons, List.not_mem_nil, TyD.isAgg, Nat.add_assoc, List.map_nil, List.length_nil, Bool.and_self, Bool.and_true, Bool.true_and, Bool.false_and, Bool.and_false, Bool.not_true, Bool.not_false, Bool.false_eq_true] <;> first | rfl | omega) | omega)
  rintro n1 s1 ⟨k1, M1, rest1, hn1, hp01, hp11, hp21, hp31, hp41, hS1⟩
  refine AW.fresh fun hfr1 => ?_
  have hmul : k1 * b.length ≤ 900 * 900 := Nat.mul_le_mul (by omega) hlb
  rcases rest1 with _ | ⟨x, rest1⟩
  · have hk := drop_nil hp01
    have hq : M1 = RES := hp11
    subst hq
    repeat' first
      | apply AW.seq | apply AW.region | apply AW.ret | apply AW.block | apply AW.skip | apply AW.exit | apply AW.scope | apply AW.label | apply AWL.nil | apply D.nil
      | refine W.draw cx_mixed (by decide +kernel) ?_
      | ((first | (apply W.step cx_ok; decide) | (apply D.step cx_ok; decide; decide) | apply W.store cx_ok | apply AW.cond); (simp (disch := omega) only [push_cast, simprocAttr, hS1, natNe, List.mem_cons, List.not_mem_nil, TyD.isAgg, Nat.add_assoc, List.map_nil, List.length_nil, Bool.and_self, Bool.and_true, Bool.true_and, Bool.false_and, Bool.and_false, Bool.not_true, Bool.not_false, Bool.false_eq_true, hk] <;> rfl); all_goals try ((with_reducible intro hI); try first | (cases hI; done) | (simp only [INTS, not_true_eq_false] at hI; try first | (exfalso; omega) | (have hT : True := hI; clear hT hI))))
      | ((first | apply W.ret1 | apply W.end1); (iterate 2 (try (simp (disch := omega) only [push_cast, simprocAttr, hS1, natNe, List.mem_cons, List.not_mem_nil, TyD.isAgg, Nat.add_assoc, List.map_nil, List.length_nil, Bool.and_self, Bool.and_true, Bool.true_and, Bool.false_and, Bool.and_false, Bool.not_true, Bool.not_false, Bool.false_eq_true, hk] <;> rfl))))

    all_goals (show _ = _; rfl)
  obtain ⟨hk, hg, hd', hl', hm', hx⟩ := drop_cons hp01 eSpan []
  obtain ⟨x1, x2, x3⟩ := ha x hm'
  repeat' first
    | apply AW.seq | apply AW.region | apply AW.ret | apply AW.block | apply AW.skip | apply AW.exit | apply AW.scope | apply AW.label | apply AWL.nil | apply D.nil
    | refine W.draw cx_mixed (by decide +kernel) ?_
    | ((first | (apply W.step cx_ok; decide) | (apply D.step cx_ok; decide; decide) | apply W.store cx_ok | apply AW.cond); (simp (disch := omega) only [push_cast, simprocAttr, hS1, natNe, List.mem_cons, List.not_mem_nil, TyD.isAgg, Nat.add_assoc, List.map_nil, List.length_nil, Bool.and_self, Bool.and_true, Bool.true_and, Bool.false_and, Bool.and_false, Bool.not_true, Bool.not_false, Bool.false_eq_true, hk, hg, hx] <;> rfl); all_goals try ((with_reducible intro hI); try first | (cases hI; done) | (simp only [INTS, not_true_eq_false] at hI; try first | (exfalso; omega) | (have hT : True := hI; clear hT hI))))
    | ((first | apply W.ret1 | apply W.end1); (iterate 2 (try (simp (disch := omega) only [push_cast, simprocAttr, hS1, natNe, List.mem_cons, List.not_mem_nil, TyD.isAgg, Nat.add_assoc, List.map_nil, List.length_nil, Bool.and_self, Bool.and_true, Bool.true_and, Bool.false_and, Bool.and_false, Bool.not_true, Bool.not_false, Bool.false_eq_true, hk, hg, hx] <;> rfl))))

  refine AW.loop (fun n s => ∃ (j : Nat) (M rest : List Span), n = rest.length ∧ (b.drop j = rest) ∧ (putAll (putAll M ((rest.map (cutS x)).filter fun u => decide (u.lo ≤ u.hi))) (cutsD rest1 b) = RES) ∧ ((∀ t ∈ M, 0 ≤ t.lo ∧ t.lo ≤ t.hi ∧ t.hi ≤ 43199)) ∧ (M.length ≤ k1 * b.length + j) ∧ (j ≤ b.length) ∧ s.tm 0 = lSpan a ∧ s.tm 1 = lSpan b ∧ s.tm 5 = lSpan M ∧ s.tm 6 = ai k1 ∧ s.tm 7 = ai j) (b.length) ⟨0, M1, b, rfl, rfl, (by rw [← putAll_app]; exact hp11), hp21, hp31, (Nat.zero_le _), ?_, ?_, ?_, ?_, ?_⟩ ?_
  iterate 5 (first | (simp (disch := omega) only [push_cast, simprocAttr, natNe, List.mem_cons, List.not_mem_nil, TyD.isAgg, Nat.add_assoc, List.map_nil, List.length_nil, Bool.and_self, Bool.and_true, Bool.true_and, Bool.false_and, Bool.and_false, Bool.not_true, Bool.not_false, Bool.false_eq_true, hS1, hk, hg, hx] <;> first | rfl | omega) | omega)
  rintro n2 s2 ⟨j2, M2, rest2, hn2, hp02, hp12, hp22, hp32, hp42, hS2⟩
  refine AW.fresh fun hfr2 => ?_
  rcases rest2 with _ | ⟨y, rest2⟩
  · have hk2 := drop_nil hp02
    have hj : j2 = b.length := by
      have := List.drop_eq_nil_iff.1 hp02
      omega
    repeat' first
      | apply AW.seq | apply AW.region | apply AW.ret | apply AW.block | apply AW.skip | apply AW.exit | apply AW.scope | apply AW.label | apply AWL.nil | apply D.nil
      | refine W.draw cx_mixed (by decide +kernel) ?_
      | ((first | (apply W.step cx_ok; decide) | (apply D.step cx_ok; decide; decide) | apply W.store cx_ok | apply AW.cond); (simp (disch := omega) only [push_cast, simprocAttr, hS2, natNe, List.mem_cons, List.not_mem_nil, TyD.isAgg, Nat.add_assoc, List.map_nil, List.length_nil, Bool.and_self, Bool.and_true, Bool.true_and, Bool.false_and, Bool.and_false, Bool.not_true, Bool.not_false, Bool.false_eq_true, hk, hk2] <;> rfl); all_goals try ((with_reducible intro hI); try first | (cases hI; done) | (simp only [INTS, not_true_eq_false] at hI; try first | (exfalso; omega) | (have hT : True := hI; clear hT hI))))
      | ((first | apply W.ret1 | apply W.end1); (iterate 2 (try (simp (disch := omega) only [push_cast, simprocAttr, hS2, natNe, List.mem_cons, List.not_mem_nil, TyD.isAgg, Nat.add_assoc, List.map_nil, List.length_nil, Bool.and_self, Bool.and_true, Bool.true_and, Bool.false_and, Bool.and_false, Bool.not_true, Bool.not_false, Bool.false_eq_true, hk, hk2] <;> rfl))))

    all_goals (refine ⟨rest1.length, ?_, k1 + 1, M2, rest1, rfl, hd', hp12, hp22, (by rw [Nat.add_mul]; omega), (by omega), ?_, ?_, ?_, ?_⟩; ((simp only [List.length_cons] at *; omega)); all_goals first | (simp (disch := omega) only [push_cast, simprocAttr, hS1, hS2, hk, hk2, natNe, List.mem_cons, List.not_mem_nil, TyD.isAgg, Nat.add_assoc, List.map_nil, List.length_nil, Bool.and_self, Bool.and_true, Bool.true_and, Bool.false_and, Bool.and_false, Bool.not_true, Bool.not_false, Bool.false_eq_true] <;> first | rfl | omega) | omega)
  obtain ⟨hk2, hg2, hd2, hl2, hm2, hx2⟩ := drop_cons hp02 eSpan []
  obtain ⟨y1, y2, y3⟩ := hb y hm2
  rw [List.map_cons, List.filter_cons] at hp12
  unfold cutS at hp12
  dsimp only at hp12
  obtain ⟨C1, hC1⟩ : ∃ z, max x.lo y.lo = z := ⟨_, rfl⟩
  obtain ⟨C2, hC2⟩ : ∃ z, min x.hi y.hi = z := ⟨_, rfl⟩
  rw [hC1, hC2] at hp12
  by_cases hq : C1 ≤ C2
  · rw [decide_eq_true hq, if_pos rfl] at hp12
    have hqT : (C1 ≤ C2) = True := eq_true hq
    have c1 := put_ok M2 ⟨C1, C2⟩ hp22 (by dsimp only; omega) (by omega)
    have b1 := putD_bd hp22 (s := ⟨C1, C2⟩) (by dsimp only; omega)
    have b2 := putD_len M2 ⟨C1, C2⟩
    repeat' first
      | apply AW.seq | apply AW.region | apply AW.ret | apply AW.block | apply AW.skip | apply AW.exit | apply AW.scope | apply AW.label | apply AWL.nil | apply D.nil
      | refine AW.draw (id := 8) cx_mixed [24] [] [] 25 (by decide +kernel) ?_
      | refine W.draw cx_mixed (by decide +kernel) ?_
      | ((first | (apply W.step cx_ok; decide) | (apply D.step cx_ok; decide; decide) | apply W.store cx_ok | apply AW.cond); (simp (disch := omega) only [push_cast, simprocAttr, hS2, natNe, List.mem_cons, List.not_mem_nil, TyD.isAgg, Nat.add_assoc, List.map_nil, List.length_nil, Bool.and_self, Bool.and_true, Bool.true_and, Bool.false_and, Bool.and_false, Bool.not_true, Bool.not_false, Bool.false_eq_true, hk, hg, hx, hk2, hg2, hx2, hfr2, hC1, hC2, hqT] <;> rfl); all_goals try ((with_reducible intro hI); try first | (cases hI; done) | (simp only [INTS, not_true_eq_false] at hI; try first | (exfalso; omega) | (have hT : True := hI; clear hT hI))))
      | ((first | (apply D.store cx_ok; decide) | (apply D.stept cx_ok; decide; decide) | (apply D.stepm cx_ok; decide; decide)); (simp (disch := omega) only [push_cast, simprocAttr, hS2, natNe, List.mem_cons, List.not_mem_nil, TyD.isAgg, Nat.add_assoc, List.map_nil, List.length_nil, Bool.and_self, Bool.and_true, Bool.true_and, Bool.false_and, Bool.and_false, Bool.not_true, Bool.not_false, Bool.false_eq_true, hk, hg, hx, hk2, hg2, hx2, hfr2, hC1, hC2, hqT] <;> rfl); try first | exact .inl rfl | exact .inr (by simp))
      | ((apply D.alloc cx_ok; decide; decide); (simp (disch := omega) only [push_cast, simprocAttr, hS2, natNe, List.mem_cons, List.not_mem_nil, TyD.isAgg, Nat.add_assoc, List.map_nil, List.length_nil, Bool.and_self, Bool.and_true, Bool.true_and, Bool.false_and, Bool.and_false, Bool.not_true, Bool.not_false, Bool.false_eq_true, hk, hg, hx, hk2, hg2, hx2, hfr2, hC1, hC2, hqT] <;> rfl); (simp (disch := omega) only [push_cast, simprocAttr, hS2, natNe, List.mem_cons, List.not_mem_nil, TyD.isAgg, Nat.add_assoc, List.map_nil, List.length_nil, Bool.and_self, Bool.and_true, Bool.true_and, Bool.false_and, Bool.and_false, Bool.not_true, Bool.not_false, Bool.false_eq_true, hk, hg, hx, hk2, hg2, hx2, hfr2, hC1, hC2, hqT, updH_at, Nat.add_assoc]); (simp (disch := omega) only [push_cast, simprocAttr, hS2, natNe, List.mem_cons, List.not_mem_nil, TyD.isAgg, Nat.add_assoc, List.map_nil, List.length_nil, Bool.and_self, Bool.and_true, Bool.true_and, Bool.false_and, Bool.and_false, Bool.not_true, Bool.not_false, Bool.false_eq_true, hk, hg, hx, hk2, hg2, hx2, hfr2, hC1, hC2, hqT] <;> omega))
      | ((apply D.alloct cx_ok; decide; decide); (simp (disch := omega) only [push_cast, simprocAttr, hS2, natNe, List.mem_cons, List.not_mem_nil, TyD.isAgg, Nat.add_assoc, List.map_nil, List.length_nil, Bool.and_self, Bool.and_true, Bool.true_and, Bool.false_and, Bool.and_false, Bool.not_true, Bool.not_false, Bool.false_eq_true, hk, hg, hx, hk2, hg2, hx2, hfr2, hC1, hC2, hqT] <;> rfl); first | exact .inl rfl | exact .inr (by simp))
      | ((first | (apply W.callv cx_ok; decide) | (apply D.callv cx_ok; decide; decide) | (apply D.callvt cx_ok; decide; decide)); (iterate 2 (simp (disch := omega) only [push_cast, simprocAttr, hS2, natNe, List.mem_cons, List.not_mem_nil, TyD.isAgg, Nat.add_assoc, List.map_nil, List.length_nil, Bool.and_self, Bool.and_true, Bool.true_and, Bool.false_and, Bool.and_false, Bool.not_true, Bool.not_false, Bool.false_eq_true, hk, hg, hx, hk2, hg2, hx2, hfr2, hC1, hC2, hqT] <;> rfl)); (with_reducible first | exact c1); try first | rfl | (simp (disch := omega) only [push_cast, simprocAttr, hS2, natNe, List.mem_cons, List.not_mem_nil, TyD.isAgg, Nat.add_assoc, List.map_nil, List.length_nil, Bool.and_self, Bool.and_true, Bool.true_and, Bool.false_and, Bool.and_false, Bool.not_true, Bool.not_false, Bool.false_eq_true, hk, hg, hx, hk2, hg2, hx2, hfr2, hC1, hC2, hqT] <;> rfl))
      | ((first | apply W.ret1 | apply W.end1); (iterate 2 (try (simp (disch := omega) only [push_cast, simprocAttr, hS2, natNe, List.mem_cons, List.not_mem_nil, TyD.isAgg, Nat.add_assoc, List.map_nil, List.length_nil, Bool.and_self, Bool.and_true, Bool.true_and, Bool.false_and, Bool.and_false, Bool.not_true, Bool.not_false, Bool.false_eq_true, hk, hg, hx, hk2, hg2, hx2, hfr2, hC1, hC2, hqT] <;> rfl))))

    all_goals (refine ⟨rest2.length, ?_, j2 + 1, (putD M2 ⟨C1, C2⟩), rest2, rfl, hd2, hp12, b1, (by omega), (by omega), ?_, ?_, ?_, ?_, ?_⟩; ((simp only [List.length_cons] at *; omega)); all_goals first | (simp (disch := omega) only [push_cast, simprocAttr, hS2, natNe, List.mem_cons, List.not_mem_nil, TyD.isAgg, Nat.add_assoc, List.map_nil, List.length_nil, Bool.and_self, Bool.and_true, Bool.true_and, Bool.false_and, Bool.and_false, Bool.not_true, Bool.not_false, Bool.false_eq_true, hk, hg, hx, hk2, hg2, hx2, hfr2] <;> first | rfl | omega) | omega)
  · rw [decide_eq_false hq, if_neg (by decide)] at hp12
    have hqT : (C1 ≤ C2) = False := eq_false hq
    repeat' first
      | apply AW.seq | apply AW.region | apply AW.ret | apply AW.block | apply AW.skip | apply AW.exit | apply AW.scope | apply AW.label | apply AWL.nil | apply D.nil
      | refine AW.draw (id := 8) cx_mixed [24] [] [] 25 (by decide +kernel) ?_
      | refine W.draw cx_mixed (by decide +kernel) ?_
      | ((first | (apply W.step cx_ok; decide) | (apply D.step cx_ok; decide; decide) | apply W.store cx_ok | apply AW.cond); (simp (disch := omega) only [push_cast, simprocAttr, hS2, natNe, List.mem_cons, List.not_mem_nil, TyD.isAgg, Nat.add_assoc, List.map_nil, List.length_nil, Bool.and_self, Bool.and_true, Bool.true_and, Bool.false_and, Bool.and_false, Bool.not_true, Bool.not_false, Bool.false_eq_true, hk, hg, hx, hk2, hg2, hx2, hfr2, hC1, hC2, hqT] <;> rfl); all_goals try ((with_reducible intro hI); try first | (cases hI; done) | (simp only [INTS, not_true_eq_false] at hI; try first | (exfalso; omega) | (have hT : True := hI; clear hT hI))))
      | ((first | (apply D.store cx_ok; decide) | (apply D.stept cx_ok; decide; decide) | (apply D.stepm cx_ok; decide; decide)); (simp (disch := omega) only [push_cast, simprocAttr, hS2, natNe, List.mem_cons, List.not_mem_nil, TyD.isAgg, Nat.add_assoc, List.map_nil, List.length_nil, Bool.and_self, Bool.and_true, Bool.true_and, Bool.false_and, Bool.and_false, Bool.not_true, Bool.not_false, Bool.false_eq_true, hk, hg, hx, hk2, hg2, hx2, hfr2, hC1, hC2, hqT] <;> rfl); try first | exact .inl rfl | exact .inr (by simp))
      | ((apply D.alloc cx_ok; decide; decide); (simp (disch := omega) only [push_cast, simprocAttr, hS2, natNe, List.mem_cons, List.not_mem_nil, TyD.isAgg, Nat.add_assoc, List.map_nil, List.length_nil, Bool.and_self, Bool.and_true, Bool.true_and, Bool.false_and, Bool.and_false, Bool.not_true, Bool.not_false, Bool.false_eq_true, hk, hg, hx, hk2, hg2, hx2, hfr2, hC1, hC2, hqT] <;> rfl); (simp (disch := omega) only [push_cast, simprocAttr, hS2, natNe, List.mem_cons, List.not_mem_nil, TyD.isAgg, Nat.add_assoc, List.map_nil, List.length_nil, Bool.and_self, Bool.and_true, Bool.true_and, Bool.false_and, Bool.and_false, Bool.not_true, Bool.not_false, Bool.false_eq_true, hk, hg, hx, hk2, hg2, hx2, hfr2, hC1, hC2, hqT, updH_at, Nat.add_assoc]); (simp (disch := omega) only [push_cast, simprocAttr, hS2, natNe, List.mem_cons, List.not_mem_nil, TyD.isAgg, Nat.add_assoc, List.map_nil, List.length_nil, Bool.and_self, Bool.and_true, Bool.true_and, Bool.false_and, Bool.and_false, Bool.not_true, Bool.not_false, Bool.false_eq_true, hk, hg, hx, hk2, hg2, hx2, hfr2, hC1, hC2, hqT] <;> omega))
      | ((apply D.alloct cx_ok; decide; decide); (simp (disch := omega) only [push_cast, simprocAttr, hS2, natNe, List.mem_cons, List.not_mem_nil, TyD.isAgg, Nat.add_assoc, List.map_nil, List.length_nil, Bool.and_self, Bool.and_true, Bool.true_and, Bool.false_and, Bool.and_false, Bool.not_true, Bool.not_false, Bool.false_eq_true, hk, hg, hx, hk2, hg2, hx2, hfr2, hC1, hC2, hqT] <;> rfl); first | exact .inl rfl | exact .inr (by simp))
      | ((first | apply W.ret1 | apply W.end1); (iterate 2 (try (simp (disch := omega) only [push_cast, simprocAttr, hS2, natNe, List.mem_cons, List.not_mem_nil, TyD.isAgg, Nat.add_assoc, List.map_nil, List.length_nil, Bool.and_self, Bool.and_true, Bool.true_and, Bool.false_and, Bool.and_false, Bool.not_true, Bool.not_false, Bool.false_eq_true, hk, hg, hx, hk2, hg2, hx2, hfr2, hC1, hC2, hqT] <;> rfl))))

    all_goals (refine ⟨rest2.length, ?_, j2 + 1, M2, rest2, rfl, hd2, hp12, hp22, (by omega), (by omega), ?_, ?_, ?_, ?_, ?_⟩; ((simp only [List.length_cons] at *; omega)); all_goals first | (simp (disch := omega) only [push_cast, simprocAttr, hS2, natNe, List.mem_cons, List.not_mem_nil, TyD.isAgg, Nat.add_assoc, List.map_nil, List.length_nil, Bool.and_self, Bool.and_true, Bool.true_and, Bool.false_and, Bool.and_false, Bool.not_true, Bool.not_false, Bool.false_eq_true, hk, hg, hx, hk2, hg2, hx2, hfr2] <;> first | rfl | omega) | omega)
end Go.Proofs.Ds
