/-
  Contracts of functions, proved by going through their code. No conditions.
-/
import Derived.Test.YtkdiplkmcilkmaaGreatDoorEtA
set_option linter.unusedVariables false
set_option linter.unusedSimpArgs false
set_option maxHeartbeats 8000000
set_option maxRecDepth 10000
namespace Go.Proofs.Dz
open Go Go.Pg Go.Proofs Go.Proofs.Ds
theorem growS_bd : ∀ (l : List Span) (s : Span), (∀ t ∈ l, 0 ≤ t.lo ∧ t.lo ≤ t.hi ∧ t.hi ≤ 43199) → (0 ≤ s.lo ∧ s.lo ≤ s.hi ∧ s.hi ≤ 43199) → 0 ≤ (growS s l).lo ∧ (growS s l).lo ≤ (growS s l).hi ∧ (growS s l).hi ≤ 43199
  | [], _, _, h => h
  | t :: l, s, hl, h => by
    have ht := hl t (by simp)
    unfold growS
    refine growS_bd l _ (fun u hu => hl u (by simp [hu])) ?_
    split
    · exact h
    · dsimp only; omega
theorem leftS_sub : ∀ (l : List Span) (s : Span), ∀ t ∈ leftS s l, t ∈ l
  | [], _, t, ht => by cases ht
  | x :: l, s, t, ht => by
    unfold leftS at ht
    split at ht
    · rcases List.mem_cons.1 ht with rfl | ht
      · simp
      · exact List.mem_cons_of_mem _ (leftS_sub l _ t ht)
    · exact List.mem_cons_of_mem _ (leftS_sub l _ t ht)
theorem putD_bd {l : List Span} {s : Span} (hl : (∀ t ∈ l, 0 ≤ t.lo ∧ t.lo ≤ t.hi ∧ t.hi ≤ 43199)) (h : 0 ≤ s.lo ∧ s.lo ≤ s.hi ∧ s.hi ≤ 43199) : (∀ t ∈ putD l s, 0 ≤ t.lo ∧ t.lo ≤ t.hi ∧ t.hi ≤ 43199) := by
  intro t ht
  unfold putD insB at ht
  rw [(insB_ahead _ _).1, (insB_ahead _ _).2] at ht
  rcases List.mem_append.1 ht with ht | ht
  · exact hl t (leftS_sub _ _ t (List.mem_of_mem_take ht))
  · rcases List.mem_cons.1 ht with rfl | ht
    · exact growS_bd l s hl h
    · exact hl t (leftS_sub _ _ t (List.mem_of_mem_drop ht))
theorem putD_len (l : List Span) (s : Span) : (putD l s).length ≤ l.length + 1 := by
  unfold putD insB
  rw [(insB_ahead _ _).1, (insB_ahead _ _).2]
  have := leftS_len l s
  simp only [List.length_append, List.length_cons, List.length_take, List.length_drop]
  omega
theorem putAll_app (m a b : List Span) : putAll m (a ++ b) = putAll (putAll m a) b := List.foldl_append
theorem Rspans_ok (l : List Arc) (hv : ∀ x ∈ l, validA x = true) (hl : l.length ≤ 400000) : OKv cx 94 [lArc l] (lSpan (spansS l)) := by
  obtain ⟨RES, hRES⟩ : ∃ z, putAll [] (piecesL l) = z := ⟨_, rfl⟩
  have hR : spansS l = RES := hRES
  rw [hR]
  refine OKat.of_body (rs := [2]) Tryz.func94 rfl (by decide +kernel) rfl (by simp [Tryz.ntmps94]) ?_
  simp only [Tryz.ntmps94]
  repeat' first
    | apply AW.seq | apply AW.region | apply AW.ret | apply AW.block | apply AW.skip | apply AW.exit | apply AW.scope | apply AW.label | apply AWL.nil | apply D.nil
    | refine W.draw cx_mixed (by decide +kernel) ?_
    | ((first | (apply W.step cx_ok; decide) | (apply D.step cx_ok; decide; decide) | apply AW.cond); (simp (disch := omega) only [push_cast, simprocAttr, natNe, List.mem_cons, List.not_mem_nil, TyD.isAgg, Nat.add_assoc, List.map_nil, List.length_nil, Bool.and_self, Bool.and_true, Bool.true_and, Bool.false_and, Bool.and_false, Bool.not_true, Bool.not_false, Bool.false_eq_true] <;> rfl); all_goals try ((with_reducible intro hI); try first | (cases hI; done) | (simp only [INTS, not_true_eq_false] at hI; try first | (exfalso; omega) | (have hT : True := hI; clear hT hI))))
    | ((first | apply W.ret1 | apply W.end1); (iterate 2 (try (simp (disch := omega) only [push_cast, simprocAttr, natNe, List.mem_cons, List.not_mem_nil, TyD.isAgg, Nat.add_assoc, List.map_nil, List.length_nil, Bool.and_self, Bool.and_true, Bool.true_and, Bool.false_and, Bool.and_false, Bool.not_true, Bool.not_false, Bool.false_eq_true] <;> rfl))))

  refine AW.freeze (t := 3) (v := lSpan []) (by simp (disch := omega) only [push_cast, simprocAttr, natNe, List.mem_cons, List.not_mem_nil, TyD.isAgg, Nat.add_assoc, List.map_nil, List.length_nil, Bool.and_self, Bool.and_true, Bool.true_and, Bool.false_and, Bool.and_false, Bool.not_true, Bool.not_false, Bool.false_eq_true] <;> rfl) ?_
  refine AW.loop (fun n s => ∃ (k : Nat) (M : List Span) (rest : List Arc), n = rest.length ∧ (l.drop k = rest) ∧ (putAll M (piecesL rest) = RES) ∧ ((∀ t ∈ M, 0 ≤ t.lo ∧ t.lo ≤ t.hi ∧ t.hi ≤ 43199)) ∧ (M.length ≤ 2 * k) ∧ (k ≤ l.length) ∧ s.tm 0 = lArc l ∧ s.tm 3 = lSpan M ∧ s.tm 4 = ai k) (l.length) ⟨0, [], l, rfl, rfl, hRES, (fun t ht => by cases ht), (Nat.zero_le _), (Nat.zero_le _), ?_, ?_, ?_⟩ ?_
  iterate 3 (first | (simp (disch := omega) only [push_cast, simprocAttr, natNe, List.mem_cons, List.not_mem_nil, TyD.isAgg, Nat.add_assoc, List.map_nil, List.length_nil, Bool.and_self, Bool.and_true, Bool.true_and, Bool.false_and, Bool.and_false, Bool.not_true, Bool.not_false, Bool.false_eq_true] <;> first | rfl | omega) | omega)
  rintro n1 s1 ⟨k1, M1, rest1, hn1, hp01, hp11, hp21, hp31, hp41, hS1⟩
  rcases rest1 with _ | ⟨x, rest1⟩
  · have hk := drop_nil hp01
    have hq : M1 = RES := hp11
    subst hq
    repeat' first
      | apply AW.seq | apply AW.region | apply AW.ret | apply AW.block | apply AW.skip | apply AW.exit | apply AW.scope | apply AW.label | apply AWL.nil | apply D.nil
      | refine W.draw cx_mixed (by decide +kernel) ?_
      | ((first | (apply W.step cx_ok; decide) | (apply D.step cx_ok; decide; decide) | apply AW.cond); (simp (disch := omega) only [push_cast, simprocAttr, hS1, natNe, List.mem_cons, List.not_mem_nil, TyD.isAgg, Nat.add_assoc, List.map_nil, List.length_nil, Bool.and_self, Bool.and_true, Bool.true_and, Bool.false_and, Bool.and_false, Bool.not_true, Bool.not_false, Bool.false_eq_true, hk] <;> rfl); all_goals try ((with_reducible intro hI); try first | (cases hI; done) | (simp only [INTS, not_true_eq_false] at hI; try first | (exfalso; omega) | (have hT : True := hI; clear hT hI))))
      | ((first | apply W.ret1 | apply W.end1); (iterate 2 (try (simp (disch := omega) only [push_cast, simprocAttr, hS1, natNe, List.mem_cons, List.not_mem_nil, TyD.isAgg, Nat.add_assoc, List.map_nil, List.length_nil, Bool.and_self, Bool.and_true, Bool.true_and, Bool.false_and, Bool.and_false, Bool.not_true, Bool.not_false, Bool.false_eq_true, hk] <;> rfl))))

    all_goals (show _ = _; rfl)
  obtain ⟨hk, hg, hd', hl', hm', hx⟩ := drop_cons hp01 eArc []
  obtain ⟨v1, v2, v3, v4, v5⟩ := validA_iff.1 (hv x hm')
  have hp : putAll (putAll M1 (piecesF x)) (piecesL rest1) = RES := by rw [← putAll_app]; exact hp11
  unfold piecesF at hp
  by_cases he : x.from_ + x.len < 43200
  · rw [if_pos he] at hp
    have hq : (x.from_ + x.len < 43200) = True := eq_true he
    have c1 := put_ok M1 ⟨x.from_, x.from_ + x.len⟩ hp21 (by dsimp only; omega) (by omega)
    have b1 := putD_bd hp21 (s := ⟨x.from_, x.from_ + x.len⟩) (by dsimp only; omega)
    have b2 := putD_len M1 ⟨x.from_, x.from_ + x.len⟩
    repeat' first
      | apply AW.seq | apply AW.region | apply AW.ret | apply AW.block | apply AW.skip | apply AW.exit | apply AW.scope | apply AW.label | apply AWL.nil | apply D.nil
      | refine W.draw cx_mixed (by decide +kernel) ?_
      | ((first | (apply W.step cx_ok; decide) | (apply D.step cx_ok; decide; decide) | apply AW.cond); (simp (disch := omega) only [push_cast, simprocAttr, hS1, natNe, List.mem_cons, List.not_mem_nil, TyD.isAgg, Nat.add_assoc, List.map_nil, List.length_nil, Bool.and_self, Bool.and_true, Bool.true_and, Bool.false_and, Bool.and_false, Bool.not_true, Bool.not_false, Bool.false_eq_true, hk, hg, hx, hq] <;> rfl); all_goals try ((with_reducible intro hI); try first | (cases hI; done) | (simp only [INTS, not_true_eq_false] at hI; try first | (exfalso; omega) | (have hT : True := hI; clear hT hI))))
      | ((first | (apply W.callv cx_ok; decide) | (apply D.callv cx_ok; decide; decide)); (iterate 2 (simp (disch := omega) only [push_cast, simprocAttr, hS1, natNe, List.mem_cons, List.not_mem_nil, TyD.isAgg, Nat.add_assoc, List.map_nil, List.length_nil, Bool.and_self, Bool.and_true, Bool.true_and, Bool.false_and, Bool.and_false, Bool.not_true, Bool.not_false, Bool.false_eq_true, hk, hg, hx, hq] <;> rfl)); (with_reducible first | exact c1); try first | rfl | (simp (disch := omega) only [push_cast, simprocAttr, hS1, natNe, List.mem_cons, List.not_mem_nil, TyD.isAgg, Nat.add_assoc, List.map_nil, List.length_nil, Bool.and_self, Bool.and_true, Bool.true_and, Bool.false_and, Bool.and_false, Bool.not_true, Bool.not_false, Bool.false_eq_true, hk, hg, hx, hq] <;> rfl))
      | ((first | apply W.ret1 | apply W.end1); (iterate 2 (try (simp (disch := omega) only [push_cast, simprocAttr, hS1, natNe, List.mem_cons, List.not_mem_nil, TyD.isAgg, Nat.add_assoc, List.map_nil, List.length_nil, Bool.and_self, Bool.and_true, Bool.true_and, Bool.false_and, Bool.and_false, Bool.not_true, Bool.not_false, Bool.false_eq_true, hk, hg, hx, hq] <;> rfl))))

    all_goals (refine ⟨rest1.length, ?_, k1 + 1, (putD M1 ⟨x.from_, x.from_ + x.len⟩), rest1, rfl, hd', hp, b1, (by omega), (by omega), ?_, ?_, ?_⟩; ((simp only [List.length_cons] at *; omega)); all_goals first | (simp (disch := omega) only [push_cast, simprocAttr, hS1, natNe, List.mem_cons, List.not_mem_nil, TyD.isAgg, Nat.add_assoc, List.map_nil, List.length_nil, Bool.and_self, Bool.and_true, Bool.true_and, Bool.false_and, Bool.and_false, Bool.not_true, Bool.not_false, Bool.false_eq_true, hk, hg, hx, hq] <;> first | rfl | omega) | omega)
  · rw [if_neg he] at hp
    have hq : (x.from_ + x.len < 43200) = False := eq_false he
    have c1 := put_ok M1 ⟨x.from_, 43199⟩ hp21 (by dsimp only; omega) (by omega)
    have b1 := putD_bd hp21 (s := ⟨x.from_, 43199⟩) (by dsimp only; omega)
    have b2 := putD_len M1 ⟨x.from_, 43199⟩
    have hp' : putAll (putD (putD M1 ⟨x.from_, 43199⟩) ⟨0, x.from_ + x.len - 43200⟩) (piecesL rest1) = RES := hp
    obtain ⟨M2, hM2⟩ : ∃ z, putD M1 ⟨x.from_, 43199⟩ = z := ⟨_, rfl⟩
    rw [hM2] at c1 b1 b2 hp'
    have c2 := put_ok M2 ⟨0, x.from_ + x.len - 43200⟩ b1 (by dsimp only; omega) (by omega)
    have b3 := putD_bd b1 (s := ⟨0, x.from_ + x.len - 43200⟩) (by dsimp only; omega)
    have b4 := putD_len M2 ⟨0, x.from_ + x.len - 43200⟩
    repeat' first
      | apply AW.seq | apply AW.region | apply AW.ret | apply AW.block | apply AW.skip | apply AW.exit | apply AW.scope | apply AW.label | apply AWL.nil | apply D.nil
      | refine W.draw cx_mixed (by decide +kernel) ?_
      | ((first | (apply W.step cx_ok; decide) | (apply D.step cx_ok; decide; decide) | apply AW.cond); (simp (disch := omega) only [push_cast, simprocAttr, hS1, natNe, List.mem_cons, List.not_mem_nil, TyD.isAgg, Nat.add_assoc, List.map_nil, List.length_nil, Bool.and_self, Bool.and_true, Bool.true_and, Bool.false_and, Bool.and_false, Bool.not_true, Bool.not_false, Bool.false_eq_true, hk, hg, hx, hq] <;> rfl); all_goals try ((with_reducible intro hI); try first | (cases hI; done) | (simp only [INTS, not_true_eq_false] at hI; try first | (exfalso; omega) | (have hT : True := hI; clear hT hI))))
      | ((first | (apply W.callv cx_ok; decide) | (apply D.callv cx_ok; decide; decide)); (iterate 2 (simp (disch := omega) only [push_cast, simprocAttr, hS1, natNe, List.mem_cons, List.not_mem_nil, TyD.isAgg, Nat.add_assoc, List.map_nil, List.length_nil, Bool.and_self, Bool.and_true, Bool.true_and, Bool.false_and, Bool.and_false, Bool.not_true, Bool.not_false, Bool.false_eq_true, hk, hg, hx, hq] <;> rfl)); (with_reducible first | exact c1 | exact c2); try first | rfl | (simp (disch := omega) only [push_cast, simprocAttr, hS1, natNe, List.mem_cons, List.not_mem_nil, TyD.isAgg, Nat.add_assoc, List.map_nil, List.length_nil, Bool.and_self, Bool.and_true, Bool.true_and, Bool.false_and, Bool.and_false, Bool.not_true, Bool.not_false, Bool.false_eq_true, hk, hg, hx, hq] <;> rfl))
      | ((first | apply W.ret1 | apply W.end1); (iterate 2 (try (simp (disch := omega) only [push_cast, simprocAttr, hS1, natNe, List.mem_cons, List.not_mem_nil, TyD.isAgg, Nat.add_assoc, List.map_nil, List.length_nil, Bool.and_self, Bool.and_true, Bool.true_and, Bool.false_and, Bool.and_false, Bool.not_true, Bool.not_false, Bool.false_eq_true, hk, hg, hx, hq] <;> rfl))))

    all_goals (refine ⟨rest1.length, ?_, k1 + 1, (putD M2 ⟨0, x.from_ + x.len - 43200⟩), rest1, rfl, hd', hp', b3, (by omega), (by omega), ?_, ?_, ?_⟩; ((simp only [List.length_cons] at *; omega)); all_goals first | (simp (disch := omega) only [push_cast, simprocAttr, hS1, natNe, List.mem_cons, List.not_mem_nil, TyD.isAgg, Nat.add_assoc, List.map_nil, List.length_nil, Bool.and_self, Bool.and_true, Bool.true_and, Bool.false_and, Bool.and_false, Bool.not_true, Bool.not_false, Bool.false_eq_true, hk, hg, hx, hq] <;> first | rfl | omega) | omega)
end Go.Proofs.Dz
