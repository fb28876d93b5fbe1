/-
  Contracts of functions, proved by going through their code. No conditions.
-/
import Derived.Shelf.SlSortCmp.WholeK
import Derived.Test.YtmcchoalekmklaaGreatProg
import Derived.Test.YtmcchoalekmklaaGreatZam
import Derived.Test.YtmcchoalekmklaaGreatZax
set_option linter.unusedVariables false
set_option linter.unusedSimpArgs false
set_option maxHeartbeats 8000000
set_option maxRecDepth 10000
namespace Go.Proofs.Ds
open Go Go.Pg Go.Proofs Go.Proofs.Yt
attribute [local push_cast] Bool.and_false Bool.and_self Bool.and_true Bool.false_and Bool.false_eq_true Bool.not_false Bool.not_true Bool.true_and List.length_nil List.map_nil List.mem_cons List.not_mem_nil Nat.add_assoc TyD.isAgg natNe
theorem ones64_ok (p : Nat) (hp : p < 4096) : OKv cx 90 [.v (.int .u64 p)] (ai (cntF p)) := by
  have hw := ones_all ⟨p, hp⟩
  dsimp only at hw
  rw [← hw]
  refine OKat.of_body (rs := [2]) Tryz.func90 rfl (by decide +kernel) rfl (by simp [Tryz.ntmps90]) ?_
  simp only [Tryz.ntmps90]
  repeat' first
    | apply jA | apply jB | apply jC | apply jI
    | ((apply jK kO; decide); (simp (disch := omega) only [push_cast, simprocAttr] <;> rfl))
    | ((apply W.ret1); (iterate 2 (try (simp (disch := omega) only [push_cast, simprocAttr] <;> rfl))))

  all_goals (show _ = _; rfl)
theorem ones_ok (p : Nat) (hp : p < 4096) : OKv cx 74 [.v (.int .u64 p)] (ai (cntF p)) := by
  have c1 := ones64_ok p hp
  refine OKat.of_body (rs := [2]) Tryz.func74 rfl (by decide +kernel) rfl (by simp [Tryz.ntmps74]) ?_
  simp only [Tryz.ntmps74]
  repeat' first
    | apply jA | apply jB | apply jC | apply jE | apply jI
    | ((first | (apply jK kO; decide) | apply jR); (simp (disch := omega) only [push_cast, simprocAttr] <;> rfl); all_goals try ((with_reducible intro hI); try first | (cases hI; done) | (simp only [INTS, zL] at hI; try first | (exfalso; omega) | (have hT : True := hI; clear hT hI))))
    | ((apply jV kO; decide); (iterate 2 (simp (disch := omega) only [push_cast, simprocAttr] <;> rfl)); (with_reducible exact c1); try first | rfl | (simp (disch := omega) only [push_cast, simprocAttr] <;> rfl))
    | ((apply W.ret1); (iterate 2 (try (simp (disch := omega) only [push_cast, simprocAttr] <;> rfl))))

  all_goals (show _ = _; rfl)
theorem most_ok (p : Nat) (hp : p < 4096) : OKv cx 61 [ai p] (ai (cntF p)) := by
  have c1 := ones_ok p hp
  have hw : IntKind.wrap .u64 (p : Int) = (p : Int) := by
    simp [IntKind.wrap, IntKind.bits, IntKind.signed]; omega
  refine OKat.of_body (rs := [2]) Tryz.func61 rfl (by decide +kernel) rfl (by simp [Tryz.ntmps61]) ?_
  simp only [Tryz.ntmps61]
  repeat' first
    | apply jA | apply jB | apply jC | apply jI
    | ((apply jK kO; decide); (simp (disch := omega) only [push_cast, simprocAttr, hw] <;> rfl))
    | ((apply jV kO; decide); (iterate 2 (simp (disch := omega) only [push_cast, simprocAttr, hw] <;> rfl)); (with_reducible exact c1); try first | rfl | (simp (disch := omega) only [push_cast, simprocAttr, hw] <;> rfl))
    | ((apply W.ret1); (iterate 2 (try (simp (disch := omega) only [push_cast, simprocAttr, hw] <;> rfl))))

  all_goals (show _ = _; rfl)
def allowI (p seen blank : Nat) (i : Ink) : Bool := decide ((cntF (p &&& blank) : Int) ≤ i.faint) && decide ((cntF (dropB seen p) : Int) ≤ i.stray)
theorem allowed_ok (p s b : Nat) (i : Ink) (hp : p < 4096) (hs : s < 4096) (hb : b < 4096) : OKv cx 64 [ai p, ai s, ai b, .agg (eInk i)] (ab (allowI p s b i)) := by
  have a1 := andI (p := p) (q := b) (by omega) (by omega)
  have a2 := andNotI (p := s) (q := p) (by omega) (by omega)
  have l1 := and_lt (q := b) hp
  have l2 := drop_lt (q := p) hs
  have c1 := count_ok (p &&& b) (by omega)
  have c2 := count_ok (dropB s p) (by omega)
  unfold allowI
  by_cases h : (cntF (p &&& b) : Int) ≤ i.faint
  · have hT : ((cntF (p &&& b) : Int) ≤ i.faint) = True := eq_true h
    rw [decide_eq_true h, Bool.true_and]
    refine OKat.of_body (rs := [8]) Tryz.func64 rfl (by decide +kernel) rfl (by simp [Tryz.ntmps64]) ?_
    simp only [Tryz.ntmps64]
    repeat' first
      | apply jA | apply jB | apply jC | apply jI
      | refine W.draw cx_mixed (by decide +kernel) ?_
      | ((first | (apply jK kO; decide) | (apply jL kO; decide; decide) | (apply jO; rfl; decide; decide)); (simp (disch := omega) only [push_cast, simprocAttr, a1, a2, hT] <;> rfl); all_goals try ((with_reducible intro hI); try first | (cases hI; done) | (simp only [INTS, zL] at hI; try first | (exfalso; omega) | (have hT : True := hI; clear hT hI))))
      | ((apply jW kO; decide; decide); (iterate 2 (simp (disch := omega) only [push_cast, simprocAttr, a1, a2, hT] <;> rfl)); (with_reducible first | exact c1 | exact c2); try first | rfl | (simp (disch := omega) only [push_cast, simprocAttr, a1, a2, hT] <;> rfl))
      | ((apply W.ret1); (iterate 2 (try (simp (disch := omega) only [push_cast, simprocAttr, a1, a2, hT] <;> rfl))))

    all_goals (show _ = _; rfl)
  · have hF : ((cntF (p &&& b) : Int) ≤ i.faint) = False := eq_false h
    rw [decide_eq_false h, Bool.false_and]
    refine OKat.of_body (rs := [8]) Tryz.func64 rfl (by decide +kernel) rfl (by simp [Tryz.ntmps64]) ?_
    simp only [Tryz.ntmps64]
    repeat' first
      | apply jA | apply jB | apply jC | apply jI
      | refine W.draw cx_mixed (by decide +kernel) ?_
      | ((first | (apply jK kO; decide) | (apply jL kO; decide; decide) | (apply jO; rfl; decide; decide)); (simp (disch := omega) only [push_cast, simprocAttr, a1, a2, hF] <;> rfl); all_goals try ((with_reducible intro hI); try first | (cases hI; done) | (simp only [INTS, zL] at hI; try first | (exfalso; omega) | (have hT : True := hI; clear hT hI))))
      | ((apply jW kO; decide; decide); (iterate 2 (simp (disch := omega) only [push_cast, simprocAttr, a1, a2, hF] <;> rfl)); (with_reducible exact c1); try first | rfl | (simp (disch := omega) only [push_cast, simprocAttr, a1, a2, hF] <;> rfl))
      | ((apply W.ret1); (iterate 2 (try (simp (disch := omega) only [push_cast, simprocAttr, a1, a2, hF] <;> rfl))))

    all_goals (show _ = _; rfl)
def madeF (k : Key) (m : Mark) (i : Ink) : Bool := decide (k.track = m.track) && allowI k.pat.toNat m.seen.toNat m.blank.toNat i
theorem made_ok (k : Key) (m : Mark) (i : Ink) (hp : 0 ≤ k.pat ∧ k.pat ≤ 4095) (hs : 0 ≤ m.seen ∧ m.seen ≤ 4095) (hb : 0 ≤ m.blank ∧ m.blank ≤ 4095) : OKv cx 44 [.agg (eKey k), .agg (eMark m), .agg (eInk i)] (ab (madeF k m i)) := by
  have e1 : (k.pat.toNat : Int) = k.pat := Int.toNat_of_nonneg hp.1
  have e2 : (m.seen.toNat : Int) = m.seen := Int.toNat_of_nonneg hs.1
  have e3 : (m.blank.toNat : Int) = m.blank := Int.toNat_of_nonneg hb.1
  have c1 := allowed_ok k.pat.toNat m.seen.toNat m.blank.toNat i (by omega) (by omega) (by omega)
  rw [e1, e2, e3] at c1
  unfold madeF
  obtain ⟨B, hB⟩ : ∃ z, allowI k.pat.toNat m.seen.toNat m.blank.toNat i = z := ⟨_, rfl⟩
  rw [hB] at c1 ⊢
  by_cases h : k.track = m.track
  · have hT : (k.track = m.track) = True := eq_true h
    have hB2 : (k.track == m.track) = true := by simpa using h
    rw [decide_eq_true h, Bool.true_and]
    refine OKat.of_body (rs := [6]) Tryz.func44 rfl (by decide +kernel) rfl (by simp [Tryz.ntmps44]) ?_
    simp only [Tryz.ntmps44]
    repeat' first
      | apply jA | apply jB | apply jC | apply jI
      | ((first | (apply jK kO; decide) | (apply jN; rfl; decide)); (simp (disch := omega) only [push_cast, simprocAttr, hT, hB2] <;> rfl); all_goals try ((with_reducible intro hI); try first | (cases hI; done) | (simp only [INTS, zL] at hI; try first | (exfalso; omega) | (have hT : True := hI; clear hT hI))))
      | ((apply jV kO; decide); (iterate 2 (simp (disch := omega) only [push_cast, simprocAttr, hT, hB2] <;> rfl)); (with_reducible exact c1); try first | rfl | (simp (disch := omega) only [push_cast, simprocAttr, hT, hB2] <;> rfl))
      | ((apply W.ret1); (iterate 2 (try (simp (disch := omega) only [push_cast, simprocAttr, hT, hB2] <;> rfl))))

    all_goals (show _ = _; rfl)
  · have hF : (k.track = m.track) = False := eq_false h
    have hB2 : (k.track == m.track) = false := by simpa using h
    rw [decide_eq_false h, Bool.false_and]
    refine OKat.of_body (rs := [6]) Tryz.func44 rfl (by decide +kernel) rfl (by simp [Tryz.ntmps44]) ?_
    simp only [Tryz.ntmps44]
    repeat' first
      | apply jA | apply jB | apply jC | apply jI
      | ((first | (apply jK kO; decide) | (apply jN; rfl; decide)); (simp (disch := omega) only [push_cast, simprocAttr, hF, hB2] <;> rfl); all_goals try ((with_reducible intro hI); try first | (cases hI; done) | (simp only [INTS, zL] at hI; try first | (exfalso; omega) | (have hT : True := hI; clear hT hI))))
      | ((apply W.ret1); (iterate 2 (try (simp (disch := omega) only [push_cast, simprocAttr, hF, hB2] <;> rfl))))

    all_goals (show _ = _; rfl)
def markV (m : Mark) : Bool := validA m.arc && inF m.track 0 3 && inF m.seen 0 4095 && inF m.blank 0 4095 && decide (m.seen.toNat &&& m.blank.toNat = 0)
theorem markV_iff {m : Mark} : markV m = true ↔ validA m.arc = true ∧ (0 ≤ m.track ∧ m.track ≤ 3) ∧ (0 ≤ m.seen ∧ m.seen ≤ 4095) ∧ (0 ≤ m.blank ∧ m.blank ≤ 4095) ∧ m.seen.toNat &&& m.blank.toNat = 0 := by
  unfold markV
  simp only [Bool.and_eq_true, inF_iff, decide_eq_true_eq, and_assoc]
theorem CheckMark_ok (m : Mark) : OKv cx 42 [.agg (eMark m)] (ai (if markV m = true then 0 else 1)) := by
  have c1 := ValidArc_ok m.arc
  have c2 := pins_ok m.seen
  have c3 := pins_ok m.blank
  have hmv := @markV_iff m
  obtain ⟨G, hG⟩ : ∃ z, (if markV m = true then (0 : Int) else 1) = z := ⟨_, rfl⟩
  rw [hG]
  cases hv : validA m.arc with
  | false =>
    rw [hv] at c1 hmv
    have : G = 1 := by rw [← hG, if_neg (fun h => by have := (hmv.1 h).1; cases this)]
    subst this
    clear hG hmv
    refine OKat.of_body (rs := [2]) Tryz.func42 rfl (by decide +kernel) rfl (by simp [Tryz.ntmps42]) ?_
    simp only [Tryz.ntmps42]
    repeat' first
      | apply jA | apply jB | apply jC | apply jI
      | ((first | (apply jK kO; decide) | (apply jN; rfl; decide) | apply jR); (simp (disch := omega) only [push_cast, simprocAttr] <;> rfl); all_goals try ((with_reducible intro hI); try first | (cases hI; done) | (simp only [INTS, zL] at hI; try first | (exfalso; omega) | (have hT : True := hI; clear hT hI))))
      | ((apply jV kO; decide); (iterate 2 (simp (disch := omega) only [push_cast, simprocAttr] <;> rfl)); (with_reducible exact c1); try first | rfl | (simp (disch := omega) only [push_cast, simprocAttr] <;> rfl))
      | ((apply W.ret1); (iterate 2 (try (simp (disch := omega) only [push_cast, simprocAttr] <;> rfl))))

    all_goals (show _ = _; rfl)
  | true =>
    rw [hv] at c1 hmv
    by_cases hs : 0 ≤ m.seen ∧ m.seen ≤ 4095
    rotate_left
    · rw [show inF m.seen 0 4095 = false from Bool.eq_false_iff.2 fun h => hs (inF_iff.1 h)] at c2
      have : G = 1 := by rw [← hG, if_neg (fun h => hs (hmv.1 h).2.2.1)]
      subst this
      clear hG hmv
      refine OKat.of_body (rs := [2]) Tryz.func42 rfl (by decide +kernel) rfl (by simp [Tryz.ntmps42]) ?_
      simp only [Tryz.ntmps42]
      repeat' first
        | apply jA | apply jB | apply jC | apply jI
        | ((first | (apply jK kO; decide) | (apply jN; rfl; decide) | apply jR); (simp (disch := omega) only [push_cast, simprocAttr] <;> rfl); all_goals try ((with_reducible intro hI); try first | (cases hI; done) | (simp only [INTS, zL] at hI; try first | (exfalso; omega) | (have hT : True := hI; clear hT hI))))
        | ((apply jV kO; decide); (iterate 2 (simp (disch := omega) only [push_cast, simprocAttr] <;> rfl)); (with_reducible first | exact c1 | exact c2); try first | rfl | (simp (disch := omega) only [push_cast, simprocAttr] <;> rfl))
        | ((apply W.ret1); (iterate 2 (try (simp (disch := omega) only [push_cast, simprocAttr] <;> rfl))))

      all_goals (show _ = _; rfl)
    rw [show inF m.seen 0 4095 = true from inF_iff.2 hs] at c2
    by_cases hb : 0 ≤ m.blank ∧ m.blank ≤ 4095
    rotate_left
    · rw [show inF m.blank 0 4095 = false from Bool.eq_false_iff.2 fun h => hb (inF_iff.1 h)] at c3
      have : G = 1 := by rw [← hG, if_neg (fun h => hb (hmv.1 h).2.2.2.1)]
      subst this
      clear hG hmv
      refine OKat.of_body (rs := [2]) Tryz.func42 rfl (by decide +kernel) rfl (by simp [Tryz.ntmps42]) ?_
      simp only [Tryz.ntmps42]
      repeat' first
        | apply jA | apply jB | apply jC | apply jI
        | ((first | (apply jK kO; decide) | (apply jN; rfl; decide) | apply jR); (simp (disch := omega) only [push_cast, simprocAttr] <;> rfl); all_goals try ((with_reducible intro hI); try first | (cases hI; done) | (simp only [INTS, zL] at hI; try first | (exfalso; omega) | (have hT : True := hI; clear hT hI))))
        | ((apply jV kO; decide); (iterate 2 (simp (disch := omega) only [push_cast, simprocAttr] <;> rfl)); (with_reducible first | exact c1 | exact c2 | exact c3); try first | rfl | (simp (disch := omega) only [push_cast, simprocAttr] <;> rfl))
        | ((apply W.ret1); (iterate 2 (try (simp (disch := omega) only [push_cast, simprocAttr] <;> rfl))))

      all_goals (show _ = _; rfl)
    rw [show inF m.blank 0 4095 = true from inF_iff.2 hb] at c3
    have e2 : (m.seen.toNat : Int) = m.seen := Int.toNat_of_nonneg hs.1
    have e3 : (m.blank.toNat : Int) = m.blank := Int.toNat_of_nonneg hb.1
    have ha := andI (p := m.seen.toNat) (q := m.blank.toNat) (by omega) (by omega)
    rw [e2, e3] at ha
    obtain ⟨X, hX⟩ : ∃ z, m.seen.toNat &&& m.blank.toNat = z := ⟨_, rfl⟩
    rw [hX] at ha hmv
    by_cases ht : 0 ≤ m.track ∧ m.track ≤ 3
    rotate_left
    · have : G = 1 := by rw [← hG, if_neg (fun h => ht (hmv.1 h).2.1)]
      subst this
      clear hG hmv
      refine OKat.of_body (rs := [2]) Tryz.func42 rfl (by decide +kernel) rfl (by simp [Tryz.ntmps42]) ?_
      simp only [Tryz.ntmps42]
      repeat' first
        | apply jA | apply jB | apply jC | apply jI
        | ((first | (apply jK kO; decide) | (apply jN; rfl; decide) | apply jR); (simp (disch := omega) only [push_cast, simprocAttr, ha] <;> rfl); all_goals try ((with_reducible intro hI); try first | (cases hI; done) | (simp only [INTS, zL] at hI; try first | (exfalso; omega) | (have hT : True := hI; clear hT hI))))
        | ((apply jV kO; decide); (iterate 2 (simp (disch := omega) only [push_cast, simprocAttr, ha] <;> rfl)); (with_reducible exact c1); try first | rfl | (simp (disch := omega) only [push_cast, simprocAttr, ha] <;> rfl))
        | ((apply W.ret1); (iterate 2 (try (simp (disch := omega) only [push_cast, simprocAttr, ha] <;> rfl))))

      all_goals first | (show _ = _; rfl) | (exfalso; omega)
    by_cases hx : X = 0
    · have : G = 0 := by rw [← hG, if_pos (hmv.2 ⟨rfl, ht, hs, hb, hx⟩)]
      subst this
      subst hx
      clear hG hmv
      refine OKat.of_body (rs := [2]) Tryz.func42 rfl (by decide +kernel) rfl (by simp [Tryz.ntmps42]) ?_
      simp only [Tryz.ntmps42]
      repeat' first
        | apply jA | apply jB | apply jC | apply jE | apply jI
        | ((first | (apply jK kO; decide) | (apply jN; rfl; decide) | apply jR); (simp (disch := omega) only [push_cast, simprocAttr, ha, Int.natCast_zero] <;> rfl); all_goals try ((with_reducible intro hI); try first | (cases hI; done) | (simp only [INTS, zL] at hI; try first | (exfalso; omega) | (have hT : True := hI; clear hT hI))))
        | ((apply jV kO; decide); (iterate 2 (simp (disch := omega) only [push_cast, simprocAttr, ha, Int.natCast_zero] <;> rfl)); (with_reducible first | exact c1 | exact c2 | exact c3); try first | rfl | (simp (disch := omega) only [push_cast, simprocAttr, ha, Int.natCast_zero] <;> rfl))
        | ((apply W.ret1); (iterate 2 (try (simp (disch := omega) only [push_cast, simprocAttr, ha, Int.natCast_zero] <;> rfl))))

      all_goals first | (show _ = _; rfl) | (exfalso; omega)
    · have : G = 1 := by rw [← hG, if_neg (fun h => hx (hmv.1 h).2.2.2.2)]
      subst this
      have hxF : ((X : Int) = 0) = False := eq_false (by omega)
      clear hG hmv
      refine OKat.of_body (rs := [2]) Tryz.func42 rfl (by decide +kernel) rfl (by simp [Tryz.ntmps42]) ?_
      simp only [Tryz.ntmps42]
      repeat' first
        | apply jA | apply jB | apply jC | apply jI
        | ((first | (apply jK kO; decide) | (apply jN; rfl; decide) | apply jR); (simp (disch := omega) only [push_cast, simprocAttr, ha, hxF] <;> rfl); all_goals try ((with_reducible intro hI); try first | (cases hI; done) | (simp only [INTS, zL] at hI; try first | (exfalso; omega) | (have hT : True := hI; clear hT hI))))
        | ((apply jV kO; decide); (iterate 2 (simp (disch := omega) only [push_cast, simprocAttr, ha, hxF] <;> rfl)); (with_reducible first | exact c1 | exact c2 | exact c3); try first | rfl | (simp (disch := omega) only [push_cast, simprocAttr, ha, hxF] <;> rfl))
        | ((apply W.ret1); (iterate 2 (try (simp (disch := omega) only [push_cast, simprocAttr, ha, hxF] <;> rfl))))

      all_goals first | (show _ = _; rfl) | (exfalso; omega)
theorem Angles_bad (k : Key) (m : Mark) (i : Ink) (h : ¬ (keyV k = true ∧ markV m = true ∧ inkV i = true)) : OKv cx 23 [.agg (eKey k), .agg (eMark m), .agg (eInk i)] (.tup [.lst [], ai 1]) := by
  have c1 := CheckKey_ok k
  have c2 := CheckMark_ok m
  have c3 := CheckInk_ok i
  cases h1 : keyV k <;> rw [h1] at c1 <;> cases h2 : markV m <;> rw [h2] at c2 <;> cases h3 : inkV i <;> rw [h3] at c3
  all_goals simp [h1, h2, h3] at h
  all_goals simp only [Bool.false_eq_true, if_false, if_true] at c1 c2 c3
  all_goals
    refine OKat.of_body (rs := [6, 7]) Tryz.func23 rfl (by decide +kernel) rfl (by simp [Tryz.ntmps23]) ?_
    simp only [Tryz.ntmps23]
    repeat' first
      | apply jA | apply jB | apply jC | apply jI
      | ((first | (apply jK kO; decide) | (apply jN; rfl; decide) | apply jR); (simp (disch := omega) only [push_cast, simprocAttr] <;> rfl); all_goals try ((with_reducible intro hI); try first | (cases hI; done) | (simp only [INTS, zL] at hI; try first | (exfalso; omega) | (have hT : True := hI; clear hT hI))))
      | ((apply jV kO; decide); (iterate 2 (simp (disch := omega) only [push_cast, simprocAttr] <;> rfl)); (with_reducible first | exact c1 | exact c2 | exact c3); try first | rfl | (simp (disch := omega) only [push_cast, simprocAttr] <;> rfl))
      | ((apply W.ret2); (iterate 2 (try (simp (disch := omega) only [push_cast, simprocAttr] <;> rfl))))

    all_goals (show _ = _; rfl)
theorem Angles_good (k : Key) (m : Mark) (i : Ink) (h1 : keyV k = true) (h2 : markV m = true) (h3 : inkV i = true) : OKv cx 23 [.agg (eKey k), .agg (eMark m), .agg (eInk i)] (.tup [lArc (if madeF k m i = true then [wideF m.arc i.slip] else []), ai 0]) := by
  have c1 := CheckKey_ok k
  have c2 := CheckMark_ok m
  have c3 := CheckInk_ok i
  rw [h1, if_pos rfl] at c1
  rw [h2, if_pos rfl] at c2
  rw [h3, if_pos rfl] at c3
  obtain ⟨_, _, k3, k4⟩ := keyV_iff.1 h1
  obtain ⟨m1, m2, m3, m4, _⟩ := markV_iff.1 h2
  obtain ⟨_, _, i3, i4⟩ := inkV_iff.1 h3
  have c4 := made_ok k m i ⟨by omega, by omega⟩ m3 m4
  have c5 := grown_ok m.arc i.slip m1 ⟨by omega, by omega⟩
  cases hb : madeF k m i with
  | true =>
    rw [hb] at c4
    rw [if_pos rfl]
    refine OKat.of_body (rs := [6, 7]) Tryz.func23 rfl (by decide +kernel) rfl (by simp [Tryz.ntmps23]) ?_
    simp only [Tryz.ntmps23]
    repeat' first
      | apply jA | apply jB | apply jC | apply jE | apply jI
      | ((first | (apply jK kO; decide) | (apply jN; rfl; decide) | apply jR); (simp (disch := omega) only [push_cast, simprocAttr] <;> rfl); all_goals try ((with_reducible intro hI); try first | (cases hI; done) | (simp only [INTS, zL] at hI; try first | (exfalso; omega) | (have hT : True := hI; clear hT hI))))
      | ((apply jV kO; decide); (iterate 2 (simp (disch := omega) only [push_cast, simprocAttr] <;> rfl)); (with_reducible first | exact c1 | exact c2 | exact c3 | exact c4 | exact c5); try first | rfl | (simp (disch := omega) only [push_cast, simprocAttr] <;> rfl))
      | ((apply W.ret2); (iterate 2 (try (simp (disch := omega) only [push_cast, simprocAttr] <;> rfl))))

    all_goals (show _ = _; rfl)
  | false =>
    rw [hb] at c4
    rw [if_neg (by decide)]
    refine OKat.of_body (rs := [6, 7]) Tryz.func23 rfl (by decide +kernel) rfl (by simp [Tryz.ntmps23]) ?_
    simp only [Tryz.ntmps23]
    repeat' first
      | apply jA | apply jB | apply jC | apply jE | apply jI
      | ((first | (apply jK kO; decide) | (apply jN; rfl; decide) | apply jR); (simp (disch := omega) only [push_cast, simprocAttr] <;> rfl); all_goals try ((with_reducible intro hI); try first | (cases hI; done) | (simp only [INTS, zL] at hI; try first | (exfalso; omega) | (have hT : True := hI; clear hT hI))))
      | ((apply jV kO; decide); (iterate 2 (simp (disch := omega) only [push_cast, simprocAttr] <;> rfl)); (with_reducible first | exact c1 | exact c2 | exact c3 | exact c4); try first | rfl | (simp (disch := omega) only [push_cast, simprocAttr] <;> rfl))
      | ((apply W.ret2); (iterate 2 (try (simp (disch := omega) only [push_cast, simprocAttr] <;> rfl))))

    all_goals (show _ = _; rfl)
end Go.Proofs.Ds

namespace Go.Proofs.Ds
open Go Go.Pg Go.Proofs Go.Proofs.Yt
attribute [local push_cast] Bool.and_false Bool.and_self Bool.and_true Bool.false_and Bool.false_eq_true Bool.not_false Bool.not_true Bool.true_and List.length_nil List.map_nil List.mem_cons List.not_mem_nil Nat.add_assoc TyD.isAgg natNe
def strikesI (p mi di : Nat) (s : Int) (i : Ink) : Bool := decide ((cntF (p &&& mi) : Int) ≤ i.faint) && decide ((cntF (dropB di p) : Int) ≤ i.stray) && decide (-i.slip ≤ s) && decide (s ≤ i.slip)
theorem strikesI_iff {p mi di : Nat} {s : Int} {i : Ink} : strikesI p mi di s i = true ↔ (cntF (p &&& mi) : Int) ≤ i.faint ∧ (cntF (dropB di p) : Int) ≤ i.stray ∧ -i.slip ≤ s ∧ s ≤ i.slip := by
  unfold strikesI
  simp only [Bool.and_eq_true, decide_eq_true_eq, and_assoc]
def seenF (p mi di : Nat) : Nat := dropB p mi ||| di
def struckF (p : Nat) (t : Int) (x : Arc) (mi di : Nat) (s : Int) : Mark := ⟨⟨angF (angF x.from_ + s), x.len⟩, t, seenF p mi di, dropB 4095 (seenF p mi di)⟩
theorem seenF_lt {p mi di : Nat} (hp : p < 4096) (hD : di < 4096) : seenF p mi di < 4096 := Nat.or_lt_two_pow (n := 12) (drop_lt (q := mi) hp) hD
theorem struck_bad (p : Nat) (t : Int) (x : Arc) (mi di : Nat) (s : Int) (i : Ink) (hp : p < 4096) (hM : mi < 4096) (hD : di < 4096) (hs : 0 ≤ i.slip ∧ i.slip ≤ 600) (h : strikesI p mi di s i = false) :
    OKv cx 41 [ai p, ai t, .agg (eArc x), .agg (eBlow ⟨mi, di, s⟩), .agg (eInk i)] (.tup [.agg (eMark ⟨⟨0, 0⟩, 0, 0, 0⟩), ai 3]) := by
  have a1 := andI (p := p) (q := mi) (by omega) (by omega)
  have a2 := andNotI (p := di) (q := p) (by omega) (by omega)
  have l1 := and_lt (q := mi) hp
  have l2 := drop_lt (q := p) hD
  have c1 := count_ok (p &&& mi) (by omega)
  have c2 := most_ok (dropB di p) (by omega)
  have h' : ¬ _ := fun hh => absurd (strikesI_iff.2 hh) (by rw [h]; decide)
  by_cases b1 : (cntF (p &&& mi) : Int) > i.faint
  · have hT := eq_true b1
    refine OKat.of_bodyM kO (rs := [.cell 10 54, .tmp 11]) Tryz.func41 rfl (by decide +kernel) rfl (by simp [Tryz.ntmps41]) ?_
    simp only [Tryz.ntmps41]
    repeat' first
      | apply jA | apply jB | apply jC | apply jI | apply jJ
      | refine AW.draw (id := 1) cx_mixed [] [] [] 0 (by decide +kernel) ?_
      | ((first | (apply jK kO; decide) | (apply jL kO; decide; decide) | apply jM kO | (apply jO; rfl; decide; decide) | apply jR); (simp (disch := omega) only [push_cast, simprocAttr, a1, a2, hT] <;> rfl); all_goals try ((with_reducible intro hI); try first | (cases hI; done) | (simp only [INTS, zL] at hI; try first | (exfalso; omega) | (have hT : True := hI; clear hT hI))))
      | ((apply jW kO; decide; decide); (iterate 2 (simp (disch := omega) only [push_cast, simprocAttr, a1, a2, hT] <;> rfl)); (with_reducible exact c1); try first | rfl | (simp (disch := omega) only [push_cast, simprocAttr, a1, a2, hT] <;> rfl))
      | ((apply W.retM); (iterate 2 (try (simp (disch := omega) only [push_cast, simprocAttr, a1, a2, hT] <;> rfl))))

    all_goals (show _ = _; rfl)
  have hT1 := eq_false b1
  by_cases b2 : (cntF (dropB di p) : Int) > i.stray
  · have hT := eq_true b2
    refine OKat.of_bodyM kO (rs := [.cell 10 54, .tmp 11]) Tryz.func41 rfl (by decide +kernel) rfl (by simp [Tryz.ntmps41]) ?_
    simp only [Tryz.ntmps41]
    repeat' first
      | apply jA | apply jB | apply jC | apply jI | apply jJ
      | refine AW.draw (id := 1) cx_mixed [] [] [] 0 (by decide +kernel) ?_
      | ((first | (apply jK kO; decide) | (apply jL kO; decide; decide) | apply jM kO | (apply jO; rfl; decide; decide) | apply jR); (simp (disch := omega) only [push_cast, simprocAttr, a1, a2, hT1, hT] <;> rfl); all_goals try ((with_reducible intro hI); try first | (cases hI; done) | (simp only [INTS, zL] at hI; try first | (exfalso; omega) | (have hT : True := hI; clear hT hI))))
      | ((apply jW kO; decide; decide); (iterate 2 (simp (disch := omega) only [push_cast, simprocAttr, a1, a2, hT1, hT] <;> rfl)); (with_reducible first | exact c1 | exact c2); try first | rfl | (simp (disch := omega) only [push_cast, simprocAttr, a1, a2, hT1, hT] <;> rfl))
      | ((apply W.retM); (iterate 2 (try (simp (disch := omega) only [push_cast, simprocAttr, a1, a2, hT1, hT] <;> rfl))))

    all_goals (show _ = _; rfl)
  have hT2 := eq_false b2
  by_cases b3 : s < -i.slip
  · have hT := eq_true b3
    refine OKat.of_bodyM kO (rs := [.cell 10 54, .tmp 11]) Tryz.func41 rfl (by decide +kernel) rfl (by simp [Tryz.ntmps41]) ?_
    simp only [Tryz.ntmps41]
    repeat' first
      | apply jA | apply jB | apply jC | apply jI | apply jJ
      | refine AW.draw (id := 1) cx_mixed [] [] [] 0 (by decide +kernel) ?_
      | ((first | (apply jK kO; decide) | (apply jL kO; decide; decide) | apply jM kO | (apply jO; rfl; decide; decide) | apply jR); (simp (disch := omega) only [push_cast, simprocAttr, a1, a2, hT1, hT2, hT] <;> rfl); all_goals try ((with_reducible intro hI); try first | (cases hI; done) | (simp only [INTS, zL] at hI; try first | (exfalso; omega) | (have hT : True := hI; clear hT hI))))
      | ((apply jW kO; decide; decide); (iterate 2 (simp (disch := omega) only [push_cast, simprocAttr, a1, a2, hT1, hT2, hT] <;> rfl)); (with_reducible first | exact c1 | exact c2); try first | rfl | (simp (disch := omega) only [push_cast, simprocAttr, a1, a2, hT1, hT2, hT] <;> rfl))
      | ((apply W.retM); (iterate 2 (try (simp (disch := omega) only [push_cast, simprocAttr, a1, a2, hT1, hT2, hT] <;> rfl))))

    all_goals (show _ = _; rfl)
  have hT3 := eq_false b3
  have hT : (s > i.slip) = True := eq_true (by apply Classical.byContradiction; intro hh; exact h' ⟨by omega, by omega, by omega, by omega⟩)
  refine OKat.of_bodyM kO (rs := [.cell 10 54, .tmp 11]) Tryz.func41 rfl (by decide +kernel) rfl (by simp [Tryz.ntmps41]) ?_
  simp only [Tryz.ntmps41]
  repeat' first
    | apply jA | apply jB | apply jC | apply jI | apply jJ
    | refine AW.draw (id := 1) cx_mixed [] [] [] 0 (by decide +kernel) ?_
    | ((first | (apply jK kO; decide) | (apply jL kO; decide; decide) | apply jM kO | (apply jO; rfl; decide; decide) | apply jR); (simp (disch := omega) only [push_cast, simprocAttr, a1, a2, hT1, hT2, hT3, hT] <;> rfl); all_goals try ((with_reducible intro hI); try first | (cases hI; done) | (simp only [INTS, zL] at hI; try first | (exfalso; omega) | (have hT : True := hI; clear hT hI))))
    | ((apply jW kO; decide; decide); (iterate 2 (simp (disch := omega) only [push_cast, simprocAttr, a1, a2, hT1, hT2, hT3, hT] <;> rfl)); (with_reducible first | exact c1 | exact c2); try first | rfl | (simp (disch := omega) only [push_cast, simprocAttr, a1, a2, hT1, hT2, hT3, hT] <;> rfl))
    | ((apply W.retM); (iterate 2 (try (simp (disch := omega) only [push_cast, simprocAttr, a1, a2, hT1, hT2, hT3, hT] <;> rfl))))

  all_goals (show _ = _; rfl)
theorem struck_good (p : Nat) (t : Int) (x : Arc) (mi di : Nat) (s : Int) (i : Ink) (hp : p < 4096) (hM : mi < 4096) (hD : di < 4096) (hs : 0 ≤ i.slip ∧ i.slip ≤ 600) (h : strikesI p mi di s i = true) :
    OKv cx 41 [ai p, ai t, .agg (eArc x), .agg (eBlow ⟨mi, di, s⟩), .agg (eInk i)] (.tup [.agg (eMark (struckF p t x mi di s)), ai 0]) := by
  have a1 := andI (p := p) (q := mi) (by omega) (by omega)
  have a2 := andNotI (p := di) (q := p) (by omega) (by omega)
  have l1 := and_lt (q := mi) hp
  have l2 := drop_lt (q := p) hD
  have c1 := count_ok (p &&& mi) (by omega)
  have c2 := most_ok (dropB di p) (by omega)
  obtain ⟨b1, b2, b3, b4⟩ := strikesI_iff.1 h
  have hT1 : ((cntF (p &&& mi) : Int) > i.faint) = False := eq_false (by omega)
  have hT2 : ((cntF (dropB di p) : Int) > i.stray) = False := eq_false (by omega)
  have hT3 : (s < -i.slip) = False := eq_false (by omega)
  have hT4 : (s > i.slip) = False := eq_false (by omega)
  have l3 := drop_lt (q := mi) hp
  have a3 := andNotI (p := p) (q := mi) (by omega) (by omega)
  have a4 := orI (p := dropB p mi) (q := di) (by omega) (by omega)
  have l4 : (dropB p mi ||| di) < 4096 := seenF_lt (mi := mi) hp hD
  have a5 := andNotI (p := 4095) (q := dropB p mi ||| di) (by omega) (by omega)
  rw [show ((4095 : Nat) : Int) = 4095 from rfl] at a5
  have c3 := Angle_ok x.from_
  have g3 := angF_bd x.from_
  have c4 := Angle_ok (angF x.from_ + s)
  unfold struckF seenF
  refine OKat.of_bodyM kO (rs := [.cell 10 54, .tmp 11]) Tryz.func41 rfl (by decide +kernel) rfl (by simp [Tryz.ntmps41]) ?_
  simp only [Tryz.ntmps41]
  repeat' first
    | apply jA | apply jB | apply jC | apply jE | apply jI | apply jJ
    | refine AW.draw (id := 1) cx_mixed [] [] [] 0 (by decide +kernel) ?_
    | refine AW.draw (id := 4) cx_mixed [8] [] [0] 0 (by decide +kernel) ?_
    | ((first | (apply jK kO; decide) | (apply jL kO; decide; decide) | apply jM kO | (apply jO; rfl; decide; decide) | apply jR); (simp (disch := omega) only [push_cast, simprocAttr, a1, a2, a3, a4, a5, hT1, hT2, hT3, hT4] <;> rfl); all_goals try ((with_reducible intro hI); try first | (cases hI; done) | (simp only [INTS, zL] at hI; try first | (exfalso; omega) | (have hT : True := hI; clear hT hI))))
    | ((apply D.store kO; decide); (simp (disch := omega) only [push_cast, simprocAttr, a1, a2, a3, a4, a5, hT1, hT2, hT3, hT4] <;> rfl); try first | exact .inl rfl | exact .inr (by simp))
    | ((apply jW kO; decide; decide); (iterate 2 (simp (disch := omega) only [push_cast, simprocAttr, a1, a2, a3, a4, a5, hT1, hT2, hT3, hT4] <;> rfl)); (with_reducible first | exact c1 | exact c2 | exact c3 | exact c4); try first | rfl | (simp (disch := omega) only [push_cast, simprocAttr, a1, a2, a3, a4, a5, hT1, hT2, hT3, hT4] <;> rfl))
    | ((apply W.retM); (iterate 2 (try (simp (disch := omega) only [push_cast, simprocAttr, a1, a2, a3, a4, a5, hT1, hT2, hT3, hT4] <;> rfl))))

  all_goals (show _ = _; rfl)
def mark0 : Mark := ⟨⟨0, 0⟩, 0, 0, 0⟩
theorem Strike_bad (k : Key) (at_ : Int) (b : Blow) (i : Ink) (h : ¬ (keyV k = true ∧ inkV i = true ∧ inF b.miss 0 4095 = true ∧ inF b.dirt 0 4095 = true)) :
    OKv cx 21 [.agg (eKey k), ai at_, .agg (eBlow b), .agg (eInk i)] (.tup [.agg (eMark mark0), ai 1]) := by
  have c1 := CheckKey_ok k
  have c2 := CheckInk_ok i
  have c3 := pins_ok b.miss
  have c4 := pins_ok b.dirt
  cases h1 : keyV k <;> rw [h1] at c1 <;> cases h2 : inkV i <;> rw [h2] at c2 <;> cases h3 : inF b.miss 0 4095 <;> rw [h3] at c3 <;> cases h4 : inF b.dirt 0 4095 <;> rw [h4] at c4
  all_goals simp [h1, h2, h3, h4] at h
  all_goals simp only [Bool.false_eq_true, if_false, if_true] at c1 c2 c3 c4
  all_goals
    refine OKat.of_bodyM kO (rs := [.cell 8 54, .tmp 9]) Tryz.func21 rfl (by decide +kernel) rfl (by simp [Tryz.ntmps21]) ?_
    simp only [Tryz.ntmps21]
    repeat' first
      | apply jA | apply jB | apply jC | apply jI
      | ((first | (apply jK kO; decide) | apply jM kO | (apply jN; rfl; decide) | apply jR); (simp (disch := omega) only [push_cast, simprocAttr] <;> rfl); all_goals try ((with_reducible intro hI); try first | (cases hI; done) | (simp only [INTS, zL] at hI; try first | (exfalso; omega) | (have hT : True := hI; clear hT hI))))
      | ((apply jV kO; decide); (iterate 2 (simp (disch := omega) only [push_cast, simprocAttr] <;> rfl)); (with_reducible first | exact c1 | exact c2 | exact c3 | exact c4); try first | rfl | (simp (disch := omega) only [push_cast, simprocAttr] <;> rfl))
      | ((apply W.retM); (iterate 2 (try (simp (disch := omega) only [push_cast, simprocAttr] <;> rfl))))

    all_goals (show _ = _; rfl)
theorem Strike_good (k : Key) (at_ : Int) (b : Blow) (i : Ink) (h1 : keyV k = true) (h2 : inkV i = true) (h3 : 0 ≤ b.miss ∧ b.miss ≤ 4095) (h4 : 0 ≤ b.dirt ∧ b.dirt ≤ 4095) (e : Int) (m : Mark)
    (he : (strikesI k.pat.toNat b.miss.toNat b.dirt.toNat b.shift i = true ∧ e = 0 ∧ m = struckF k.pat.toNat k.track ⟨at_, 0⟩ b.miss.toNat b.dirt.toNat b.shift) ∨ (strikesI k.pat.toNat b.miss.toNat b.dirt.toNat b.shift i = false ∧ e = 3 ∧ m = mark0)) :
    OKv cx 21 [.agg (eKey k), ai at_, .agg (eBlow b), .agg (eInk i)] (.tup [.agg (eMark m), ai e]) := by
  have c1 := CheckKey_ok k
  have c2 := CheckInk_ok i
  have c3 := pins_ok b.miss
  have c4 := pins_ok b.dirt
  rw [h1, if_pos rfl] at c1
  rw [h2, if_pos rfl] at c2
  rw [inF_iff.2 h3] at c3
  rw [inF_iff.2 h4] at c4
  obtain ⟨_, _, k3, k4⟩ := keyV_iff.1 h1
  obtain ⟨_, _, i3, i4⟩ := inkV_iff.1 h2
  have e1 : (k.pat.toNat : Int) = k.pat := Int.toNat_of_nonneg (by omega)
  have e2 : (b.miss.toNat : Int) = b.miss := Int.toNat_of_nonneg h3.1
  have e3 : (b.dirt.toNat : Int) = b.dirt := Int.toNat_of_nonneg h4.1
  have c5 : OKv cx 41 [ai k.pat, ai k.track, .agg (eArc ⟨at_, 0⟩), .agg (eBlow b), .agg (eInk i)] (.tup [.agg (eMark m), ai e]) := by
    obtain ⟨g, rfl, rfl⟩ | ⟨g, rfl, rfl⟩ := he
    · have := struck_good k.pat.toNat k.track ⟨at_, 0⟩ b.miss.toNat b.dirt.toNat b.shift i (by omega) (by omega) (by omega) ⟨i3, i4⟩ g
      rw [e1, e2, e3] at this
      exact this
    · have := struck_bad k.pat.toNat k.track ⟨at_, 0⟩ b.miss.toNat b.dirt.toNat b.shift i (by omega) (by omega) (by omega) ⟨i3, i4⟩ g
      rw [e1, e2, e3] at this
      exact this
  clear he
  refine OKat.of_bodyM kO (rs := [.cell 8 54, .tmp 9]) Tryz.func21 rfl (by decide +kernel) rfl (by simp [Tryz.ntmps21]) ?_
  simp only [Tryz.ntmps21]
  repeat' first
    | apply jA | apply jB | apply jC | apply jE | apply jI
    | ((first | (apply jK kO; decide) | apply jM kO | (apply jN; rfl; decide) | apply jR); (simp (disch := omega) only [push_cast, simprocAttr] <;> rfl); all_goals try ((with_reducible intro hI); try first | (cases hI; done) | (simp only [INTS, zL] at hI; try first | (exfalso; omega) | (have hT : True := hI; clear hT hI))))
    | ((apply jV kO; decide); (iterate 2 (simp (disch := omega) only [push_cast, simprocAttr] <;> rfl)); (with_reducible first | exact c1 | exact c2 | exact c3 | exact c4 | exact c5); try first | rfl | (simp (disch := omega) only [push_cast, simprocAttr] <;> rfl))
    | ((apply W.retM); (iterate 2 (try (simp (disch := omega) only [push_cast, simprocAttr] <;> rfl))))

  all_goals (show _ = _; rfl)
end Go.Proofs.Ds

namespace Go.Proofs.Ds
open Go Go.Pg Go.Proofs Go.Proofs.Yt
attribute [local push_cast] Bool.and_false Bool.and_self Bool.and_true Bool.false_and Bool.false_eq_true Bool.not_false Bool.not_true Bool.true_and List.length_nil List.map_nil List.mem_cons List.not_mem_nil Nat.add_assoc TyD.isAgg natNe
def blurF (m : Mark) (n u : Int) : Mark := ⟨wideF m.arc n, m.track, dropB m.seen.toNat u.toNat, dropB m.blank.toNat u.toNat⟩
theorem rowAt_aftF (H : Nat → Option AO) (ids : List Nat) (r : AV) (j : Nat) : Pg.rowAt (afterH H ids r) j = if flatA r = true then Pg.rowAt H j else if j ∈ ids then (Pg.rowAt H j).map (fun r => { r with fro := true }) else Pg.rowAt H j := by
  unfold afterH
  split
  · rfl
  · have := rowAt_frzG H ids j
    unfold frz' at this
    exact this
theorem Blur_bad (m : Mark) (n0 u : Int) (h : ¬ (markV m = true ∧ 0 ≤ n0 ∧ n0 ≤ 43200 ∧ 0 ≤ u ∧ u ≤ 4095)) : OKv cx 22 [.agg (eMark m), ai n0, ai u] (.tup [.agg (eMark mark0), ai 1]) := by
  have c1 := CheckMark_ok m
  have c2 := pins_ok u
  cases h1 : markV m with
  | false =>
    rw [h1] at c1
    rw [if_neg Bool.false_ne_true] at c1
    refine OKat.of_bodyM kO (rs := [.cell 6 54, .tmp 7]) Tryz.func22 rfl (by decide +kernel) rfl (by simp [Tryz.ntmps22]) ?_
    simp only [Tryz.ntmps22]
    repeat' first
      | apply jA | apply jB | apply jC | apply jI
      | ((first | (apply jK kO; decide) | apply jM kO | (apply jN; rfl; decide) | apply jR); (simp (disch := omega) only [push_cast, simprocAttr] <;> rfl); all_goals try ((with_reducible intro hI); try first | (cases hI; done) | (simp only [INTS, zL] at hI; try first | (exfalso; omega) | (have hT : True := hI; clear hT hI))))
      | ((apply jV kO; decide); (iterate 2 (simp (disch := omega) only [push_cast, simprocAttr] <;> rfl)); (with_reducible exact c1); try first | rfl | (simp (disch := omega) only [push_cast, simprocAttr] <;> rfl))
      | ((apply W.retM); (iterate 2 (try (simp (disch := omega) only [push_cast, simprocAttr] <;> rfl))))

    all_goals (show _ = _; rfl)
  | true =>
  rw [h1] at c1
  rw [if_pos rfl] at c1
  by_cases h2 : 0 ≤ n0 ∧ n0 ≤ 43200
  rotate_left
  · by_cases h3 : n0 < 0
    · have g1 := eq_true h3
      refine OKat.of_bodyM kO (rs := [.cell 6 54, .tmp 7]) Tryz.func22 rfl (by decide +kernel) rfl (by simp [Tryz.ntmps22]) ?_
      simp only [Tryz.ntmps22]
      repeat' first
        | apply jA | apply jB | apply jC | apply jI
        | ((first | (apply jK kO; decide) | apply jM kO | (apply jN; rfl; decide) | apply jR); (simp (disch := omega) only [push_cast, simprocAttr, g1] <;> rfl); all_goals try ((with_reducible intro hI); try first | (cases hI; done) | (simp only [INTS, zL] at hI; try first | (exfalso; omega) | (have hT : True := hI; clear hT hI))))
        | ((apply jV kO; decide); (iterate 2 (simp (disch := omega) only [push_cast, simprocAttr, g1] <;> rfl)); (with_reducible exact c1); try first | rfl | (simp (disch := omega) only [push_cast, simprocAttr, g1] <;> rfl))
        | ((apply W.retM); (iterate 2 (try (simp (disch := omega) only [push_cast, simprocAttr, g1] <;> rfl))))

      all_goals (show _ = _; rfl)
    · have g1 := eq_false h3
      have g2 : (43200 < n0) = True := eq_true (by omega)
      refine OKat.of_bodyM kO (rs := [.cell 6 54, .tmp 7]) Tryz.func22 rfl (by decide +kernel) rfl (by simp [Tryz.ntmps22]) ?_
      simp only [Tryz.ntmps22]
      repeat' first
        | apply jA | apply jB | apply jC | apply jI
        | ((first | (apply jK kO; decide) | apply jM kO | (apply jN; rfl; decide) | apply jR); (simp (disch := omega) only [push_cast, simprocAttr, g1, g2] <;> rfl); all_goals try ((with_reducible intro hI); try first | (cases hI; done) | (simp only [INTS, zL] at hI; try first | (exfalso; omega) | (have hT : True := hI; clear hT hI))))
        | ((apply jV kO; decide); (iterate 2 (simp (disch := omega) only [push_cast, simprocAttr, g1, g2] <;> rfl)); (with_reducible exact c1); try first | rfl | (simp (disch := omega) only [push_cast, simprocAttr, g1, g2] <;> rfl))
        | ((apply W.retM); (iterate 2 (try (simp (disch := omega) only [push_cast, simprocAttr, g1, g2] <;> rfl))))

      all_goals (show _ = _; rfl)
  have g1 : (n0 < 0) = False := eq_false (by omega)
  have g2 : (43200 < n0) = False := eq_false (by omega)
  cases h4 : inF u 0 4095 with
  | false =>
    rw [h4] at c2
    refine OKat.of_bodyM kO (rs := [.cell 6 54, .tmp 7]) Tryz.func22 rfl (by decide +kernel) rfl (by simp [Tryz.ntmps22]) ?_
    simp only [Tryz.ntmps22]
    repeat' first
      | apply jA | apply jB | apply jC | apply jI
      | ((first | (apply jK kO; decide) | apply jM kO | (apply jN; rfl; decide) | apply jR); (simp (disch := omega) only [push_cast, simprocAttr, g1, g2] <;> rfl); all_goals try ((with_reducible intro hI); try first | (cases hI; done) | (simp only [INTS, zL] at hI; try first | (exfalso; omega) | (have hT : True := hI; clear hT hI))))
      | ((apply jV kO; decide); (iterate 2 (simp (disch := omega) only [push_cast, simprocAttr, g1, g2] <;> rfl)); (with_reducible first | exact c1 | exact c2); try first | rfl | (simp (disch := omega) only [push_cast, simprocAttr, g1, g2] <;> rfl))
      | ((apply W.retM); (iterate 2 (try (simp (disch := omega) only [push_cast, simprocAttr, g1, g2] <;> rfl))))

    all_goals (show _ = _; rfl)
  | true =>
  rw [h4] at c2
  exact absurd ⟨h1, h2.1, h2.2, inF_iff.1 h4⟩ h
theorem Blur_good (m : Mark) (n0 u : Int) (h : (markV m = true ∧ 0 ≤ n0 ∧ n0 ≤ 43200 ∧ 0 ≤ u ∧ u ≤ 4095)) : OKv cx 22 [.agg (eMark m), ai n0, ai u] (.tup [.agg (eMark (blurF m n0 u)), ai 0]) := by
  have c1 := CheckMark_ok m
  have c2 := pins_ok u
  obtain ⟨h1, n1, n2, u1, u2⟩ := h
  obtain ⟨va, _, ms, mb, _⟩ := markV_iff.1 h1
  rw [h1] at c1
  rw [if_pos rfl] at c1
  rw [inF_iff.2 ⟨u1, u2⟩] at c2
  have g1 : (n0 < 0) = False := eq_false (by omega)
  have g2 : (43200 < n0) = False := eq_false (by omega)
  have e1 : (u.toNat : Int) = u := Int.toNat_of_nonneg u1
  have e2 : (m.seen.toNat : Int) = m.seen := Int.toNat_of_nonneg ms.1
  have e3 : (m.blank.toNat : Int) = m.blank := Int.toNat_of_nonneg mb.1
  have a1 := andNotI (p := m.seen.toNat) (q := u.toNat) (by omega) (by omega)
  have a2 := andNotI (p := m.blank.toNat) (q := u.toNat) (by omega) (by omega)
  rw [e2, e1] at a1
  rw [e3, e1] at a2
  have c3 := grown_ok m.arc n0 va ⟨n1, n2⟩
  unfold blurF
  generalize wideF m.arc n0 = WA at *
  generalize dropB m.seen.toNat u.toNat = DS at *
  generalize dropB m.blank.toNat u.toNat = DB at *
  have hf1 : ∀ l x, flatA (.tup [.lst l, .v x]) = false := fun _ _ => rfl
  have hf2 : ∀ l, flatA (.lst l) = false := fun _ => rfl
  have hf3 : ∀ x, flatA (.v x) = true := fun _ => rfl
  have hf4 : ∀ x y, flatA (.agg [.v x, .v y]) = true := fun _ _ => rfl
  refine OKat.of_bodyM kO (rs := [.cell 6 54, .tmp 7]) Tryz.func22 rfl (by decide +kernel) rfl (by simp [Tryz.ntmps22]) ?_
  simp only [Tryz.ntmps22]
  repeat' first
    | apply jA | apply jB | apply jC | apply jE | apply jI
    | ((first | (apply jK kO; decide) | apply jM kO | (apply jN; rfl; decide) | apply jR); (simp (disch := omega) only [push_cast, simprocAttr, rowAt_aftF, St.back, idsL, idsA, idsLL, yB, yA, zZ, kA, hf1, hf2, hf3, hf4, a1, a2, e1, e2, e3, g1, g2] <;> rfl); all_goals try ((with_reducible intro hI); try first | (cases hI; done) | (simp only [INTS, zL] at hI; try first | (exfalso; omega) | (have hT : True := hI; clear hT hI))))
    | ((apply jV kO; decide); (iterate 2 (simp (disch := omega) only [push_cast, simprocAttr, rowAt_aftF, St.back, idsL, idsA, idsLL, yB, yA, zZ, kA, hf1, hf2, hf3, hf4, a1, a2, e1, e2, e3, g1, g2] <;> rfl)); (with_reducible first | exact c1 | exact c2 | exact c3); try first | rfl | (simp (disch := omega) only [push_cast, simprocAttr, rowAt_aftF, St.back, idsL, idsA, idsLL, yB, yA, zZ, kA, hf1, hf2, hf3, hf4, a1, a2, e1, e2, e3, g1, g2] <;> rfl))
    | ((apply W.retM); (iterate 2 (try (simp (disch := omega) only [push_cast, simprocAttr, rowAt_aftF, St.back, idsL, idsA, idsLL, yB, yA, zZ, kA, hf1, hf2, hf3, hf4, a1, a2, e1, e2, e3, g1, g2] <;> rfl))))

  all_goals (show _ = _; rfl)
end Go.Proofs.Ds

namespace Go.Proofs
open Go.Shelf
def Tryz.sortF_ren : Go.Shelf.Ren := ⟨fun | 6 => 92 | 15 => 95 | 14 => 97 | 28 => 107 | 29 => 108 | 20 => 109 | 21 => 110 | 22 => 111 | 23 => 112 | 24 => 113 | 25 => 114 | 26 => 115 | 27 => 116 | 46 => 123 | 47 => 118 | 48 => 119 | 49 => 124 | 50 => 125 | 57 => 127 | n => n, fun | 22 => 71 | 24 => 29 | 25 => 183 | 3 => 3 | 39 => 177 | 0 => 0 | 53 => 192 | 55 => 194 | 4 => 4 | 46 => 203 | 45 => 202 | 50 => 155 | 5 => 5 | 9 => 9 | 66 => 213 | 70 => 217 | 76 => 221 | 77 => 82 | n => n, fun | n => n⟩
theorem Tryz.sortF : Go.Proofs.SlLaysF0.n6 Tryz.prog Tryz.sortF_ren := {
  mixed := by kernel_rfl
  f6 := ⟨Tryz.f92.name, by decide, Tryz.func92.trans (congrArg some (by kernel_rfl))⟩
  f14 := ⟨Tryz.f97.name, by decide, Tryz.func97.trans (congrArg some (by kernel_rfl))⟩
  f15 := Tryz.func95.trans (congrArg some (by kernel_rfl))
  f20 := ⟨Tryz.f109.name, by decide, Tryz.func109.trans (congrArg some (by kernel_rfl))⟩
  f21 := ⟨Tryz.f110.name, by decide, Tryz.func110.trans (congrArg some (by kernel_rfl))⟩
  f22 := ⟨Tryz.f111.name, by decide, Tryz.func111.trans (congrArg some (by kernel_rfl))⟩
  f23 := ⟨Tryz.f112.name, by decide, Tryz.func112.trans (congrArg some (by kernel_rfl))⟩
  f24 := ⟨Tryz.f113.name, by decide, Tryz.func113.trans (congrArg some (by kernel_rfl))⟩
  f25 := ⟨Tryz.f114.name, by decide, Tryz.func114.trans (congrArg some (by kernel_rfl))⟩
  f26 := ⟨Tryz.f115.name, by decide, Tryz.func115.trans (congrArg some (by kernel_rfl))⟩
  f27 := ⟨Tryz.f116.name, by decide, Tryz.func116.trans (congrArg some (by kernel_rfl))⟩
  f28 := Tryz.func107.trans (congrArg some (by kernel_rfl))
  f29 := Tryz.func108.trans (congrArg some (by kernel_rfl))
  f46 := ⟨Tryz.f123.name, by decide, Tryz.func123.trans (congrArg some (by kernel_rfl))⟩
  f47 := Tryz.func118.trans (congrArg some (by kernel_rfl))
  f48 := Tryz.func119.trans (congrArg some (by kernel_rfl))
  f49 := ⟨Tryz.f124.name, by decide, Tryz.func124.trans (congrArg some (by kernel_rfl))⟩
  f50 := ⟨Tryz.f125.name, by decide, Tryz.func125.trans (congrArg some (by kernel_rfl))⟩
  f57 := ⟨Tryz.f127.name, by decide, Tryz.func127.trans (congrArg some (by kernel_rfl))⟩
  t0 := Tryz.underlying0
  a0 := Tryz.isAgg0
  z0 := Tryz.sizeOf0
  v0 := Tryz.zeroValue0
  t3 := Tryz.underlying3
  a3 := Tryz.isAgg3
  z3 := Tryz.sizeOf3
  v3 := Tryz.zeroValue3
  t4 := Tryz.underlying4
  a4 := Tryz.isAgg4
  z4 := Tryz.sizeOf4
  v4 := Tryz.zeroValue4
  t5 := Tryz.underlying5
  a5 := Tryz.isAgg5
  z5 := Tryz.sizeOf5
  v5 := Tryz.zeroValue5
  t9 := Tryz.underlying9
  a9 := Tryz.isAgg9
  z9 := Tryz.sizeOf9
  v9 := Tryz.zeroValue9
  t22 := Tryz.underlying71
  a22 := Tryz.isAgg71
  z22 := Tryz.sizeOf71
  v22 := Tryz.zeroValue71
  t25 := Tryz.underlying183
  a25 := Tryz.isAgg183
  z25 := Tryz.sizeOf183
  v25 := Tryz.zeroValue183
  t39 := Tryz.underlying177
  a39 := Tryz.isAgg177
  z39 := Tryz.sizeOf177
  v39 := Tryz.zeroValue177
  t45 := Tryz.underlying202
  a45 := Tryz.isAgg202
  z45 := Tryz.sizeOf202
  v45 := Tryz.zeroValue202
  t46 := Tryz.underlying203
  a46 := Tryz.isAgg203
  z46 := Tryz.sizeOf203
  v46 := Tryz.zeroValue203
  t50 := Tryz.underlying155
  a50 := Tryz.isAgg155
  z50 := Tryz.sizeOf155
  v50 := Tryz.zeroValue155
  t53 := Tryz.underlying192
  a53 := Tryz.isAgg192
  z53 := Tryz.sizeOf192
  v53 := Tryz.zeroValue192
  t55 := Tryz.underlying194
  a55 := Tryz.isAgg194
  z55 := Tryz.sizeOf194
  v55 := Tryz.zeroValue194
  t66 := Tryz.underlying213
  a66 := Tryz.isAgg213
  z66 := Tryz.sizeOf213
  v66 := Tryz.zeroValue213
  t70 := Tryz.underlying217
  a70 := Tryz.isAgg217
  z70 := Tryz.sizeOf217
  v70 := Tryz.zeroValue217
  t76 := Tryz.underlying221
  a76 := Tryz.isAgg221
  z76 := Tryz.sizeOf221
  v76 := Tryz.zeroValue221
  t77 := Tryz.underlying82
  a77 := Tryz.isAgg82
  z77 := Tryz.sizeOf82
  v77 := Tryz.zeroValue82 }
end Go.Proofs
