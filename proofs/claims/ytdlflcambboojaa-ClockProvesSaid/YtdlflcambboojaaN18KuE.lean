/-
  Contracts of functions, proved by going through their code. No conditions.
-/
import Derived.Test.YtdlflcambboojaaMaa
import Derived.Test.YtdlflcambboojaaMbc
import Derived.Test.YtdlflcambboojaaN18KlY
set_option linter.unusedVariables false
set_option linter.unusedSimpArgs false
set_option maxHeartbeats 8000000
set_option maxRecDepth 10000
namespace Go.Proofs.Ks
open Go Go.Pg Go.Proofs
theorem nodeB_ok (nd : List Node) (L : List Lk) (m : Int) (hl : nd.length ≤ 1099511627776) (b : Bool) (h : b = true ↔ (0 ≤ m ∧ m < (nd.length : Int))) : OKv cx 109 [gSys nd L, ai m] (ab b) := by
  have e : b = (decide (0 ≤ m) && decide (m < (nd.length : Int))) := by
    cases b with
    | true => have := h.1 rfl; simp [this.1, this.2]
    | false =>
      cases hq : (decide (0 ≤ m) && decide (m < (nd.length : Int))) with
      | false => rfl
      | true => simp only [Bool.and_eq_true, decide_eq_true_eq] at hq; exact absurd (h.2 hq) (by decide)
  rw [e]; exact node_ok nd L m hl
def inN (r : Rec) (a : Int) : Prop := 0 ≤ a ∧ a < ((nodesR r []).length : Int)
instance (r : Rec) (a : Int) : Decidable (inN r a) := inferInstanceAs (Decidable (_ ∧ _))
def checkPathP (r : Rec) (f t : Int) (l : List Int) : Int × Int :=
  if checkE r = 0 then (if inN r f ∧ inN r t then (if 60 < l.length then (0, 2) else if (walkF (linksR r []) l f 0).2.2 = true ∧ (walkF (linksR r []) l f 0).1 = t then ((walkF (linksR r []) l f 0).2.1, 0) else (0, 8)) else (0, 1)) else (0, checkE r)
theorem CheckPath_ok (r : Rec) (f t : Int) (l : List Int) (hll : l.length ≤ 1099511627776) : OKv cx 73 [.agg (eRec r), ai f, ai t, lInt l] (.tup [ai (checkPathP r f t l).1, ai (checkPathP r f t l).2]) := by
  unfold checkPathP
  by_cases hc : checkE r = 0
  · rw [if_pos hc]
    have hv := checkE_V hc
    obtain ⟨h1, h2, h3, h4, h5⟩ := links_facts (more := []) hv (by decide) nomore
    have hb : OKv cx 87 [.agg (eRec r), .lst []] (gSys (nodesR r []) (linksR r [])) := build_ok r [] hv (by decide) nomore
    by_cases hf : inN r f
    · have sf := nodeB_ok (nodesR r []) (linksR r []) f (by omega) true ⟨fun _ => hf, fun _ => rfl⟩
      by_cases ht : inN r t
      · have st := nodeB_ok (nodesR r []) (linksR r []) t (by omega) true ⟨fun _ => ht, fun _ => rfl⟩
        rw [if_pos ⟨hf, ht⟩]
        by_cases hl : 60 < l.length
        · have hlI : (60 : Int) < (l.length : Int) := by omega
          rw [if_pos hl]
          refine OKat.of_body (rs := [8, 9]) Try.func73 rfl (by decide +kernel) rfl (by simp [Try.ntmps73]) ?_
          simp only [Try.ntmps73]
          repeat' first
            | apply jA | apply jB | apply jC | apply jD | apply jE | apply jF | apply jG | apply jH | apply jI
            | ((first | (apply jK cx_ok; decide) | (apply jN; rfl; decide) | apply jR); (simp (disch := omega) only [push_cast, simprocAttr, hc, hlI] <;> rfl); all_goals try ((with_reducible intro hI); try first | (cases hI; done) | (simp only [INTS, zL] at hI; try first | (exfalso; omega) | (have hT : True := hI; clear hT hI))))
            | ((apply jV cx_ok; decide); (iterate 2 (simp (disch := omega) only [push_cast, simprocAttr, hc, hlI] <;> rfl)); (with_reducible first | exact Check_ok r | exact hb | exact sf | exact st); try first | rfl | (simp (disch := omega) only [push_cast, simprocAttr, hc, hlI] <;> rfl))
            | ((first | apply jh | apply ji); (iterate 2 (try (simp (disch := omega) only [push_cast, simprocAttr, hc, hlI] <;> rfl))))

          all_goals (show _ = _; rfl)
        · have hlI : ¬ (60 : Int) < (l.length : Int) := by omega
          rw [if_neg hl]
          have hw := walk_ok (nodesR r []) (linksR r []) l f h2 (by omega) h4
          obtain ⟨⟨e1, e2, e3⟩, hE⟩ : ∃ z, walkF (linksR r []) l f 0 = z := ⟨_, rfl⟩
          rw [hE] at hw ⊢
          dsimp only at hw ⊢
          rcases e3 with _ | _
          · rw [if_neg (by simp)]
            refine OKat.of_body (rs := [8, 9]) Try.func73 rfl (by decide +kernel) rfl (by simp [Try.ntmps73]) ?_
            simp only [Try.ntmps73]
            repeat' first
              | apply jA | apply jB | apply jC | apply jD | apply jE | apply jF | apply jG | apply jH | apply jI
              | ((first | (apply jK cx_ok; decide) | (apply jN; rfl; decide) | apply jR); (simp (disch := omega) only [push_cast, simprocAttr, hc, hlI] <;> rfl); all_goals try ((with_reducible intro hI); try first | (cases hI; done) | (simp only [INTS, zL] at hI; try first | (exfalso; omega) | (have hT : True := hI; clear hT hI))))
              | ((apply jV cx_ok; decide); (iterate 2 (simp (disch := omega) only [push_cast, simprocAttr, hc, hlI] <;> rfl)); (with_reducible first | exact Check_ok r | exact hb | exact sf | exact st | exact hw); try first | rfl | (simp (disch := omega) only [push_cast, simprocAttr, hc, hlI] <;> rfl))
              | ((first | apply jh | apply ji); (iterate 2 (try (simp (disch := omega) only [push_cast, simprocAttr, hc, hlI] <;> rfl))))

            all_goals (show _ = _; rfl)
          · by_cases q1 : e1 = t
            · have q1T : (e1 = t) = True := eq_true q1
              rw [if_pos ⟨rfl, q1⟩]
              refine OKat.of_body (rs := [8, 9]) Try.func73 rfl (by decide +kernel) rfl (by simp [Try.ntmps73]) ?_
              simp only [Try.ntmps73]
              repeat' first
                | apply jA | apply jB | apply jC | apply jD | apply jE | apply jF | apply jG | apply jH | apply jI
                | ((first | (apply jK cx_ok; decide) | (apply jN; rfl; decide) | apply jR); (simp (disch := omega) only [push_cast, simprocAttr, hc, hlI, q1T] <;> rfl); all_goals try ((with_reducible intro hI); try first | (cases hI; done) | (simp only [INTS, zL] at hI; try first | (exfalso; omega) | (have hT : True := hI; clear hT hI))))
                | ((apply jV cx_ok; decide); (iterate 2 (simp (disch := omega) only [push_cast, simprocAttr, hc, hlI, q1T] <;> rfl)); (with_reducible first | exact Check_ok r | exact hb | exact sf | exact st | exact hw); try first | rfl | (simp (disch := omega) only [push_cast, simprocAttr, hc, hlI, q1T] <;> rfl))
                | ((first | apply jh | apply ji); (iterate 2 (try (simp (disch := omega) only [push_cast, simprocAttr, hc, hlI, q1T] <;> rfl))))

              all_goals (show _ = _; rfl)
            · have q1F : (e1 = t) = False := eq_false q1
              rw [if_neg (fun h => q1 h.2)]
              refine OKat.of_body (rs := [8, 9]) Try.func73 rfl (by decide +kernel) rfl (by simp [Try.ntmps73]) ?_
              simp only [Try.ntmps73]
              repeat' first
                | apply jA | apply jB | apply jC | apply jD | apply jE | apply jF | apply jG | apply jH | apply jI
                | ((first | (apply jK cx_ok; decide) | (apply jN; rfl; decide) | apply jR); (simp (disch := omega) only [push_cast, simprocAttr, hc, hlI, q1F] <;> rfl); all_goals try ((with_reducible intro hI); try first | (cases hI; done) | (simp only [INTS, zL] at hI; try first | (exfalso; omega) | (have hT : True := hI; clear hT hI))))
                | ((apply jV cx_ok; decide); (iterate 2 (simp (disch := omega) only [push_cast, simprocAttr, hc, hlI, q1F] <;> rfl)); (with_reducible first | exact Check_ok r | exact hb | exact sf | exact st | exact hw); try first | rfl | (simp (disch := omega) only [push_cast, simprocAttr, hc, hlI, q1F] <;> rfl))
                | ((first | apply jh | apply ji); (iterate 2 (try (simp (disch := omega) only [push_cast, simprocAttr, hc, hlI, q1F] <;> rfl))))

              all_goals (show _ = _; rfl)
      · have st := nodeB_ok (nodesR r []) (linksR r []) t (by omega) false ⟨fun h => absurd h (by decide), fun h => absurd h ht⟩
        rw [if_neg (fun h => ht h.2)]
        refine OKat.of_body (rs := [8, 9]) Try.func73 rfl (by decide +kernel) rfl (by simp [Try.ntmps73]) ?_
        simp only [Try.ntmps73]
        repeat' first
          | apply jA | apply jB | apply jC | apply jD | apply jE | apply jF | apply jG | apply jH | apply jI
          | ((first | (apply jK cx_ok; decide) | (apply jN; rfl; decide) | apply jR); (simp (disch := omega) only [push_cast, simprocAttr, hc] <;> rfl); all_goals try ((with_reducible intro hI); try first | (cases hI; done) | (simp only [INTS, zL] at hI; try first | (exfalso; omega) | (have hT : True := hI; clear hT hI))))
          | ((apply jV cx_ok; decide); (iterate 2 (simp (disch := omega) only [push_cast, simprocAttr, hc] <;> rfl)); (with_reducible first | exact Check_ok r | exact hb | exact sf | exact st); try first | rfl | (simp (disch := omega) only [push_cast, simprocAttr, hc] <;> rfl))
          | ((first | apply jh | apply ji); (iterate 2 (try (simp (disch := omega) only [push_cast, simprocAttr, hc] <;> rfl))))

        all_goals (show _ = _; rfl)
    · have sf := nodeB_ok (nodesR r []) (linksR r []) f (by omega) false ⟨fun h => absurd h (by decide), fun h => absurd h hf⟩
      have st := sf
      rw [if_neg (fun h => hf h.1)]
      refine OKat.of_body (rs := [8, 9]) Try.func73 rfl (by decide +kernel) rfl (by simp [Try.ntmps73]) ?_
      simp only [Try.ntmps73]
      repeat' first
        | apply jA | apply jB | apply jC | apply jD | apply jE | apply jF | apply jG | apply jH | apply jI
        | ((first | (apply jK cx_ok; decide) | (apply jN; rfl; decide) | apply jR); (simp (disch := omega) only [push_cast, simprocAttr, hc] <;> rfl); all_goals try ((with_reducible intro hI); try first | (cases hI; done) | (simp only [INTS, zL] at hI; try first | (exfalso; omega) | (have hT : True := hI; clear hT hI))))
        | ((apply jV cx_ok; decide); (iterate 2 (simp (disch := omega) only [push_cast, simprocAttr, hc] <;> rfl)); (with_reducible first | exact Check_ok r | exact hb | exact sf | exact st); try first | rfl | (simp (disch := omega) only [push_cast, simprocAttr, hc] <;> rfl))
        | ((first | apply jh | apply ji); (iterate 2 (try (simp (disch := omega) only [push_cast, simprocAttr, hc] <;> rfl))))

      all_goals (show _ = _; rfl)
  · rw [if_neg hc]
    have hcF : (checkE r = 0) = False := eq_false hc
    refine OKat.of_body (rs := [8, 9]) Try.func73 rfl (by decide +kernel) rfl (by simp [Try.ntmps73]) ?_
    simp only [Try.ntmps73]
    repeat' first
      | apply jA | apply jB | apply jC | apply jD | apply jE | apply jF | apply jG | apply jH | apply jI
      | ((first | (apply jK cx_ok; decide) | (apply jN; rfl; decide) | apply jR); (simp (disch := omega) only [push_cast, simprocAttr, hcF] <;> rfl); all_goals try ((with_reducible intro hI); try first | (cases hI; done) | (simp only [INTS, zL] at hI; try first | (exfalso; omega) | (have hT : True := hI; clear hT hI))))
      | ((apply jV cx_ok; decide); (iterate 2 (simp (disch := omega) only [push_cast, simprocAttr, hcF] <;> rfl)); (with_reducible first | exact Check_ok r); try first | rfl | (simp (disch := omega) only [push_cast, simprocAttr, hcF] <;> rfl))
      | ((first | apply jh | apply ji); (iterate 2 (try (simp (disch := omega) only [push_cast, simprocAttr, hcF] <;> rfl))))

    all_goals (show _ = _; rfl)
end Go.Proofs.Ks
