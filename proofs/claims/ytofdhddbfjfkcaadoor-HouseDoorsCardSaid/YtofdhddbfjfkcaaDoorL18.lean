/-
  Contracts of functions, proved by going through their code. No conditions.
-/
import Derived.Test.YtofdhddbfjfkcaaDoorHc
import Derived.Test.YtofdhddbfjfkcaaDoorHf
import Derived.Test.YtofdhddbfjfkcaaDoorVp
set_option maxHeartbeats 8000000
set_option linter.unusedSimpArgs false
set_option linter.unusedVariables false
set_option maxRecDepth 10000
namespace Go.Proofs.Hs
open Go Go.Pg Go.Proofs

theorem openingsH_len (h : House) (n0 : Int) (sp : Span) : (openingsH h n0 sp).1.length ≤ 1099511627776 := by
  unfold openingsH
  split
  · simp
  · rename_i he
    split
    · simp
    · rename_i hsp
      split
      · simp
      · rename_i hlm
        obtain ⟨hc, ⟨hdn, hdl⟩, _⟩ := doorE_zero (h := h) (n := n0) (ts := []) (by simpa using he)
        have hdv := (Check_V hc).door hdn hdl
        have hspb : 0 ≤ sp.lo ∧ sp.lo ≤ sp.hi ∧ sp.hi ≤ 1073741823 := by unfold timeB at hsp; simp only [not_or, Bool.not_eq_false, Bool.and_eq_true, decide_eq_true_eq] at hsp; omega
        have hbu := openL_built hdv hspb
        have := apart_len _ sp.lo (sp.hi + 1) hbu.apart (fun n hn => ⟨((hbu.is n).1 hn).2.1, ((hbu.is n).1 hn).2.2⟩) (by omega)
        show (openL (h.door n0) sp).length ≤ 1099511627776
        omega
theorem law18_ok (h : House) (n0 t : Int) (sp : Span) (hn : ∀ r ∈ h.rooms, r.name.size ≤ 9223372036854775807) : OKv cx 18 [.agg (eHouse h), ai n0, ai t, .agg (eSpan sp)] (ab true) := by
  by_cases hf : few h = true
  · have hfit := few_fit hf hn
    have hrl := hfit.rooms
    have hln := openingsH_len h n0 sp
    refine OKat.of_body (rs := [8]) Tryd.func18 rfl (by decide +kernel) rfl (by simp [Tryd.ntmps18]) ?_
    simp only [Tryd.ntmps18]
    repeat' first
      | apply AW.seq | apply AW.region | apply AW.ret | apply AW.block | apply AW.skip | apply AW.exit | apply AW.scope | apply AW.label | apply AWL.nil
      | ((first | (apply W.step cx_ok; decide) | (apply W.gS; rfl; decide) | apply AW.cond); (simp (disch := omega) only [push_cast, simprocAttr, hf] <;> rfl); all_goals try ((with_reducible intro hI); try first | (cases hI; done) | (simp only [INTS, not_true_eq_false] at hI; try first | (exfalso; omega) | (have hT : True := hI; clear hT hI))))
      | ((apply W.callv cx_ok; decide); (iterate 2 (simp (disch := omega) only [push_cast, simprocAttr, hf] <;> rfl)); (with_reducible first | exact few_ok _ | exact sanity_ok | exact IsOpen_ok _ _ _ hfit | exact IsOpenR_ok _ _ _ hfit | exact NextOpen_ok _ _ _ hfit | exact NextOpenR_ok _ _ _ hfit | exact LastOpen_ok _ _ _ hfit | exact LastOpenR_ok _ _ _ hfit | exact Openings_ok _ _ _ hfit | exact OpeningsR_ok _ _ _ hfit | exact SameSpans_ok _ hln); try first | rfl | (simp (disch := omega) only [push_cast, simprocAttr, hf] <;> rfl))
      | ((first | apply W.ret1 | apply W.end1); (iterate 2 (try (simp (disch := omega) only [push_cast, simprocAttr, hf] <;> rfl))))
    all_goals (show _ = _; first | rfl | (simp_all; done))
  · have hf' : few h = false := by simpa using hf
    refine OKat.of_body (rs := [8]) Tryd.func18 rfl (by decide +kernel) rfl (by simp [Tryd.ntmps18]) ?_
    simp only [Tryd.ntmps18]
    repeat' first
      | apply AW.seq | apply AW.region | apply AW.ret | apply AW.block | apply AW.skip | apply AW.exit | apply AW.scope | apply AW.label | apply AWL.nil
      | ((first | (apply W.step cx_ok; decide) | (apply W.gS; rfl; decide) | apply AW.cond); (simp (disch := omega) only [push_cast, simprocAttr, hf'] <;> rfl); all_goals try ((with_reducible intro hI); try first | (cases hI; done) | (simp only [INTS, not_true_eq_false] at hI; try first | (exfalso; omega) | (have hT : True := hI; clear hT hI))))
      | ((apply W.callv cx_ok; decide); (iterate 2 (simp (disch := omega) only [push_cast, simprocAttr, hf'] <;> rfl)); (with_reducible first | exact few_ok _ | exact sanity_ok); try first | rfl | (simp (disch := omega) only [push_cast, simprocAttr, hf'] <;> rfl))
      | ((first | apply W.ret1 | apply W.end1); (iterate 2 (try (simp (disch := omega) only [push_cast, simprocAttr, hf'] <;> rfl))))
    all_goals (show _ = _; first | rfl | (simp_all; done))

end Go.Proofs.Hs
