/-
  Contracts of functions, proved by going through their code. No conditions.
-/
import Derived.Test.YtdlflcambboojaaSaa
import Derived.Test.YtdlflcambboojaaSbe
import Derived.Test.YtdlflcambboojaaN11KlZ
set_option linter.unusedVariables false
set_option linter.unusedSimpArgs false
set_option maxHeartbeats 8000000
set_option maxRecDepth 10000
namespace Go.Proofs.Ks
open Go Go.Pg Go.Proofs
theorem tight_facts {r : Rec} (hc : checkE r = 0) (hq : consP r [] = true) : OKv cx 62 [.agg (eRec r), .lst []] (.tup [encM (tightP r), ab true]) ∧ Dim (tightP r) (nodesR r []).length ∧ (nodesR r []).length ≤ 100 := by
  have hv := checkE_V hc
  obtain ⟨f1, f2, f3, f4, f5⟩ := links_facts (more := []) hv (by decide) nomore
  have ht := tight_is hc hq
  exact ⟨Tight_some r [] hv (by decide) nomore ht, (closure_bd f1 f3 f4 ht).1, f1⟩
theorem RSpanOf_ok (r : Rec) (kd : Nat) (hc : checkE r = 0) (hq : consP r [] = true) (hk : kd < (nodesR r []).length) : OKv cx 64 [.agg (eRec r), ai kd] (.agg (eSpan (spanF (nodesR r []) (linksR r []) 0 kd))) := by
  obtain ⟨c62, hd', hn⟩ := tight_facts hc hq
  have hb := dst_ends hc hq hk
  have h1 := tightP_mget (r := r) (i := kd) (k := 0) hk
  have h2 := tightP_mget (r := r) (i := 0) (k := kd) (by omega)
  have c84 : OKv cx 84 [encM (tightP r), ai 0, ai kd] (.agg (eSpan (spanF (nodesR r []) (linksR r []) 0 kd))) := by
    have := between_ok (tightP r) (nodesR r []).length 0 kd hd' hn (by omega) hk (by rw [h1]; omega)
    rw [h1, h2] at this
    exact this
  obtain ⟨S, hS0⟩ : ∃ z, spanF (nodesR r []) (linksR r []) 0 kd = z := ⟨_, rfl⟩
  obtain ⟨TT, hTT⟩ : ∃ z, tightP r = z := ⟨_, rfl⟩
  rw [hS0] at c84 ⊢
  rw [hTT] at c62 c84
  refine OKat.of_bodyM cx_ok (rs := [.cell 4 23]) Try.func64 rfl (by decide +kernel) rfl (by simp [Try.ntmps64]) ?_
  simp only [Try.ntmps64]
  repeat' first
    | apply jA | apply jB | apply jC | apply jD | apply jE | apply jF | apply jG | apply jH | apply jI
    | ((first | (apply jK cx_ok; decide) | apply jM cx_ok | apply jR); (simp (disch := omega) only [push_cast, simprocAttr] <;> rfl); all_goals try ((with_reducible intro hI); try first | (cases hI; done) | (simp only [INTS, zL] at hI; try first | (exfalso; omega) | (have hT : True := hI; clear hT hI))))
    | ((apply jV cx_ok; decide); (iterate 2 (simp (disch := omega) only [push_cast, simprocAttr] <;> rfl)); (with_reducible first | exact c62 | exact c84); try first | rfl | (simp (disch := omega) only [push_cast, simprocAttr] <;> rfl))
    | ((first | apply jl | apply jm); (iterate 2 (try (simp (disch := omega) only [push_cast, simprocAttr] <;> rfl))))

  all_goals (show _ = _; rfl)
end Go.Proofs.Ks
