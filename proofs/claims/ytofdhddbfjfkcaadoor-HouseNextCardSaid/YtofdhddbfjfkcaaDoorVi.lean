/-
  Contracts of functions, proved by going through their code. No conditions.
-/
import Derived.Test.YtofdhddbfjfkcaaDoorHc
import Derived.Test.YtofdhddbfjfkcaaDoorHe
import Derived.Test.YtofdhddbfjfkcaaDoorVd
set_option maxHeartbeats 8000000
set_option linter.unusedSimpArgs false
set_option linter.unusedVariables false
set_option maxRecDepth 10000
namespace Go.Proofs.Hs
open Go Go.Pg Go.Proofs

theorem wrapU {n : Int} : IntKind.wrap .u64 n = n % 18446744073709551616 := by simp [IntKind.wrap, IntKind.signed, IntKind.bits]
theorem modN {a b : Int} (h : 0 ≤ a ∧ a < b) : a % b = a := Int.emod_eq_of_lt h.1 h.2
/-- An index of one of some things. -/
def someN (n k : Int) : Int := (n % 18446744073709551616) % k
theorem someN_lt (n : Int) {k : Int} (hk : 1 ≤ k) : 0 ≤ someN n k ∧ someN n k < k := ⟨Int.emod_nonneg _ (by omega), Int.emod_lt_of_pos _ (by omega)⟩
theorem some_ok (n k : Int) (hk : 1 ≤ k ∧ k ≤ 1099511627776) : OKv cx 47 [ai n, ai k] (ai (someN n k)) := by
  have hm0 : 0 ≤ n % 18446744073709551616 := Int.emod_nonneg _ (by decide)
  have hlt := someN_lt n (k := k) (by omega)
  have hS : (n % 18446744073709551616) % k = someN n k := rfl
  have hmx : max k 1 = k := by omega
  have hkw : k % 18446744073709551616 = k := modN (by omega)
  have hk0 : (k = 0) = False := eq_false (by omega)
  refine OKat.of_body (rs := [4]) Tryd.func47 rfl (by decide +kernel) rfl (by simp [Tryd.ntmps47]) ?_
  simp only [Tryd.ntmps47]
  repeat' first
    | apply AW.seq | apply AW.region | apply AW.ret | apply AW.block | apply AW.skip | apply AW.exit | apply AW.scope | apply AW.label | apply AWL.nil
    | ((first | (apply W.step cx_ok; decide) | apply AW.cond); (simp (disch := omega) only [push_cast, simprocAttr, wrapU, hmx, hkw, hS, hk0] <;> rfl); all_goals try ((with_reducible intro hI); try first | (cases hI; done) | (simp only [INTS] at hI; try first | (exfalso; omega) | (have hT : True := hI; clear hT hI))))
    | ((first | apply W.ret1 | apply W.end1); (iterate 2 (try (simp (disch := omega) only [push_cast, simprocAttr, wrapU, hmx, hkw, hS, hk0] <;> rfl))))
  all_goals (show _ = _; rfl)
theorem right_ok (h : House) (hn : ∀ r ∈ h.rooms, r.name.size ≤ 9223372036854775807) : OKv cx 45 [.agg (eHouse h)] (ab (few h && decide ((Check h).1 = 0))) := by
  by_cases hf : few h = true
  · have hfit := few_fit hf hn
    refine OKat.of_body (rs := [2]) Tryd.func45 rfl (by decide +kernel) rfl (by simp [Tryd.ntmps45]) ?_
    simp only [Tryd.ntmps45]
    repeat' first
      | apply AW.seq | apply AW.region | apply AW.ret | apply AW.block | apply AW.skip | apply AW.exit | apply AW.scope | apply AW.label | apply AWL.nil
      | ((first | (apply W.step cx_ok; decide) | (apply W.gS; rfl; decide) | apply AW.cond); (simp (disch := omega) only [push_cast, simprocAttr, hf] <;> rfl); all_goals try ((with_reducible intro hI); try first | (cases hI; done) | (simp only [INTS] at hI; try first | (exfalso; omega) | (have hT : True := hI; clear hT hI))))
      | ((apply W.callv cx_ok; decide); (iterate 2 (simp (disch := omega) only [push_cast, simprocAttr, hf] <;> rfl)); (with_reducible first | exact few_ok _ | exact Error_ok _ hfit); try first | rfl | (simp (disch := omega) only [push_cast, simprocAttr, hf] <;> rfl))
      | ((first | apply W.ret1 | apply W.end1); (iterate 2 (try (simp (disch := omega) only [push_cast, simprocAttr, hf] <;> rfl))))
    all_goals (show _ = _; first | rfl | (simp_all; done))
  · have hf' : few h = false := by simpa using hf
    refine OKat.of_body (rs := [2]) Tryd.func45 rfl (by decide +kernel) rfl (by simp [Tryd.ntmps45]) ?_
    simp only [Tryd.ntmps45]
    repeat' first
      | apply AW.seq | apply AW.region | apply AW.ret | apply AW.block | apply AW.skip | apply AW.exit | apply AW.scope | apply AW.label | apply AWL.nil
      | ((first | (apply W.step cx_ok; decide) | (apply W.gS; rfl; decide) | apply AW.cond); (simp (disch := omega) only [push_cast, simprocAttr, hf'] <;> rfl); all_goals try ((with_reducible intro hI); try first | (cases hI; done) | (simp only [INTS] at hI; try first | (exfalso; omega) | (have hT : True := hI; clear hT hI))))
      | ((apply W.callv cx_ok; decide); (iterate 2 (simp (disch := omega) only [push_cast, simprocAttr, hf'] <;> rfl)); (with_reducible first | exact few_ok _); try first | rfl | (simp (disch := omega) only [push_cast, simprocAttr, hf'] <;> rfl))
      | ((first | apply W.ret1 | apply W.end1); (iterate 2 (try (simp (disch := omega) only [push_cast, simprocAttr, hf'] <;> rfl))))
    all_goals (show _ = _; first | rfl | (simp_all; done))
open Lab in
theorem nowall {h : House} (hv : h.V) {a ta b tb : Int} {l : List Int} (ha : 0 ≤ a ∧ a < (h.rooms.length : Int)) (hb : 0 ≤ b ∧ b < (h.rooms.length : Int)) (ht : 0 ≤ ta ∧ ta ≤ 1073741823) (hle : (arrH h a.toNat ta).1.getD b.toNat 0 ≤ tb) : isWall h a ta b tb l = false := by
  cases hq : isWall h a ta b tb l with
  | false => rfl
  | true =>
    obtain ⟨h1, h2, h3, h4⟩ := (isWall_iff hv ha hb).1 hq
    rw [arrH_eq hv ha ht] at hle
    obtain ⟨hl, hi⟩ := arrR_is hv (a := a.toNat) (by omega) (t := ta) (by omega)
    have h5 : (arrN h).lab l b.toNat ≤ (arrN h).lab (arrR h a.toNat ta) b.toNat := hi.most (arrN_ok hv) h2 h3 b.toNat
    rw [getD_lab (row := arrR h a.toNat ta) (by omega)] at h5
    omega
theorem canBack {h : House} (hv : h.V) {a ta b tb : Int} (ha : 0 ≤ a ∧ a < (h.rooms.length : Int)) (hb : 0 ≤ b ∧ b < (h.rooms.length : Int)) (ht : 0 ≤ ta ∧ ta ≤ 1073741823) (hu : 0 ≤ tb ∧ tb ≤ 1073741823) : (arrH h a.toNat ta).1.getD b.toNat 0 ≤ tb ↔ ta ≤ (late h b.toNat tb).getD a.toNat 0 := by
  rw [arrH_eq hv ha ht, late_is hv (by omega) hu]
  exact arr_dep hv (by omega) (by omega) ht hu

end Go.Proofs.Hs
