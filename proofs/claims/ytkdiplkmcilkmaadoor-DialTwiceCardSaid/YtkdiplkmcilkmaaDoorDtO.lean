/-
  Contracts of functions, proved by going through their code. No conditions.
-/
import Derived.Test.YtkdiplkmcilkmaaDoorDax
import Derived.Test.YtkdiplkmcilkmaaDoorDtJ
import Derived.Test.YtkdiplkmcilkmaaDoorDtK
set_option linter.unusedVariables false
set_option linter.unusedSimpArgs false
set_option maxHeartbeats 8000000
set_option maxRecDepth 10000
namespace Go.Proofs.Ds
open Go Go.Pg Go.Proofs
theorem bunchN_all (l : List Key) : ∀ (r k : Nat), bunchN l k r = true → ∀ j, k ≤ j → j < k + r → okK l j = true
  | 0, k, _, j, h1, h2 => by omega
  | r + 1, k, h, j, h1, h2 => by
    rw [bunchN, Bool.and_eq_true] at h
    by_cases e : j = k
    · rw [e]; exact h.1
    · exact bunchN_all l r (k + 1) h.2 j (by omega) (by omega)
theorem bunch_at {l : List Key} (h : bunchF l = true) {j : Nat} (hj : j < l.length) : okK l j = true := by
  unfold bunchF at h
  rw [Bool.and_eq_true] at h
  exact bunchN_all l _ 0 h.2 j (by omega) (by omega)
theorem bunch_key {l : List Key} (h : bunchF l = true) : ∀ k ∈ l, keyV k = true := fun k hk => by
  obtain ⟨j, hj, rfl⟩ := List.mem_iff_getElem.1 hk
  have := bunch_at h hj
  unfold okK at this
  rw [Bool.and_eq_true, List.getD_eq_getElem?_getD, List.getElem?_eq_getElem hj] at this
  exact this.1
def lowN (v : Int) : Nat := (BitVec.ofInt 64 v &&& BitVec.ofInt 64 4095).toNat
theorem lowN_lt (v : Int) : lowN v < 4096 := by
  unfold lowN
  rw [BitVec.toNat_and]
  have : (BitVec.ofInt 64 4095).toNat = 4095 := by decide
  rw [this]
  exact Nat.lt_of_le_of_lt Nat.and_le_right (by decide)
theorem lowI (v : Int) : IntKind.wrap .i64 ((BitVec.ofInt (IntKind.bits .i64) v &&& BitVec.ofInt (IntKind.bits .i64) 4095).toNat : Int) = ((lowN v : Nat) : Int) := by
  have h := lowN_lt v
  exact wrapN (n := ((lowN v : Nat) : Int)) (by omega)
def shrV (u : Int) : Int := u.fdiv (2 ^ (min 12 (IntKind.bits .i64)))
def blurM (m : Mark) (x y : Int) (u : Int) : Mark := ⟨⟨angF (m.arc.from_ - angF x % 500), m.arc.len + angF x % 500 + angF y % 500⟩, m.track, dropB m.seen.toNat (lowN u), dropB m.blank.toNat (lowN (shrV u))⟩
theorem blurred_ok (m : Mark) (x y u : Int) (hv : markV m = true) : OKv cx 69 [.agg (eMark m), ai x, ai y, ai u] (.agg (eMark (blurM m x y u))) := by
  obtain ⟨va, _, ms, mb, _⟩ := markV_iff.1 hv
  obtain ⟨v1, v2, v3, v4, v5⟩ := validA_iff.1 va
  have e2 : (m.seen.toNat : Int) = m.seen := Int.toNat_of_nonneg ms.1
  have e3 : (m.blank.toNat : Int) = m.blank := Int.toNat_of_nonneg mb.1
  have l1 := lowN_lt u
  have l2 := lowN_lt (shrV u)
  have i1 := lowI u
  have i2 := lowI (shrV u)
  have a1 := andNotI (p := m.seen.toNat) (q := lowN u) (by omega) (by omega)
  have a2 := andNotI (p := m.blank.toNat) (q := lowN (shrV u)) (by omega) (by omega)
  rw [e2] at a1
  rw [e3] at a2
  have c1 := Angle_ok x
  have c2 := Angle_ok y
  have d1 := angF_bd x
  have d2 := angF_bd y
  unfold blurM
  obtain ⟨X, hX⟩ : ∃ z, angF x = z := ⟨_, rfl⟩
  obtain ⟨Y, hY⟩ : ∃ z, angF y = z := ⟨_, rfl⟩
  rw [hX] at c1 d1 ⊢
  rw [hY] at c2 d2 ⊢
  have t1 : X.tmod 500 = X % 500 := Int.tmod_eq_emod_of_nonneg d1.1
  have t2 : Y.tmod 500 = Y % 500 := Int.tmod_eq_emod_of_nonneg d2.1
  have b1 : 0 ≤ X % 500 ∧ X % 500 < 500 := by omega
  have b2 : 0 ≤ Y % 500 ∧ Y % 500 < 500 := by omega
  generalize X % 500 = XX at *
  generalize Y % 500 = YY at *
  have c3 := Angle_ok (m.arc.from_ - XX)
  generalize dropB m.seen.toNat (lowN u) = D1 at *
  generalize dropB m.blank.toNat (lowN (shrV u)) = D2 at *
  generalize lowN u = L1 at *
  generalize lowN (shrV u) = L2 at *
  unfold shrV at i2
  have hf3 : ∀ x, flatA (.v x) = true := fun _ => rfl
  have hf5 : ∀ x y, flatA (.tup [.v x, .v y]) = true := fun _ _ => rfl
  refine OKat.of_bodyM cx_ok (rs := [.cell 8 42]) Tryd.func69 rfl (by decide +kernel) rfl (by simp [Tryd.ntmps69]) ?_
  simp only [Tryd.ntmps69]
  repeat' first
    | apply AW.seq | apply AW.region | apply AW.ret | apply AW.block | apply AW.skip | apply AW.exit | apply AW.scope | apply AW.label | apply AWL.nil | apply D.nil
    | refine AW.draw (id := 6) cx_mixed [15] [] [2] 0 (by decide +kernel) ?_
    | refine W.draw cx_mixed (by decide +kernel) ?_
    | ((first | (apply W.step cx_ok; decide) | (apply D.step cx_ok; decide; decide) | apply W.store cx_ok | apply AW.cond); (simp (disch := omega) only [push_cast, simprocAttr, natNe, List.mem_cons, List.not_mem_nil, TyD.isAgg, Nat.add_assoc, List.map_nil, List.length_nil, Bool.and_self, Bool.and_true, Bool.true_and, Bool.false_and, Bool.and_false, Bool.not_true, Bool.not_false, Bool.false_eq_true, hf3, hf5, St.back, rowAt_aftJ, idsL, idsA, List.cons_append, List.nil_append, List.append_nil, i1, i2, a1, a2, t1, t2, e2, e3] <;> rfl); all_goals try ((with_reducible intro hI); try first | (cases hI; done) | (simp only [INTS, not_true_eq_false] at hI; try first | (exfalso; omega) | (have hT : True := hI; clear hT hI))))
    | ((first | (apply D.store cx_ok; decide) | (apply D.stept cx_ok; decide; decide) | (apply D.stepm cx_ok; decide; decide)); (simp (disch := omega) only [push_cast, simprocAttr, natNe, List.mem_cons, List.not_mem_nil, TyD.isAgg, Nat.add_assoc, List.map_nil, List.length_nil, Bool.and_self, Bool.and_true, Bool.true_and, Bool.false_and, Bool.and_false, Bool.not_true, Bool.not_false, Bool.false_eq_true, hf3, hf5, St.back, rowAt_aftJ, idsL, idsA, List.cons_append, List.nil_append, List.append_nil, i1, i2, a1, a2, t1, t2, e2, e3] <;> rfl); try first | exact .inl rfl | exact .inr (by simp))
    | ((apply D.alloct cx_ok; decide; decide); (simp (disch := omega) only [push_cast, simprocAttr, natNe, List.mem_cons, List.not_mem_nil, TyD.isAgg, Nat.add_assoc, List.map_nil, List.length_nil, Bool.and_self, Bool.and_true, Bool.true_and, Bool.false_and, Bool.and_false, Bool.not_true, Bool.not_false, Bool.false_eq_true, hf3, hf5, St.back, rowAt_aftJ, idsL, idsA, List.cons_append, List.nil_append, List.append_nil, i1, i2, a1, a2, t1, t2, e2, e3] <;> rfl); first | exact .inl rfl | exact .inr (by simp))
    | ((first | (apply W.callv cx_ok; decide) | (apply D.callv cx_ok; decide; decide) | (apply D.callvt cx_ok; decide; decide)); (iterate 2 (simp (disch := omega) only [push_cast, simprocAttr, natNe, List.mem_cons, List.not_mem_nil, TyD.isAgg, Nat.add_assoc, List.map_nil, List.length_nil, Bool.and_self, Bool.and_true, Bool.true_and, Bool.false_and, Bool.and_false, Bool.not_true, Bool.not_false, Bool.false_eq_true, hf3, hf5, St.back, rowAt_aftJ, idsL, idsA, List.cons_append, List.nil_append, List.append_nil, i1, i2, a1, a2, t1, t2, e2, e3] <;> rfl)); (with_reducible first | exact c1 | exact c2 | exact c3); try first | rfl | (simp (disch := omega) only [push_cast, simprocAttr, natNe, List.mem_cons, List.not_mem_nil, TyD.isAgg, Nat.add_assoc, List.map_nil, List.length_nil, Bool.and_self, Bool.and_true, Bool.true_and, Bool.false_and, Bool.and_false, Bool.not_true, Bool.not_false, Bool.false_eq_true, hf3, hf5, St.back, rowAt_aftJ, idsL, idsA, List.cons_append, List.nil_append, List.append_nil, i1, i2, a1, a2, t1, t2, e2, e3] <;> rfl))
    | ((first | apply W.retM | apply W.endM'); (iterate 2 (try (simp (disch := omega) only [push_cast, simprocAttr, natNe, List.mem_cons, List.not_mem_nil, TyD.isAgg, Nat.add_assoc, List.map_nil, List.length_nil, Bool.and_self, Bool.and_true, Bool.true_and, Bool.false_and, Bool.and_false, Bool.not_true, Bool.not_false, Bool.false_eq_true, hf3, hf5, St.back, rowAt_aftJ, idsL, idsA, List.cons_append, List.nil_append, List.append_nil, i1, i2, a1, a2, t1, t2, e2, e3] <;> rfl))))

  all_goals (show _ = _; rfl)
end Go.Proofs.Ds
