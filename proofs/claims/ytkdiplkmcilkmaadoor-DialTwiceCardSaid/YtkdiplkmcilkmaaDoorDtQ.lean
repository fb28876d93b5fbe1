/-
  Contracts of functions, proved by going through their code. No conditions.
-/
import Derived.Test.YtkdiplkmcilkmaaDoorDaw
import Derived.Test.YtkdiplkmcilkmaaDoorDtG
import Derived.Test.YtkdiplkmcilkmaaDoorDtI
import Derived.Test.YtkdiplkmcilkmaaDoorDtP
set_option linter.unusedVariables false
set_option linter.unusedSimpArgs false
namespace Go.Proofs.Ds
open Go Go.Pg Go.Proofs
section
variable {p mi di : Nat} {tr t0 ap s : Int}
theorem arc_struck (h : 0 ≤ ap ∧ ap ≤ 60) (f : Int) : validA ⟨angF f, ap⟩ = true :=
  validA_iff.2 ⟨(angF_bd _).1, (angF_bd _).2, h.1, by dsimp only; omega, .inl (by dsimp only; omega)⟩
theorem mark_struck (hp : p < 4096) (hd : di < 4096) (ht : 0 ≤ tr ∧ tr ≤ 3) (ha : 0 ≤ ap ∧ ap ≤ 60) : markV (struckF p tr ⟨t0, ap⟩ mi di s) = true := by
  have l1 := seenF_lt (mi := mi) hp hd
  have l2 := drop_lt (p := 4095) (q := seenF p mi di) (by omega)
  refine markV_iff.2 ⟨arc_struck ha _, ht, ?_, ?_, ?_⟩
  · unfold struckF; dsimp only; omega
  · unfold struckF; dsimp only; omega
  · unfold struckF
    simp only [Int.toNat_natCast]
    exact (compl l1).1
theorem drop_and {a b u v : Nat} (h : a &&& b = 0) : dropB a u &&& dropB b v = 0 := by
  apply Nat.eq_of_testBit_eq
  intro k
  have := congrArg (fun z => z.testBit k) h
  simp only [Nat.testBit_and, Nat.zero_testBit] at this ⊢
  rw [dropB_bit, dropB_bit]
  cases h1 : a.testBit k <;> cases h2 : b.testBit k <;> simp_all
theorem drop_or (a u : Nat) : dropB a u ||| a = a := by
  apply Nat.eq_of_testBit_eq
  intro k
  rw [Nat.testBit_or, dropB_bit]
  cases a.testBit k <;> simp
theorem blur_arc {f X Y : Int} (ha : 0 ≤ ap ∧ ap ≤ 60) (hX : 0 ≤ X ∧ X < 500) (hY : 0 ≤ Y ∧ Y < 500) : validA ⟨angF f, ap + X + Y⟩ = true :=
  validA_iff.2 ⟨(angF_bd _).1, (angF_bd _).2, by dsimp only; omega, by dsimp only; omega, .inl (by dsimp only; omega)⟩
theorem mod500 (x : Int) : 0 ≤ angF x % 500 ∧ angF x % 500 < 500 := by omega
theorem mark_blur {m : Mark} (hm : markV m = true) (ha : m.arc.len ≤ 60) (x y u : Int) : markV (blurM m x y u) = true := by
  obtain ⟨va, ht, ms, mb, h0⟩ := markV_iff.1 hm
  obtain ⟨v1, v2, v3, v4, v5⟩ := validA_iff.1 va
  have l1 := drop_lt (p := m.seen.toNat) (q := lowN u) (by omega)
  have l2 := drop_lt (p := m.blank.toNat) (q := lowN (shrV u)) (by omega)
  refine markV_iff.2 ⟨blur_arc ⟨v3, ha⟩ (mod500 x) (mod500 y), ht, ?_, ?_, ?_⟩
  · unfold blurM; dsimp only; omega
  · unfold blurM; dsimp only; omega
  · unfold blurM
    simp only [Int.toNat_natCast]
    exact drop_and h0
theorem has_blur {f X Y z : Int} (hf : 0 ≤ f ∧ f < 43200) (ha : 0 ≤ ap ∧ ap ≤ 60) (hX : 0 ≤ X ∧ X < 500) (hY : 0 ≤ Y ∧ Y < 500) (h : hasF ⟨f, ap⟩ z = true) : hasF ⟨angF (f - X), ap + X + Y⟩ z = true := by
  unfold hasF at h ⊢
  rw [Bool.and_eq_true, decide_eq_true_eq] at h ⊢
  refine ⟨blur_arc ha hX hY, ?_⟩
  have h2 := h.2
  unfold aheadF angF at h2 ⊢
  dsimp only at h2 ⊢
  omega
theorem arcs_sub {x y : Arc} (hx : validA x = true) (hy : validA y = true) (h : ∀ z, 0 ≤ z → z ≤ 43199 → hasF y z = true → hasF x z = true) : arcsF (meetF (spansS [x]) (spansS [y])) = [y] := by
  have vx : ∀ w ∈ [x], validA w = true := fun w hw => by rw [List.mem_singleton.1 hw]; exact hx
  have vy : ∀ w ∈ [y], validA w = true := fun w hw => by rw [List.mem_singleton.1 hw]; exact hy
  obtain ⟨x1, x2, x3⟩ := spans_spec vx
  obtain ⟨y1, y2, y3⟩ := spans_spec vy
  obtain ⟨m1, m2⟩ := meet_spec x1 y1
  have e : meetF (spansS [x]) (spansS [y]) = spansS [y] := by
    refine canon_ext m1 y1 fun z => ?_
    rw [m2]
    refine ⟨fun g => g.2, fun g => ⟨?_, g⟩⟩
    have hb := mem_inC y2 g
    have p1 : ∀ w : Arc, piecesL [w] = piecesF w := fun w => by unfold piecesL; simp
    rw [y3, p1] at g
    rw [x3, p1]
    exact (has_mem hx hb.1 hb.2).1 (h z hb.1 hb.2 ((has_mem hy hb.1 hb.2).2 g))
  rw [e]
  exact arcs_one hy
theorem sharp_blur {m : Mark} (hm : markV m = true) (ha : m.arc.len ≤ 60) (x y u : Int) : sharpenF (blurM m x y u) m = (m, 0) := by
  obtain ⟨va, ht, ms, mb, h0⟩ := markV_iff.1 hm
  obtain ⟨v1, v2, v3, v4, v5⟩ := validA_iff.1 va
  have hn := mark_blur hm ha x y u
  have vn := (markV_iff.1 hn).1
  have e1 : (blurM m x y u).seen.toNat ||| m.seen.toNat = m.seen.toNat := by
    unfold blurM; simp only [Int.toNat_natCast]; exact drop_or _ _
  have e2 : (blurM m x y u).blank.toNat ||| m.blank.toNat = m.blank.toNat := by
    unfold blurM; simp only [Int.toNat_natCast]; exact drop_or _ _
  have e3 : (m.seen.toNat : Int) = m.seen := Int.toNat_of_nonneg ms.1
  have e4 : (m.blank.toNat : Int) = m.blank := Int.toNat_of_nonneg mb.1
  have e5 : arcsF (meetF (spansS [(blurM m x y u).arc]) (spansS [m.arc])) = [m.arc] := by
    refine arcs_sub vn va fun z _ _ hz => ?_
    exact has_blur ⟨v1, v2⟩ ⟨v3, ha⟩ (mod500 x) (mod500 y) hz
  unfold sharpenF
  rw [e1, e2, e5, if_neg (by rintro (h | h); exact h rfl; exact h h0)]
  dsimp only
  rw [e3, e4]
  rfl
theorem allow_blur {i : Ink} (hp : p < 4096) (hd : di < 4096) (h : strikesI p mi di s i = true) (U V : Nat) : allowI p (dropB (seenF p mi di) U) (dropB (dropB 4095 (seenF p mi di)) V) i = true := by
  obtain ⟨h1, h2, _⟩ := strikesI_iff.1 h
  have c1 : cntF (p &&& dropB (dropB 4095 (seenF p mi di)) V) ≤ cntF (p &&& mi) := cntK_mono (fun k hk => by
    rw [Nat.testBit_and, dropB_bit, dropB_bit] at hk
    rw [Nat.testBit_and]
    unfold seenF at hk
    rw [Nat.testBit_or, dropB_bit] at hk
    cases a1 : p.testBit k <;> cases a2 : mi.testBit k <;> simp_all) 12
  have c2 : cntF (dropB (dropB (seenF p mi di) U) p) ≤ cntF (dropB di p) := cntK_mono (fun k hk => by
    rw [dropB_bit, dropB_bit] at hk
    rw [dropB_bit]
    unfold seenF at hk
    rw [Nat.testBit_or, dropB_bit] at hk
    cases a1 : p.testBit k <;> cases a2 : di.testBit k <;> simp_all) 12
  unfold allowI
  rw [Bool.and_eq_true, decide_eq_true_eq, decide_eq_true_eq]
  omega
end
end Go.Proofs.Ds
