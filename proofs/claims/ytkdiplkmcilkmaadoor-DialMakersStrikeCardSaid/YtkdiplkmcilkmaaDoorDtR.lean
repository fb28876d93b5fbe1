/-
  Contracts of functions, proved by going through their code. No conditions.
-/
import Derived.Test.YtkdiplkmcilkmaaDoorDtQ
set_option linter.unusedVariables false
set_option linter.unusedSimpArgs false
namespace Go.Proofs.Ds
open Go Go.Pg Go.Proofs
theorem bunch_inc {l : List Key} (h : bunchF l = true) : ∀ (j r : Nat), j + r + 1 < l.length → (l.getD j default).id < (l.getD (j + r + 1) default).id
  | j, 0, hj => by
    have := bunch_at h hj
    unfold okK at this
    rw [Bool.and_eq_true, Bool.or_eq_true, decide_eq_true_eq, decide_eq_true_eq] at this
    rcases this.2 with g | g
    · omega
    · exact g
  | j, r + 1, hj => by
    have h1 := bunch_inc h j r (by omega)
    have h2 := bunch_inc h (j + r + 1) 0 (by omega)
    have e : j + r + 1 + 0 + 1 = j + (r + 1) + 1 := by omega
    rw [e] at h2
    omega
theorem bunch_inj {l : List Key} (h : bunchF l = true) {a b : Key} (ha : a ∈ l) (hb : b ∈ l) (e : a.id = b.id) : a = b := by
  obtain ⟨j, hj, rfl⟩ := List.mem_iff_getElem.1 ha
  obtain ⟨k, hk, rfl⟩ := List.mem_iff_getElem.1 hb
  have gj : l.getD j default = l[j] := by rw [List.getD_eq_getElem?_getD, List.getElem?_eq_getElem hj]; rfl
  have gk : l.getD k default = l[k] := by rw [List.getD_eq_getElem?_getD, List.getElem?_eq_getElem hk]; rfl
  rcases Nat.lt_trichotomy j k with g | g | g
  · have := bunch_inc h j (k - j - 1) (by omega)
    rw [show j + (k - j - 1) + 1 = k by omega, gj, gk] at this
    omega
  · subst g; rfl
  · have := bunch_inc h k (j - k - 1) (by omega)
    rw [show k + (j - k - 1) + 1 = j by omega, gj, gk] at this
    omega
theorem makers_mem {l : List Key} {m : Mark} {i : Ink} {d : Int} (h : d ∈ makersF l m i) : ∃ k ∈ l, madeF k m i = true ∧ k.id = d := by
  unfold makersF at h
  obtain ⟨k, hk, e⟩ := List.mem_map.1 h
  obtain ⟨h1, h2⟩ := List.mem_filter.1 hk
  exact ⟨k, h1, h2, e⟩
theorem sum_pos {l : List Span} (h : ∀ s ∈ l, s.lo ≤ s.hi) : 0 ≤ sumW l ∧ (l ≠ [] → 0 < sumW l) := by
  induction l with
  | nil => exact ⟨Int.le_refl _, fun h => absurd rfl h⟩
  | cons s l ih =>
    have h1 := h s (by simp)
    have h2 := (ih fun t ht => h t (by simp [ht])).1
    unfold sumW
    exact ⟨by omega, fun _ => by omega⟩
theorem size_one {x : Arc} (h : validA x = true) : 0 < sumW (spansS [x]) ∧ sumW (spansS [x]) ≤ 43200 := by
  have v : ∀ w ∈ [x], validA w = true := fun w hw => by rw [List.mem_singleton.1 hw]; exact h
  obtain ⟨h1, h2, h3⟩ := spans_spec v
  refine ⟨(sum_pos h1.2).2 fun e => ?_, ?_⟩
  · obtain ⟨v1, v2, v3, v4, v5⟩ := validA_iff.1 h
    have hm : memS x.from_ (spansS [x]) := by
      rw [h3]
      unfold piecesL piecesF
      rw [List.flatMap_cons, List.flatMap_nil, List.append_nil]
      split
      · exact memS_cons.2 (.inl ⟨Int.le_refl _, by dsimp only; omega⟩)
      · exact memS_cons.2 (.inl ⟨Int.le_refl _, by dsimp only; omega⟩)
    rw [e] at hm
    exact memS_nil hm
  · rw [sum_cnt _ h1 h2]
    have := List.countP_le_length (p := fun (k : Nat) => memB (k : Int) (spansS [x])) (l := List.range 43200)
    rw [List.length_range] at this
    unfold cntS
    omega
theorem has_ang (x : Arc) (a : Int) : hasF x (angF a) = hasF x a := by
  unfold hasF aheadF
  rw [show angF (angF a) = angF a by unfold angF; omega]
theorem near_shift {x : Arc} (hv : validA x = true) {n a : Int} (hn : 0 ≤ n) (h : hasF (wideF x n) a = true) : ∃ d : Nat, (d : Int) ≤ n ∧ (hasF x (a + d) = true ∨ hasF x (a - d) = true) := by
  obtain ⟨p, p1, p2, p3, p4⟩ := (near_iff hv hn a).1 h
  have b1 : 0 ≤ aheadF a p := (angF_bd _).1
  have b2 : 0 ≤ aheadF p a := (angF_bd _).1
  by_cases g : aheadF a p ≤ n
  · refine ⟨(aheadF a p).toNat, by omega, .inl ?_⟩
    rw [← has_ang, Int.toNat_of_nonneg b1]
    rw [show angF (a + aheadF a p) = p by unfold aheadF angF; omega]
    exact p3
  · refine ⟨(aheadF p a).toNat, ?_, .inr ?_⟩
    · rw [Int.toNat_of_nonneg b2]
      unfold apartF at p4
      omega
    · rw [← has_ang, Int.toNat_of_nonneg b2]
      rw [show angF (a - aheadF p a) = p by unfold aheadF angF; omega]
      exact p3
section
variable {p S B : Nat} {sh : Int} {i : Ink}
theorem strikes_back (h : allowI p S B i = true) (hs : -i.slip ≤ sh ∧ sh ≤ i.slip) : strikesI p (p &&& B) (dropB S p) sh i = true := by
  unfold allowI at h
  rw [Bool.and_eq_true, decide_eq_true_eq, decide_eq_true_eq] at h
  refine strikesI_iff.2 ⟨?_, ?_, hs.1, hs.2⟩
  · rw [show p &&& (p &&& B) = p &&& B by rw [← Nat.and_assoc, Nat.and_self]]
    exact h.1
  · rw [show dropB (dropB S p) p = dropB S p by
      apply Nat.eq_of_testBit_eq
      intro k
      rw [dropB_bit, dropB_bit]
      cases S.testBit k <;> cases p.testBit k <;> rfl]
    exact h.2
theorem seen_back (h0 : S &&& B = 0) : S ||| seenF p (p &&& B) (dropB S p) = seenF p (p &&& B) (dropB S p) := by
  apply Nat.eq_of_testBit_eq
  intro k
  have := congrArg (fun z => z.testBit k) h0
  simp only [Nat.testBit_and, Nat.zero_testBit] at this
  unfold seenF
  rw [Nat.testBit_or, Nat.testBit_or, dropB_bit, dropB_bit, Nat.testBit_and]
  cases h1 : S.testBit k <;> cases h2 : B.testBit k <;> cases h3 : p.testBit k <;> simp_all
theorem blank_back (hB : B < 4096) (h0 : S &&& B = 0) : B ||| dropB 4095 (seenF p (p &&& B) (dropB S p)) = dropB 4095 (seenF p (p &&& B) (dropB S p)) := by
  apply Nat.eq_of_testBit_eq
  intro k
  have := congrArg (fun z => z.testBit k) h0
  simp only [Nat.testBit_and, Nat.zero_testBit] at this
  unfold seenF
  rw [Nat.testBit_or, dropB_bit, Nat.testBit_or, dropB_bit, dropB_bit, Nat.testBit_and]
  cases h1 : B.testBit k with
  | false => rw [Bool.false_or]
  | true =>
    rw [full_bit (bits_lt hB h1)]
    cases h2 : S.testBit k <;> cases h3 : p.testBit k <;> simp_all
end
def backM (k : Key) (m : Mark) (t0 sh : Int) : Mark := struckF k.pat.toNat k.track ⟨t0, 0⟩ (k.pat.toNat &&& m.blank.toNat) (dropB m.seen.toNat k.pat.toNat) sh
theorem back_mark {k : Key} {m : Mark} {i : Ink} (hk : keyV k = true) (hm : markV m = true) (t0 sh : Int) : markV (backM k m t0 sh) = true := by
  obtain ⟨_, k2, k3, k4⟩ := keyV_iff.1 hk
  obtain ⟨_, _, ms, mb, _⟩ := markV_iff.1 hm
  exact mark_struck (by omega) (drop_lt (by omega)) k2 (by omega)
theorem back_sharp {k : Key} {m : Mark} {i : Ink} (hk : keyV k = true) (hm : markV m = true) (hd : madeF k m i = true) {t0 sh : Int} (h : hasF m.arc (t0 + sh) = true) : sharpenF m (backM k m t0 sh) = (backM k m t0 sh, 0) := by
  have hx := back_mark (i := i) hk hm t0 sh
  obtain ⟨va, _, ms, mb, h0⟩ := markV_iff.1 hm
  obtain ⟨vx, _, xs, xb, x0⟩ := markV_iff.1 hx
  unfold madeF at hd
  rw [Bool.and_eq_true, decide_eq_true_eq] at hd
  have e1 : m.seen.toNat ||| (backM k m t0 sh).seen.toNat = (backM k m t0 sh).seen.toNat := by
    unfold backM struckF; simp only [Int.toNat_natCast]; exact seen_back h0
  have e2 : m.blank.toNat ||| (backM k m t0 sh).blank.toNat = (backM k m t0 sh).blank.toNat := by
    unfold backM struckF; simp only [Int.toNat_natCast]; exact blank_back (by omega) h0
  have e3 : ((backM k m t0 sh).seen.toNat : Int) = (backM k m t0 sh).seen := Int.toNat_of_nonneg xs.1
  have e4 : ((backM k m t0 sh).blank.toNat : Int) = (backM k m t0 sh).blank := Int.toNat_of_nonneg xb.1
  have e5 : arcsF (meetF (spansS [m.arc]) (spansS [(backM k m t0 sh).arc])) = [(backM k m t0 sh).arc] := by
    refine arcs_sub va vx fun z z0 z1 hz => ?_
    have hz' : hasF ⟨angF (angF t0 + sh), 0⟩ z = true := hz
    unfold hasF at hz'
    rw [Bool.and_eq_true, decide_eq_true_eq] at hz'
    have h2 := hz'.2
    dsimp only at h2
    have : z = angF (t0 + sh) := by
      unfold aheadF angF at h2
      unfold angF
      omega
    rw [this, has_ang]; exact h
  have e6 : (backM k m t0 sh).track = m.track := hd.1
  unfold sharpenF
  rw [e1, e2, e5, e6, if_neg (by rintro (h | h); exact h rfl; exact h x0)]
  dsimp only
  rw [e3, e4, ← e6]
end Go.Proofs.Ds
