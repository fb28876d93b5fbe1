/-
  Contracts of functions, proved by going through their code. No conditions.
-/
import Derived.Test.YtkdiplkmcilkmaaDoorDtC
import Derived.Test.YtkdiplkmcilkmaaDoorDtS
set_option linter.unusedVariables false
set_option linter.unusedSimpArgs false
namespace Go.Proofs.Ds
open Go Go.Pg Go.Proofs
structure Finer (x y : Mark) : Prop where
  track : x.track = y.track
  seen : ∀ k, y.seen.toNat.testBit k = true → x.seen.toNat.testBit k = true
  blank : ∀ k, y.blank.toNat.testBit k = true → x.blank.toNat.testBit k = true
  arc : ∀ z, 0 ≤ z → z ≤ 43199 → hasF x.arc z = true → hasF y.arc z = true
theorem made_finer {x y : Mark} (h : Finer x y) {k : Key} {i : Ink} (hm : madeF k x i = true) : madeF k y i = true := by
  unfold madeF allowI at hm ⊢
  simp only [Bool.and_eq_true, decide_eq_true_eq] at hm ⊢
  have c1 : cntF (k.pat.toNat &&& y.blank.toNat) ≤ cntF (k.pat.toNat &&& x.blank.toNat) := cntK_mono (fun j hj => by
    rw [Nat.testBit_and, Bool.and_eq_true] at hj ⊢
    exact ⟨hj.1, h.blank j hj.2⟩) 12
  have c2 : cntF (dropB y.seen.toNat k.pat.toNat) ≤ cntF (dropB x.seen.toNat k.pat.toNat) := cntK_mono (fun j hj => by
    rw [dropB_bit, Bool.and_eq_true] at hj ⊢
    exact ⟨h.seen j hj.1, hj.2⟩) 12
  exact ⟨hm.1.trans h.track, by omega, by omega⟩
theorem makers_finer {x y : Mark} (h : Finer x y) {l : List Key} {i : Ink} {d : Int} (hd : d ∈ makersF l x i) : withinF (makersF l y i) d = true := by
  obtain ⟨k, hk, hm, rfl⟩ := makers_mem hd
  exact within_makers hk (made_finer h hm)
theorem pairs_finer {x y : Mark} (h : Finer x y) {i : Ink} : ∀ {l : List Key} {p : Int × Int}, p ∈ pairsF l x i → p ∈ pairsF l y i
  | [], p, hp => hp
  | a :: l, p, hp => by
    unfold pairsF at hp ⊢
    rcases List.mem_append.1 hp with hp | hp
    · refine List.mem_append.2 (.inl ?_)
      unfold pairsOf at hp ⊢
      obtain ⟨b, hb, e⟩ := List.mem_map.1 hp
      obtain ⟨h1, h2⟩ := List.mem_filter.1 hb
      refine List.mem_map.2 ⟨b, List.mem_filter.2 ⟨h1, ?_⟩, e⟩
      unfold pairOK at h2 ⊢
      rw [Bool.and_eq_true] at h2 ⊢
      exact ⟨h2.1, made_finer h h2.2⟩
    · exact List.mem_append.2 (.inr (pairs_finer h hp))
theorem any_pair {l : List (Int × Int)} {p : Int × Int} (h : p ∈ l) : anyP l p.1 p.2 = true := by
  unfold anyP
  rw [List.any_eq_true]
  exact ⟨p, h, by simp⟩
theorem mem_one {x : Arc} (hx : validA x = true) {z : Int} (h0 : 0 ≤ z) (h1 : z ≤ 43199) : memS z (spansS [x]) ↔ hasF x z = true := by
  have vx : ∀ w ∈ [x], validA w = true := fun w hw => by rw [List.mem_singleton.1 hw]; exact hx
  rw [(spans_spec vx).2.2]
  have : piecesL [x] = piecesF x := by unfold piecesL; simp
  rw [this]
  exact (has_mem hx h0 h1).symm
theorem covers_finer {x y : Arc} (hx : validA x = true) (hy : validA y = true) (h : ∀ z, 0 ≤ z → z ≤ 43199 → hasF x z = true → hasF y z = true) {n : Int} (hn : 0 ≤ n) : coversF [wideF y n] [wideF x n] = true := by
  have wx := wide_valid hx hn
  have wy := wide_valid hy hn
  have vx : ∀ w ∈ [wideF x n], validA w = true := fun w hw => by rw [List.mem_singleton.1 hw]; exact wx
  have vy : ∀ w ∈ [wideF y n], validA w = true := fun w hw => by rw [List.mem_singleton.1 hw]; exact wy
  obtain ⟨x1, x2, _⟩ := spans_spec vx
  obtain ⟨y1, y2, _⟩ := spans_spec vy
  obtain ⟨r1, r2, r3⟩ := restS_spec y1 y2
  obtain ⟨m1, m2⟩ := meet_spec x1 r1
  unfold coversF
  rw [decide_eq_true_eq]
  refine canon_ext m1 canon_nil fun z => ⟨fun g => ?_, fun g => absurd g memS_nil⟩
  exfalso
  obtain ⟨g1, g2⟩ := (m2 z).1 g
  obtain ⟨z0, z1, g3⟩ := (r3 z).1 g2
  obtain ⟨p, p0, p1, p2, p3⟩ := (near_iff hx hn z).1 ((mem_one wx z0 z1).1 g1)
  exact g3 ((mem_one wy z0 z1).2 ((near_iff hy hn z).2 ⟨p, p0, p1, h p p0 p1 p2, p3⟩))
theorem covers_nil (a : List Arc) : coversF a [] = true := by
  unfold coversF
  have : spansS [] = [] := rfl
  rw [this, meetF]
  rfl
theorem sharpen_finer {a b x : Mark} (ha : markV a = true) (hb : markV b = true) (h : sharpenF a b = (x, 0)) : markV x = true ∧ Finer x a ∧ Finer x b := by
  obtain ⟨va, ta, as1, ab1, a0⟩ := markV_iff.1 ha
  obtain ⟨vb, tb, bs1, bb1, b0⟩ := markV_iff.1 hb
  unfold sharpenF at h
  split at h
  · cases h
  · rename_i g
    have gt : a.track = b.track := Classical.byContradiction fun e => g (.inl e)
    have g0 : (a.seen.toNat ||| b.seen.toNat) &&& (a.blank.toNat ||| b.blank.toNat) = 0 := Classical.byContradiction fun e => g (.inr e)
    have v1 : ∀ w ∈ [a.arc], validA w = true := fun w hw => by rw [List.mem_singleton.1 hw]; exact va
    have v2 : ∀ w ∈ [b.arc], validA w = true := fun w hw => by rw [List.mem_singleton.1 hw]; exact vb
    obtain ⟨s1, s2, _⟩ := spans_spec v1
    obtain ⟨t1, t2, _⟩ := spans_spec v2
    obtain ⟨m1, m2⟩ := meet_spec s1 t1
    have m3 : inC (meetF (spansS [a.arc]) (spansS [b.arc])) := inC_of_mem m1 fun z hz => mem_inC s2 ((m2 z).1 hz).1
    have hv := (arcsF_spec m1 m3).1
    have hs := spans_arcs m1 m3
    split at h
    · cases h
    · rename_i y hy
      rw [hy] at hv hs
      have vy := hv y (by simp)
      injection h with h _
      subst h
      have hmem : ∀ z, 0 ≤ z → z ≤ 43199 → hasF y z = true → hasF a.arc z = true ∧ hasF b.arc z = true := fun z z0 z1 hz => by
        have := (mem_one vy z0 z1).2 hz
        rw [hs, m2] at this
        exact ⟨(mem_one va z0 z1).1 this.1, (mem_one vb z0 z1).1 this.2⟩
      have l1 : (a.seen.toNat ||| b.seen.toNat) < 4096 := or_lt (by omega) (by omega)
      have l2 : (a.blank.toNat ||| b.blank.toNat) < 4096 := or_lt (by omega) (by omega)
      refine ⟨markV_iff.2 ⟨vy, ta, ⟨Int.natCast_nonneg _, by dsimp only; omega⟩, ⟨Int.natCast_nonneg _, by dsimp only; omega⟩, by simp only [Int.toNat_natCast]; exact g0⟩, ⟨rfl, fun k hk => ?_, fun k hk => ?_, fun z z0 z1 hz => (hmem z z0 z1 hz).1⟩, ⟨gt, fun k hk => ?_, fun k hk => ?_, fun z z0 z1 hz => (hmem z z0 z1 hz).2⟩⟩
      all_goals simp only [Int.toNat_natCast, Nat.testBit_or, hk, Bool.true_or, Bool.or_true]
    · cases h
theorem blur_finer {m : Mark} {n u : Int} (hm : markV m = true) (hn : 0 ≤ n) (hu : 0 ≤ u ∧ u ≤ 4095) : markV (blurF m n u) = true ∧ Finer m (blurF m n u) := by
  obtain ⟨va, ht, ms, mb, h0⟩ := markV_iff.1 hm
  have l1 := drop_lt (p := m.seen.toNat) (q := u.toNat) (by omega)
  have l2 := drop_lt (p := m.blank.toNat) (q := u.toNat) (by omega)
  refine ⟨markV_iff.2 ⟨wide_valid va hn, ht, ?_, ?_, ?_⟩, ⟨rfl, fun k hk => ?_, fun k hk => ?_, fun z z0 z1 hz => ?_⟩⟩
  · unfold blurF; dsimp only; omega
  · unfold blurF; dsimp only; omega
  · unfold blurF; simp only [Int.toNat_natCast]; exact drop_and h0
  · unfold blurF at hk; simp only [Int.toNat_natCast, dropB_bit, Bool.and_eq_true] at hk; exact hk.1
  · unfold blurF at hk; simp only [Int.toNat_natCast, dropB_bit, Bool.and_eq_true] at hk; exact hk.1
  · refine (near_iff va hn z).2 ⟨z, z0, z1, hz, ?_⟩
    unfold apartF aheadF angF
    omega
end Go.Proofs.Ds
