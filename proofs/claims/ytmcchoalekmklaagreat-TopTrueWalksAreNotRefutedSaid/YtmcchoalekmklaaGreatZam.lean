/-
  Contracts of functions, proved by going through their code. No conditions.
-/
import Derived.Test.YtmcchoalekmklaaGreatProg
import Derived.KernelRfl
import Derived.Test.YtmcchoalekmklaaGreatZab
import Derived.Test.YtmcchoalekmklaaGreatZaf
import Derived.Test.YtmcchoalekmklaaGreatZai
import Derived.Test.YtmcchoalekmklaaGreatZaj
import Derived.Test.YtmcchoalekmklaaGreatZal
set_option linter.unusedVariables false
set_option linter.unusedSimpArgs false
namespace Go.Proofs.Ds
theorem piecesF_arcS {s : Span} (h : s.hi ≤ 43199) : piecesF (arcS s) = [s] := by
  obtain ⟨lo, hi⟩ := s
  unfold piecesF arcS
  dsimp only at h ⊢
  rw [if_pos (by omega)]
  have : lo + (hi - lo) = hi := by omega
  rw [this]
theorem arcS_valid {s : Span} (h0 : 0 ≤ s.lo) (h1 : s.lo ≤ s.hi) (h2 : s.hi ≤ 43199) : validA (arcS s) = true :=
  validA_iff.2 ⟨h0, by unfold arcS; dsimp only; omega, by unfold arcS; dsimp only; omega, by unfold arcS; dsimp only; omega, by unfold arcS; dsimp only; omega⟩
theorem bumpF_spec {h : Int} (hh : 0 ≤ h) : ∀ l : List Span, l ≠ [] → canon l → inC l → (∀ s ∈ l, h + 1 < s.lo) → (l.getD (l.length - 1) default).hi = 43199 →
    (∀ x ∈ bumpF h l, validA x = true) ∧ ∀ x, memS x (piecesL (bumpF h l)) ↔ memS x l ∨ (0 ≤ x ∧ x ≤ h)
  | [], hn, _, _, _, _ => absurd rfl hn
  | [s], _, hc, hi, hs, hl => by
    have h1 := hs s (by simp)
    have h2 : s.hi = 43199 := hl
    have h3 := (canon_cons.1 hc).1
    refine ⟨fun x hx => ?_, fun x => ?_⟩
    · simp [bumpF] at hx
      subst hx
      exact validA_iff.2 ⟨by dsimp only; omega, by dsimp only; omega, by dsimp only; omega, by dsimp only; omega, .inl (by dsimp only; omega)⟩
    · have e : piecesL (bumpF h [s]) = [⟨s.lo, 43199⟩, ⟨0, h⟩] := by
        unfold piecesL bumpF piecesF
        simp only [List.flatMap_cons, List.flatMap_nil, List.append_nil]
        rw [if_neg (by omega)]
        have : s.lo + (s.hi - s.lo + 1 + h) - 43200 = h := by omega
        rw [this]
      rw [e, memS_cons, memS_cons, memS_cons]
      dsimp only
      rw [h2]
      constructor
      · rintro (g | g | g)
        · exact .inl (.inl g)
        · exact .inr g
        · exact absurd g memS_nil
      · rintro ((g | g) | g)
        · exact .inl g
        · exact absurd g memS_nil
        · exact .inr (.inl g)
  | s :: t :: l, _, hc, hi, hs, hl => by
    obtain ⟨c1, c2, c3⟩ := canon_cons.1 hc
    obtain ⟨h1, h2⟩ := bumpF_spec hh (t :: l) (by simp) c3 (fun u hu => hi u (by simp [hu])) (fun u hu => hs u (by simp [hu])) (by simpa using hl)
    have hsi := hi s (by simp)
    refine ⟨fun x hx => ?_, fun x => ?_⟩
    · rw [bumpF] at hx
      rcases List.mem_cons.1 hx with rfl | hx
      · exact arcS_valid hsi.1 c1 hsi.2
      · exact h1 x hx
    · have e : piecesL (bumpF h (s :: t :: l)) = s :: piecesL (bumpF h (t :: l)) := by
        unfold piecesL
        rw [bumpF, List.flatMap_cons, piecesF_arcS hsi.2]; rfl
      rw [e, memS_cons, h2, memS_cons (s := s)]
      constructor
      · rintro (g | g | g)
        · exact .inl (.inl g)
        · exact .inl (.inr g)
        · exact .inr g
      · rintro ((g | g) | g)
        · exact .inl g
        · exact .inr (.inl g)
        · exact .inr (.inr g)
theorem piecesL_map : ∀ {l : List Span}, inC l → piecesL (l.map arcS) = l
  | [], _ => rfl
  | s :: l, h => by
    unfold piecesL
    rw [List.map_cons, List.flatMap_cons, piecesF_arcS (h s (by simp)).2]
    have := piecesL_map (l := l) fun t ht => h t (by simp [ht])
    unfold piecesL at this
    rw [this]; rfl
theorem arcsF_spec {l : List Span} (hc : canon l) (hi : inC l) : (∀ x ∈ arcsF l, validA x = true) ∧ ∀ x, memS x (piecesL (arcsF l)) ↔ memS x l := by
  unfold arcsF
  by_cases e : around l = true
  · rw [if_pos e]
    unfold around at e
    simp only [Bool.and_eq_true, decide_eq_true_eq] at e
    obtain ⟨⟨e1, e2⟩, e3⟩ := e
    match l, e1, e2, e3, hc, hi with
    | s :: t :: l, _, e2, e3, hc, hi =>
      have e2' : s.lo = 0 := e2
      obtain ⟨c1, c2, c3⟩ := canon_cons.1 hc
      have hs0 : (s :: t :: l).getD 0 default = s := rfl
      rw [hs0]
      obtain ⟨h1, h2⟩ := bumpF_spec (h := s.hi) (by omega) (t :: l) (by simp) c3 (fun u hu => hi u (by simp [hu])) c2 (by simpa using e3)
      refine ⟨h1, fun x => ?_⟩
      show memS x (piecesL (bumpF s.hi (t :: l))) ↔ _
      rw [h2, memS_cons (s := s), e2']
      exact Or.comm
  · rw [if_neg e]
    refine ⟨fun x hx => ?_, fun x => by rw [piecesL_map hi]⟩
    obtain ⟨s, hs, rfl⟩ := List.mem_map.1 hx
    exact arcS_valid (hi s hs).1 (hc.2 s hs) (hi s hs).2
theorem spans_arcs {l : List Span} (hc : canon l) (hi : inC l) : spansS (arcsF l) = l := by
  obtain ⟨h1, h2⟩ := arcsF_spec hc hi
  obtain ⟨g1, _, g3⟩ := spans_spec h1
  exact canon_ext g1 hc fun x => by rw [g3, h2]
theorem hasF_iff {x : Arc} (h : validA x = true) (a : Int) : hasF x a = true ↔ memS (angF a) (piecesF x) := by
  obtain ⟨h1, h2, h3, h4, h5⟩ := validA_iff.1 h
  unfold hasF
  rw [h, Bool.true_and, decide_eq_true_iff]
  have ha := angF_bd a
  have hf : angF x.from_ = x.from_ := by unfold angF; omega
  have hah : aheadF x.from_ a = if x.from_ ≤ angF a then angF a - x.from_ else angF a - x.from_ + 43200 := by
    unfold aheadF
    rw [hf]
    unfold angF at ha ⊢
    split <;> omega
  rw [hah]
  unfold piecesF
  by_cases e : x.from_ + x.len < 43200
  · rw [if_pos e, memS_cons]
    constructor
    · intro g; left; dsimp only; split at g <;> omega
    · rintro (g | g)
      · dsimp only at g; rw [if_pos g.1]; omega
      · exact absurd g memS_nil
  · rw [if_neg e, memS_cons, memS_cons]
    constructor
    · intro g
      dsimp only
      split at g
      · left; omega
      · right; left; omega
    · rintro (g | g | g)
      · dsimp only at g; rw [if_pos g.1]; omega
      · dsimp only at g
        split <;> omega
      · exact absurd g memS_nil
end Go.Proofs.Ds

namespace Go.Proofs.Ds
open Go
theorem wrapN0 {n : Int} (h : -9223372036854775808 ≤ n ∧ n < 9223372036854775808) : IntKind.wrap .i64 n = n := by
  have e : IntKind.wrap .i64 n = if n % 18446744073709551616 ≥ 9223372036854775808 then n % 18446744073709551616 - 18446744073709551616 else n % 18446744073709551616 := by
    simp [IntKind.wrap, IntKind.signed, IntKind.bits]
  rw [e]; split <;> omega
def dropB (p q : Nat) : Nat := p &&& (p ^^^ q)
theorem dropB_bit (p q k : Nat) : (dropB p q).testBit k = (p.testBit k && !q.testBit k) := by
  unfold dropB
  rw [Nat.testBit_and, Nat.testBit_xor]
  cases p.testBit k <;> cases q.testBit k <;> rfl
theorem dropB_le (p q : Nat) : dropB p q ≤ p := Nat.and_le_left
theorem ofInt_nat (p : Nat) : BitVec.ofInt 64 (p : Int) = BitVec.ofNat 64 p := BitVec.ofInt_natCast 64 p
theorem toNat_ofNat64 {p : Nat} (h : p < 18446744073709551616) : (BitVec.ofNat 64 p).toNat = p := by
  rw [BitVec.toNat_ofNat]; exact Nat.mod_eq_of_lt h
theorem andB {p q : Nat} (hp : p < 4611686018427387904) (hq : q < 4611686018427387904) : IntKind.wrap .i64 ((BitVec.ofInt 64 (p : Int) &&& BitVec.ofInt 64 (q : Int)).toNat : Int) = ((p &&& q : Nat) : Int) := by
  rw [ofInt_nat, ofInt_nat, BitVec.toNat_and, toNat_ofNat64 (by omega), toNat_ofNat64 (by omega)]
  have := Nat.and_le_left (n := p) (m := q)
  exact wrapN0 (by omega)
theorem orB {p q : Nat} (hp : p < 4611686018427387904) (hq : q < 4611686018427387904) : IntKind.wrap .i64 ((BitVec.ofInt 64 (p : Int) ||| BitVec.ofInt 64 (q : Int)).toNat : Int) = ((p ||| q : Nat) : Int) := by
  rw [ofInt_nat, ofInt_nat, BitVec.toNat_or, toNat_ofNat64 (by omega), toNat_ofNat64 (by omega)]
  have := Nat.or_lt_two_pow (n := 62) (x := p) (y := q) (by omega) (by omega)
  exact wrapN0 (by omega)
theorem andNotB {p q : Nat} (hp : p < 4611686018427387904) (hq : q < 4611686018427387904) : IntKind.wrap .i64 ((BitVec.ofInt 64 (p : Int) &&& ~~~ BitVec.ofInt 64 (q : Int)).toNat : Int) = ((dropB p q : Nat) : Int) := by
  have e : (BitVec.ofInt 64 (p : Int) &&& ~~~ BitVec.ofInt 64 (q : Int)).toNat = dropB p q := by
    rw [ofInt_nat, ofInt_nat]
    apply Nat.eq_of_testBit_eq
    intro i
    rw [dropB_bit]
    by_cases hi : i < 64
    · rw [BitVec.testBit_toNat, BitVec.getLsbD_and, BitVec.getLsbD_not]
      simp only [hi, decide_true, Bool.true_and]
      rw [BitVec.getLsbD_ofNat, BitVec.getLsbD_ofNat]
      simp [hi]
    · rw [BitVec.testBit_toNat, BitVec.getLsbD_of_ge _ _ (by omega)]
      have : p.testBit i = false := Nat.testBit_lt_two_pow (Nat.lt_of_lt_of_le (by omega : p < 2 ^ 62) (Nat.pow_le_pow_right (by decide) (by omega)))
      rw [this]; rfl
  rw [e]
  have := dropB_le p q
  exact wrapN0 (by omega)
theorem bitB {p : Nat} (hp : p < 4611686018427387904) (k : Nat) (hk : k < 64) : IntKind.wrap .i64 ((BitVec.ofInt 64 ((p : Int).fdiv (2 ^ (min k 64))) &&& BitVec.ofInt 64 1).toNat : Int) = ((p >>> k &&& 1 : Nat) : Int) := by
  have e : (p : Int).fdiv (2 ^ (min k 64)) = ((p >>> k : Nat) : Int) := by
    rw [Nat.min_eq_left (by omega), Nat.shiftRight_eq_div_pow, Int.fdiv_eq_ediv_of_nonneg _ (by exact_mod_cast Nat.zero_le _)]
    norm_cast
  have h1 : p >>> k ≤ p := Nat.shiftRight_le _ _
  rw [e]
  exact andB (q := 1) (by omega) (by decide)
def cntK (p : Nat) : Nat → Nat
  | 0 => 0
  | k + 1 => cntK p k + (if p.testBit k = true then 1 else 0)
def cntF (p : Nat) : Nat := cntK p 12
theorem bit_eq (p k : Nat) : (p >>> k &&& 1 : Nat) = if p.testBit k = true then 1 else 0 := by
  rw [Nat.testBit_eq_decide_div_mod_eq, Nat.shiftRight_eq_div_pow, Nat.and_one_is_mod]
  rcases Nat.mod_two_eq_zero_or_one (p / 2 ^ k) with h | h <;> simp [h]
theorem cntK_le (p : Nat) : ∀ k, cntK p k ≤ k
  | 0 => Nat.le_refl _
  | k + 1 => by
    have := cntK_le p k
    unfold cntK
    split <;> omega
end Go.Proofs.Ds

namespace Go.Proofs.Ds
open Go
theorem and_lt {p q : Nat} (h : p < 4096) : p &&& q < 4096 := Nat.lt_of_le_of_lt Nat.and_le_left h
theorem drop_lt {p q : Nat} (h : p < 4096) : dropB p q < 4096 := Nat.lt_of_le_of_lt (dropB_le p q) h
end Go.Proofs.Ds

namespace Go.Proofs.Ds
theorem near_iff {x : Arc} (hv : validA x = true) {n : Int} (hn : 0 ≤ n) (a : Int) :
    hasF (wideF x n) a = true ↔ ∃ p, 0 ≤ p ∧ p ≤ 43199 ∧ hasF x p = true ∧ apartF p a ≤ n := by
  have hw := wide_valid hv hn
  obtain ⟨h1, h2, h3, h4, h5⟩ := validA_iff.1 hv
  have ha := angF_bd a
  unfold hasF
  rw [hw, hv]
  simp only [Bool.true_and, decide_eq_true_eq]
  constructor
  · intro h
    by_cases g : aheadF x.from_ a ≤ x.len
    · refine ⟨angF a, ha.1, by omega, ?_, ?_⟩
      · unfold aheadF angF at g ⊢; omega
      · unfold apartF aheadF angF; omega
    · by_cases g2 : aheadF a x.from_ ≤ n
      · refine ⟨x.from_, h1, by omega, ?_, ?_⟩
        · unfold aheadF angF; omega
        · unfold apartF; unfold aheadF angF at g2 ⊢; omega
      · refine ⟨angF (x.from_ + x.len), (angF_bd _).1, by have := angF_bd (x.from_ + x.len); omega, ?_, ?_⟩
        · unfold aheadF angF; omega
        · unfold wideF at h
          split at h
          · unfold apartF; unfold aheadF angF at g g2 ⊢; dsimp only at h; omega
          · unfold apartF; unfold aheadF angF at h g g2 ⊢; dsimp only at h; omega
  · rintro ⟨p, p1, p2, p3, p4⟩
    unfold wideF
    split
    · dsimp only; unfold aheadF angF; omega
    · dsimp only
      unfold apartF at p4
      unfold aheadF angF at p3 p4 ⊢
      omega
def nearS (l : List Span) (n z : Int) : Prop := ∃ p, memS p l ∧ apartF p z ≤ n
theorem has_mem {x : Arc} (hv : validA x = true) {p : Int} (h0 : 0 ≤ p) (h1 : p ≤ 43199) : hasF x p = true ↔ memS p (piecesF x) := by
  have := hasF_iff hv p
  rwa [show angF p = p by unfold angF; omega] at this
theorem grow_mem {l : List Arc} (hv : ∀ x ∈ l, validA x = true) {n : Int} (hn : 0 ≤ n) (z : Int) (hz : 0 ≤ z ∧ z ≤ 43199) :
    memS z (spansS (l.map fun x => wideF x n)) ↔ nearS (spansS l) n z := by
  have hw : ∀ x ∈ l.map (fun x => wideF x n), validA x = true := fun x hx => by
    obtain ⟨y, hy, rfl⟩ := List.mem_map.1 hx
    exact wide_valid (hv y hy) hn
  rw [(spans_spec hw).2.2]
  unfold nearS
  constructor
  · rintro ⟨s, hs, k⟩
    obtain ⟨y, hy, hs⟩ := List.mem_flatMap.1 hs
    obtain ⟨x, hx, rfl⟩ := List.mem_map.1 hy
    obtain ⟨p, p1, p2, p3, p4⟩ := (near_iff (hv x hx) hn z).1 ((has_mem (wide_valid (hv x hx) hn) hz.1 hz.2).2 ⟨s, hs, k⟩)
    refine ⟨p, ?_, p4⟩
    rw [(spans_spec hv).2.2]
    obtain ⟨t, ht, kt⟩ := (has_mem (hv x hx) p1 p2).1 p3
    exact ⟨t, List.mem_flatMap.2 ⟨x, hx, ht⟩, kt⟩
  · rintro ⟨p, hp, p4⟩
    have hb := mem_inC (spans_spec hv).2.1 hp
    rw [(spans_spec hv).2.2] at hp
    obtain ⟨t, ht, kt⟩ := hp
    obtain ⟨x, hx, ht⟩ := List.mem_flatMap.1 ht
    obtain ⟨s, hs, k⟩ := (has_mem (wide_valid (hv x hx) hn) hz.1 hz.2).1 ((near_iff (hv x hx) hn z).2 ⟨p, hb.1, hb.2, (has_mem (hv x hx) hb.1 hb.2).2 ⟨t, ht, kt⟩, p4⟩)
    exact ⟨s, List.mem_flatMap.2 ⟨_, List.mem_map.2 ⟨x, hx, rfl⟩, hs⟩, k⟩
theorem apart_mid {p z x y : Int} (hx : 0 ≤ x) (hy : 0 ≤ y) (h : apartF p z ≤ x + y) : ∃ q, 0 ≤ q ∧ q ≤ 43199 ∧ apartF p q ≤ x ∧ apartF q z ≤ y := by
  unfold apartF at h ⊢
  by_cases g : aheadF p z ≤ x + y
  · by_cases g2 : aheadF p z ≤ x
    · refine ⟨angF z, (angF_bd z).1, by have := angF_bd z; omega, ?_, ?_⟩ <;> unfold aheadF angF at * <;> omega
    · refine ⟨angF (p + x), (angF_bd _).1, by have := angF_bd (p + x); omega, ?_, ?_⟩ <;> unfold aheadF angF at * <;> omega
  · by_cases g2 : aheadF z p ≤ x
    · refine ⟨angF z, (angF_bd z).1, by have := angF_bd z; omega, ?_, ?_⟩ <;> unfold aheadF angF at * <;> omega
    · refine ⟨angF (p - x), (angF_bd _).1, by have := angF_bd (p - x); omega, ?_, ?_⟩ <;> unfold aheadF angF at * <;> omega
theorem apart_tri {p q z x y : Int} (h1 : apartF p q ≤ x) (h2 : apartF q z ≤ y) : apartF p z ≤ x + y := by
  unfold apartF aheadF angF at *
  omega
theorem grow_grow {l : List Arc} (hv : ∀ x ∈ l, validA x = true) {n m : Int} (hn : 0 ≤ n) (hm : 0 ≤ m) :
    spansS ((arcsF (spansS (l.map fun x => wideF x n))).map fun x => wideF x m) = spansS (l.map fun x => wideF x (n + m)) := by
  have hw : ∀ k, 0 ≤ k → ∀ {l : List Arc}, (∀ x ∈ l, validA x = true) → ∀ x ∈ l.map (fun x => wideF x k), validA x = true := fun k hk l hv x hx => by
    obtain ⟨y, hy, rfl⟩ := List.mem_map.1 hx
    exact wide_valid (hv y hy) hk
  obtain ⟨s1, s2, _⟩ := spans_spec (hw n hn hv)
  have hav := (arcsF_spec s1 s2).1
  obtain ⟨t1, t2, _⟩ := spans_spec (hw m hm hav)
  obtain ⟨u1, u2, _⟩ := spans_spec (hw (n + m) (by omega) hv)
  refine canon_ext t1 u1 fun z => ?_
  by_cases hz : 0 ≤ z ∧ z ≤ 43199
  rotate_left
  · exact ⟨fun h => absurd (mem_inC t2 h) hz, fun h => absurd (mem_inC u2 h) hz⟩
  rw [grow_mem hav hm z hz, grow_mem hv (by omega) z hz, spans_arcs s1 s2]
  unfold nearS
  constructor
  · rintro ⟨q, hq, h2⟩
    obtain ⟨p, hp, h1⟩ := (grow_mem hv hn q (mem_inC s2 hq)).1 hq
    exact ⟨p, hp, apart_tri h1 h2⟩
  · rintro ⟨p, hp, h⟩
    obtain ⟨q, q1, q2, q3, q4⟩ := apart_mid hn hm h
    exact ⟨q, (grow_mem hv hn q ⟨q1, q2⟩).2 ⟨p, hp, q3⟩, q4⟩
end Go.Proofs.Ds

set_option maxRecDepth 100000
namespace Go.Proofs.Ds
open Go
def and64 (a b : Int) : Int := IntKind.wrap .u64 ((BitVec.ofInt (IntKind.bits .u64) a &&& BitVec.ofInt (IntKind.bits .u64) b).toNat : Int)
def shr64 (a : Int) (k : Nat) : Int := a.fdiv (2 ^ (min k (IntKind.bits .u64)))
def add64 (a b : Int) : Int := IntKind.wrap .u64 (a + b)
def ones1 (x : Int) : Int := add64 (and64 (shr64 x 1) 6148914691236517205) (and64 x 6148914691236517205)
def ones2 (x : Int) : Int := add64 (and64 (shr64 x 2) 3689348814741910323) (and64 x 3689348814741910323)
def ones3 (x : Int) : Int := and64 (add64 (shr64 x 4) x) 1085102592571150095
def ones4 (x : Int) : Int := add64 x (shr64 x 8)
def ones5 (x : Int) : Int := add64 x (shr64 x 16)
def ones6 (x : Int) : Int := add64 x (shr64 x 32)
def ones (x : Int) : Int := IntKind.wrap .i64 ((BitVec.ofInt (IntKind.bits .i64) (IntKind.wrap .i64 (ones6 (ones5 (ones4 (ones3 (ones2 (ones1 x))))))) &&& BitVec.ofInt (IntKind.bits .i64) 127).toNat : Int)
theorem ones_all : ∀ p : Fin 4096, ones ((p.val : Nat) : Int) = ((cntF p.val : Nat) : Int) := by decide +kernel
end Go.Proofs.Ds

namespace Go.Proofs.Ks
def NodesIn (p : List Lk) (m : Nat) : Prop := ∀ x ∈ p.dropLast.map (·.b), x < m
def FR (L : List Lk) (n : Nat) (o : Mx) (m : Nat) : Prop := ∀ i k, i < n → k < n → mget o i k < far → ∃ p, Wk L i p k ∧ lenW p = mget o i k ∧ NodesIn p m
def Dim (o : Mx) (n : Nat) : Prop := o.length = n ∧ ∀ i, i < n → (o.getD i []).length = n
section
variable {L : List Lk} {n : Nat} {B : Int}
structure FS (L : List Lk) (n : Nat) (o : Mx) (m : Nat) : Prop where
  fw : FW L n o m
  fr : FR L n o m
  diag : ∀ i, i < n → 0 ≤ mget o i i
structure Mid (n m : Nat) (o0 o : Mx) : Prop where
  dim : Dim o n
  each : ∀ x y, x < n → y < n → mget o x y = mget o0 x y ∨ (mget o x y = mget o0 x m + mget o0 m y ∧ mget o0 x m < far ∧ mget o0 m y < far)
  col : ∀ x, x < n → mget o x m = mget o0 x m
  row : ∀ y, y < n → mget o m y = mget o0 m y
structure FL (L : List Lk) (n : Nat) (o : Mx) : Prop where
  dim : Dim o n
  each : ∀ i k, i < n → k < n → (mget o i k = far ∧ i ≠ k) ∨ (mget o i k = 0 ∧ i = k) ∨ ∃ l ∈ L, l.a = i ∧ l.b = k ∧ mget o i k = l.m ∧ i ≠ k
end
end Go.Proofs.Ks

namespace Go.Proofs.Yt
open Go Go.Pg Go.Proofs
def T : TypeId → Option Ty
  | 2 => some { size := 1, bytes := 8, zero := [.v (.int .i64 0)], d := .int .i64 }
  | 3 => some { size := 1, bytes := 8, zero := [.v (.int .i64 0)], d := .int .i64 }
  | 4 => some { size := 1, bytes := 1, zero := [.v (.bool false)], d := .bool }
  | 5 => some { size := 1, bytes := 1, zero := [.v (.int .u8 0)], d := .int .u8 }
  | 9 => some { size := 1, bytes := 16, zero := [.v (.string ByteArray.empty)], d := .str }
  | 22 => some { size := 1, bytes := 24, zero := [.v (.slice none 0 0)], d := .slice 91 }
  | 23 => some { size := 1, bytes := 24, zero := [.v (.slice none 0 0)], d := .slice 129 }
  | 24 => some { size := 1, bytes := 24, zero := [.v (.slice none 0 0)], d := .slice 93 }
  | 26 => some { size := 3, bytes := 72, zero := [.v (.slice none 0 0), .v (.slice none 0 0), .v (.slice none 0 0)], d := .st [(0, 22), (1, 23), (2, 24)] }
  | 27 => some { size := 1, bytes := 24, zero := [.v (.slice none 0 0)], d := .slice 68 }
  | 29 => some { size := 2, bytes := 16, zero := [.v (.int .i64 0), .v (.int .i64 0)], d := .st [(0, 3), (1, 3)] }
  | 30 => some { size := 1, bytes := 24, zero := [.v (.slice none 0 0)], d := .slice 89 }
  | 32 => some { size := 12, bytes := 112, zero := [.v (.int .i64 0), .v (.int .i64 0), .v (.int .i64 0), .v (.int .i64 0), .v (.int .i64 0), .v (.int .i64 0), .v (.int .i64 0), .v (.int .i64 0), .v (.int .i64 0), .v (.int .i64 0), .v (.int .i64 0), .v (.slice none 0 0)], d := .st [(0, 3), (1, 29), (3, 29), (5, 29), (7, 29), (9, 29), (11, 30)] }
  | 33 => some { size := 1, bytes := 24, zero := [.v (.slice none 0 0)], d := .slice 87 }
  | 35 => some { size := 3, bytes := 40, zero := [.v (.int .i64 0), .v (.int .i64 0), .v (.slice none 0 0)], d := .st [(0, 3), (1, 3), (2, 33)] }
  | 36 => some { size := 1, bytes := 24, zero := [.v (.slice none 0 0)], d := .slice 64 }
  | 38 => some { size := 3, bytes := 24, zero := [.v (.int .i64 0), .v (.int .i64 0), .v (.int .i64 0)], d := .st [(0, 3), (1, 3), (2, 3)] }
  | 39 => some { size := 1, bytes := 24, zero := [.v (.slice none 0 0)], d := .slice 60 }
  | 40 => some { size := 1, bytes := 24, zero := [.v (.slice none 0 0)], d := .slice 3 }
  | 41 => some { size := 1, bytes := 8, zero := [.v (.int .i64 0)], d := .int .i64 }
  | 44 => some { size := 1, bytes := 24, zero := [.v (.slice none 0 0)], d := .slice 66 }
  | 47 => some { size := 1, bytes := 24, zero := [.v (.slice none 0 0)], d := .slice 70 }
  | 48 => some { size := 1, bytes := 24, zero := [.v (.slice none 0 0)], d := .slice 124 }
  | 50 => some { size := 14, bytes := 160, zero := [.v (.int .i64 0), .v (.int .i64 0), .v (.int .i64 0), .v (.int .i64 0), .v (.int .i64 0), .v (.int .i64 0), .v (.int .i64 0), .v (.int .i64 0), .v (.int .i64 0), .v (.int .i64 0), .v (.int .i64 0), .v (.slice none 0 0), .v (.slice none 0 0), .v (.slice none 0 0)], d := .st [(0, 32), (12, 47), (13, 48)] }
  | 52 => some { size := 2, bytes := 16, zero := [.v (.int .i64 0), .v (.int .i64 0)], d := .st [(0, 3), (1, 3)] }
  | 54 => some { size := 5, bytes := 40, zero := [.v (.int .i64 0), .v (.int .i64 0), .v (.int .i64 0), .v (.int .i64 0), .v (.int .i64 0)], d := .st [(0, 52), (2, 3), (3, 3), (4, 3)] }
  | 58 => some { size := 3, bytes := 24, zero := [.v (.int .i64 0), .v (.int .i64 0), .v (.int .i64 0)], d := .st [(0, 3), (1, 3), (2, 3)] }
  | 60 => some { size := 7, bytes := 56, zero := [.v (.int .i64 0), .v (.int .i64 0), .v (.int .i64 0), .v (.int .i64 0), .v (.int .i64 0), .v (.int .i64 0), .v (.int .i64 0)], d := .st [(0, 3), (1, 3), (2, 58), (5, 3), (6, 3)] }
  | 64 => some { size := 3, bytes := 24, zero := [.v (.int .i64 0), .v (.int .i64 0), .v (.int .i64 0)], d := .st [(0, 3), (1, 3), (2, 3)] }
  | 66 => some { size := 2, bytes := 16, zero := [.v (.int .i64 0), .v (.int .i64 0)], d := .st [(0, 3), (1, 3)] }
  | 68 => some { size := 3, bytes := 24, zero := [.v (.int .i64 0), .v (.bool false), .v (.int .i64 0)], d := .st [(0, 3), (1, 4), (2, 3)] }
  | 70 => some { size := 3, bytes := 24, zero := [.v (.int .i64 0), .v (.int .i64 0), .v (.int .i64 0)], d := .st [(0, 3), (1, 29)] }
  | 71 => some { size := 1, bytes := 24, zero := [.v (.slice none 0 0)], d := .slice 29 }
  | 85 => some { size := 1, bytes := 8, zero := [.v (.map none)], d := .map 3 3 }
  | 87 => some { size := 2, bytes := 16, zero := [.v (.int .i64 0), .v (.int .i64 0)], d := .st [(0, 3), (1, 3)] }
  | 89 => some { size := 3, bytes := 24, zero := [.v (.int .i64 0), .v (.int .i64 0), .v (.int .i64 0)], d := .st [(0, 3), (1, 29)] }
  | 91 => some { size := 2, bytes := 24, zero := [.v (.string ByteArray.empty), .v (.int .i64 0)], d := .st [(0, 9), (1, 3)] }
  | 93 => some { size := 5, bytes := 40, zero := [.v (.int .i64 0), .v (.int .i64 0), .v (.int .i64 0), .v (.int .i64 0), .v (.int .i64 0)], d := .st [(0, 3), (1, 3), (2, 3), (3, 3), (4, 3)] }
  | 102 => some { size := 1, bytes := 24, zero := [.v (.slice none 0 0)], d := .slice 52 }
  | 106 => some { size := 1, bytes := 8, zero := [.v (.pointer none)], d := .other }
  | 112 => some { size := 1, bytes := 24, zero := [.v (.slice none 0 0)], d := .slice 117 }
  | 117 => some { size := 6, bytes := 48, zero := [.v (.int .i64 0), .v (.bool false), .v (.int .i64 0), .v (.int .i64 0), .v (.int .i64 0), .v (.int .i64 0)], d := .st [(0, 3), (1, 4), (2, 3), (3, 3), (4, 3), (5, 3)] }
  | 121 => some { size := 1, bytes := 8, zero := [.v (.map none)], d := .map 3 4 }
  | 124 => some { size := 3, bytes := 24, zero := [.v (.int .i64 0), .v (.int .i64 0), .v (.int .i64 0)], d := .st [(0, 3), (1, 29)] }
  | 129 => some { size := 2, bytes := 48, zero := [.v (.slice none 0 0), .v (.slice none 0 0)], d := .st [(0, 71), (1, 71)] }
  | 141 => some { size := 1, bytes := 24, zero := [.v (.slice none 0 0)], d := .slice 147 }
  | 142 => some { size := 1, bytes := 8, zero := [.v (.map none)], d := .map 147 3 }
  | 143 => some { size := 1, bytes := 24, zero := [.v (.slice none 0 0)], d := .slice 171 }
  | 145 => some { size := 3, bytes := 56, zero := [.v (.slice none 0 0), .v (.map none), .v (.slice none 0 0)], d := .st [(0, 141), (1, 142), (2, 143)] }
  | 147 => some { size := 2, bytes := 16, zero := [.v (.int .i64 0), .v (.int .i64 0)], d := .st [(0, 3), (1, 3)] }
  | 161 => some { size := 2, bytes := 48, zero := [.v (.slice none 0 0), .v (.slice none 0 0)], d := .arr 2 102 }
  | 171 => some { size := 3, bytes := 24, zero := [.v (.int .i64 0), .v (.int .i64 0), .v (.int .i64 0)], d := .st [(0, 3), (1, 3), (2, 3)] }
  | 172 => some { size := 1, bytes := 8, zero := [.v (.map none)], d := .map 9 4 }
  | 175 => some { size := 2, bytes := 16, zero := [.v (.int .i64 0), .v (.int .i64 0)], d := .arr 2 3 }
  | 177 => some { size := 1, bytes := 8, zero := [.v (.int .u64 0)], d := .int .u64 }
  | 192 => some { size := 1, bytes := 4, zero := [.v (.int .u32 0)], d := .int .u32 }
  | 194 => some { size := 1, bytes := 8, zero := [.v (.int .u64 0)], d := .int .u64 }
  | 234 => some { size := 1, bytes := 8, zero := [.v (.pointer none)], d := .other }
  | _ => none
theorem T_ok : TyOK Tryz.prog T := by
  intro t ty h
  unfold T at h
  split at h
  · injection h with h; subst h; exact ⟨by kernel_rfl, by kernel_rfl, by kernel_rfl, by kernel_rfl, by kernel_rfl⟩
  · injection h with h; subst h; exact ⟨by kernel_rfl, by kernel_rfl, by kernel_rfl, by kernel_rfl, by kernel_rfl⟩
  · injection h with h; subst h; exact ⟨by kernel_rfl, by kernel_rfl, by kernel_rfl, by kernel_rfl, by kernel_rfl⟩
  · injection h with h; subst h; exact ⟨by kernel_rfl, by kernel_rfl, by kernel_rfl, by kernel_rfl, by kernel_rfl⟩
  · injection h with h; subst h; exact ⟨by kernel_rfl, by kernel_rfl, by kernel_rfl, by kernel_rfl, by kernel_rfl⟩
  · injection h with h; subst h; exact ⟨by kernel_rfl, by kernel_rfl, by kernel_rfl, by kernel_rfl, by kernel_rfl⟩
  · injection h with h; subst h; exact ⟨by kernel_rfl, by kernel_rfl, by kernel_rfl, by kernel_rfl, by kernel_rfl⟩
  · injection h with h; subst h; exact ⟨by kernel_rfl, by kernel_rfl, by kernel_rfl, by kernel_rfl, by kernel_rfl⟩
  · injection h with h; subst h; exact ⟨by kernel_rfl, by kernel_rfl, by kernel_rfl, by kernel_rfl, by kernel_rfl⟩
  · injection h with h; subst h; exact ⟨by kernel_rfl, by kernel_rfl, by kernel_rfl, by kernel_rfl, by kernel_rfl⟩
  · injection h with h; subst h; exact ⟨by kernel_rfl, by kernel_rfl, by kernel_rfl, by kernel_rfl, by kernel_rfl⟩
  · injection h with h; subst h; exact ⟨by kernel_rfl, by kernel_rfl, by kernel_rfl, by kernel_rfl, by kernel_rfl⟩
  · injection h with h; subst h; exact ⟨by kernel_rfl, by kernel_rfl, by kernel_rfl, by kernel_rfl, by kernel_rfl⟩
  · injection h with h; subst h; exact ⟨by kernel_rfl, by kernel_rfl, by kernel_rfl, by kernel_rfl, by kernel_rfl⟩
  · injection h with h; subst h; exact ⟨by kernel_rfl, by kernel_rfl, by kernel_rfl, by kernel_rfl, by kernel_rfl⟩
  · injection h with h; subst h; exact ⟨by kernel_rfl, by kernel_rfl, by kernel_rfl, by kernel_rfl, by kernel_rfl⟩
  · injection h with h; subst h; exact ⟨by kernel_rfl, by kernel_rfl, by kernel_rfl, by kernel_rfl, by kernel_rfl⟩
  · injection h with h; subst h; exact ⟨by kernel_rfl, by kernel_rfl, by kernel_rfl, by kernel_rfl, by kernel_rfl⟩
  · injection h with h; subst h; exact ⟨by kernel_rfl, by kernel_rfl, by kernel_rfl, by kernel_rfl, by kernel_rfl⟩
  · injection h with h; subst h; exact ⟨by kernel_rfl, by kernel_rfl, by kernel_rfl, by kernel_rfl, by kernel_rfl⟩
  · injection h with h; subst h; exact ⟨by kernel_rfl, by kernel_rfl, by kernel_rfl, by kernel_rfl, by kernel_rfl⟩
  · injection h with h; subst h; exact ⟨by kernel_rfl, by kernel_rfl, by kernel_rfl, by kernel_rfl, by kernel_rfl⟩
  · injection h with h; subst h; exact ⟨by kernel_rfl, by kernel_rfl, by kernel_rfl, by kernel_rfl, by kernel_rfl⟩
  · injection h with h; subst h; exact ⟨by kernel_rfl, by kernel_rfl, by kernel_rfl, by kernel_rfl, by kernel_rfl⟩
  · injection h with h; subst h; exact ⟨by kernel_rfl, by kernel_rfl, by kernel_rfl, by kernel_rfl, by kernel_rfl⟩
  · injection h with h; subst h; exact ⟨by kernel_rfl, by kernel_rfl, by kernel_rfl, by kernel_rfl, by kernel_rfl⟩
  · injection h with h; subst h; exact ⟨by kernel_rfl, by kernel_rfl, by kernel_rfl, by kernel_rfl, by kernel_rfl⟩
  · injection h with h; subst h; exact ⟨by kernel_rfl, by kernel_rfl, by kernel_rfl, by kernel_rfl, by kernel_rfl⟩
  · injection h with h; subst h; exact ⟨by kernel_rfl, by kernel_rfl, by kernel_rfl, by kernel_rfl, by kernel_rfl⟩
  · injection h with h; subst h; exact ⟨by kernel_rfl, by kernel_rfl, by kernel_rfl, by kernel_rfl, by kernel_rfl⟩
  · injection h with h; subst h; exact ⟨by kernel_rfl, by kernel_rfl, by kernel_rfl, by kernel_rfl, by kernel_rfl⟩
  · injection h with h; subst h; exact ⟨by kernel_rfl, by kernel_rfl, by kernel_rfl, by kernel_rfl, by kernel_rfl⟩
  · injection h with h; subst h; exact ⟨by kernel_rfl, by kernel_rfl, by kernel_rfl, by kernel_rfl, by kernel_rfl⟩
  · injection h with h; subst h; exact ⟨by kernel_rfl, by kernel_rfl, by kernel_rfl, by kernel_rfl, by kernel_rfl⟩
  · injection h with h; subst h; exact ⟨by kernel_rfl, by kernel_rfl, by kernel_rfl, by kernel_rfl, by kernel_rfl⟩
  · injection h with h; subst h; exact ⟨by kernel_rfl, by kernel_rfl, by kernel_rfl, by kernel_rfl, by kernel_rfl⟩
  · injection h with h; subst h; exact ⟨by kernel_rfl, by kernel_rfl, by kernel_rfl, by kernel_rfl, by kernel_rfl⟩
  · injection h with h; subst h; exact ⟨by kernel_rfl, by kernel_rfl, by kernel_rfl, by kernel_rfl, by kernel_rfl⟩
  · injection h with h; subst h; exact ⟨by kernel_rfl, by kernel_rfl, by kernel_rfl, by kernel_rfl, by kernel_rfl⟩
  · injection h with h; subst h; exact ⟨by kernel_rfl, by kernel_rfl, by kernel_rfl, by kernel_rfl, by kernel_rfl⟩
  · injection h with h; subst h; exact ⟨by kernel_rfl, by kernel_rfl, by kernel_rfl, by kernel_rfl, by kernel_rfl⟩
  · injection h with h; subst h; exact ⟨by kernel_rfl, by kernel_rfl, by kernel_rfl, by kernel_rfl, by kernel_rfl⟩
  · injection h with h; subst h; exact ⟨by kernel_rfl, by kernel_rfl, by kernel_rfl, by kernel_rfl, by kernel_rfl⟩
  · injection h with h; subst h; exact ⟨by kernel_rfl, by kernel_rfl, by kernel_rfl, by kernel_rfl, by kernel_rfl⟩
  · injection h with h; subst h; exact ⟨by kernel_rfl, by kernel_rfl, by kernel_rfl, by kernel_rfl, by kernel_rfl⟩
  · injection h with h; subst h; exact ⟨by kernel_rfl, by kernel_rfl, by kernel_rfl, by kernel_rfl, by kernel_rfl⟩
  · injection h with h; subst h; exact ⟨by kernel_rfl, by kernel_rfl, by kernel_rfl, by kernel_rfl, by kernel_rfl⟩
  · injection h with h; subst h; exact ⟨by kernel_rfl, by kernel_rfl, by kernel_rfl, by kernel_rfl, by kernel_rfl⟩
  · injection h with h; subst h; exact ⟨by kernel_rfl, by kernel_rfl, by kernel_rfl, by kernel_rfl, by kernel_rfl⟩
  · injection h with h; subst h; exact ⟨by kernel_rfl, by kernel_rfl, by kernel_rfl, by kernel_rfl, by kernel_rfl⟩
  · injection h with h; subst h; exact ⟨by kernel_rfl, by kernel_rfl, by kernel_rfl, by kernel_rfl, by kernel_rfl⟩
  · injection h with h; subst h; exact ⟨by kernel_rfl, by kernel_rfl, by kernel_rfl, by kernel_rfl, by kernel_rfl⟩
  · injection h with h; subst h; exact ⟨by kernel_rfl, by kernel_rfl, by kernel_rfl, by kernel_rfl, by kernel_rfl⟩
  · injection h with h; subst h; exact ⟨by kernel_rfl, by kernel_rfl, by kernel_rfl, by kernel_rfl, by kernel_rfl⟩
  · injection h with h; subst h; exact ⟨by kernel_rfl, by kernel_rfl, by kernel_rfl, by kernel_rfl, by kernel_rfl⟩
  · injection h with h; subst h; exact ⟨by kernel_rfl, by kernel_rfl, by kernel_rfl, by kernel_rfl, by kernel_rfl⟩
  · injection h with h; subst h; exact ⟨by kernel_rfl, by kernel_rfl, by kernel_rfl, by kernel_rfl, by kernel_rfl⟩
  · injection h with h; subst h; exact ⟨by kernel_rfl, by kernel_rfl, by kernel_rfl, by kernel_rfl, by kernel_rfl⟩
  · cases h
def eqT : TypeId → Bool
  | 29 => true
  | 52 => true
  | 66 => true
  | 91 => true
  | 93 => true
  | 147 => true
  | 171 => true
  | _ => false
theorem E29 : EqFact Tryz.prog 29 := ⟨by kernel_rfl, by kernel_rfl, by kernel_rfl⟩
theorem E52 : EqFact Tryz.prog 52 := ⟨by kernel_rfl, by kernel_rfl, by kernel_rfl⟩
theorem E66 : EqFact Tryz.prog 66 := ⟨by kernel_rfl, by kernel_rfl, by kernel_rfl⟩
theorem E91 : EqFact Tryz.prog 91 := ⟨by kernel_rfl, by kernel_rfl, by kernel_rfl⟩
theorem E93 : EqFact Tryz.prog 93 := ⟨by kernel_rfl, by kernel_rfl, by kernel_rfl⟩
theorem E147 : EqFact Tryz.prog 147 := ⟨by kernel_rfl, by kernel_rfl, by kernel_rfl⟩
theorem E171 : EqFact Tryz.prog 171 := ⟨by kernel_rfl, by kernel_rfl, by kernel_rfl⟩
theorem eqT_ok : ∀ t, eqT t = true → EqFact Tryz.prog t := by
  intro t h
  unfold eqT at h
  split at h
  · exact E29
  · exact E52
  · exact E66
  · exact E91
  · exact E93
  · exact E147
  · exact E171
  · cases h
end Go.Proofs.Yt

namespace Go.Proofs.Yt
open Go Go.Pg Go.Proofs
noncomputable def cx : Cx := { P := Tryz.prog, T := T, eqT := eqT, E := fun _ => True }
instance : Cx.Wide cx := ⟨rfl⟩
theorem cx_ok : cx.OK := ⟨T_ok, eqT_ok, fun _ _ _ _ => trivial⟩
theorem cx_mixed : cx.P.follows .mixedOrders = true := rfl
abbrev ai (n : Int) : AV := .v (.int .i64 n)
abbrev ab (b : Bool) : AV := .v (.bool b)
abbrev at_ (b : ByteArray) : AV := .v (.string b)
abbrev jA := @AW.seq
abbrev jB := @AW.region
abbrev jC := @AW.ret
abbrev jD := @AW.block
abbrev jE := @AW.skip
abbrev jF := @AW.exit
abbrev jG := @AW.scope
abbrev jH := @AW.label
abbrev jI := @AWL.nil
abbrev jJ := @D.nil
abbrev jK := @W.step
abbrev jL := @D.step
abbrev jM := @W.store
abbrev jN := @W.gS
abbrev jO := @D.gS
abbrev jP := @W.gU
abbrev jQ := @D.gU
abbrev jR := @AW.cond
abbrev jS := @W.mapUpdate
abbrev jT := @W.append
abbrev jU := @D.append
abbrev jV := @W.callv
abbrev jW := @D.callv
abbrev kO := @cx_ok
end Go.Proofs.Yt
