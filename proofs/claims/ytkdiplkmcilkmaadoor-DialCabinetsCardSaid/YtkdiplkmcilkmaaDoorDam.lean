/-
  Contracts of functions, proved by going through their code. No conditions.
-/
import Derived.Lib.LaidTab
import Derived.Lib.ItoaNum
import Derived.Shelf.Strconv.Itoa3
import Derived.Test.YtkdiplkmcilkmaaDoorDab
import Derived.Test.YtkdiplkmcilkmaaDoorDag
import Derived.Test.YtkdiplkmcilkmaaDoorDak
import Derived.Test.YtkdiplkmcilkmaaDoorDal
set_option linter.unusedVariables false
set_option linter.unusedSimpArgs false
namespace Go.Proofs.Ds
theorem piecesF_arcS {s : Span} (h : s.hi ≤ 43199) : piecesF (arcS s) = [s] := by
  obtain ⟨lo, hi⟩ := s
  unfold piecesF arcS
  dsimp only at h ⊢
  rw [if_pos (by omega)]
  have : lo + (hi - lo) = hi := by omega
  rw [this]
theorem arcS_valid {s : Span} (h0 : 0 ≤ s.lo) (h1 : s.lo ≤ s.hi) (h2 : s.hi ≤ 43199) : validA (arcS s) = true :=
  validA_iff.2 ⟨h0, by unfold arcS; dsimp only; omega, by unfold arcS; dsimp only; omega, by unfold arcS; dsimp only; omega, by unfold arcS; dsimp only; omega⟩
theorem bumpF_spec {h : Int} (hh : 0 ≤ h) : ∀ l : List Span, l ≠ [] → canon l → inC l → (∀ s ∈ l, h + 1 < s.lo) → (l.getD (l.length - 1) default).hi = 43199 →
    (∀ x ∈ bumpF h l, validA x = true) ∧ ∀ x, memS x (piecesL (bumpF h l)) ↔ memS x l ∨ (0 ≤ x ∧ x ≤ h)
  | [], hn, _, _, _, _ => absurd rfl hn
  | [s], _, hc, hi, hs, hl => by
    have h1 := hs s (by simp)
    have h2 : s.hi = 43199 := hl
    have h3 := (canon_cons.1 hc).1
    refine ⟨fun x hx => ?_, fun x => ?_⟩
    · simp [bumpF] at hx
      subst hx
      exact validA_iff.2 ⟨by dsimp only; omega, by dsimp only; omega, by dsimp only; omega, by dsimp only; omega, .inl (by dsimp only; omega)⟩
    · have e : piecesL (bumpF h [s]) = [⟨s.lo, 43199⟩, ⟨0, h⟩] := by
        unfold piecesL bumpF piecesF
        simp only [List.flatMap_cons, List.flatMap_nil, List.append_nil]
        rw [if_neg (by omega)]
        have : s.lo + (s.hi - s.lo + 1 + h) - 43200 = h := by omega
        rw [this]
      rw [e, memS_cons, memS_cons, memS_cons]
      dsimp only
      rw [h2]
      constructor
      · rintro (g | g | g)
        · exact .inl (.inl g)
        · exact .inr g
        · exact absurd g memS_nil
      · rintro ((g | g) | g)
        · exact .inl g
        · exact absurd g memS_nil
        · exact .inr (.inl g)
  | s :: t :: l, _, hc, hi, hs, hl => by
    obtain ⟨c1, c2, c3⟩ := canon_cons.1 hc
    obtain ⟨h1, h2⟩ := bumpF_spec hh (t :: l) (by simp) c3 (fun u hu => hi u (by simp [hu])) (fun u hu => hs u (by simp [hu])) (by simpa using hl)
    have hsi := hi s (by simp)
    refine ⟨fun x hx => ?_, fun x => ?_⟩
    · rw [bumpF] at hx
      rcases List.mem_cons.1 hx with rfl | hx
      · exact arcS_valid hsi.1 c1 hsi.2
      · exact h1 x hx
    · have e : piecesL (bumpF h (s :: t :: l)) = s :: piecesL (bumpF h (t :: l)) := by
        unfold piecesL
        rw [bumpF, List.flatMap_cons, piecesF_arcS hsi.2]; rfl
      rw [e, memS_cons, h2, memS_cons (s := s)]
      constructor
      · rintro (g | g | g)
        · exact .inl (.inl g)
        · exact .inl (.inr g)
        · exact .inr g
      · rintro ((g | g) | g)
        · exact .inl g
        · exact .inr (.inl g)
        · exact .inr (.inr g)
theorem piecesL_map : ∀ {l : List Span}, inC l → piecesL (l.map arcS) = l
  | [], _ => rfl
  | s :: l, h => by
    unfold piecesL
    rw [List.map_cons, List.flatMap_cons, piecesF_arcS (h s (by simp)).2]
    have := piecesL_map (l := l) fun t ht => h t (by simp [ht])
    unfold piecesL at this
    rw [this]; rfl
theorem arcsF_spec {l : List Span} (hc : canon l) (hi : inC l) : (∀ x ∈ arcsF l, validA x = true) ∧ ∀ x, memS x (piecesL (arcsF l)) ↔ memS x l := by
  unfold arcsF
  by_cases e : around l = true
  · rw [if_pos e]
    unfold around at e
    simp only [Bool.and_eq_true, decide_eq_true_eq] at e
    obtain ⟨⟨e1, e2⟩, e3⟩ := e
    match l, e1, e2, e3, hc, hi with
    | s :: t :: l, _, e2, e3, hc, hi =>
      have e2' : s.lo = 0 := e2
      obtain ⟨c1, c2, c3⟩ := canon_cons.1 hc
      have hs0 : (s :: t :: l).getD 0 default = s := rfl
      rw [hs0]
      obtain ⟨h1, h2⟩ := bumpF_spec (h := s.hi) (by omega) (t :: l) (by simp) c3 (fun u hu => hi u (by simp [hu])) c2 (by simpa using e3)
      refine ⟨h1, fun x => ?_⟩
      show memS x (piecesL (bumpF s.hi (t :: l))) ↔ _
      rw [h2, memS_cons (s := s), e2']
      exact Or.comm
  · rw [if_neg e]
    refine ⟨fun x hx => ?_, fun x => by rw [piecesL_map hi]⟩
    obtain ⟨s, hs, rfl⟩ := List.mem_map.1 hx
    exact arcS_valid (hi s hs).1 (hc.2 s hs) (hi s hs).2
theorem spans_arcs {l : List Span} (hc : canon l) (hi : inC l) : spansS (arcsF l) = l := by
  obtain ⟨h1, h2⟩ := arcsF_spec hc hi
  obtain ⟨g1, _, g3⟩ := spans_spec h1
  exact canon_ext g1 hc fun x => by rw [g3, h2]
theorem arcs_one {x : Arc} (h : validA x = true) : arcsF (spansS [x]) = [x] := by
  obtain ⟨h1, h2, h3, h4, h5⟩ := validA_iff.1 h
  by_cases e : x.from_ + x.len < 43200
  · have e1 : spansS [x] = [⟨x.from_, x.from_ + x.len⟩] := by
      unfold spansS piecesL piecesF
      simp only [List.flatMap_cons, List.flatMap_nil, List.append_nil]
      rw [if_pos e]; rfl
    rw [e1]
    unfold arcsF
    rw [if_neg (by simp [around])]
    obtain ⟨f, n⟩ := x
    simp only [List.map_cons, List.map_nil, arcS]
    congr 2
    omega
  · have hne : ¬ (43199 + 1 < (0 : Int) ∨ x.from_ + x.len - 43200 + 1 < x.from_) → False := fun g => g (.inr (by omega))
    have e1 : spansS [x] = [⟨0, x.from_ + x.len - 43200⟩, ⟨x.from_, 43199⟩] := by
      have hv : ∀ y ∈ [x], validA y = true := fun y hy => by simp at hy; subst hy; exact h
      obtain ⟨g1, _, g3⟩ := spans_spec hv
      refine canon_ext g1 ?_ fun y => ?_
      · refine canon_cons.2 ⟨by dsimp only; omega, fun t ht => ?_, canon_cons.2 ⟨by dsimp only; omega, fun t ht => (by cases ht), canon_nil⟩⟩
        simp at ht; subst ht; dsimp only; omega
      · rw [g3]
        unfold piecesL piecesF
        simp only [List.flatMap_cons, List.flatMap_nil, List.append_nil]
        rw [if_neg e, memS_cons, memS_cons, memS_cons, memS_cons]
        constructor
        · rintro (k | k | k)
          · exact .inr (.inl k)
          · exact .inl k
          · exact .inr (.inr k)
        · rintro (k | k | k)
          · exact .inr (.inl k)
          · exact .inl k
          · exact .inr (.inr k)
    rw [e1]
    unfold arcsF
    rw [if_pos (by simp [around])]
    obtain ⟨f, n⟩ := x
    simp only [List.getD_cons_zero, List.drop_succ_cons, List.drop_zero, bumpF]
    congr 2
    omega
theorem hasF_iff {x : Arc} (h : validA x = true) (a : Int) : hasF x a = true ↔ memS (angF a) (piecesF x) := by
  obtain ⟨h1, h2, h3, h4, h5⟩ := validA_iff.1 h
  unfold hasF
  rw [h, Bool.true_and, decide_eq_true_iff]
  have ha := angF_bd a
  have hf : angF x.from_ = x.from_ := by unfold angF; omega
  have hah : aheadF x.from_ a = if x.from_ ≤ angF a then angF a - x.from_ else angF a - x.from_ + 43200 := by
    unfold aheadF
    rw [hf]
    unfold angF at ha ⊢
    split <;> omega
  rw [hah]
  unfold piecesF
  by_cases e : x.from_ + x.len < 43200
  · rw [if_pos e, memS_cons]
    constructor
    · intro g; left; dsimp only; split at g <;> omega
    · rintro (g | g)
      · dsimp only at g; rw [if_pos g.1]; omega
      · exact absurd g memS_nil
  · rw [if_neg e, memS_cons, memS_cons]
    constructor
    · intro g
      dsimp only
      split at g
      · left; omega
      · right; left; omega
    · rintro (g | g | g)
      · dsimp only at g; rw [if_pos g.1]; omega
      · dsimp only at g
        split <;> omega
      · exact absurd g memS_nil
def hasL (l : List Arc) (a : Int) : Bool := l.any fun x => hasF x a
theorem hasL_iff {l : List Arc} (h : ∀ x ∈ l, validA x = true) (a : Int) : hasL l a = true ↔ memS (angF a) (spansS l) := by
  rw [(spans_spec h).2.2]
  unfold hasL piecesL
  rw [List.any_eq_true]
  constructor
  · rintro ⟨x, hx, hp⟩
    obtain ⟨s, hs, k⟩ := (hasF_iff (h x hx) a).1 hp
    exact ⟨s, List.mem_flatMap.2 ⟨x, hx, hs⟩, k⟩
  · rintro ⟨s, hs, k⟩
    obtain ⟨x, hx, hs⟩ := List.mem_flatMap.1 hs
    exact ⟨x, hx, (hasF_iff (h x hx) a).2 ⟨s, hs, k⟩⟩
end Go.Proofs.Ds

namespace Go.Proofs.Ds
open Go
theorem wrapN0 {n : Int} (h : -9223372036854775808 ≤ n ∧ n < 9223372036854775808) : IntKind.wrap .i64 n = n := by
  have e : IntKind.wrap .i64 n = if n % 18446744073709551616 ≥ 9223372036854775808 then n % 18446744073709551616 - 18446744073709551616 else n % 18446744073709551616 := by
    simp [IntKind.wrap, IntKind.signed, IntKind.bits]
  rw [e]; split <;> omega
def dropB (p q : Nat) : Nat := p &&& (p ^^^ q)
theorem dropB_bit (p q k : Nat) : (dropB p q).testBit k = (p.testBit k && !q.testBit k) := by
  unfold dropB
  rw [Nat.testBit_and, Nat.testBit_xor]
  cases p.testBit k <;> cases q.testBit k <;> rfl
theorem dropB_le (p q : Nat) : dropB p q ≤ p := Nat.and_le_left
theorem ofInt_nat (p : Nat) : BitVec.ofInt 64 (p : Int) = BitVec.ofNat 64 p := BitVec.ofInt_natCast 64 p
theorem toNat_ofNat64 {p : Nat} (h : p < 18446744073709551616) : (BitVec.ofNat 64 p).toNat = p := by
  rw [BitVec.toNat_ofNat]; exact Nat.mod_eq_of_lt h
theorem andB {p q : Nat} (hp : p < 4611686018427387904) (hq : q < 4611686018427387904) : IntKind.wrap .i64 ((BitVec.ofInt 64 (p : Int) &&& BitVec.ofInt 64 (q : Int)).toNat : Int) = ((p &&& q : Nat) : Int) := by
  rw [ofInt_nat, ofInt_nat, BitVec.toNat_and, toNat_ofNat64 (by omega), toNat_ofNat64 (by omega)]
  have := Nat.and_le_left (n := p) (m := q)
  exact wrapN0 (by omega)
theorem orB {p q : Nat} (hp : p < 4611686018427387904) (hq : q < 4611686018427387904) : IntKind.wrap .i64 ((BitVec.ofInt 64 (p : Int) ||| BitVec.ofInt 64 (q : Int)).toNat : Int) = ((p ||| q : Nat) : Int) := by
  rw [ofInt_nat, ofInt_nat, BitVec.toNat_or, toNat_ofNat64 (by omega), toNat_ofNat64 (by omega)]
  have := Nat.or_lt_two_pow (n := 62) (x := p) (y := q) (by omega) (by omega)
  exact wrapN0 (by omega)
theorem andNotB {p q : Nat} (hp : p < 4611686018427387904) (hq : q < 4611686018427387904) : IntKind.wrap .i64 ((BitVec.ofInt 64 (p : Int) &&& ~~~ BitVec.ofInt 64 (q : Int)).toNat : Int) = ((dropB p q : Nat) : Int) := by
  have e : (BitVec.ofInt 64 (p : Int) &&& ~~~ BitVec.ofInt 64 (q : Int)).toNat = dropB p q := by
    rw [ofInt_nat, ofInt_nat]
    apply Nat.eq_of_testBit_eq
    intro i
    rw [dropB_bit]
    by_cases hi : i < 64
    · rw [BitVec.testBit_toNat, BitVec.getLsbD_and, BitVec.getLsbD_not]
      simp only [hi, decide_true, Bool.true_and]
      rw [BitVec.getLsbD_ofNat, BitVec.getLsbD_ofNat]
      simp [hi]
    · rw [BitVec.testBit_toNat, BitVec.getLsbD_of_ge _ _ (by omega)]
      have : p.testBit i = false := Nat.testBit_lt_two_pow (Nat.lt_of_lt_of_le (by omega : p < 2 ^ 62) (Nat.pow_le_pow_right (by decide) (by omega)))
      rw [this]; rfl
  rw [e]
  have := dropB_le p q
  exact wrapN0 (by omega)
theorem bitB {p : Nat} (hp : p < 4611686018427387904) (k : Nat) (hk : k < 64) : IntKind.wrap .i64 ((BitVec.ofInt 64 ((p : Int).fdiv (2 ^ (min k 64))) &&& BitVec.ofInt 64 1).toNat : Int) = ((p >>> k &&& 1 : Nat) : Int) := by
  have e : (p : Int).fdiv (2 ^ (min k 64)) = ((p >>> k : Nat) : Int) := by
    rw [Nat.min_eq_left (by omega), Nat.shiftRight_eq_div_pow, Int.fdiv_eq_ediv_of_nonneg _ (by exact_mod_cast Nat.zero_le _)]
    norm_cast
  have h1 : p >>> k ≤ p := Nat.shiftRight_le _ _
  rw [e]
  exact andB (q := 1) (by omega) (by decide)
def cntK (p : Nat) : Nat → Nat
  | 0 => 0
  | k + 1 => cntK p k + (if p.testBit k = true then 1 else 0)
def cntF (p : Nat) : Nat := cntK p 12
theorem bit_eq (p k : Nat) : (p >>> k &&& 1 : Nat) = if p.testBit k = true then 1 else 0 := by
  rw [Nat.testBit_eq_decide_div_mod_eq, Nat.shiftRight_eq_div_pow, Nat.and_one_is_mod]
  rcases Nat.mod_two_eq_zero_or_one (p / 2 ^ k) with h | h <;> simp [h]
theorem cntK_le (p : Nat) : ∀ k, cntK p k ≤ k
  | 0 => Nat.le_refl _
  | k + 1 => by
    have := cntK_le p k
    unfold cntK
    split <;> omega
theorem cntK_mono {p q : Nat} (h : ∀ k, p.testBit k = true → q.testBit k = true) : ∀ k, cntK p k ≤ cntK q k
  | 0 => Nat.le_refl _
  | k + 1 => by
    have := cntK_mono h k
    have h1 := h k
    unfold cntK
    by_cases e : p.testBit k = true
    · rw [if_pos e, if_pos (h1 e)]; omega
    · rw [if_neg e]; split <;> omega
end Go.Proofs.Ds

set_option maxRecDepth 100000
namespace Go.Proofs.Ds
open Go
def clearB (p : Nat) : Nat := p &&& (p - 1)
def lowB (p : Nat) : Nat := p ^^^ (p &&& (p - 1))
theorem low_all : ∀ p : Fin 4096, (BitVec.ofInt 64 ((p.val : Nat) : Int) &&& BitVec.ofInt 64 (-((p.val : Nat) : Int))).toNat = lowB p.val ∧ dropB p.val (lowB p.val) = clearB p.val ∧ (lowB p.val ||| clearB p.val) = p.val ∧ lowB p.val < 4096 ∧ cntF (clearB p.val) + (if p.val = 0 then 0 else 1) = cntF p.val ∧ (p.val ≠ 0 → clearB p.val < p.val) := by
  decide +kernel
theorem cnt_or_all : cntF 0 = 0 := by decide
end Go.Proofs.Ds

namespace Go.Proofs.Ds
open Go
def clearN (p : Nat) : Nat → Nat
  | 0 => p
  | n + 1 => clearN (clearB p) n
theorem clearB_bit {p k : Nat} (h : (clearB p).testBit k = true) : p.testBit k = true := by
  unfold clearB at h
  rw [Nat.testBit_and, Bool.and_eq_true] at h
  exact h.1
theorem clearB_le (p : Nat) : clearB p ≤ p := Nat.and_le_left
theorem clearN_bit : ∀ {n p k : Nat}, (clearN p n).testBit k = true → p.testBit k = true
  | 0, _, _, h => h
  | n + 1, p, k, h => clearB_bit (clearN_bit (n := n) h)
theorem clearN_le : ∀ (n p : Nat), clearN p n ≤ p
  | 0, p => Nat.le_refl _
  | n + 1, p => Nat.le_trans (clearN_le n (clearB p)) (clearB_le p)
theorem low_facts {p : Nat} (h : p < 4096) : (BitVec.ofInt 64 (p : Int) &&& BitVec.ofInt 64 (-(p : Int))).toNat = lowB p ∧ dropB p (lowB p) = clearB p ∧ (lowB p ||| clearB p) = p ∧ lowB p < 4096 ∧ cntF (clearB p) + (if p = 0 then 0 else 1) = cntF p ∧ (p ≠ 0 → clearB p < p) := low_all ⟨p, h⟩
theorem clearN_cnt : ∀ (n p : Nat), p < 4096 → cntF (clearN p n) = cntF p - n
  | 0, p, _ => rfl
  | n + 1, p, h => by
    have h1 := clearB_le p
    rw [clearN, clearN_cnt n (clearB p) (by omega)]
    have := (low_facts h).2.2.2.2.1
    by_cases e : p = 0
    · subst e
      have : cntF 0 = 0 := cnt_or_all
      have h2 : clearB 0 = 0 := rfl
      rw [h2, this]; omega
    · rw [if_neg e] at this; omega
theorem cntK_congr {p q : Nat} : ∀ n, (∀ k, k < n → p.testBit k = q.testBit k) → cntK p n = cntK q n
  | 0, _ => rfl
  | n + 1, h => by
    unfold cntK
    rw [cntK_congr n (fun k hk => h k (by omega)), h n (by omega)]
theorem cntK_split {p q r : Nat} : ∀ n, (∀ k, k < n → p.testBit k = (q.testBit k || r.testBit k) ∧ (q.testBit k && r.testBit k) = false) → cntK p n = cntK q n + cntK r n
  | 0, _ => rfl
  | n + 1, h => by
    have ih := cntK_split n fun k hk => h k (by omega)
    obtain ⟨h1, h2⟩ := h n (by omega)
    unfold cntK
    rw [ih, h1]
    cases hq : q.testBit n <;> cases hr : r.testBit n <;> simp_all <;> omega
theorem bits_lt {p k : Nat} (h : p < 4096) (hk : p.testBit k = true) : k < 12 := by
  rcases Nat.lt_or_ge k 12 with h1 | h1
  · exact h1
  · have := Nat.testBit_lt_two_pow (x := p) (i := k) (Nat.lt_of_lt_of_le (by omega : p < 2 ^ 12) (Nat.pow_le_pow_right (by decide) h1))
    rw [this] at hk; cases hk
theorem and_lt {p q : Nat} (h : p < 4096) : p &&& q < 4096 := Nat.lt_of_le_of_lt Nat.and_le_left h
theorem or_lt {p q : Nat} (h : p < 4096) (hq : q < 4096) : p ||| q < 4096 := Nat.or_lt_two_pow (n := 12) h hq
theorem drop_lt {p q : Nat} (h : p < 4096) : dropB p q < 4096 := Nat.lt_of_le_of_lt (dropB_le p q) h
theorem full_bit {k : Nat} (h : k < 12) : (4095 : Nat).testBit k = true := by
  have : ∀ k : Fin 12, (4095 : Nat).testBit k.val = true := by decide
  exact this ⟨k, h⟩
def seenW (a b F : Nat) : Nat := ((a &&& b) ||| clearN (dropB a b) F) ||| clearN (dropB b a) F
theorem seenW_lt {a b F : Nat} (ha : a < 4096) (hb : b < 4096) : seenW a b F < 4096 :=
  or_lt (or_lt (and_lt ha) (Nat.lt_of_le_of_lt (clearN_le _ _) (drop_lt ha))) (Nat.lt_of_le_of_lt (clearN_le _ _) (drop_lt hb))
theorem seenW_bit (a b F k : Nat) : (seenW a b F).testBit k = (a.testBit k && b.testBit k || (clearN (dropB a b) F).testBit k || (clearN (dropB b a) F).testBit k) := by
  unfold seenW
  rw [Nat.testBit_or, Nat.testBit_or, Nat.testBit_and]
theorem seenW_comm (a b F : Nat) : seenW a b F = seenW b a F := by
  apply Nat.eq_of_testBit_eq
  intro k
  rw [seenW_bit, seenW_bit]
  cases a.testBit k <;> cases b.testBit k <;> cases (clearN (dropB a b) F).testBit k <;> cases (clearN (dropB b a) F).testBit k <;> rfl
theorem clear_own {a b F k : Nat} (h : (clearN (dropB a b) F).testBit k = true) : a.testBit k = true ∧ b.testBit k = false := by
  have := clearN_bit h
  rw [dropB_bit] at this
  simpa using this
theorem seenW_cnt {a b F : Nat} (ha : a < 4096) (hb : b < 4096) :
    cntF (a &&& dropB 4095 (seenW a b F)) = min (cntF (dropB a b)) F ∧ cntF (dropB (seenW a b F) a) = cntF (dropB b a) - F := by
  have e1 : cntF (dropB a b) = cntF (a &&& dropB 4095 (seenW a b F)) + cntF (clearN (dropB a b) F) := by
    refine cntK_split 12 fun k hk => ?_
    rw [Nat.testBit_and, dropB_bit, dropB_bit, seenW_bit, full_bit hk]
    have c1 := @clear_own a b F k
    have c2 := @clear_own b a F k
    cases h1 : a.testBit k <;> cases h2 : b.testBit k <;> cases h3 : (clearN (dropB a b) F).testBit k <;> cases h4 : (clearN (dropB b a) F).testBit k <;> simp_all
  have e2 : cntF (dropB (seenW a b F) a) = cntF (clearN (dropB b a) F) := by
    refine cntK_congr 12 fun k hk => ?_
    rw [dropB_bit, seenW_bit]
    have c1 := @clear_own a b F k
    have c2 := @clear_own b a F k
    cases h1 : a.testBit k <;> cases h2 : b.testBit k <;> cases h3 : (clearN (dropB a b) F).testBit k <;> cases h4 : (clearN (dropB b a) F).testBit k <;> simp_all
  have e3 := clearN_cnt F (dropB a b) (drop_lt ha)
  have e4 := clearN_cnt F (dropB b a) (drop_lt hb)
  omega
def allowF (p seen blank F S : Nat) : Bool := decide (cntF (p &&& blank) ≤ F) && decide (cntF (dropB seen p) ≤ S)
theorem witness_iff {a b F S : Nat} (ha : a < 4096) (hb : b < 4096) :
    (allowF a (seenW a b F) (dropB 4095 (seenW a b F)) F S && allowF b (seenW a b F) (dropB 4095 (seenW a b F)) F S) = (decide (cntF (dropB a b) ≤ F + S) && decide (cntF (dropB b a) ≤ F + S)) := by
  obtain ⟨h1, h2⟩ := seenW_cnt (F := F) ha hb
  obtain ⟨g1, g2⟩ := seenW_cnt (F := F) hb ha
  rw [seenW_comm b a] at g1 g2
  unfold allowF
  rw [h1, h2, g1, g2, Bool.eq_iff_iff]
  simp only [Bool.and_eq_true, decide_eq_true_eq]
  omega
end Go.Proofs.Ds

namespace Go.Proofs.Ds
open Go Go.Pg Go.Proofs
def Tabs (w : World) : Prop := Lib.TabIs Tryd.prog w "internal/strconv.uint64pow10" .u64 Lib.pow10Tab
theorem Tabs.mono {w w' : World} (hb : RowKit.Below w.heap.size w w') (h : Tabs w) : Tabs w' := by
  unfold Tabs Lib.TabIs World.var? at h ⊢
  cases hg : Tryd.prog.globalNamed "internal/strconv.uint64pow10" with
  | none => rw [hg] at h; cases h
  | some g =>
    rw [hg] at h
    simp only [Option.bind_some] at h ⊢
    have hlt : g < w.heap.size := by
      rcases Nat.lt_or_ge g w.heap.size with h' | h'
      · exact h'
      · rw [Array.getElem?_eq_none h'] at h; cases h
    rw [hb.block g hlt]; exact h
noncomputable def cx : Cx := { P := Tryd.prog, T := T, eqT := eqT, E := Tabs }
instance : Cx.Wide cx := ⟨rfl⟩
theorem cx_ok : cx.OK := ⟨T_ok, eqT_ok, fun _ _ hb h => h.mono hb⟩
theorem cx_mixed : cx.P.follows .mixedOrders = true := rfl
abbrev ai (n : Int) : AV := .v (.int .i64 n)
abbrev ab (b : Bool) : AV := .v (.bool b)
abbrev at_ (b : ByteArray) : AV := .v (.string b)
structure Key where
  id : Int
  track : Int
  pat : Int
  deriving DecidableEq, Inhabited
structure Mark where
  arc : Arc
  track : Int
  seen : Int
  blank : Int
  deriving DecidableEq, Inhabited
structure Ink where
  faint : Int
  stray : Int
  slip : Int
  deriving DecidableEq, Inhabited
structure Blow where
  miss : Int
  dirt : Int
  shift : Int
  deriving DecidableEq, Inhabited
abbrev eArc (x : Arc) : List AV := [ai x.from_, ai x.len]
abbrev lArc (l : List Arc) : AV := .lst (l.map eArc)
abbrev eSpan (s : Span) : List AV := [ai s.lo, ai s.hi]
abbrev lSpan (l : List Span) : AV := .lst (l.map eSpan)
abbrev eKey (k : Key) : List AV := [ai k.id, ai k.track, ai k.pat]
abbrev lKey (l : List Key) : AV := .lst (l.map eKey)
abbrev eMark (m : Mark) : List AV := [ai m.arc.from_, ai m.arc.len, ai m.track, ai m.seen, ai m.blank]
abbrev lMark (l : List Mark) : AV := .lst (l.map eMark)
abbrev eInk (i : Ink) : List AV := [ai i.faint, ai i.stray, ai i.slip]
abbrev eBlow (b : Blow) : List AV := [ai b.miss, ai b.dirt, ai b.shift]
abbrev eInt (n : Int) : List AV := [ai n]
abbrev lInt (l : List Int) : AV := .lst (l.map eInt)
abbrev ePair (p : Int × Int) : List AV := [ai p.1, ai p.2]
abbrev lPair (l : List (Int × Int)) : AV := .lst (l.map ePair)
theorem wrapN {n : Int} (h : -9223372036854775808 ≤ n ∧ n < 9223372036854775808) : IntKind.wrap .i64 n = n := by
  have e : IntKind.wrap .i64 n = if n % 18446744073709551616 ≥ 9223372036854775808 then n % 18446744073709551616 - 18446744073709551616 else n % 18446744073709551616 := by
    simp [IntKind.wrap, IntKind.signed, IntKind.bits]
  rw [e]; split <;> omega
theorem tdivN {a b : Int} (h : 0 ≤ a) : a.tdiv b = a / b := Int.tdiv_eq_ediv_of_nonneg h
theorem tmodN {a b : Int} (h : 0 ≤ a) : a.tmod b = a % b := Int.tmod_eq_emod_of_nonneg h
theorem maxN {a b : Int} : (if b > a then b else a) = max a b := by rw [Int.max_def]; split <;> split <;> omega
theorem minN {a b : Int} : (if b < a then b else a) = min a b := by rw [Int.min_def]; split <;> split <;> omega
theorem drop_cons {α β : Type} {l : List α} {k : Nat} {x : α} {rest : List α} (h : l.drop k = x :: rest) (e : α → β) (d : β) :
    ((k : Int) < (l.length : Int)) ∧ (l.map e).getD k d = e x ∧ l.drop (k + 1) = rest ∧ rest.length + k + 1 = l.length ∧ x ∈ l ∧ (l.map e)[k]? = some (e x) := by
  have hlt : k < l.length := by
    rcases Nat.lt_or_ge k l.length with h' | h'
    · exact h'
    · rw [List.drop_eq_nil_of_le h'] at h; cases h
  have h0 : l[k]? = some x := by
    have := congrArg (fun m => m[0]?) h
    simpa using this
  refine ⟨by omega, ?_, ?_, ?_, List.mem_of_getElem? h0, by rw [List.getElem?_map, h0]; rfl⟩
  · rw [List.getD_eq_getElem?_getD, List.getElem?_map, h0]; rfl
  · have : l.drop (k + 1) = (l.drop k).drop 1 := by simp
    rw [this, h]; rfl
  · have := congrArg List.length h
    simp at this; omega
theorem drop_nil {α : Type} {l : List α} {k : Nat} (h : l.drop k = []) : ¬ ((k : Int) < (l.length : Int)) := by
  have := List.drop_eq_nil_iff.1 h
  omega
theorem getD_map {α β : Type} (e : α → β) (l : List α) (k : Nat) (d : β) (d' : α) (h : k < l.length) : (l.map e).getD k d = e (l.getD k d') := by
  rw [List.getD_eq_getElem?_getD, List.getElem?_map, List.getElem?_eq_getElem h, List.getD_eq_getElem?_getD, List.getElem?_eq_getElem h]; rfl
theorem get_map {α β : Type} (e : α → β) (l : List α) (k : Nat) (d' : α) (h : k < l.length) : (l.map e)[k]? = some (e (l.getD k d')) := by
  rw [List.getElem?_map, List.getElem?_eq_getElem h, List.getD_eq_getElem?_getD, List.getElem?_eq_getElem h]; rfl
theorem pure_map {α : Type} {e : α → List AV} (h : ∀ x, pureL (e x) = true) (l : List α) : (l.map e).all pureL = true := by
  rw [List.all_eq_true]
  intro x hx
  obtain ⟨y, _, rfl⟩ := List.mem_map.1 hx
  exact h y
attribute [push_cast] cx T eqT wrapN maxN minN
end Go.Proofs.Ds
