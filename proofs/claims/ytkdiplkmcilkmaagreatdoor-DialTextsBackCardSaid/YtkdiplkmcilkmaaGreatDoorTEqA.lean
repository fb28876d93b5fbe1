/-
  Contracts of functions, proved by going through their code. No conditions.
-/
import Derived.Test.YtkdiplkmcilkmaaGreatDoorTay
import Derived.Test.YtkdiplkmcilkmaaGreatDoorTTxB
set_option linter.unusedVariables false
set_option linter.unusedSimpArgs false
set_option maxRecDepth 10000
namespace Go.Proofs.Dz
open Go Go.Pg Go.Proofs Go.Proofs.Ds Go.Tx
def numI (s : ByteArray) : Int := match Lib.atoiAll (bl s) with | .ok v => v | _ => -1
def pinAt (w : ByteArray) (k : Nat) : UInt8 := (bl w).getD k 0
def markW (w : List ByteArray) : Mark := ⟨⟨numI (w.getD 1 default), numI (w.getD 2 default)⟩, numI (w.getD 0 default), bitsOf 35 (pinAt (w.getD 3 default)) 12, bitsOf 46 (pinAt (w.getD 3 default)) 12⟩
def stepP (p : List Mark) (line : ByteArray) : List Mark × Bool :=
  if (wordsB 32 (bareB line)).length = 4 ∧ ((wordsB 32 (bareB line)).getD 3 default).size = 12 ∧ p.length ≠ 60 then (p ++ [markW (wordsB 32 (bareB line))], false) else (p, true)
def parseP (text : ByteArray) : List Mark × Bool := linesF stepP text.size text ([], false)
theorem stepP_len {p : List Mark} (line : ByteArray) (h : p.length ≤ 60) : (stepP p line).1.length ≤ 60 := by
  unfold stepP
  split
  · rw [List.length_append, List.length_singleton]; omega
  · exact h
theorem linesP_len : ∀ (n : Nat) (s : ByteArray) (p : List Mark × Bool), p.1.length ≤ 60 → (linesF stepP n s p).1.length ≤ 60
  | 0, _, _, h => h
  | n + 1, s, p, h => by
    unfold linesF
    split
    · exact h
    · exact linesP_len n _ _ (stepP_len _ h)
theorem parseP_len (text : ByteArray) : (parseP text).1.length ≤ 60 := linesP_len _ _ _ (by simp)
def Good (text : ByteArray) (ms : List Mark) : Prop := ms.length ≤ 60 ∧ ms.all markV = true ∧ textB ms = text
instance (text : ByteArray) (ms : List Mark) : Decidable (Good text ms) := by unfold Good; exact inferInstance
def parseF (text : ByteArray) : List Mark × Int := if (parseP text).2 = false ∧ Good text (parseP text).1 then ((parseP text).1, 0) else ([], 7)
theorem pinB_ne (m : Mark) (k : Nat) : pinB m k ≠ 32 ∧ pinB m k ≠ 10 := by
  unfold pinB
  split
  · decide
  · split <;> decide
theorem pinsL (m : Mark) : ∀ n, bl (pinsB m n) = (List.range n).map (pinB m)
  | 0 => rfl
  | n + 1 => by rw [pinsB, bl_app, pinsL m n, List.range_succ, List.map_append]; rfl
theorem pins_not (m : Mark) (n : Nat) : (32 : UInt8) ∉ bl (pinsB m n) ∧ (10 : UInt8) ∉ bl (pinsB m n) := by
  rw [pinsL]
  constructor
  · intro h; obtain ⟨k, _, hk⟩ := List.mem_map.1 h; exact (pinB_ne m k).1 hk
  · intro h; obtain ⟨k, _, hk⟩ := List.mem_map.1 h; exact (pinB_ne m k).2 hk
theorem pins_get (m : Mark) (n k : Nat) (h : k < n) : (bl (pinsB m n)).getD k 0 = pinB m k := by
  rw [pinsL, List.getD_eq_getElem?_getD, List.getElem?_map, List.getElem?_range h]; rfl
theorem pinB_seen (m : Mark) (k : Nat) : pinB m k = 35 ↔ m.seen.toNat.testBit k = true := by
  unfold pinB
  split
  · rename_i h; simp [h]
  · rename_i h
    split <;> simp [h]
theorem pinB_blank (m : Mark) (h0 : m.seen.toNat &&& m.blank.toNat = 0) (k : Nat) : pinB m k = 46 ↔ m.blank.toNat.testBit k = true := by
  have hk : (m.seen.toNat &&& m.blank.toNat).testBit k = false := by rw [h0]; simp
  rw [Nat.testBit_and] at hk
  unfold pinB
  split
  · rename_i h
    rw [h, Bool.true_and] at hk
    simp [hk]
  · split
    · rename_i h; simp [h]
    · rename_i h; simp [h]
theorem mark_nat {m : Mark} (h : markV m = true) : ∃ t f n s b : Nat, m = ⟨⟨f, n⟩, t, s, b⟩ ∧ t < 4 ∧ f < 43200 ∧ n < 43200 ∧ s < 2 ^ 12 ∧ b < 2 ^ 12 ∧ s &&& b = 0 := by
  obtain ⟨m1, m2, m3, m4, m5⟩ := markV_iff.1 h
  obtain ⟨v1, v2, v3, v4, v5⟩ := validA_iff.1 m1
  obtain ⟨⟨f, n⟩, t, s, b⟩ := m
  dsimp only at *
  obtain ⟨t, rfl⟩ := Int.eq_ofNat_of_zero_le m2.1
  obtain ⟨f, rfl⟩ := Int.eq_ofNat_of_zero_le v1
  obtain ⟨n, rfl⟩ := Int.eq_ofNat_of_zero_le v3
  obtain ⟨s, rfl⟩ := Int.eq_ofNat_of_zero_le m3.1
  obtain ⟨b, rfl⟩ := Int.eq_ofNat_of_zero_le m4.1
  refine ⟨t, f, n, s, b, rfl, by omega, by omega, by omega, by omega, by omega, ?_⟩
  simpa only [Int.toNat_natCast] using m5
theorem itoaB_bl (u : Nat) : bl (itoaB (u : Int)) = Lib.decDigits u := by
  unfold itoaB; rw [itoa_nat]
theorem bl_one (c : UInt8) : bl (ByteArray.mk #[c]) = [c] := rfl
theorem dec_not (u : Nat) (c : UInt8) (h : ¬ isDig c) : c ∉ Lib.decDigits u := fun hc => h (dec_digit u u (Nat.le_refl _) c hc)
theorem head_bl (t f n : Nat) (s b : Int) : bl (headB ⟨⟨f, n⟩, t, s, b⟩) = Lib.decDigits t ++ 32 :: (Lib.decDigits f ++ 32 :: (Lib.decDigits n ++ [32])) := by
  unfold headB
  simp only [bl_app, itoaB_bl, bl_one, List.append_assoc, List.singleton_append, List.cons_append, List.nil_append]
theorem line_bl (t f n : Nat) (s b : Int) : bl (lineB ⟨⟨f, n⟩, t, s, b⟩) = Lib.decDigits t ++ 32 :: (Lib.decDigits f ++ 32 :: (Lib.decDigits n ++ 32 :: (bl (pinsB ⟨⟨f, n⟩, t, s, b⟩ 12) ++ [10]))) := by
  unfold lineB
  simp only [bl_app, head_bl, bl_one, List.append_assoc, List.singleton_append, List.cons_append, List.nil_append]
theorem numI_dec (u : Nat) (h : u < 9223372036854775808) (w : ByteArray) (hw : bl w = Lib.decDigits u) : numI w = u := by
  unfold numI
  rw [hw, atoi_dec u h]
theorem nd32 : ¬ isDig 32 := by decide
theorem nd10 : ¬ isDig 10 := by decide
theorem stepP_line {m : Mark} (hm : markV m = true) {p : List Mark} (hp : p.length < 60) {line : ByteArray} (hl : bl line = bl (lineB m)) : stepP p line = (p ++ [m], false) := by
  obtain ⟨t, f, n, s, b, rfl, h1, h2, h3, h4, h5, h6⟩ := mark_nat hm
  generalize hPP : pinsB ⟨⟨f, n⟩, t, s, b⟩ 12 = PP at *
  have hP := line_bl t f n s b
  rw [hPP] at hP
  have hq := pins_not ⟨⟨f, n⟩, t, s, b⟩ 12
  rw [hPP] at hq
  have hb : bl (bareB line) = Lib.decDigits t ++ 32 :: (Lib.decDigits f ++ 32 :: (Lib.decDigits n ++ 32 :: bl PP)) := by
    refine bare_at ?_
    rw [hl, hP]
    simp only [List.append_assoc, List.cons_append]
  have hw : wordsB 32 (bareB line) = [mkB (Lib.decDigits t), mkB (Lib.decDigits f), mkB (Lib.decDigits n), PP] := by
    rw [wordsB_eq, hb, wordsF_cons (dec_not t 32 nd32), wordsF_cons (dec_not f 32 nd32), wordsF_cons (dec_not n 32 nd32), wordsF_none hq.1]
    simp only [List.map_cons, List.map_nil, mk_bl]
  have hsz : PP.size = 12 := by rw [← hPP, pinsB_size]
  have hmk : markW [mkB (Lib.decDigits t), mkB (Lib.decDigits f), mkB (Lib.decDigits n), PP] = ⟨⟨f, n⟩, t, s, b⟩ := by
    have e1 : bitsOf 35 (pinAt PP) 12 = s := bitsOf_eq _ _ _ _ h4 fun i hi => by
      unfold pinAt
      rw [← hPP, pins_get _ _ _ hi, pinB_seen]
      rfl
    have e2 : bitsOf 46 (pinAt PP) 12 = b := bitsOf_eq _ _ _ _ h5 fun i hi => by
      unfold pinAt
      rw [← hPP, pins_get _ _ _ hi, pinB_blank _ (by exact h6)]
      rfl
    unfold markW
    show (⟨⟨numI (mkB (Lib.decDigits f)), numI (mkB (Lib.decDigits n))⟩, numI (mkB (Lib.decDigits t)), bitsOf 35 (pinAt PP) 12, bitsOf 46 (pinAt PP) 12⟩ : Mark) = _
    rw [numI_dec f (by omega) _ rfl, numI_dec n (by omega) _ rfl, numI_dec t (by omega) _ rfl, e1, e2]
  unfold stepP
  rw [hw, if_pos ⟨rfl, hsz, by omega⟩, hmk]
theorem textB_nil : textB [] = ByteArray.empty := rfl
theorem textB_cons (m : Mark) (l : List Mark) : textB (m :: l) = lineB m ++ textB l := rfl
theorem line_end {m : Mark} (hm : markV m = true) : ∃ l : List UInt8, bl (lineB m) = l ++ [10] ∧ (10 : UInt8) ∉ l := by
  obtain ⟨t, f, n, s, b, rfl, h1, h2, h3, h4, h5, h6⟩ := mark_nat hm
  refine ⟨Lib.decDigits t ++ 32 :: (Lib.decDigits f ++ 32 :: (Lib.decDigits n ++ 32 :: bl (pinsB ⟨⟨f, n⟩, t, s, b⟩ 12))), ?_, ?_⟩
  · rw [line_bl]; simp only [List.append_assoc, List.cons_append]
  · have d1 := dec_not t 10 nd10
    have d2 := dec_not f 10 nd10
    have d3 := dec_not n 10 nd10
    have d4 := (pins_not ⟨⟨f, n⟩, t, s, b⟩ 12).2
    simp only [List.mem_append, List.mem_cons, not_or]
    exact ⟨d1, by decide, d2, by decide, d3, by decide, d4⟩
theorem lines_text : ∀ (ms : List Mark) (n : Nat) (out : List Mark), ms.all markV = true → out.length + ms.length ≤ 60 → (textB ms).size ≤ n → linesF stepP n (textB ms) (out, false) = (out ++ ms, false)
  | [], n, out, _, _, _ => by rw [linesF_nil _ _ (by rfl), List.append_nil]
  | m :: ms, n, out, hv, hl, hn => by
    rw [List.all_cons, Bool.and_eq_true] at hv
    obtain ⟨l, e1, e2⟩ := line_end hv.1
    have hs : bl (textB (m :: ms)) = l ++ 10 :: bl (textB ms) := by rw [textB_cons, bl_app, e1]; simp
    obtain ⟨g1, g2⟩ := ln_at e2 hs
    have hz : (textB (m :: ms)).size ≠ 0 := by rw [← bl_len, hs]; simp
    have hlt := lnT_size _ hz
    have ht : lnT (textB (m :: ms)) = textB ms := bl_inj g2
    rw [ht] at hlt
    obtain ⟨n, rfl⟩ : ∃ k, n = k + 1 := ⟨n - 1, by omega⟩
    rw [List.length_cons] at hl
    rw [linesF, if_neg (by simp [hz]), ht, stepP_line hv.1 (by dsimp only; omega) (by rw [g1, e1]), lines_text ms n _ hv.2 (by dsimp only; rw [List.length_append, List.length_singleton]; omega) (by omega), List.append_assoc]
    rfl
theorem parseP_good {text : ByteArray} {ms : List Mark} (h : Good text ms) : parseP text = (ms, false) := by
  obtain ⟨h1, h2, rfl⟩ := h
  exact lines_text ms _ [] h2 (by simpa using h1) (Nat.le_refl _)
theorem parseF_good {text : ByteArray} {ms : List Mark} (h : Good text ms) : parseF text = (ms, 0) := by
  unfold parseF
  rw [parseP_good h, if_pos ⟨rfl, h⟩]
theorem parseF_bad {text : ByteArray} (h : ¬ ∃ ms, Good text ms) : parseF text = ([], 7) := by
  unfold parseF
  rw [if_neg fun hh => h ⟨_, hh.2⟩]
theorem parseF_cases (text : ByteArray) : (∃ ms, Good text ms ∧ parseF text = (ms, 0)) ∨ parseF text = ([], 7) := by
  by_cases h : ∃ ms, Good text ms
  · obtain ⟨ms, h⟩ := h
    exact .inl ⟨ms, h, parseF_good h⟩
  · exact .inr (parseF_bad h)
def pinR (s : ByteArray) (c k : Nat) : UInt8 := (bl s).getD (c + 1 + k) 0
def markR (s : ByteArray) (at_ : Nat) : Mark :=
  ⟨⟨(numR s ((numR s at_).2 + 1)).1, (numR s ((numR s ((numR s at_).2 + 1)).2 + 1)).1⟩, (numR s at_).1, bitsOf 35 (pinR s (numR s ((numR s ((numR s at_).2 + 1)).2 + 1)).2) 12, bitsOf 46 (pinR s (numR s ((numR s ((numR s at_).2 + 1)).2 + 1)).2) 12⟩
def endR (s : ByteArray) (at_ : Nat) : Nat := (numR s ((numR s ((numR s at_).2 + 1)).2 + 1)).2
def markO : Mark := ⟨⟨0, 0⟩, 0, 0, 0⟩
def readR (s : ByteArray) (at_ : Nat) : Mark × Nat × Bool :=
  if s.size < endR s at_ + 14 then (markO, at_, false) else if markV (markR s at_) = true then (markR s at_, endR s at_ + 14, bl (s.extract at_ (endR s at_ + 14)) == bl (lineB (markR s at_))) else (markO, at_, false)
def parseR (s : ByteArray) : Nat → Nat → List Mark → List Mark × Int
  | 0, _, out => (out, 0)
  | k + 1, at_, out => if s.size ≤ at_ then (out, 0) else if (readR s at_).2.2 = false ∨ out.length = 60 then ([], 7) else parseR s k (readR s at_).2.1 (out ++ [(readR s at_).1])
theorem endR_le (s : ByteArray) (at_ : Nat) : at_ + 2 ≤ endR s at_ := by
  have h1 := numR_le s at_
  have h2 := numR_le s ((numR s at_).2 + 1)
  have h3 := numR_le s ((numR s ((numR s at_).2 + 1)).2 + 1)
  unfold endR; omega
theorem readR_ok {s : ByteArray} {at_ : Nat} (h : (readR s at_).2.2 = true) : markV (readR s at_).1 = true ∧ at_ < (readR s at_).2.1 ∧ (readR s at_).2.1 ≤ s.size ∧ bl (s.extract at_ (readR s at_).2.1) = bl (lineB (readR s at_).1) := by
  have he := endR_le s at_
  unfold readR at h ⊢
  split at h
  · cases h
  · rename_i hz
    rw [if_neg hz]
    split at h
    · rename_i hv
      rw [if_pos hv]
      dsimp only at h ⊢
      exact ⟨hv, by omega, by omega, by simpa using h⟩
    · cases h
theorem drop_split (l : List UInt8) (i j : Nat) (h : i ≤ j) : l.drop i = (l.drop i).take (j - i) ++ l.drop j := by
  conv => lhs; rw [← List.take_append_drop (j - i) (l.drop i)]
  rw [List.drop_drop, show i + (j - i) = j by omega]
theorem parseR_sound (s : ByteArray) : ∀ (k at_ : Nat) (out : List Mark), out.length ≤ 60 → out.all markV = true → s.size - at_ ≤ k → at_ ≤ s.size → parseR s k at_ out = ([], 7) ∨ ∃ ms, parseR s k at_ out = (out ++ ms, 0) ∧ ms.all markV = true ∧ (out ++ ms).length ≤ 60 ∧ bl (textB ms) = (bl s).drop at_
  | 0, at_, out, hl, hv, hk, ha => .inr ⟨[], by simp [parseR], rfl, by simpa using hl, by rw [textB_nil, List.drop_eq_nil_of_le (by rw [bl_len]; omega)]; rfl⟩
  | k + 1, at_, out, hl, hv, hk, ha => by
    unfold parseR
    split
    · exact .inr ⟨[], by simp, rfl, by simpa using hl, by rw [textB_nil, List.drop_eq_nil_of_le (by rw [bl_len]; omega)]; rfl⟩
    · split
      · exact .inl rfl
      · rename_i h1 h2
        simp only [not_or, Bool.not_eq_false] at h2
        obtain ⟨g1, g2, g3, g4⟩ := readR_ok h2.1
        rcases parseR_sound s k (readR s at_).2.1 (out ++ [(readR s at_).1]) (by rw [List.length_append, List.length_singleton]; omega) (by rw [List.all_append, hv, List.all_cons, g1]; rfl) (by omega) g3 with h | ⟨ms, e1, e2, e3, e4⟩
        · exact .inl h
        · refine .inr ⟨(readR s at_).1 :: ms, by rw [e1, List.append_assoc]; rfl, by rw [List.all_cons, g1, e2]; rfl, by rw [List.append_assoc] at e3; exact e3, ?_⟩
          rw [textB_cons, bl_app, e4, ← g4, bl_ext, ← drop_split _ _ _ (by omega)]
theorem readR_line {s : ByteArray} {at_ : Nat} {m : Mark} (hm : markV m = true) {r : List UInt8} (h : (bl s).drop at_ = bl (lineB m) ++ r) : readR s at_ = (m, at_ + (lineB m).size, true) := by
  have hsz := bl_len s
  have hal : at_ ≤ (bl s).length := by
    rcases Nat.lt_or_ge at_ (bl s).length with h' | h'
    · omega
    · rw [List.drop_eq_nil_of_le h'] at h
      obtain ⟨l, e1, _⟩ := line_end hm
      rw [e1] at h; simp at h
  have hlen := congrArg List.length h
  rw [List.length_drop, List.length_append, bl_len (lineB m)] at hlen
  have hext : bl (s.extract at_ (at_ + (lineB m).size)) = bl (lineB m) := by
    rw [bl_ext, h, Nat.add_sub_cancel_left, ← bl_len, List.take_left]
  obtain ⟨t, f, n, S, b, rfl, h1, h2, h3, h4, h5, h6⟩ := mark_nat hm
  generalize hLB : lineB ⟨⟨f, n⟩, t, S, b⟩ = LB at *
  have hl := line_bl t f n S b
  have hPL : (bl (pinsB ⟨⟨f, n⟩, t, S, b⟩ 12)).length = 12 := by rw [bl_len, pinsB_size]
  rw [hLB] at hl
  rw [hl] at h
  simp only [List.append_assoc, List.cons_append, List.nil_append] at h
  have n1 := numR_run s at_ t (by omega) _ h (fun c hc => by simp at hc; subst hc; exact nd32)
  have s1 : (bl s).drop (at_ + (Lib.decDigits t).length + 1) = Lib.decDigits f ++ 32 :: (Lib.decDigits n ++ 32 :: (bl (pinsB ⟨⟨f, n⟩, t, S, b⟩ 12) ++ 10 :: r)) := by
    rw [Nat.add_assoc, ← List.drop_drop, h, ← List.drop_drop, List.drop_left]; rfl
  have n2 := numR_run s _ f (by omega) _ s1 (fun c hc => by simp at hc; subst hc; exact nd32)
  have s2 : (bl s).drop (at_ + (Lib.decDigits t).length + 1 + (Lib.decDigits f).length + 1) = Lib.decDigits n ++ 32 :: (bl (pinsB ⟨⟨f, n⟩, t, S, b⟩ 12) ++ 10 :: r) := by
    rw [Nat.add_assoc (at_ + (Lib.decDigits t).length + 1), ← List.drop_drop, s1, ← List.drop_drop, List.drop_left]; rfl
  have n3 := numR_run s _ n (by omega) _ s2 (fun c hc => by simp at hc; subst hc; exact nd32)
  have s3 : (bl s).drop (at_ + (Lib.decDigits t).length + 1 + (Lib.decDigits f).length + 1 + (Lib.decDigits n).length + 1) = bl (pinsB ⟨⟨f, n⟩, t, S, b⟩ 12) ++ 10 :: r := by
    rw [Nat.add_assoc (at_ + (Lib.decDigits t).length + 1 + (Lib.decDigits f).length + 1), ← List.drop_drop, s2, ← List.drop_drop, List.drop_left]; rfl
  generalize hC : at_ + (Lib.decDigits t).length + 1 + (Lib.decDigits f).length + 1 + (Lib.decDigits n).length = C at *
  have hLs : LB.size = C - at_ + 14 := by
    rw [← bl_len, hl]
    simp only [List.length_append, List.length_cons, List.length_nil, hPL]
    omega
  have hend : endR s at_ = C := by unfold endR; rw [n1]; dsimp only; rw [n2]; dsimp only; rw [n3]
  have hpin : ∀ i, i < 12 → pinR s C i = pinB ⟨⟨f, n⟩, t, S, b⟩ i := fun i hi => by
    unfold pinR
    rw [← pins_get _ 12 i hi, List.getD_eq_getElem?_getD, List.getD_eq_getElem?_getD, ← List.getElem?_drop, s3, List.getElem?_append_left (by rw [hPL]; exact hi)]
  have hmk : markR s at_ = ⟨⟨f, n⟩, t, S, b⟩ := by
    unfold markR
    rw [n1]; dsimp only; rw [n2]; dsimp only; rw [n3]; dsimp only
    rw [bitsOf_eq 35 _ 12 S h4 (fun i hi => by rw [hpin i hi, pinB_seen]; rfl), bitsOf_eq 46 _ 12 b h5 (fun i hi => by rw [hpin i hi, pinB_blank _ (by exact h6)]; rfl)]
  have hge := endR_le s at_
  unfold readR
  rw [hend, hmk, if_neg (by omega), if_pos hm, hLB]
  have e : C + 14 = at_ + LB.size := by rw [hend] at hge; omega
  rw [e, hext]
  simp
theorem parseR_text (s : ByteArray) : ∀ (ms : List Mark) (k at_ : Nat) (out : List Mark), ms.all markV = true → out.length + ms.length ≤ 60 → (bl s).drop at_ = bl (textB ms) → s.size - at_ ≤ k → parseR s k at_ out = (out ++ ms, 0)
  | [], k, at_, out, _, _, hd, hk => by
    have ha : s.size ≤ at_ := by
      have := congrArg List.length hd
      rw [List.length_drop, bl_len, textB_nil] at this
      have h0 : (bl ByteArray.empty).length = 0 := rfl
      omega
    cases k with
    | zero => simp [parseR]
    | succ k => rw [parseR, if_pos ha, List.append_nil]
  | m :: ms, k, at_, out, hv, hl, hd, hk => by
    rw [List.all_cons, Bool.and_eq_true] at hv
    rw [textB_cons, bl_app] at hd
    have hr := readR_line hv.1 hd
    have hp := (lineB_size m hv.1).1
    have hlen := congrArg List.length hd
    rw [List.length_drop, List.length_append, bl_len, bl_len (lineB m)] at hlen
    obtain ⟨k, rfl⟩ : ∃ j, k = j + 1 := ⟨k - 1, by omega⟩
    rw [List.length_cons] at hl
    have hd2 : (bl s).drop (at_ + (lineB m).size) = bl (textB ms) := by rw [← List.drop_drop, hd, ← bl_len (lineB m), List.drop_left]
    rw [parseR, if_neg (by omega), hr, if_neg (by simp; omega)]
    dsimp only
    rw [parseR_text s ms k _ _ hv.2 (by rw [List.length_append, List.length_singleton]; omega) hd2 (by omega), List.append_assoc]
    rfl
theorem parse_both (text : ByteArray) : parseR text text.size 0 [] = parseF text := by
  by_cases h : ∃ ms, Good text ms
  · obtain ⟨ms, h⟩ := h
    rw [parseF_good h]
    obtain ⟨h1, h2, rfl⟩ := h
    exact parseR_text _ ms _ 0 [] h2 (by simpa using h1) rfl (Nat.le_refl _)
  · rw [parseF_bad h]
    rcases parseR_sound text text.size 0 [] (by simp) rfl (by omega) (Nat.zero_le _) with h' | ⟨ms, e1, e2, e3, e4⟩
    · exact h'
    · exact absurd ⟨ms, by simpa using e3, e2, bl_inj e4⟩ h
end Go.Proofs.Dz
