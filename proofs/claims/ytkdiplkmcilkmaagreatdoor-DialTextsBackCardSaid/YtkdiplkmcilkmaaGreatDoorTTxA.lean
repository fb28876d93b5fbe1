/-
  Contracts of functions, proved by going through their code. No conditions.
-/
import Derived.Lib.AtoiAllCases
import Derived.Lib.ItoaNum
import Derived.Lib.SplitLaws
set_option linter.unusedVariables false
set_option linter.unusedSimpArgs false
namespace Go.Tx
open Go
theorem parse_app : ∀ (l r : List UInt8) (acc a : Nat), Lib.parseUint10 acc l = .ok a → Lib.parseUint10 acc (l ++ r) = Lib.parseUint10 a r
  | [], r, acc, a, h => by
    simp only [Lib.parseUint10, Lib.NumEnd.ok.injEq] at h
    subst h; rfl
  | c :: l, r, acc, a, h => by
    rw [List.cons_append]
    simp only [Lib.parseUint10] at h ⊢
    split at h
    · rename_i h1
      rw [if_pos h1]
      split at h
      · cases h
      · rename_i h2
        rw [if_neg h2]
        split at h
        · cases h
        · rename_i h3
          rw [if_neg h3]
          exact parse_app l r _ a h
    · cases h
theorem dig_toNat (d : Nat) (h : d < 10) : (UInt8.ofNat (48 + d)).toNat = 48 + d := by
  rw [UInt8.toNat_ofNat']; omega
theorem parse_dig (a d : Nat) (h : d < 10) (ha : a * 10 + d < 9223372036854775808) : Lib.parseUint10 a [UInt8.ofNat (48 + d)] = .ok (a * 10 + d) := by
  simp only [Lib.parseUint10, dig_toNat d h]
  rw [if_pos (by omega), if_neg (by omega), if_neg (by omega)]
  congr 1; omega
theorem parse_dec : ∀ (k u : Nat), u ≤ k → u < 9223372036854775808 → Lib.parseUint10 0 (Lib.decDigits u) = .ok u
  | k, u, hk, h => by
    rw [Lib.decDigits]
    split
    · rename_i hu
      have := parse_dig 0 u hu (by omega)
      simpa using this
    · rename_i hu
      obtain ⟨k, rfl⟩ : ∃ j, k = j + 1 := ⟨k - 1, by omega⟩
      rw [parse_app _ _ _ _ (parse_dec k (u / 10) (by omega) (by omega))]
      rw [parse_dig _ _ (Nat.mod_lt _ (by decide)) (by omega)]
      congr 1; omega
theorem dec_digit : ∀ (k u : Nat), u ≤ k → ∀ c ∈ Lib.decDigits u, 48 ≤ c.toNat ∧ c.toNat ≤ 57
  | k, u, hk => by
    rw [Lib.decDigits]
    split
    · rename_i hu
      intro c hc
      rw [List.mem_singleton.1 hc, dig_toNat u hu]; omega
    · rename_i hu
      obtain ⟨k, rfl⟩ : ∃ j, k = j + 1 := ⟨k - 1, by omega⟩
      intro c hc
      rcases List.mem_append.1 hc with hc | hc
      · exact dec_digit k (u / 10) (by omega) c hc
      · rw [List.mem_singleton.1 hc, dig_toNat _ (Nat.mod_lt _ (by decide))]; omega
theorem dec_ne (u : Nat) : Lib.decDigits u ≠ [] := by
  rw [Lib.decDigits]; split <;> simp
theorem dec_cons (u : Nat) : ∃ c r, Lib.decDigits u = c :: r ∧ 48 ≤ c.toNat ∧ c.toNat ≤ 57 := by
  match h : Lib.decDigits u with
  | [] => exact absurd h (dec_ne u)
  | c :: r => exact ⟨c, r, rfl, dec_digit u u (Nat.le_refl _) c (by rw [h]; simp)⟩
theorem mag_dec (u : Nat) (h : u < 9223372036854775808) : Lib.parseMag (Lib.decDigits u) = .ok u := by
  unfold Lib.parseMag
  rw [if_neg (dec_ne u), parse_dec u u (Nat.le_refl _) h]
theorem atoi_dec (u : Nat) (h : u < 9223372036854775808) : Lib.atoiAll (Lib.decDigits u) = .ok (u : Int) := by
  obtain ⟨c, r, hc, h1, h2⟩ := dec_cons u
  have := mag_dec u h
  rw [hc] at this ⊢
  rw [Lib.atoiAll_plain c r (by omega) (by omega), this]
  unfold Lib.signless
  dsimp only
  rw [if_neg (by omega)]
theorem itoa_nat (u : Nat) : Lib.itoa (u : Int) = Lib.decDigits u := by
  unfold Lib.itoa
  rw [if_neg (by omega)]; rfl
def wordsF (c : UInt8) : List UInt8 → List (List UInt8)
  | [] => [[]]
  | b :: l => if b = c then [] :: wordsF c l else match wordsF c l with
    | w :: ws => (b :: w) :: ws
    | [] => [[b]]
theorem wordsF_none {c : UInt8} : ∀ {w : List UInt8}, c ∉ w → wordsF c w = [w]
  | [], _ => rfl
  | b :: w, h => by
    have hb : b ≠ c := fun e => h (by simp [e])
    have hw : c ∉ w := fun e => h (by simp [e])
    unfold wordsF
    rw [if_neg hb, wordsF_none hw]
theorem wordsF_cons {c : UInt8} : ∀ {w r : List UInt8}, c ∉ w → wordsF c (w ++ c :: r) = w :: wordsF c r
  | [], r, _ => by simp [wordsF]
  | b :: w, r, h => by
    have hb : b ≠ c := fun e => h (by simp [e])
    have hw : c ∉ w := fun e => h (by simp [e])
    rw [List.cons_append]
    conv => lhs; unfold wordsF
    rw [if_neg hb, wordsF_cons hw]
theorem index_cons_eq (c : UInt8) (l : List UInt8) : Lib.index (c :: l) [c] = 0 := by
  unfold Lib.index
  rw [if_pos (by simp)]
theorem index_cons_ne {b c : UInt8} (h : b ≠ c) (l : List UInt8) : Lib.index (b :: l) [c] = if Lib.index l [c] == -1 then -1 else Lib.index l [c] + 1 := by
  conv => lhs; unfold Lib.index
  rw [if_neg (by simpa using fun e => h e.symm)]
theorem split_words (c : UInt8) : ∀ s : List UInt8, Lib.splitK [c] 0 (s.count c) s = wordsF c s
  | [] => rfl
  | b :: l => by
    have ih := split_words c l
    by_cases h : b = c
    · subst h
      rw [List.count_cons_self]
      unfold Lib.splitK wordsF
      rw [index_cons_eq, if_neg (by decide), if_pos rfl]
      simp only [Int.toNat_zero, Nat.zero_add, List.take_zero, List.length_singleton, List.drop_one, List.tail_cons]
      rw [ih]
    · rw [List.count_cons_of_ne h]
      unfold wordsF
      rw [if_neg h, ← ih]
      match hk : l.count c with
      | 0 => rfl
      | k + 1 =>
        unfold Lib.splitK
        rw [index_cons_ne h]
        by_cases hi : (Lib.index l [c] == -1) = true
        · rw [if_pos hi, if_pos (by decide : ((-1 : Int) == -1) = true), if_pos hi]
        · have hge := Lib.index_ge l [c]
          have hne : Lib.index l [c] ≠ -1 := fun e => hi (by rw [e]; rfl)
          rw [if_neg hi, if_neg (by rw [beq_iff_eq]; omega), if_neg hi]
          have e : (Lib.index l [c] + 1).toNat = (Lib.index l [c]).toNat + 1 := by omega
          rw [e]
          simp only [Nat.add_zero, List.take_succ_cons, List.length_singleton, List.drop_succ_cons]
abbrev bl (b : ByteArray) : List UInt8 := b.data.toList
abbrev mkB (l : List UInt8) : ByteArray := ⟨l.toArray⟩
theorem bl_mk (l : List UInt8) : bl (mkB l) = l := rfl
theorem mk_bl (b : ByteArray) : mkB (bl b) = b := by cases b; simp [mkB, bl]
theorem bl_inj {a b : ByteArray} (h : bl a = bl b) : a = b := by rw [← mk_bl a, ← mk_bl b, h]
theorem bl_app (a b : ByteArray) : bl (a ++ b) = bl a ++ bl b := by
  simp [bl, ByteArray.data_append]
theorem bl_len (b : ByteArray) : (bl b).length = b.size := by simp [bl]
theorem bl_ext (b : ByteArray) (i j : Nat) : bl (b.extract i j) = ((bl b).drop i).take (j - i) := Lib.extract_data b i j
theorem bl_ext_end (b : ByteArray) (i : Nat) : bl (b.extract i b.size) = (bl b).drop i := by
  rw [bl_ext, List.take_of_length_le (by rw [List.length_drop, bl_len]; omega)]
def wordsB (c : UInt8) (s : ByteArray) : List ByteArray := Lib.splitB ⟨#[c]⟩ 0 (Lib.countB s ⟨#[c]⟩) s
theorem wordsB_map (c : UInt8) (s : ByteArray) : (wordsB c s).map bl = wordsF c (bl s) := by
  unfold wordsB
  have h : Lib.countB s ⟨#[c]⟩ = (bl s).count c := Lib.count_one c (bl s)
  rw [h]
  exact (Lib.splitB_data _ _ _ _).trans (split_words c (bl s))
theorem wordsB_eq (c : UInt8) (s : ByteArray) : wordsB c s = (wordsF c (bl s)).map mkB := by
  rw [← wordsB_map, List.map_map]
  conv => lhs; rw [← List.map_id (wordsB c s)]
  refine List.map_congr_left fun b _ => ?_
  exact (mk_bl b).symm
theorem wordsF_len (c : UInt8) : ∀ (l : List UInt8), ∀ w ∈ wordsF c l, w.length ≤ l.length
  | [], w, h => by rw [wordsF, List.mem_singleton] at h; subst h; exact Nat.le_refl _
  | b :: l, w, h => by
    have ih := wordsF_len c l
    unfold wordsF at h
    split at h
    · rcases List.mem_cons.1 h with rfl | h
      · exact Nat.zero_le _
      · exact Nat.le_trans (ih w h) (by simp)
    · split at h
      · rename_i w0 ws e
        rcases List.mem_cons.1 h with rfl | h
        · have := ih w0 (by rw [e]; simp)
          simpa using this
        · have := ih w (by rw [e]; simp [h])
          exact Nat.le_trans this (by simp)
      · rw [List.mem_singleton] at h; subst h; simp
theorem wordsB_size {c : UInt8} {s w : ByteArray} (h : w ∈ wordsB c s) : w.size ≤ s.size := by
  have h2 : bl w ∈ wordsF c (bl s) := by rw [← wordsB_map]; exact List.mem_map_of_mem h
  have := wordsF_len c (bl s) _ h2
  rwa [bl_len, bl_len] at this
theorem indexByte_at {c : UInt8} : ∀ {l : List UInt8} (r : List UInt8), c ∉ l → Lib.indexByte (l ++ c :: r) c = l.length
  | [], r, _ => by
    rw [List.nil_append]; unfold Lib.indexByte; rw [if_pos (by simp)]; rfl
  | b :: l, r, h => by
    have hb : ¬ (b == c) = true := fun e => h (by rw [beq_iff_eq.1 e]; simp)
    rw [List.cons_append]
    unfold Lib.indexByte
    rw [if_neg hb, indexByte_at r fun e => h (by simp [e]), if_neg (by rw [beq_iff_eq]; omega), List.length_cons]; omega
theorem indexByte_lt (c : UInt8) : ∀ l : List UInt8, Lib.indexByte l c < l.length ∨ Lib.indexByte l c = -1
  | [] => .inr rfl
  | b :: l => by
    unfold Lib.indexByte
    rw [List.length_cons]
    split
    · left; omega
    · split
      · right; rfl
      · rcases indexByte_lt c l with h | h
        · left; omega
        · rename_i h2; exact absurd h (by simpa using h2)
def lnI (s : ByteArray) : Int := Lib.indexByte (bl s) 10
def lnH (s : ByteArray) : ByteArray := if 0 ≤ lnI s then s.extract 0 (lnI s + 1).toNat else s
def lnT (s : ByteArray) : ByteArray := if 0 ≤ lnI s then s.extract (lnI s + 1).toNat s.size else ByteArray.empty
theorem lnI_lt (s : ByteArray) (h : 0 ≤ lnI s) : lnI s < s.size := by
  rcases indexByte_lt 10 (bl s) with h' | h'
  · rw [bl_len] at h'; exact h'
  · unfold lnI at h; omega
theorem lnT_size (s : ByteArray) (h : s.size ≠ 0) : (lnT s).size < s.size := by
  unfold lnT
  split
  · rw [ByteArray.size_extract]; have := lnI_lt s (by assumption); omega
  · simp; omega
theorem lnH_size (s : ByteArray) : (lnH s).size ≤ s.size := by
  unfold lnH
  split
  · rw [ByteArray.size_extract]; omega
  · exact Nat.le_refl _
theorem ln_at {l r : List UInt8} (h : (10 : UInt8) ∉ l) {s : ByteArray} (hs : bl s = l ++ 10 :: r) : bl (lnH s) = l ++ [10] ∧ bl (lnT s) = r := by
  have hi : lnI s = l.length := by unfold lnI; rw [hs]; exact indexByte_at r h
  unfold lnH lnT
  rw [hi, if_pos (by omega), if_pos (by omega)]
  have e : ((l.length : Int) + 1).toNat = l.length + 1 := by omega
  rw [e]
  constructor
  · rw [bl_ext, hs, List.drop_zero, Nat.sub_zero, show l ++ (10 : UInt8) :: r = (l ++ [10]) ++ r by simp, show l.length + 1 = (l ++ [(10 : UInt8)]).length by simp, List.take_left]
  · rw [bl_ext_end, hs, show l ++ (10 : UInt8) :: r = (l ++ [10]) ++ r by simp, show l.length + 1 = (l ++ [(10 : UInt8)]).length by simp, List.drop_left]
def bareB (s : ByteArray) : ByteArray := mkB (Lib.trimSuffix (bl s) [10])
theorem bare_at {l : List UInt8} {s : ByteArray} (hs : bl s = l ++ [10]) : bl (bareB s) = l := by
  unfold bareB
  rw [bl_mk, hs]
  unfold Lib.trimSuffix Lib.hasSuffix
  rw [if_pos (by rw [List.isSuffixOf_iff_suffix]; exact List.suffix_append _ _)]
  rw [List.length_append, List.length_singleton, Nat.add_sub_cancel, List.take_left]
theorem bare_size (s : ByteArray) : (bareB s).size ≤ s.size := by
  unfold bareB
  rw [← bl_len, bl_mk, ← bl_len s]
  unfold Lib.trimSuffix
  split
  · rw [List.length_take]; omega
  · exact Nat.le_refl _
def linesF {α : Type} (f : α → ByteArray → α × Bool) : Nat → ByteArray → α × Bool → α × Bool
  | 0, _, p => p
  | n + 1, s, p => if s.size = 0 ∨ p.2 = true then p else linesF f n (lnT s) (f p.1 (lnH s))
theorem linesF_stop {α : Type} (f : α → ByteArray → α × Bool) (n : Nat) (s : ByteArray) {p : α × Bool} (h : p.2 = true) : linesF f n s p = p := by
  cases n with
  | zero => rfl
  | succ n => rw [linesF, if_pos (.inr h)]
theorem linesF_nil {α : Type} (f : α → ByteArray → α × Bool) (n : Nat) {s : ByteArray} (h : s.size = 0) (p : α × Bool) : linesF f n s p = p := by
  cases n with
  | zero => rfl
  | succ n => rw [linesF, if_pos (.inl h)]
end Go.Tx
