/-
  Contracts of functions, proved by going through their code. No conditions.
-/
import Derived.Lib.AtoiAllCases
import Derived.Lib.ItoaNum
import Derived.Lib.SplitLaws
import Derived.WalkSmall
import Derived.Test.YtbeiiipphicdlaaGreatDoorTal
import Derived.Test.YtbeiiipphicdlaaGreatDoorTaq
set_option linter.unusedVariables false
set_option linter.unusedSimpArgs false
namespace Go.Tx
open Go
theorem parse_app : ∀ (l r : List UInt8) (acc a : Nat), Lib.parseUint10 acc l = .ok a → Lib.parseUint10 acc (l ++ r) = Lib.parseUint10 a r
  | [], r, acc, a, h => by
    simp only [Lib.parseUint10, Lib.NumEnd.ok.injEq] at h
    subst h; rfl
  | c :: l, r, acc, a, h => by
    rw [List.cons_append]
    simp only [Lib.parseUint10] at h ⊢
    split at h
    · rename_i h1
      rw [if_pos h1]
      split at h
      · cases h
      · rename_i h2
        rw [if_neg h2]
        split at h
        · cases h
        · rename_i h3
          rw [if_neg h3]
          exact parse_app l r _ a h
    · cases h
theorem dig_toNat (d : Nat) (h : d < 10) : (UInt8.ofNat (48 + d)).toNat = 48 + d := by
  rw [UInt8.toNat_ofNat']; omega
theorem parse_dig (a d : Nat) (h : d < 10) (ha : a * 10 + d < 9223372036854775808) : Lib.parseUint10 a [UInt8.ofNat (48 + d)] = .ok (a * 10 + d) := by
  simp only [Lib.parseUint10, dig_toNat d h]
  rw [if_pos (by omega), if_neg (by omega), if_neg (by omega)]
  congr 1; omega
theorem parse_dec : ∀ (k u : Nat), u ≤ k → u < 9223372036854775808 → Lib.parseUint10 0 (Lib.decDigits u) = .ok u
  | k, u, hk, h => by
    rw [Lib.decDigits]
    split
    · rename_i hu
      have := parse_dig 0 u hu (by omega)
      simpa using this
    · rename_i hu
      obtain ⟨k, rfl⟩ : ∃ j, k = j + 1 := ⟨k - 1, by omega⟩
      rw [parse_app _ _ _ _ (parse_dec k (u / 10) (by omega) (by omega))]
      rw [parse_dig _ _ (Nat.mod_lt _ (by decide)) (by omega)]
      congr 1; omega
theorem dec_digit : ∀ (k u : Nat), u ≤ k → ∀ c ∈ Lib.decDigits u, 48 ≤ c.toNat ∧ c.toNat ≤ 57
  | k, u, hk => by
    rw [Lib.decDigits]
    split
    · rename_i hu
      intro c hc
      rw [List.mem_singleton.1 hc, dig_toNat u hu]; omega
    · rename_i hu
      obtain ⟨k, rfl⟩ : ∃ j, k = j + 1 := ⟨k - 1, by omega⟩
      intro c hc
      rcases List.mem_append.1 hc with hc | hc
      · exact dec_digit k (u / 10) (by omega) c hc
      · rw [List.mem_singleton.1 hc, dig_toNat _ (Nat.mod_lt _ (by decide))]; omega
theorem dec_ne (u : Nat) : Lib.decDigits u ≠ [] := by
  rw [Lib.decDigits]; split <;> simp
theorem dec_cons (u : Nat) : ∃ c r, Lib.decDigits u = c :: r ∧ 48 ≤ c.toNat ∧ c.toNat ≤ 57 := by
  match h : Lib.decDigits u with
  | [] => exact absurd h (dec_ne u)
  | c :: r => exact ⟨c, r, rfl, dec_digit u u (Nat.le_refl _) c (by rw [h]; simp)⟩
theorem mag_dec (u : Nat) (h : u < 9223372036854775808) : Lib.parseMag (Lib.decDigits u) = .ok u := by
  unfold Lib.parseMag
  rw [if_neg (dec_ne u), parse_dec u u (Nat.le_refl _) h]
theorem atoi_dec (u : Nat) (h : u < 9223372036854775808) : Lib.atoiAll (Lib.decDigits u) = .ok (u : Int) := by
  obtain ⟨c, r, hc, h1, h2⟩ := dec_cons u
  have := mag_dec u h
  rw [hc] at this ⊢
  rw [Lib.atoiAll_plain c r (by omega) (by omega), this]
  unfold Lib.signless
  dsimp only
  rw [if_neg (by omega)]
theorem atoi_itoa (n : Int) (h0 : -9223372036854775807 ≤ n) (h1 : n ≤ 9223372036854775807) : Lib.atoiAll (Lib.itoa n) = .ok n := by
  unfold Lib.itoa
  split
  · rw [Lib.atoiAll_minus, mag_dec _ (by omega)]
    unfold Lib.signed
    dsimp only
    rw [if_neg (by omega)]
    congr 1; omega
  · rw [atoi_dec _ (by omega)]
    congr 1; omega
def wordsF (c : UInt8) : List UInt8 → List (List UInt8)
  | [] => [[]]
  | b :: l => if b = c then [] :: wordsF c l else match wordsF c l with
    | w :: ws => (b :: w) :: ws
    | [] => [[b]]
theorem wordsF_ne (c : UInt8) : ∀ l, wordsF c l ≠ []
  | [] => by simp [wordsF]
  | b :: l => by
    unfold wordsF
    split
    · simp
    · split <;> simp
theorem wordsF_none {c : UInt8} : ∀ {w : List UInt8}, c ∉ w → wordsF c w = [w]
  | [], _ => rfl
  | b :: w, h => by
    have hb : b ≠ c := fun e => h (by simp [e])
    have hw : c ∉ w := fun e => h (by simp [e])
    unfold wordsF
    rw [if_neg hb, wordsF_none hw]
theorem wordsF_cons {c : UInt8} : ∀ {w r : List UInt8}, c ∉ w → wordsF c (w ++ c :: r) = w :: wordsF c r
  | [], r, _ => by simp [wordsF]
  | b :: w, r, h => by
    have hb : b ≠ c := fun e => h (by simp [e])
    have hw : c ∉ w := fun e => h (by simp [e])
    rw [List.cons_append]
    conv => lhs; unfold wordsF
    rw [if_neg hb, wordsF_cons hw]
theorem index_cons_eq (c : UInt8) (l : List UInt8) : Lib.index (c :: l) [c] = 0 := by
  unfold Lib.index
  rw [if_pos (by simp)]
theorem index_cons_ne {b c : UInt8} (h : b ≠ c) (l : List UInt8) : Lib.index (b :: l) [c] = if Lib.index l [c] == -1 then -1 else Lib.index l [c] + 1 := by
  conv => lhs; unfold Lib.index
  rw [if_neg (by simpa using fun e => h e.symm)]
theorem split_words (c : UInt8) : ∀ s : List UInt8, Lib.splitK [c] 0 (s.count c) s = wordsF c s
  | [] => rfl
  | b :: l => by
    have ih := split_words c l
    by_cases h : b = c
    · subst h
      rw [List.count_cons_self]
      unfold Lib.splitK wordsF
      rw [index_cons_eq, if_neg (by decide), if_pos rfl]
      simp only [Int.toNat_zero, Nat.zero_add, List.take_zero, List.length_singleton, List.drop_one, List.tail_cons]
      rw [ih]
    · rw [List.count_cons_of_ne h]
      unfold wordsF
      rw [if_neg h, ← ih]
      match hk : l.count c with
      | 0 => rfl
      | k + 1 =>
        unfold Lib.splitK
        rw [index_cons_ne h]
        by_cases hi : (Lib.index l [c] == -1) = true
        · rw [if_pos hi, if_pos (by decide : ((-1 : Int) == -1) = true), if_pos hi]
        · have hge := Lib.index_ge l [c]
          have hne : Lib.index l [c] ≠ -1 := fun e => hi (by rw [e]; rfl)
          rw [if_neg hi, if_neg (by rw [beq_iff_eq]; omega), if_neg hi]
          have e : (Lib.index l [c] + 1).toNat = (Lib.index l [c]).toNat + 1 := by omega
          rw [e]
          simp only [Nat.add_zero, List.take_succ_cons, List.length_singleton, List.drop_succ_cons]
abbrev bl (b : ByteArray) : List UInt8 := b.data.toList
abbrev mkB (l : List UInt8) : ByteArray := ⟨l.toArray⟩
theorem bl_mk (l : List UInt8) : bl (mkB l) = l := rfl
theorem mk_bl (b : ByteArray) : mkB (bl b) = b := by cases b; simp [mkB, bl]
theorem bl_inj {a b : ByteArray} (h : bl a = bl b) : a = b := by rw [← mk_bl a, ← mk_bl b, h]
theorem bl_app (a b : ByteArray) : bl (a ++ b) = bl a ++ bl b := by
  simp [bl, ByteArray.data_append]
theorem bl_len (b : ByteArray) : (bl b).length = b.size := by simp [bl]
theorem bl_ext (b : ByteArray) (i j : Nat) : bl (b.extract i j) = ((bl b).drop i).take (j - i) := Lib.extract_data b i j
theorem bl_ext_end (b : ByteArray) (i : Nat) : bl (b.extract i b.size) = (bl b).drop i := by
  rw [bl_ext, List.take_of_length_le (by rw [List.length_drop, bl_len]; omega)]
def wordsB (c : UInt8) (s : ByteArray) : List ByteArray := Lib.splitB ⟨#[c]⟩ 0 (Lib.countB s ⟨#[c]⟩) s
theorem wordsB_map (c : UInt8) (s : ByteArray) : (wordsB c s).map bl = wordsF c (bl s) := by
  unfold wordsB
  have h : Lib.countB s ⟨#[c]⟩ = (bl s).count c := Lib.count_one c (bl s)
  rw [h]
  exact (Lib.splitB_data _ _ _ _).trans (split_words c (bl s))
theorem wordsB_eq (c : UInt8) (s : ByteArray) : wordsB c s = (wordsF c (bl s)).map mkB := by
  rw [← wordsB_map, List.map_map]
  conv => lhs; rw [← List.map_id (wordsB c s)]
  refine List.map_congr_left fun b _ => ?_
  exact (mk_bl b).symm
theorem wordsF_len (c : UInt8) : ∀ (l : List UInt8), ∀ w ∈ wordsF c l, w.length ≤ l.length
  | [], w, h => by rw [wordsF, List.mem_singleton] at h; subst h; exact Nat.le_refl _
  | b :: l, w, h => by
    have ih := wordsF_len c l
    unfold wordsF at h
    split at h
    · rcases List.mem_cons.1 h with rfl | h
      · exact Nat.zero_le _
      · exact Nat.le_trans (ih w h) (by simp)
    · split at h
      · rename_i w0 ws e
        rcases List.mem_cons.1 h with rfl | h
        · have := ih w0 (by rw [e]; simp)
          simpa using this
        · have := ih w (by rw [e]; simp [h])
          exact Nat.le_trans this (by simp)
      · rw [List.mem_singleton] at h; subst h; simp
theorem wordsB_size {c : UInt8} {s w : ByteArray} (h : w ∈ wordsB c s) : w.size ≤ s.size := by
  have h2 : bl w ∈ wordsF c (bl s) := by rw [← wordsB_map]; exact List.mem_map_of_mem h
  have := wordsF_len c (bl s) _ h2
  rwa [bl_len, bl_len] at this
theorem indexByte_at {c : UInt8} : ∀ {l : List UInt8} (r : List UInt8), c ∉ l → Lib.indexByte (l ++ c :: r) c = l.length
  | [], r, _ => by
    rw [List.nil_append]; unfold Lib.indexByte; rw [if_pos (by simp)]; rfl
  | b :: l, r, h => by
    have hb : ¬ (b == c) = true := fun e => h (by rw [beq_iff_eq.1 e]; simp)
    rw [List.cons_append]
    unfold Lib.indexByte
    rw [if_neg hb, indexByte_at r fun e => h (by simp [e]), if_neg (by rw [beq_iff_eq]; omega), List.length_cons]; omega
theorem indexByte_lt (c : UInt8) : ∀ l : List UInt8, Lib.indexByte l c < l.length ∨ Lib.indexByte l c = -1
  | [] => .inr rfl
  | b :: l => by
    unfold Lib.indexByte
    rw [List.length_cons]
    split
    · left; omega
    · split
      · right; rfl
      · rcases indexByte_lt c l with h | h
        · left; omega
        · rename_i h2; exact absurd h (by simpa using h2)
def lnI (s : ByteArray) : Int := Lib.indexByte (bl s) 10
def lnH (s : ByteArray) : ByteArray := if 0 ≤ lnI s then s.extract 0 (lnI s + 1).toNat else s
def lnT (s : ByteArray) : ByteArray := if 0 ≤ lnI s then s.extract (lnI s + 1).toNat s.size else ByteArray.empty
theorem lnI_lt (s : ByteArray) (h : 0 ≤ lnI s) : lnI s < s.size := by
  rcases indexByte_lt 10 (bl s) with h' | h'
  · rw [bl_len] at h'; exact h'
  · unfold lnI at h; omega
theorem lnT_size (s : ByteArray) (h : s.size ≠ 0) : (lnT s).size < s.size := by
  unfold lnT
  split
  · rw [ByteArray.size_extract]; have := lnI_lt s (by assumption); omega
  · simp; omega
theorem lnH_size (s : ByteArray) : (lnH s).size ≤ s.size := by
  unfold lnH
  split
  · rw [ByteArray.size_extract]; omega
  · exact Nat.le_refl _
theorem ln_at {l r : List UInt8} (h : (10 : UInt8) ∉ l) {s : ByteArray} (hs : bl s = l ++ 10 :: r) : bl (lnH s) = l ++ [10] ∧ bl (lnT s) = r := by
  have hi : lnI s = l.length := by unfold lnI; rw [hs]; exact indexByte_at r h
  unfold lnH lnT
  rw [hi, if_pos (by omega), if_pos (by omega)]
  have e : ((l.length : Int) + 1).toNat = l.length + 1 := by omega
  rw [e]
  constructor
  · rw [bl_ext, hs, List.drop_zero, Nat.sub_zero, show l ++ (10 : UInt8) :: r = (l ++ [10]) ++ r by simp, show l.length + 1 = (l ++ [(10 : UInt8)]).length by simp, List.take_left]
  · rw [bl_ext_end, hs, show l ++ (10 : UInt8) :: r = (l ++ [10]) ++ r by simp, show l.length + 1 = (l ++ [(10 : UInt8)]).length by simp, List.drop_left]
def bareB (s : ByteArray) : ByteArray := mkB (Lib.trimSuffix (bl s) [10])
theorem bare_at {l : List UInt8} {s : ByteArray} (hs : bl s = l ++ [10]) : bl (bareB s) = l := by
  unfold bareB
  rw [bl_mk, hs]
  unfold Lib.trimSuffix Lib.hasSuffix
  rw [if_pos (by rw [List.isSuffixOf_iff_suffix]; exact List.suffix_append _ _)]
  rw [List.length_append, List.length_singleton, Nat.add_sub_cancel, List.take_left]
theorem bare_size (s : ByteArray) : (bareB s).size ≤ s.size := by
  unfold bareB
  rw [← bl_len, bl_mk, ← bl_len s]
  unfold Lib.trimSuffix
  split
  · rw [List.length_take]; omega
  · exact Nat.le_refl _
def linesF {α : Type} (f : α → ByteArray → α × Bool) : Nat → ByteArray → α × Bool → α × Bool
  | 0, _, p => p
  | n + 1, s, p => if s.size = 0 ∨ p.2 = true then p else linesF f n (lnT s) (f p.1 (lnH s))
theorem linesF_stop {α : Type} (f : α → ByteArray → α × Bool) (n : Nat) (s : ByteArray) {p : α × Bool} (h : p.2 = true) : linesF f n s p = p := by
  cases n with
  | zero => rfl
  | succ n => rw [linesF, if_pos (.inr h)]
theorem linesF_nil {α : Type} (f : α → ByteArray → α × Bool) (n : Nat) {s : ByteArray} (h : s.size = 0) (p : α × Bool) : linesF f n s p = p := by
  cases n with
  | zero => rfl
  | succ n => rw [linesF, if_pos (.inl h)]
end Go.Tx

namespace Go.Tx
open Go
def isDig (c : UInt8) : Prop := 48 ≤ c.toNat ∧ c.toNat ≤ 57
instance (c : UInt8) : Decidable (isDig c) := by unfold isDig; exact inferInstance
def valD (acc : Nat) (l : List UInt8) : Nat := l.foldl (fun a c => 10 * a + (c.toNat - 48)) acc
theorem valD_app (acc : Nat) (a b : List UInt8) : valD acc (a ++ b) = valD (valD acc a) b := by unfold valD; rw [List.foldl_append]
theorem valD_dec : ∀ (k u : Nat), u ≤ k → valD 0 (Lib.decDigits u) = u
  | k, u, hk => by
    rw [Lib.decDigits]
    split
    · rename_i hu
      simp only [valD, List.foldl_cons, List.foldl_nil, dig_toNat u hu]; omega
    · rename_i hu
      obtain ⟨k, rfl⟩ : ∃ j, k = j + 1 := ⟨k - 1, by omega⟩
      rw [valD_app, valD_dec k (u / 10) (by omega)]
      simp only [valD, List.foldl_cons, List.foldl_nil, dig_toNat _ (Nat.mod_lt u (by decide : 0 < 10))]; omega
theorem nDigits_le : ∀ (k u : Nat), u < 10 ^ (k + 1) → Lib.nDigits u ≤ k + 1
  | k, u, h => by
    by_cases hu : u < 10
    · rw [Lib.nDigits_small hu]; omega
    · rw [Lib.nDigits_big hu]
      cases k with
      | zero => exact absurd (by simpa using h) hu
      | succ k =>
        have := nDigits_le k (u / 10) (by rw [Nat.pow_succ] at h; omega)
        omega
end Go.Tx

set_option maxRecDepth 10000
namespace Go.Proofs.Hz
open Go Go.Pg Go.Proofs Go.Tx
theorem bl_one (c : UInt8) : bl (ByteArray.mk #[c]) = [c] := rfl
theorem words_join (c : UInt8) : ∀ (x : List UInt8) (r : List (List UInt8)), c ∉ x → (∀ y ∈ r, c ∉ y) → wordsF c (Lib.join (x :: r) [c]) = x :: r
  | x, [], hx, _ => by rw [Lib.join_one]; exact wordsF_none hx
  | x, y :: r, hx, hr => by
    have e : Lib.join (x :: y :: r) [c] = x ++ c :: Lib.join (y :: r) [c] := by
      rw [Lib.join_cons, Lib.join_cons]
      simp [Lib.joinTail]
    rw [e, wordsF_cons hx, words_join c y r (hr y (by simp)) fun z hz => hr z (by simp [hz])]
theorem join_not (c d : UInt8) (hcd : c ≠ d) : ∀ (l : List (List UInt8)), (∀ y ∈ l, c ∉ y) → c ∉ Lib.join l [d]
  | [], _ => by simp [Lib.join_nil]
  | x :: r, h => by
    rw [Lib.join_cons]
    simp only [List.mem_append, not_or]
    refine ⟨h x (by simp), ?_⟩
    unfold Lib.joinTail
    intro hm
    obtain ⟨z, hz, hc⟩ := List.mem_flatten.1 hm
    obtain ⟨y, hy, rfl⟩ := List.mem_map.1 hz
    simp only [List.mem_append, List.mem_singleton] at hc
    rcases hc with hc | hc
    · exact hcd hc
    · exact h y (by simp [hy]) hc
theorem line_bl (xs : List ByteArray) : bl (wordsB xs) = Lib.join (xs.map bl) [32] ++ [10] := by
  unfold wordsB joinB
  rw [bl_app]
theorem line_words {x : ByteArray} {xs : List ByteArray} (h : ∀ y ∈ x :: xs, (32 : UInt8) ∉ bl y ∧ (10 : UInt8) ∉ bl y) {line : ByteArray} (hl : bl line = bl (wordsB (x :: xs))) : Tx.wordsB 32 (bareB line) = x :: xs := by
  have hb : bl (bareB line) = Lib.join ((x :: xs).map bl) [32] := bare_at (by rw [hl, line_bl])
  rw [wordsB_eq, hb, List.map_cons, words_join 32 _ _ (h x (by simp)).1 (fun y hy => by
    obtain ⟨z, hz, rfl⟩ := List.mem_map.1 hy
    exact (h z (by simp [hz])).1), ← List.map_cons, List.map_map]
  conv => rhs; rw [← List.map_id (x :: xs)]
  exact List.map_congr_left fun b _ => mk_bl b
theorem line_end {x : ByteArray} {xs : List ByteArray} (h : ∀ y ∈ x :: xs, (32 : UInt8) ∉ bl y ∧ (10 : UInt8) ∉ bl y) : ∃ l : List UInt8, bl (wordsB (x :: xs)) = l ++ [10] ∧ (10 : UInt8) ∉ l :=
  ⟨_, line_bl _, join_not 10 32 (by decide) _ fun y hy => by
    obtain ⟨z, hz, rfl⟩ := List.mem_map.1 hy
    exact (h z hz).2⟩
theorem itoa_bl (n : Int) : bl (itoaB n) = Lib.itoa n := rfl
theorem itoa_not (n : Int) (c : UInt8) (h : ¬ isDig c) (hm : c ≠ 45) : c ∉ bl (itoaB n) := by
  rw [itoa_bl]
  unfold Lib.itoa
  split
  · intro hc
    rcases List.mem_cons.1 hc with hc | hc
    · exact hm hc
    · exact h (dec_digit _ _ (Nat.le_refl _) c hc)
  · exact fun hc => h (dec_digit _ _ (Nat.le_refl _) c hc)
theorem itoa_clean (n : Int) : (32 : UInt8) ∉ bl (itoaB n) ∧ (10 : UInt8) ∉ bl (itoaB n) := ⟨itoa_not n 32 (by decide) (by decide), itoa_not n 10 (by decide) (by decide)⟩
theorem itoa_plain (n : Int) (h : 0 ≤ n) : (45 : UInt8) ∉ bl (itoaB n) := by
  rw [itoa_bl]
  unfold Lib.itoa
  rw [if_neg (by omega)]
  intro hc
  have := dec_digit _ _ (Nat.le_refl _) _ hc
  revert this; decide
def numI (s : ByteArray) : Int := match Lib.atoiAll (bl s) with | .ok v => v | _ => 0
theorem numI_itoa (n : Int) (h0 : -9223372036854775807 ≤ n) (h1 : n ≤ 9223372036854775807) : numI (itoaB n) = n := by
  unfold numI
  rw [itoa_bl, atoi_itoa n h0 h1]
def cutA (s : ByteArray) : ByteArray := mkB (Lib.cut (bl s) [45]).1
def cutB (s : ByteArray) : ByteArray := mkB (Lib.cut (bl s) [45]).2.1
def spanI (s : ByteArray) : Span := ⟨numI (cutA s), numI (cutB s)⟩
abbrev sRoom : ByteArray := ByteArray.mk #[114, 111, 111, 109]
abbrev sDoor : ByteArray := ByteArray.mk #[100, 111, 111, 114]
abbrev sShut : ByteArray := ByteArray.mk #[115, 104, 117, 116]
abbrev sWay : ByteArray := ByteArray.mk #[119, 97, 121]
def doorI : List ByteArray → Bool → Door → Door
  | [], _, d => d
  | x :: l, b, d => if bl x = bl sShut then doorI l true d else doorI l b (if b = true then ⟨d.hours, d.shut ++ [spanI x]⟩ else ⟨d.hours ++ [spanI x], d.shut⟩)
def wAt (w : List ByteArray) (i : Nat) : ByteArray := w.getD i ByteArray.empty
theorem wAt0 (x : ByteArray) (l : List ByteArray) : wAt (x :: l) 0 = x := rfl
def stepT (h : House) (line : ByteArray) : House × Bool :=
  if bl (wAt (Tx.wordsB 32 (bareB line)) 0) = bl sRoom ∧ (Tx.wordsB 32 (bareB line)).length = 3 then (⟨h.rooms ++ [⟨wAt (Tx.wordsB 32 (bareB line)) 1, numI (wAt (Tx.wordsB 32 (bareB line)) 2)⟩], h.doors, h.ways⟩, false)
  else if bl (wAt (Tx.wordsB 32 (bareB line)) 0) = bl sDoor then (⟨h.rooms, h.doors ++ [doorI ((Tx.wordsB 32 (bareB line)).drop 1) false ⟨[], []⟩], h.ways⟩, false)
  else if bl (wAt (Tx.wordsB 32 (bareB line)) 0) = bl sWay ∧ (Tx.wordsB 32 (bareB line)).length = 6 then
    (⟨h.rooms, h.doors, h.ways ++ [⟨numI (wAt (Tx.wordsB 32 (bareB line)) 1), numI (wAt (Tx.wordsB 32 (bareB line)) 2), numI (wAt (Tx.wordsB 32 (bareB line)) 3), numI (wAt (Tx.wordsB 32 (bareB line)) 4), numI (wAt (Tx.wordsB 32 (bareB line)) 5)⟩]⟩, false)
  else (h, true)
def hNone : House := ⟨[], [], []⟩
def parseP (text : ByteArray) : House × Bool := linesF stepT text.size text (hNone, false)
def GoodH (text : ByteArray) (h : House) : Prop := (Check h).1 = 0 ∧ textB h = text
instance (text : ByteArray) (h : House) : Decidable (GoodH text h) := by unfold GoodH; exact inferInstance
def parseF (text : ByteArray) : House × Int := if (parseP text).2 = false ∧ GoodH text (parseP text).1 then ((parseP text).1, 0) else (hNone, 7)
theorem good_clean {c : UInt8} (h : goodC c = true) : c ≠ 32 ∧ c ≠ 10 ∧ c ≠ 45 := by
  refine ⟨?_, ?_, ?_⟩ <;> (rintro rfl; revert h; decide)
theorem namedL_good {n : Nat} : ∀ {l : List UInt8}, namedL n l = true → ∀ c ∈ l, goodC c = true
  | [], _, c, hc => by simp at hc
  | b :: l, h, c, hc => by
    unfold namedL at h
    split at h
    · rename_i hb
      rcases List.mem_cons.1 hc with rfl | hc
      · exact hb
      · exact namedL_good h c hc
    · cases h
theorem named_clean {s : ByteArray} (h : named s = true) : (32 : UInt8) ∉ bl s ∧ (10 : UInt8) ∉ bl s :=
  ⟨fun hc => (good_clean (namedL_good h _ hc)).1 rfl, fun hc => (good_clean (namedL_good h _ hc)).2.1 rfl⟩
theorem lit_clean : ((32 : UInt8) ∉ bl sRoom ∧ (10 : UInt8) ∉ bl sRoom) ∧ ((32 : UInt8) ∉ bl sDoor ∧ (10 : UInt8) ∉ bl sDoor) ∧ ((32 : UInt8) ∉ bl sShut ∧ (10 : UInt8) ∉ bl sShut) ∧ ((32 : UInt8) ∉ bl sWay ∧ (10 : UInt8) ∉ bl sWay) := by decide
theorem span_bl (x : Span) : bl (spanB x) = bl (itoaB x.lo) ++ 45 :: bl (itoaB x.hi) := by
  unfold spanB
  simp only [bl_app, bl_one, List.append_assoc, List.singleton_append]
theorem span_clean (x : Span) : (32 : UInt8) ∉ bl (spanB x) ∧ (10 : UInt8) ∉ bl (spanB x) := by
  rw [span_bl]
  have h1 := itoa_clean x.lo
  have h2 := itoa_clean x.hi
  simp only [List.mem_append, List.mem_cons, not_or]
  exact ⟨⟨h1.1, by decide, h2.1⟩, h1.2, by decide, h2.2⟩
theorem index_at {c : UInt8} : ∀ {w : List UInt8} (r : List UInt8), c ∉ w → Lib.index (w ++ c :: r) [c] = w.length
  | [], r, _ => index_cons_eq c r
  | b :: w, r, h => by
    have hb : b ≠ c := fun e => h (by simp [e])
    rw [List.cons_append, index_cons_ne hb, index_at r fun e => h (by simp [e]), if_neg (by rw [beq_iff_eq]; omega), List.length_cons]; omega
theorem cut_at {c : UInt8} {w : List UInt8} (r : List UInt8) (h : c ∉ w) : Lib.cut (w ++ c :: r) [c] = (w, r, true) := by
  unfold Lib.cut
  rw [index_at r h, if_pos (by omega)]
  have e : ((w.length : Nat) : Int).toNat = w.length := by omega
  rw [e, List.take_left, List.length_singleton, show w ++ c :: r = (w ++ [c]) ++ r by simp, show w.length + 1 = (w ++ [c]).length by simp, List.drop_left]
theorem spanI_span (x : Span) (h0 : 0 ≤ x.lo) (h1 : x.lo ≤ x.hi) (h2 : x.hi ≤ 2147483648) : spanI (spanB x) = x := by
  have hc := cut_at (bl (itoaB x.hi)) (itoa_plain x.lo h0)
  rw [← span_bl] at hc
  unfold spanI cutA cutB
  rw [hc, mk_bl, mk_bl, numI_itoa _ (by omega) (by omega), numI_itoa _ (by omega) (by omega)]
theorem span_not_shut (x : Span) : bl (spanB x) ≠ bl sShut := by
  intro h
  have h45 : (45 : UInt8) ∈ bl (spanB x) := by rw [span_bl]; simp
  rw [h] at h45
  revert h45; decide
theorem doorI_hours : ∀ (l : List Span) (d : Door) (r : List ByteArray), (∀ x ∈ l, 0 ≤ x.lo ∧ x.lo ≤ x.hi ∧ x.hi ≤ 2147483648) → doorI (l.map spanB ++ r) false d = doorI r false ⟨d.hours ++ l, d.shut⟩
  | [], d, r, _ => by rw [List.append_nil]; rfl
  | x :: l, d, r, h => by
    obtain ⟨h0, h1, h2⟩ := h x (by simp)
    rw [List.map_cons, List.cons_append]
    conv => lhs; unfold doorI
    rw [if_neg (span_not_shut x), if_neg Bool.false_ne_true, spanI_span x h0 h1 h2, doorI_hours l _ r fun y hy => h y (by simp [hy]), List.append_assoc]
    rfl
theorem doorI_shut : ∀ (l : List Span) (d : Door), (∀ x ∈ l, 0 ≤ x.lo ∧ x.lo ≤ x.hi ∧ x.hi ≤ 2147483648) → doorI (l.map spanB) true d = ⟨d.hours, d.shut ++ l⟩
  | [], d, _ => by rw [List.append_nil]; rfl
  | x :: l, d, h => by
    obtain ⟨h0, h1, h2⟩ := h x (by simp)
    rw [List.map_cons]
    unfold doorI
    rw [if_neg (span_not_shut x), if_pos rfl, spanI_span x h0 h1 h2, doorI_shut l _ fun y hy => h y (by simp [hy]), List.append_assoc]
    rfl
def Dok (d : Door) : Prop := (∀ x ∈ d.hours, 0 ≤ x.lo ∧ x.lo ≤ x.hi ∧ x.hi ≤ 2147483648) ∧ (∀ x ∈ d.shut, 0 ≤ x.lo ∧ x.lo ≤ x.hi ∧ x.hi ≤ 2147483648)
theorem doorV_Dok {d : Door} (h : d.V) : Dok d := by
  obtain ⟨⟨_, h1, _⟩, ⟨_, h2, _⟩⟩ := h
  exact ⟨fun x hx => by have := h1 x hx; omega, fun x hx => by have := h2 x hx; omega⟩
theorem doorI_all (d : Door) (h : Dok d) : doorI (d.hours.map spanB ++ ([sShut] ++ d.shut.map spanB)) false ⟨[], []⟩ = d := by
  rw [doorI_hours _ _ _ h.1, List.singleton_append]
  unfold doorI
  rw [if_pos rfl, doorI_shut _ _ h.2]
  rfl
theorem wordsD_cons (d : Door) : wordsD d = sDoor :: (d.hours.map spanB ++ ([sShut] ++ d.shut.map spanB)) := by unfold wordsD; simp
theorem wordsD_clean (d : Door) : ∀ y ∈ sDoor :: (d.hours.map spanB ++ ([sShut] ++ d.shut.map spanB)), (32 : UInt8) ∉ bl y ∧ (10 : UInt8) ∉ bl y := by
  intro y hy
  simp only [List.mem_cons, List.mem_append, List.mem_map, List.not_mem_nil, or_false] at hy
  rcases hy with rfl | ⟨x, _, rfl⟩ | rfl | ⟨x, _, rfl⟩
  · exact lit_clean.2.1
  · exact span_clean x
  · exact lit_clean.2.2.1
  · exact span_clean x
theorem wordsW_clean (w : Way) : ∀ y ∈ wordsW w, (32 : UInt8) ∉ bl y ∧ (10 : UInt8) ∉ bl y := by
  intro y hy
  simp only [wordsW, List.mem_cons, List.not_mem_nil, or_false] at hy
  rcases hy with rfl | rfl | rfl | rfl | rfl | rfl
  · exact lit_clean.2.2.2
  all_goals exact itoa_clean _
theorem wordsR_clean {r : Room} (h : named r.name = true) : ∀ y ∈ [sRoom, r.name, itoaB r.floor], (32 : UInt8) ∉ bl y ∧ (10 : UInt8) ∉ bl y := by
  intro y hy
  simp only [List.mem_cons, List.not_mem_nil, or_false] at hy
  rcases hy with rfl | rfl | rfl
  · exact lit_clean.1
  · exact named_clean h
  · exact itoa_clean _
theorem stepT_room (h : House) {r : Room} (hn : named r.name = true) (hf : -60 ≤ r.floor ∧ r.floor ≤ 60) {line : ByteArray} (hl : bl line = bl (lineR r)) : stepT h line = (⟨h.rooms ++ [r], h.doors, h.ways⟩, false) := by
  have hw := line_words (wordsR_clean hn) hl
  unfold stepT
  rw [hw, if_pos ⟨rfl, rfl⟩]
  show ((⟨h.rooms ++ [⟨r.name, numI (itoaB r.floor)⟩], h.doors, h.ways⟩ : House), false) = _
  rw [numI_itoa _ (by omega) (by omega)]
theorem stepT_door (h : House) {d : Door} (hd : Dok d) {line : ByteArray} (hl : bl line = bl (lineD d)) : stepT h line = (⟨h.rooms, h.doors ++ [d], h.ways⟩, false) := by
  have hw := line_words (wordsD_clean d) (line := line) (by rw [hl]; unfold lineD; rw [wordsD_cons])
  unfold stepT
  rw [hw, wAt0, if_neg (fun hh => by have h1 := hh.1; revert h1; decide), if_pos rfl, List.drop_one, List.tail_cons, doorI_all d hd]
theorem stepT_way (h : House) {w : Way} {nr nd : Nat} (hw0 : w.OK nr nd) (hb : nr ≤ 1048576 ∧ nd ≤ 1048576) {line : ByteArray} (hl : bl line = bl (lineW w)) : stepT h line = (⟨h.rooms, h.doors, h.ways ++ [w]⟩, false) := by
  obtain ⟨⟨a1, a2⟩, ⟨b1, b2⟩, _, ⟨c1, c2⟩, ⟨d1, d2⟩, ⟨e1, e2⟩⟩ := hw0
  have hw := line_words (x := sWay) (xs := [itoaB w.a, itoaB w.b, itoaB w.secs, itoaB w.back, itoaB w.door]) (wordsW_clean w) hl
  unfold stepT
  rw [hw, wAt0, if_neg (fun hh => by have h1 := hh.1; revert h1; decide), if_neg (by decide), if_pos ⟨rfl, rfl⟩]
  show ((⟨h.rooms, h.doors, h.ways ++ [⟨numI (itoaB w.a), numI (itoaB w.b), numI (itoaB w.secs), numI (itoaB w.back), numI (itoaB w.door)⟩]⟩ : House), false) = _
  rw [numI_itoa _ (by omega) (by omega), numI_itoa _ (by omega) (by omega), numI_itoa _ (by omega) (by omega), numI_itoa _ (by omega) (by omega), numI_itoa _ (by omega) (by omega)]
theorem lines_step {α : Type} (f : α → ByteArray → α × Bool) {h h' : α} {line rest : ByteArray} {l : List UInt8} (he : bl line = l ++ [10]) (hn : (10 : UInt8) ∉ l) (hf : ∀ x : ByteArray, bl x = bl line → f h x = (h', false)) (n : Nat) (hz : (line ++ rest).size ≤ n) :
    ∃ m, rest.size ≤ m ∧ linesF f n (line ++ rest) (h, false) = linesF f m rest (h', false) := by
  have hs : bl (line ++ rest) = l ++ 10 :: bl rest := by rw [bl_app, he]; simp
  obtain ⟨g1, g2⟩ := ln_at hn hs
  have hsz : (line ++ rest).size ≠ 0 := by rw [← bl_len, hs]; simp
  have hlt := lnT_size _ hsz
  have ht : lnT (line ++ rest) = rest := bl_inj g2
  rw [ht] at hlt
  obtain ⟨n, rfl⟩ : ∃ k, n = k + 1 := ⟨n - 1, by omega⟩
  refine ⟨n, by omega, ?_⟩
  rw [linesF, if_neg (by rintro (h | h); exact hsz h; cases h), ht, hf _ (by rw [g1, he])]
theorem catB_cons (b : ByteArray) (l : List ByteArray) : catB (b :: l) = b ++ catB l := rfl
theorem lines_rooms : ∀ (rs : List Room) (h : House) (rest : ByteArray) (n : Nat), (∀ r ∈ rs, named r.name = true ∧ -60 ≤ r.floor ∧ r.floor ≤ 60) → (catB (rs.map lineR) ++ rest).size ≤ n →
    ∃ m, rest.size ≤ m ∧ linesF stepT n (catB (rs.map lineR) ++ rest) (h, false) = linesF stepT m rest (⟨h.rooms ++ rs, h.doors, h.ways⟩, false)
  | [], h, rest, n, _, hz => ⟨n, by simpa [catB] using hz, by simp [catB]⟩
  | r :: rs, h, rest, n, hv, hz => by
    obtain ⟨l, e1, e2⟩ := line_end (wordsR_clean (hv r (by simp)).1)
    rw [List.map_cons, catB_cons, ByteArray.append_assoc] at hz ⊢
    obtain ⟨m, g1, g2⟩ := lines_step stepT (line := lineR r) e1 e2 (fun x hx => stepT_room h (hv r (by simp)).1 (hv r (by simp)).2 hx) n hz
    obtain ⟨k, k1, k2⟩ := lines_rooms rs _ rest m (fun x hx => hv x (by simp [hx])) g1
    exact ⟨k, k1, by rw [g2, k2, List.append_assoc]; rfl⟩
theorem lines_doors : ∀ (ds : List Door) (h : House) (rest : ByteArray) (n : Nat), (∀ d ∈ ds, Dok d) → (catB (ds.map lineD) ++ rest).size ≤ n →
    ∃ m, rest.size ≤ m ∧ linesF stepT n (catB (ds.map lineD) ++ rest) (h, false) = linesF stepT m rest (⟨h.rooms, h.doors ++ ds, h.ways⟩, false)
  | [], h, rest, n, _, hz => ⟨n, by simpa [catB] using hz, by simp [catB]⟩
  | d :: ds, h, rest, n, hv, hz => by
    obtain ⟨l, e1, e2⟩ := line_end (wordsD_clean d)
    rw [List.map_cons, catB_cons, ByteArray.append_assoc] at hz ⊢
    obtain ⟨m, g1, g2⟩ := lines_step stepT (line := lineD d) (by unfold lineD; rw [wordsD_cons]; exact e1) e2 (fun x hx => stepT_door h (hv d (by simp)) hx) n hz
    obtain ⟨k, k1, k2⟩ := lines_doors ds _ rest m (fun x hx => hv x (by simp [hx])) g1
    exact ⟨k, k1, by rw [g2, k2, List.append_assoc]; rfl⟩
theorem lines_ways (nr nd : Nat) (hb : nr ≤ 1048576 ∧ nd ≤ 1048576) : ∀ (ws : List Way) (h : House) (rest : ByteArray) (n : Nat), (∀ w ∈ ws, w.OK nr nd) → (catB (ws.map lineW) ++ rest).size ≤ n →
    ∃ m, rest.size ≤ m ∧ linesF stepT n (catB (ws.map lineW) ++ rest) (h, false) = linesF stepT m rest (⟨h.rooms, h.doors, h.ways ++ ws⟩, false)
  | [], h, rest, n, _, hz => ⟨n, by simpa [catB] using hz, by simp [catB]⟩
  | w :: ws, h, rest, n, hv, hz => by
    obtain ⟨l, e1, e2⟩ := line_end (x := sWay) (xs := [itoaB w.a, itoaB w.b, itoaB w.secs, itoaB w.back, itoaB w.door]) (wordsW_clean w)
    rw [List.map_cons, catB_cons, ByteArray.append_assoc] at hz ⊢
    obtain ⟨m, g1, g2⟩ := lines_step stepT (line := lineW w) e1 e2 (fun x hx => stepT_way h (hv w (by simp)) hb hx) n hz
    obtain ⟨k, k1, k2⟩ := lines_ways nr nd hb ws _ rest m (fun x hx => hv x (by simp [hx])) g1
    exact ⟨k, k1, by rw [g2, k2, List.append_assoc]; rfl⟩
theorem parseP_good {text : ByteArray} {h : House} (hg : GoodH text h) : parseP text = (h, false) := by
  obtain ⟨hc, rfl⟩ := hg
  have hv := Check_V hc
  unfold parseP textB
  obtain ⟨n1, z1, e1⟩ := lines_rooms h.rooms hNone (catB (h.doors.map lineD) ++ catB (h.ways.map lineW)) _ (Check_rooms hc) (Nat.le_refl _)
  rw [e1]
  obtain ⟨n2, z2, e2⟩ := lines_doors h.doors ⟨hNone.rooms ++ h.rooms, hNone.doors, hNone.ways⟩ (catB (h.ways.map lineW)) n1 (fun d hd => doorV_Dok (hv.doors d hd)) z1
  rw [e2]
  obtain ⟨n3, z3, e3⟩ := lines_ways h.rooms.length h.doors.length (by have := hv.rooms; have := hv.nd; omega) h.ways ⟨hNone.rooms ++ h.rooms, hNone.doors ++ h.doors, hNone.ways⟩ ByteArray.empty n2 hv.ways (by simpa using z2)
  rw [ByteArray.append_empty] at e3
  rw [e3, linesF_nil _ _ (by rfl)]
  rfl
theorem parseF_good {text : ByteArray} {h : House} (hg : GoodH text h) : parseF text = (h, 0) := by
  unfold parseF
  rw [parseP_good hg, if_pos ⟨rfl, hg⟩]
theorem parseF_bad {text : ByteArray} (hg : ¬ ∃ h, GoodH text h) : parseF text = (hNone, 7) := by
  unfold parseF
  rw [if_neg fun hh => hg ⟨_, hh.2⟩]
theorem parseF_cases (text : ByteArray) : (∃ h, GoodH text h ∧ parseF text = (h, 0)) ∨ parseF text = (hNone, 7) := by
  by_cases h : ∃ ms, GoodH text ms
  · obtain ⟨ms, h⟩ := h
    exact .inl ⟨ms, h, parseF_good h⟩
  · exact .inr (parseF_bad h)
end Go.Proofs.Hz

set_option maxRecDepth 100000
set_option maxHeartbeats 4000000
namespace Go.Proofs.Hz
open Go Go.Pg Go.Proofs Go.RowKit Go.Tx
theorem trim_ok (s : ByteArray) (hs : s.size ≤ 9223372036854775807) : OKv cx 30 [at_ s, at_ (ByteArray.mk #[10])] (at_ (bareB s)) := by
  refine ⟨⟨_, Tryz.func30, by decide, by kernel_rfl⟩, fun w S vals hE hS hsz hrep => ?_⟩
  obtain ⟨u, v, rfl, hu, hv⟩ := vals2 hsz hrep
  simp only [Rep] at hu hv
  subst hu hv
  refine (Tryz.strings_TrimSuffix s (ByteArray.mk #[10]) w hs).mono ?_
  rintro e w' ⟨rfl, rfl⟩
  exact ⟨Below.refl _ _, _, _, rfl, rfl, rfl⟩
theorem indexB_ok (s : ByteArray) : OKv cx 55 [at_ s, .v (.int .u8 10)] (ai (lnI s)) := by
  refine ⟨⟨_, Tryz.func55, by decide, by kernel_rfl⟩, fun w S vals hE hS hsz hrep => ?_⟩
  obtain ⟨u, v, rfl, hu, hv⟩ := vals2 hsz hrep
  simp only [Rep] at hu hv
  subst hu hv
  refine (Tryz.strings_IndexByte s 10 w).mono ?_
  rintro e w' ⟨rfl, rfl⟩
  exact ⟨Below.refl _ _, _, _, rfl, rfl, rfl⟩
theorem repLL_strs {S : Nat → Prop} {w : World} (l : List ByteArray) (b : Nat) (arr : Array Value) (t : TypeId) (hb : w.heap[b]? = some (.cells arr t (0, 0))) : ∀ (r : List ByteArray) (o : Nat), (∀ i x, r[i]? = some x → arr[o + i]? = some (.string x)) →
    RepLL (pureSg S) w (r.map eStr) (fun i j => w.cell? ⟨b, o + i * 1 + j, none⟩) := by
  intro r o h
  rw [repLL_iff]
  intro i hi
  have hi' : i < r.length := by simpa using hi
  rw [List.getElem_map]
  simp only [RepL, Rep, and_true]
  refine ⟨_, ?_, rfl⟩
  rw [cell_of_row w b _ arr t (0, 0) hb]
  simpa using h i r[i] (List.getElem?_eq_getElem hi')
theorem split_ok (s : ByteArray) (hs : s.size < 4294967281) : OKv cx 29 [at_ s, at_ (ByteArray.mk #[32])] (.lst ((Tx.wordsB 32 s).map eStr)) := by
  refine ⟨⟨_, Tryz.func29, by decide, by kernel_rfl⟩, fun w S vals hE hS hsz hrep => ?_⟩
  obtain ⟨u, v, rfl, hu, hv⟩ := vals2 hsz hrep
  simp only [Rep] at hu hv
  subst hu hv
  obtain ⟨m, hm⟩ := hE.max
  refine (Tryz.strings_Split s (ByteArray.mk #[32]) m w hs hm (by decide)).mono ?_
  rintro e w' ⟨rfl, rfl⟩
  have hlen : (Tx.wordsB 32 s).length = Lib.countB s (ByteArray.mk #[32]) + 1 := Lib.splitB_all _ (by decide) 0 _ s rfl
  have hle := Lib.countB_le (ByteArray.mk #[32]) (by decide) s.size s (Nat.le_refl _)
  refine ⟨(Below.refl _ _).alloc (Nat.le_refl _) _, _, _, rfl, rfl, ?_⟩
  simp only [Rep]
  refine ⟨some ⟨w.heap.size, 0, none⟩, Lib.countB s (ByteArray.mk #[32]) + 1, 1, ?_, ?_, ?_, fun e he => ?_, fun _ => ⟨w.heap.size, 0, rfl, .inr ⟨Nat.le_refl _, by simp⟩, ?_⟩⟩
  · rw [List.length_map, hlen]
  · rw [List.length_map, hlen]; exact Nat.le_refl _
  · unfold maxLen; omega
  · obtain ⟨x, _, rfl⟩ := List.mem_map.1 he
    exact ⟨rfl, fun c hc => by rw [List.mem_singleton.1 hc]; rfl⟩
  · refine repLL_strs (Tx.wordsB 32 s) _ _ _ (heap_alloc_new w _) _ 0 fun i x hx => ?_
    rw [Nat.zero_add, List.getElem?_toArray, List.getElem?_map]
    exact congrArg (Option.map Value.string) hx
theorem number_calls (s : ByteArray) (hs : s.size ≤ 281474976710656) (w : World) (hE : Env w) : Calls Tryz.prog 31 #[.string s] w fun e w' => e = .returned (.int .i64 (numI s)) ∧ Below w.heap.size w w' := by
  have mixed : Tryz.prog.follows .mixedOrders = true := rfl
  obtain ⟨_, _, ⟨t1, p1, h1⟩, ⟨t2, p2, h2⟩⟩ := hE
  cases h : Lib.atoiAll (bl s)
  · rename_i v
    have hn : numI s = v := by unfold numI; rw [h]
    rw [hn]
    have hA := Tryz.strconv_Atoi_ok s (by omega) v h w
    go_enter Tryz.func31, Tryz.ntmps31
    go_wp2_with (go_at_call 58; refine hA.mono ?_; rintro e W1 ⟨rfl, hW⟩)
    go_wp2
    go_ret
    refine ⟨rfl, ?_⟩
    rcases hW with rfl | ⟨t, rfl⟩
    · exact Below.refl _ _
    · exact Lib.bytesWorld_below _ _ _
  · have hn : numI s = 0 := by unfold numI; rw [h]
    rw [hn]
    have hA := Tryz.strconv_Atoi_syntax s hs h _ w h1 (.inr ⟨t1, p1, rfl⟩)
    go_enter Tryz.func31, Tryz.ntmps31
    go_wp2_with (go_at_call 58; refine hA.mono ?_; rintro e W1 ⟨N, rfl, hW1, hW2, hW3⟩)
    go_wp2
    go_ret
    exact ⟨rfl, hW3⟩
  · have hn : numI s = 0 := by unfold numI; rw [h]
    rw [hn]
    have hA := Tryz.strconv_Atoi_range s hs h _ w h2 (.inr ⟨t2, p2, rfl⟩)
    go_enter Tryz.func31, Tryz.ntmps31
    go_wp2_with (go_at_call 58; refine hA.mono ?_; rintro e W1 ⟨N, rfl, hW1, hW2, hW3⟩)
    go_wp2
    go_ret
    exact ⟨rfl, hW3⟩
theorem number_ok (s : ByteArray) (hs : s.size ≤ 281474976710656) : OKv cx 31 [at_ s] (ai (numI s)) := by
  refine ⟨⟨_, Tryz.func31, by decide, by kernel_rfl⟩, fun w S vals hE hS hsz hrep => ?_⟩
  obtain ⟨u, rfl, hu⟩ := vals1 hsz hrep
  simp only [Rep] at hu
  subst hu
  refine (number_calls s hs w hE).mono ?_
  rintro e w' ⟨rfl, hb⟩
  exact ⟨hb, _, _, rfl, rfl, rfl⟩
theorem cut_ok (s : ByteArray) (hs : s.size < 4294967281) : OKv cx 59 [at_ s, at_ (ByteArray.mk #[45])] (.tup [at_ (cutA s), at_ (cutB s), ab (Lib.cut (bl s) [45]).2.2]) := by
  refine ⟨⟨_, Tryz.func59, by decide, by kernel_rfl⟩, fun w S vals hE hS hsz hrep => ?_⟩
  obtain ⟨u, v, rfl, hu, hv⟩ := vals2 hsz hrep
  simp only [Rep] at hu hv
  subst hu hv
  obtain ⟨m, hm⟩ := hE.max
  refine (Tryz.strings_Cut s (ByteArray.mk #[45]) m w hs hm).mono ?_
  rintro e w' ⟨rfl, n, rfl⟩
  refine ⟨below_drewN (Below.refl _ _) n, _, _, rfl, rfl, ?_⟩
  simp only [Rep]
  refine ⟨_, rfl, rfl, ?_⟩
  simp only [RepL, Rep, and_true]
  exact ⟨⟨_, rfl, rfl⟩, ⟨_, rfl, rfl⟩, ⟨_, rfl, rfl⟩⟩
end Go.Proofs.Hz
