/-
  Contracts of functions, proved by going through their code. No conditions.
-/
import Derived.Test.YtmcchoalekmklaaGreatZaa
import Derived.Test.YtmcchoalekmklaaGreatZbc
import Derived.Test.YtmcchoalekmklaaGreatZbd
set_option linter.unusedVariables false
set_option linter.unusedSimpArgs false
namespace Go.Proofs.Hs
open Go Go.Pg Go.Proofs Go.Proofs.Yt
structure IsNext (d : Door) (t n : Int) : Prop where
  ge : t ≤ n
  no : ∀ u, t ≤ u → u < n → u ≤ 1073741823 → openR d u ≠ true
  at' : n = 1073741824 ∨ (n ≤ 1073741823 ∧ openR d n = true)
theorem openR_iff {d : Door} {u : Int} (h0 : 0 ≤ u) : openR d u = true ↔ (∃ x ∈ d.hours, u / 86400 * 86400 + x.lo ≤ u ∧ u ≤ u / 86400 * 86400 + x.hi) ∧ ∀ x ∈ d.shut, ¬ (x.lo ≤ u ∧ u ≤ x.hi) := by
  unfold openR
  rw [Bool.and_eq_true, inS_iff, tmodN h0]
  have hb : (!inS d.shut u) = true ↔ ∀ x ∈ d.shut, ¬ (x.lo ≤ u ∧ u ≤ x.hi) := by
    have := inS_iff d.shut u
    cases hs : inS d.shut u with
    | false => rw [hs] at this; simp only [Bool.false_eq_true, false_iff, not_exists, not_and] at this; simp; intro x hx h1; have := this x hx h1; omega
    | true => rw [hs] at this; simp only [true_iff] at this; simp; obtain ⟨x, hx, h1⟩ := this; exact ⟨x, hx, h1.1, h1.2⟩
  rw [hb]
  constructor
  · rintro ⟨⟨x, hx, h1⟩, h2⟩; exact ⟨⟨x, hx, by omega⟩, h2⟩
  · rintro ⟨⟨x, hx, h1⟩, h2⟩; exact ⟨⟨x, hx, by omega⟩, h2⟩
theorem firstL_least (t day : Int) : ∀ (l : List Span), l.Pairwise (fun a b => a.hi + 2 ≤ b.lo) → (∀ x ∈ l, x.lo ≤ x.hi) → ∀ u, t ≤ u → u ≤ 1073741823 → (∀ n, firstL t day l = some n → u < n) → ∀ x ∈ l, ¬ (day + x.lo ≤ u ∧ u ≤ day + x.hi)
  | [], _, _, _, _, _, _ => by simp
  | y :: rest, hp, hv, u, h1, h2, hn => by
    obtain ⟨p1, p2⟩ := List.pairwise_cons.1 hp
    have hy := hv y (by simp)
    unfold firstL at hn
    split at hn
    · rename_i hc
      have := hn _ rfl
      intro x hx
      rcases List.mem_cons.1 hx with rfl | hx
      · omega
      · have := p1 x hx; omega
    · rename_i hc
      have ih := firstL_least t day rest p2 (fun z hz => hv z (by simp [hz])) u h1 h2 hn
      intro x hx
      rcases List.mem_cons.1 hx with rfl | hx
      · omega
      · exact ih x hx
theorem first_spec {d : Door} (hd : d.V) {t : Int} (h0 : 0 ≤ t) (h1 : t ≤ 1073741824) :
    (∀ n, first d t = some n → t ≤ n ∧ n ≤ 1073741823 ∧ ∃ x ∈ d.hours, n / 86400 * 86400 + x.lo ≤ n ∧ n ≤ n / 86400 * 86400 + x.hi) ∧
    (∀ u, t ≤ u → u ≤ 1073741823 → (∀ n, first d t = some n → u < n) → ¬ ∃ x ∈ d.hours, u / 86400 * 86400 + x.lo ≤ u ∧ u ≤ u / 86400 * 86400 + x.hi) := by
  have hv := hd.hours.2.1
  have hp := hd.hours.2.2
  have hlh : ∀ x ∈ d.hours, x.lo ≤ x.hi := fun x hx => (hv x hx).2.1
  have L0 := firstL_least t (t / 86400 * 86400) d.hours hp hlh
  have L1 := firstL_least t ((t / 86400 + 1) * 86400) d.hours hp hlh
  have S0 := firstL_spec t (t / 86400 * 86400) d.hours
  have S1 := firstL_spec t ((t / 86400 + 1) * 86400) d.hours
  have hf : first d t = match firstL t (t / 86400 * 86400) d.hours with | some n => some n | none => (match firstL t ((t / 86400 + 1) * 86400) d.hours with | some n => some n | none => none) := rfl
  rw [hf]
  cases e0 : firstL t (t / 86400 * 86400) d.hours with
  | some n =>
    obtain ⟨x, hx, a1, a2, a3⟩ := S0 n e0
    have hb := hv x hx
    simp only [Option.some.injEq]
    refine ⟨fun m hm => ?_, fun u u1 u2 hu => ?_⟩
    · subst hm
      refine ⟨by omega, a3, x, hx, ?_⟩
      have : n / 86400 = t / 86400 := by omega
      omega
    · have hun := hu n rfl
      have hd' : u / 86400 = t / 86400 := by omega
      rintro ⟨y, hy, hh⟩
      exact L0 u u1 u2 (fun m hm => by rw [e0] at hm; injection hm with hm; omega) y hy (by omega)
  | none =>
    simp only
    cases e1 : firstL t ((t / 86400 + 1) * 86400) d.hours with
    | some n =>
      obtain ⟨x, hx, a1, a2, a3⟩ := S1 n e1
      have hb := hv x hx
      simp only [Option.some.injEq]
      refine ⟨fun m hm => ?_, fun u u1 u2 hu => ?_⟩
      · subst hm
        refine ⟨by omega, a3, x, hx, ?_⟩
        have : n / 86400 = t / 86400 + 1 := by omega
        omega
      · have hun := hu n rfl
        rintro ⟨y, hy, hh⟩
        have hd' : u / 86400 = t / 86400 ∨ u / 86400 = t / 86400 + 1 := by omega
        rcases hd' with hd' | hd'
        · exact L0 u u1 u2 (fun m hm => by rw [e0] at hm; cases hm) y hy (by omega)
        · exact L1 u u1 u2 (fun m hm => by rw [e1] at hm; injection hm with hm; omega) y hy (by omega)
    | none =>
      refine ⟨fun m hm => (by cases hm), fun u u1 u2 _ => ?_⟩
      rintro ⟨y, hy, hh⟩
      have hb := hv y hy
      have hd' : u / 86400 = t / 86400 ∨ u / 86400 = t / 86400 + 1 ∨ t / 86400 + 2 ≤ u / 86400 := by omega
      rcases hd' with hd' | hd' | hd'
      · exact L0 u u1 u2 (fun m hm => by rw [e0] at hm; cases hm) y hy (by omega)
      · exact L1 u u1 u2 (fun m hm => by rw [e1] at hm; cases hm) y hy (by omega)
      · exact L1 ((t / 86400 + 1) * 86400 + y.lo) (by omega) (by omega) (fun m hm => by rw [e1] at hm; cases hm) y hy (by omega)
theorem over_in {l : List Span} {n : Int} (h : (over l n).2 = false) : ∀ x ∈ l, ¬ (x.lo ≤ n ∧ n ≤ x.hi) := by
  rw [over_iff] at h
  have := inS_iff l n
  rw [h] at this
  simp only [Bool.false_eq_true, false_iff, not_exists, not_and] at this
  intro x hx h1
  exact this x hx h1.1 h1.2
theorem filter_drop {α : Type} {p q : α → Bool} : ∀ (l : List α) (x : α), x ∈ l → p x = true → q x = false → (∀ y, q y = true → p y = true) → (l.filter q).length < (l.filter p).length := filter_len_lt
theorem nextL_is {d : Door} (hd : d.V) : ∀ (f : Nat) (t : Int), 0 ≤ t → t ≤ 1073741824 → (d.shut.filter (fun s => decide (t ≤ s.hi))).length < f → IsNext d t (nextL d f t)
  | 0, _, _, _, h => absurd h (Nat.not_lt_zero _)
  | f + 1, t, h0, h1, hf => by
    obtain ⟨S, L⟩ := first_spec hd h0 h1
    have hvs := hd.shut.2.1
    unfold nextL
    cases hn : first d t with
    | none =>
      simp only [Option.isSome_none, Bool.false_eq_true, if_false]
      refine ⟨h1, fun u u1 u2 u3 ho => ?_, .inl rfl⟩
      rw [openR_iff (by omega)] at ho
      exact L u u1 u3 (fun n h => by rw [hn] at h; cases h) ho.1
    | some n =>
      obtain ⟨s1, s2, s3⟩ := S n hn
      simp only [Option.isSome_some, if_true, Option.getD_some]
      have hno : ∀ u, t ≤ u → u < n → openR d u ≠ true := fun u u1 u2 ho => by
        rw [openR_iff (by omega)] at ho
        exact L u u1 (by omega) (fun m h => by rw [hn] at h; injection h with h; omega) ho.1
      split
      · rename_i ho
        obtain ⟨m1, m2, m3⟩ := over_mem d.shut n ho
        have hb := hvs _ m1
        have ih := nextL_is hd f ((over d.shut n).1.hi + 1) (by omega) (by omega) (by
          have := filter_drop (p := fun s => decide (t ≤ s.hi)) (q := fun s => decide ((over d.shut n).1.hi + 1 ≤ s.hi)) d.shut (over d.shut n).1 m1 (by simp; omega) (by simp; omega) (fun y hy => by simp at hy ⊢; omega)
          omega)
        refine ⟨by have := ih.ge; omega, fun u u1 u2 u3 hop => ?_, ih.at'⟩
        rcases Int.lt_or_le u n with hu | hu
        · exact hno u u1 hu hop
        · rcases Int.lt_or_le (over d.shut n).1.hi u with hu2 | hu2
          · exact ih.no u (by omega) u2 u3 hop
          · rw [openR_iff (by omega)] at hop
            exact hop.2 _ m1 (by omega)
      · rename_i ho
        refine ⟨s1, fun u u1 u2 _ => hno u u1 u2, .inr ⟨s2, ?_⟩⟩
        rw [openR_iff (by omega)]
        exact ⟨s3, over_in (by simpa using ho)⟩
theorem next_is {d : Door} (hd : d.V) {t : Int} (h0 : 0 ≤ t) (h1 : t ≤ 1073741824) : IsNext d t (next d t) :=
  nextL_is hd 17 t h0 h1 (by have := List.length_filter_le (fun s : Span => decide (t ≤ s.hi)) d.shut; have := hd.shut.1; omega)
theorem next_mono {d : Door} (hd : d.V) {t u : Int} (h0 : 0 ≤ t) (h : t ≤ u) (h1 : u ≤ 1073741824) : next d t ≤ next d u := by
  have a := next_is hd h0 (by omega)
  have b := next_is hd (t := u) (by omega) h1
  rcases Int.lt_or_le (next d u) (next d t) with hl | hl
  · have := b.ge
    rcases b.at' with e | ⟨e1, e2⟩
    · have := a.at'; omega
    · exact absurd e2 (a.no _ (by omega) hl e1)
  · exact hl
structure IsLast (d : Door) (t n : Int) : Prop where
  le : n ≤ t
  no : ∀ u, u ≤ t → n < u → 0 ≤ u → openR d u ≠ true
  at' : n = -1 ∨ (0 ≤ n ∧ openR d n = true)
theorem finalL_spec (t day : Int) : ∀ (l : List Span) (n : Int), finalL t day l = some n → 0 ≤ day ∧ ∃ x ∈ l, n = min t (day + x.hi) ∧ day + x.lo ≤ n
  | [], n, h => by cases h
  | x :: rest, n, h => by
    unfold finalL at h
    split at h
    · rename_i h0
      split at h
      · rename_i hc; injection h with h; exact ⟨h0, x, by simp, h.symm, by omega⟩
      · obtain ⟨h1, y, hy, h2⟩ := finalL_spec t day rest n h; exact ⟨h1, y, by simp [hy], h2⟩
    · cases h
theorem finalL_most (t day : Int) (hd : 0 ≤ day) : ∀ (l : List Span), l.Pairwise (fun a b => b.hi + 2 ≤ a.lo) → (∀ x ∈ l, x.lo ≤ x.hi) → ∀ u, u ≤ t → (∀ n, finalL t day l = some n → n < u) → ∀ x ∈ l, ¬ (day + x.lo ≤ u ∧ u ≤ day + x.hi)
  | [], _, _, _, _, _ => by simp
  | y :: rest, hp, hv, u, h1, hn => by
    obtain ⟨p1, p2⟩ := List.pairwise_cons.1 hp
    have hy := hv y (by simp)
    unfold finalL at hn
    rw [if_pos hd] at hn
    split at hn
    · rename_i hc
      have := hn _ rfl
      intro x hx
      rcases List.mem_cons.1 hx with rfl | hx
      · omega
      · have := p1 x hx; omega
    · rename_i hc
      have ih := finalL_most t day hd rest p2 (fun z hz => hv z (by simp [hz])) u h1 hn
      intro x hx
      rcases List.mem_cons.1 hx with rfl | hx
      · omega
      · exact ih x hx
theorem final_spec {d : Door} (hd : d.V) {t : Int} (h0 : 0 ≤ t) :
    (∀ n, final d t = some n → 0 ≤ n ∧ n ≤ t ∧ ∃ x ∈ d.hours, n / 86400 * 86400 + x.lo ≤ n ∧ n ≤ n / 86400 * 86400 + x.hi) ∧
    (∀ u, 0 ≤ u → u ≤ t → (∀ n, final d t = some n → n < u) → ¬ ∃ x ∈ d.hours, u / 86400 * 86400 + x.lo ≤ u ∧ u ≤ u / 86400 * 86400 + x.hi) := by
  have hv := hd.hours.2.1
  have hp : d.hours.reverse.Pairwise (fun a b => b.hi + 2 ≤ a.lo) := List.pairwise_reverse.2 hd.hours.2.2
  have hlh : ∀ x ∈ d.hours.reverse, x.lo ≤ x.hi := fun x hx => (hv x (by simpa using hx)).2.1
  have L0 := finalL_most t (t / 86400 * 86400) (by omega) d.hours.reverse hp hlh
  have S0 := finalL_spec t (t / 86400 * 86400) d.hours.reverse
  have S1 := finalL_spec t ((t / 86400 - 1) * 86400) d.hours.reverse
  have hf : final d t = match finalL t (t / 86400 * 86400) d.hours.reverse with | some n => some n | none => (match finalL t ((t / 86400 - 1) * 86400) d.hours.reverse with | some n => some n | none => none) := rfl
  rw [hf]
  cases e0 : finalL t (t / 86400 * 86400) d.hours.reverse with
  | some n =>
    obtain ⟨hd0, x, hx, a1, a2⟩ := S0 n e0
    have hx' : x ∈ d.hours := by simpa using hx
    have hb := hv x hx'
    simp only [Option.some.injEq]
    refine ⟨fun m hm => ?_, fun u u0 u1 hu => ?_⟩
    · subst hm
      refine ⟨by omega, by omega, x, hx', ?_⟩
      have : n / 86400 = t / 86400 := by omega
      omega
    · have hun := hu n rfl
      have hd' : u / 86400 = t / 86400 := by omega
      rintro ⟨y, hy, hh⟩
      exact L0 u u1 (fun m hm => by rw [e0] at hm; injection hm with hm; omega) y (by simpa using hy) (by omega)
  | none =>
    simp only
    cases e1 : finalL t ((t / 86400 - 1) * 86400) d.hours.reverse with
    | some n =>
      obtain ⟨hd1, x, hx, a1, a2⟩ := S1 n e1
      have hx' : x ∈ d.hours := by simpa using hx
      have hb := hv x hx'
      have L1 := finalL_most t ((t / 86400 - 1) * 86400) hd1 d.hours.reverse hp hlh
      simp only [Option.some.injEq]
      refine ⟨fun m hm => ?_, fun u u0 u1 hu => ?_⟩
      · subst hm
        refine ⟨by omega, by omega, x, hx', ?_⟩
        have : n / 86400 = t / 86400 - 1 := by omega
        omega
      · have hun := hu n rfl
        rintro ⟨y, hy, hh⟩
        have hd' : u / 86400 = t / 86400 ∨ u / 86400 = t / 86400 - 1 := by omega
        rcases hd' with hd' | hd'
        · exact L0 u u1 (fun m hm => by rw [e0] at hm; cases hm) y (by simpa using hy) (by omega)
        · exact L1 u u1 (fun m hm => by rw [e1] at hm; injection hm with hm; omega) y (by simpa using hy) (by omega)
    | none =>
      refine ⟨fun m hm => (by cases hm), fun u u0 u1 _ => ?_⟩
      rintro ⟨y, hy, hh⟩
      have hb := hv y hy
      have hd' : u / 86400 = t / 86400 ∨ u / 86400 ≤ t / 86400 - 1 := by omega
      rcases hd' with hd' | hd'
      · exact L0 u u1 (fun m hm => by rw [e0] at hm; cases hm) y (by simpa using hy) (by omega)
      · have hd1 : 0 ≤ (t / 86400 - 1) * 86400 := by omega
        have L1 := finalL_most t ((t / 86400 - 1) * 86400) hd1 d.hours.reverse hp hlh
        exact L1 ((t / 86400 - 1) * 86400 + y.lo) (by omega) (fun m hm => by rw [e1] at hm; cases hm) y (by simpa using hy) (by omega)
theorem lastL_is {d : Door} (hd : d.V) : ∀ (f : Nat) (t : Int), -1 ≤ t → (d.shut.filter (fun s => decide (s.lo ≤ t))).length < f → IsLast d t (lastL d f t)
  | 0, _, _, h => absurd h (Nat.not_lt_zero _)
  | f + 1, t, h1, hf => by
    have hvs := hd.shut.2.1
    unfold lastL
    rcases Int.lt_or_le t 0 with ht | h0
    · rw [if_neg (by omega)]
      exact ⟨h1, fun u u1 u2 u3 => by omega, .inl rfl⟩
    rw [if_pos h0]
    obtain ⟨S, L⟩ := final_spec hd h0
    cases hn : final d t with
    | none =>
      simp only [Option.isSome_none, Bool.false_eq_true, if_false]
      refine ⟨h1, fun u u1 u2 u3 ho => ?_, .inl rfl⟩
      rw [openR_iff (by omega)] at ho
      exact L u u3 u1 (fun n h => by rw [hn] at h; cases h) ho.1
    | some n =>
      obtain ⟨s1, s2, s3⟩ := S n hn
      simp only [Option.isSome_some, if_true, Option.getD_some]
      have hno : ∀ u, u ≤ t → n < u → openR d u ≠ true := fun u u1 u2 ho => by
        rw [openR_iff (by omega)] at ho
        exact L u (by omega) u1 (fun m h => by rw [hn] at h; injection h with h; omega) ho.1
      split
      · rename_i ho
        obtain ⟨m1, m2, m3⟩ := over_mem d.shut n ho
        have hb := hvs _ m1
        have ih := lastL_is hd f ((over d.shut n).1.lo - 1) (by omega) (by
          have := filter_drop (p := fun s => decide (s.lo ≤ t)) (q := fun s => decide (s.lo ≤ (over d.shut n).1.lo - 1)) d.shut (over d.shut n).1 m1 (by simp; omega) (by simp; omega) (fun y hy => by simp at hy ⊢; omega)
          omega)
        refine ⟨by have := ih.le; omega, fun u u1 u2 u3 hop => ?_, ih.at'⟩
        rcases Int.lt_or_le n u with hu | hu
        · exact hno u u1 hu hop
        · rcases Int.lt_or_le u (over d.shut n).1.lo with hu2 | hu2
          · exact ih.no u (by omega) u2 u3 hop
          · rw [openR_iff (by omega)] at hop
            exact hop.2 _ m1 (by omega)
      · rename_i ho
        refine ⟨s2, fun u u1 u2 _ => hno u u1 u2, .inr ⟨s1, ?_⟩⟩
        rw [openR_iff s1]
        exact ⟨s3, over_in (by simpa using ho)⟩
theorem last_is {d : Door} (hd : d.V) {t : Int} (h1 : -1 ≤ t) : IsLast d t (last d t) :=
  lastL_is hd 17 t h1 (by have := List.length_filter_le (fun s : Span => decide (s.lo ≤ t)) d.shut; have := hd.shut.1; omega)
theorem last_mono {d : Door} (hd : d.V) {t u : Int} (h0 : -1 ≤ t) (h : t ≤ u) : last d t ≤ last d u := by
  have a := last_is hd h0
  have b := last_is hd (t := u) (by omega)
  rcases Int.lt_or_le (last d u) (last d t) with hl | hl
  · have := a.le
    rcases a.at' with e | ⟨e1, e2⟩
    · have := b.at'; omega
    · exact absurd e2 (b.no _ (by omega) hl e1)
  · exact hl
theorem next_le_iff {d : Door} (hd : d.V) {t u : Int} (h0 : 0 ≤ t) (h1 : t ≤ 1073741824) (hu0 : -1 ≤ u) (hu : u ≤ 1073741823) : next d t ≤ u ↔ t ≤ last d u := by
  have a := next_is hd h0 h1
  have b := last_is hd hu0
  constructor
  · intro h
    rcases a.at' with e | ⟨e1, e2⟩
    · omega
    · rcases Int.lt_or_le (last d u) (next d t) with hl | hl
      · exact absurd e2 (b.no _ h hl (by have := a.ge; omega))
      · have := a.ge; omega
  · intro h
    rcases b.at' with e | ⟨e1, e2⟩
    · omega
    · rcases Int.lt_or_le (last d u) (next d t) with hl | hl
      · exact absurd e2 (a.no _ h hl (by have := b.le; omega))
      · have := b.le; omega
end Go.Proofs.Hs

namespace Go.Proofs.Lab
structure Net (γ : Type) where
  μ : Int → Int
  inf : Int
  src : γ → Nat
  dst : γ → Nat
  f : γ → Int → Int
  gs : List γ
  In : Int → Prop
variable {γ : Type}
structure Net.OK (N : Net γ) (n : Nat) : Prop where
  inj : ∀ x y, N.In x → N.In y → N.μ x = N.μ y → x = y
  inIn : N.In N.inf
  le : ∀ x, N.In x → N.μ x ≤ N.μ N.inf
  src : ∀ g ∈ N.gs, N.src g < n
  dst : ∀ g ∈ N.gs, N.dst g < n
  In : ∀ g ∈ N.gs, ∀ x, N.In x → N.μ x < N.μ N.inf → N.In (N.f g x)
  mono : ∀ g ∈ N.gs, ∀ x y, N.In x → N.In y → N.μ x ≤ N.μ y → N.μ y < N.μ N.inf → N.μ (N.f g x) ≤ N.μ (N.f g y)
  worse : ∀ g ∈ N.gs, ∀ x, N.In x → N.μ x < N.μ N.inf → N.μ x < N.μ (N.f g x)
def Net.lab (N : Net γ) (row : List Int) (r : Nat) : Int := row.getD r N.inf
structure Closed (N : Net γ) (M : Nat → Int) : Prop where
  In : ∀ r, N.In (M r)
  rel : ∀ g ∈ N.gs, N.μ (M (N.src g)) < N.μ N.inf → N.μ (M (N.dst g)) ≤ N.μ (N.f g (M (N.src g)))
def Low (N : Net γ) (a : Nat) (t : Int) (r : Nat) (s : Int) : Prop := ∀ M, Closed N M → N.μ (M a) ≤ N.μ t → N.μ (M r) ≤ N.μ s
structure IsArr (N : Net γ) (a : Nat) (t : Int) (R : Nat → Int) : Prop where
  closed : Closed N R
  start : N.μ (R a) ≤ N.μ t
  low : ∀ r, N.μ (R r) < N.μ N.inf → Low N a t r (R r)
section
variable {N : Net γ} {n : Nat} {a : Nat} {t : Int}
theorem IsArr.most (hN : N.OK n) {R M : Nat → Int} (h : IsArr N a t R) (hM : Closed N M) (hs : N.μ (M a) ≤ N.μ t) (r : Nat) : N.μ (M r) ≤ N.μ (R r) := by
  have h1 := hN.le _ (h.closed.In r)
  have h2 := hN.le _ (hM.In r)
  by_cases hr : N.μ (R r) < N.μ N.inf
  · exact h.low r hr M hM hs
  · omega
theorem IsArr.unique (hN : N.OK n) {R R' : Nat → Int} (h : IsArr N a t R) (h' : IsArr N a t R') (r : Nat) : R r = R' r :=
  hN.inj _ _ (h.closed.In r) (h'.closed.In r) (by
    have := h.most hN h'.closed h'.start r
    have := h'.most hN h.closed h.start r
    omega)
theorem low_self : Low N a t a t := fun _ _ hs => hs
theorem low_step (hN : N.OK n) {g : γ} (hg : g ∈ N.gs) {s : Int} (hs : N.In s) (hi : N.μ s < N.μ N.inf) (h : Low N a t (N.src g) s) : Low N a t (N.dst g) (N.f g s) := by
  intro M hM hst
  have h1 := h M hM hst
  have h2 := hM.rel g hg (by omega)
  have h3 := hN.mono g hg _ _ (hM.In _) hs h1 hi
  omega
theorem lab_set (row : List Int) (i : Nat) (x : Int) (r : Nat) : N.lab (row.set i x) r = if i = r ∧ r < row.length then x else N.lab row r := by
  unfold Net.lab
  rw [List.getD_eq_getElem?_getD, List.getD_eq_getElem?_getD, List.getElem?_set]
  by_cases h : i = r
  · subst h
    by_cases h2 : i < row.length
    · simp [h2]
    · simp [h2, List.getElem?_eq_none (Nat.le_of_not_lt h2)]
  · simp [h]
theorem lab_in {row : List Int} (hN : N.OK n) (h : ∀ x ∈ row, N.In x) (r : Nat) : N.In (N.lab row r) := by
  unfold Net.lab
  rw [List.getD_eq_getElem?_getD]
  cases hr : row[r]? with
  | none => exact hN.inIn
  | some x => exact h x (List.mem_of_getElem? hr)
theorem list_of_lab {l l' : List Int} (hl : l.length = l'.length) (h : ∀ r, N.lab l r = N.lab l' r) : l = l' := by
  apply List.ext_getElem hl
  intro i h1 h2
  have := h i
  unfold Net.lab at this
  rw [List.getD_eq_getElem?_getD, List.getD_eq_getElem?_getD, List.getElem?_eq_getElem h1, List.getElem?_eq_getElem h2] at this
  exact this
def Net.best (N : Net γ) (x y : Int) : Int := if N.μ y < N.μ x then y else x
def Net.relax (N : Net γ) (c : Nat) (out : List Int) (g : γ) : List Int :=
  if N.src g = c then out.set (N.dst g) (N.best (N.lab out (N.dst g)) (N.f g (N.lab out c))) else out
def dn (done : List Bool) (r : Nat) : Bool := done.getD r false
def Net.selC (N : Net γ) (out : List Int) (done : List Bool) (i : Nat) (at' : Int) : Bool :=
  !dn done i && (decide (N.μ (N.lab out i) < N.μ N.inf) && (decide (at' < 0) || decide (N.μ (N.lab out i) < N.μ (N.lab out at'.toNat))))
def Net.selL (N : Net γ) (out : List Int) (done : List Bool) : Nat → Nat → Int → Int
  | 0, _, at' => at'
  | k + 1, i, at' => N.selL out done k (i + 1) (if N.selC out done i at' = true then (i : Int) else at')
def Net.sel (N : Net γ) (out : List Int) (done : List Bool) : Int := N.selL out done out.length 0 (-1)
def Net.dijF (N : Net γ) : Nat → List Int → List Bool → List Int
  | 0, out, _ => out
  | k + 1, out, done => if N.sel out done < 0 then out else N.dijF k (N.gs.foldl (N.relax (N.sel out done).toNat) out) (done.set (N.sel out done).toNat true)
def undone : List Bool → Nat
  | [] => 0
  | b :: l => (if b = true then 0 else 1) + undone l
theorem undone_set : ∀ (l : List Bool) (i : Nat), i < l.length → dn l i = false → undone (l.set i true) + 1 = undone l
  | b :: l, 0, _, h => by
    have : b = false := by simpa [dn] using h
    subst this; simp [undone]; omega
  | b :: l, i + 1, hl, h => by
    have := undone_set l i (by simpa using hl) (by simpa [dn] using h)
    simp only [List.set_cons_succ, undone]; omega
theorem undone_zero : ∀ (l : List Bool), undone l = 0 → ∀ i, i < l.length → dn l i = true
  | b :: l, h, 0, _ => by
    simp only [undone] at h
    cases b with
    | true => rfl
    | false => simp at h
  | b :: l, h, i + 1, hl => by
    have := undone_zero l (by simp only [undone] at h; omega) i (by simpa using hl)
    simpa [dn] using this
theorem undone_rep (n : Nat) : undone (List.replicate n false) = n := by
  induction n with
  | zero => rfl
  | succ n ih => rw [List.replicate_succ, undone, ih]; simp; omega
structure SelOK (N : Net γ) (out : List Int) (done : List Bool) (k : Nat) (c : Int) : Prop where
  none : c < 0 → ∀ i, i < k → dn done i = false → ¬ N.μ (N.lab out i) < N.μ N.inf
  some : 0 ≤ c → c < k ∧ dn done c.toNat = false ∧ N.μ (N.lab out c.toNat) < N.μ N.inf ∧ ∀ i, i < k → dn done i = false → N.μ (N.lab out c.toNat) ≤ N.μ (N.lab out i)
theorem selL_ok (hN : N.OK n) {out : List Int} {done : List Bool} : ∀ (k i : Nat) (c : Int), SelOK N out done i c → SelOK N out done (i + k) (N.selL out done k i c)
  | 0, i, c, h => h
  | k + 1, i, c, h => by
    have e : i + (k + 1) = i + 1 + k := by omega
    rw [e]
    unfold Net.selL
    apply selL_ok hN k (i + 1)
    by_cases hc : N.selC out done i c = true
    · rw [if_pos hc]
      simp only [Net.selC, Bool.and_eq_true, Bool.not_eq_true', Bool.or_eq_true, decide_eq_true_eq] at hc
      obtain ⟨h1, h2, h3⟩ := hc
      refine ⟨fun h0 => absurd h0 (by omega), fun _ => ⟨by omega, by simpa using h1, by simpa using h2, fun j hj hd => ?_⟩⟩
      rw [Int.toNat_natCast]
      by_cases hji : j = i
      · subst hji; omega
      · by_cases hc0 : c < 0
        · have := h.none hc0 j (by omega) hd
          omega
        · have := (h.some (by omega)).2.2.2 j (by omega) hd
          omega
    · rw [if_neg hc]
      simp only [Net.selC, Bool.and_eq_true, Bool.not_eq_true', Bool.or_eq_true, decide_eq_true_eq] at hc
      refine ⟨fun h0 j hj hd hl => ?_, fun h0 => ?_⟩
      · by_cases hji : j = i
        · subst hji; exact hc ⟨hd, hl, .inl h0⟩
        · exact h.none h0 j (by omega) hd hl
      · obtain ⟨a1, a2, a3, a4⟩ := h.some h0
        refine ⟨by omega, a2, a3, fun j hj hd => ?_⟩
        by_cases hji : j = i
        · subst hji
          by_cases hl : N.μ (N.lab out j) < N.μ N.inf
          · by_cases hlt : N.μ (N.lab out j) < N.μ (N.lab out c.toNat)
            · exact absurd ⟨hd, hl, .inr hlt⟩ hc
            · omega
          · omega
        · exact a4 j (by omega) hd
theorem sel_ok (hN : N.OK n) (out : List Int) (done : List Bool) : SelOK N out done out.length (N.sel out done) := by
  have := selL_ok (N := N) hN (out := out) (done := done) out.length 0 (-1) ⟨fun _ i hi => by omega, fun h => absurd h (by omega)⟩
  rw [Nat.zero_add] at this
  exact this
structure RowOK (N : Net γ) (n : Nat) (a : Nat) (t : Int) (out : List Int) : Prop where
  len : out.length = n
  In : ∀ x ∈ out, N.In x
  start : N.μ (N.lab out a) ≤ N.μ t
  low : ∀ r, N.μ (N.lab out r) < N.μ N.inf → Low N a t r (N.lab out r)
theorem RowOK.put (hN : N.OK n) {out : List Int} (h : RowOK N n a t out) {g : γ} (hg : g ∈ N.gs) (hs : N.μ (N.lab out (N.src g)) < N.μ N.inf) (hb : N.μ (N.f g (N.lab out (N.src g))) ≤ N.μ (N.lab out (N.dst g))) :
    RowOK N n a t (out.set (N.dst g) (N.f g (N.lab out (N.src g)))) := by
  refine ⟨by simp [h.len], fun x hx => ?_, ?_, fun r => ?_⟩
  · rcases List.mem_or_eq_of_mem_set hx with hx | rfl
    · exact h.In x hx
    · exact hN.In g hg _ (lab_in hN h.In _) hs
  · rw [lab_set]
    have := h.start
    split
    · rename_i he; obtain ⟨rfl, _⟩ := he; omega
    · exact this
  · rw [lab_set]
    split
    · rename_i he; obtain ⟨rfl, _⟩ := he
      intro _
      exact low_step hN hg (lab_in hN h.In _) hs (h.low _ hs)
    · exact h.low r
theorem relax_ok (hN : N.OK n) (c : Nat) (v : Int) (hv : N.μ v < N.μ N.inf) : ∀ (l : List γ) (out : List Int), (∀ g ∈ l, g ∈ N.gs) → RowOK N n a t out → N.lab out c = v →
    RowOK N n a t (l.foldl (N.relax c) out) ∧ N.lab (l.foldl (N.relax c) out) c = v ∧ (∀ r, N.μ (N.lab (l.foldl (N.relax c) out) r) ≤ N.μ (N.lab out r)) ∧
    (∀ g ∈ l, N.src g = c → N.μ (N.lab (l.foldl (N.relax c) out) (N.dst g)) ≤ N.μ (N.f g v)) ∧
    (∀ r, N.μ (N.lab (l.foldl (N.relax c) out) r) < N.μ (N.lab out r) → N.μ v < N.μ (N.lab (l.foldl (N.relax c) out) r))
  | [], out, _, h, hc => ⟨h, hc, fun _ => Int.le_refl _, (fun _ h => by cases h), fun r h => absurd h (Int.lt_irrefl _)⟩
  | g :: l, out, hl, h, hc => by
    have hg := hl g (by simp)
    have hlt := hN.dst g hg
    simp only [List.foldl_cons]
    by_cases hs : N.src g = c
    · subst hs
      have hIn := lab_in hN h.In (N.src g)
      have hw := hN.worse g hg _ hIn (by rw [hc]; exact hv)
      by_cases hb : N.μ (N.f g (N.lab out (N.src g))) < N.μ (N.lab out (N.dst g))
      · have hr : N.relax (N.src g) out g = out.set (N.dst g) (N.f g (N.lab out (N.src g))) := by
          unfold Net.relax Net.best; rw [if_pos rfl, if_pos hb]
        rw [hr]
        have h1 := h.put hN hg (by rw [hc]; exact hv) (by omega)
        have hne : ¬ (N.dst g = N.src g) := fun e => by rw [e] at hb; omega
        have hc1 : N.lab (out.set (N.dst g) (N.f g (N.lab out (N.src g)))) (N.src g) = v := by rw [lab_set, if_neg (fun e => hne e.1)]; exact hc
        have hle : ∀ r, N.μ (N.lab (out.set (N.dst g) (N.f g (N.lab out (N.src g)))) r) ≤ N.μ (N.lab out r) := fun r => by
          rw [lab_set]; split
          · rename_i e; obtain ⟨rfl, _⟩ := e; omega
          · exact Int.le_refl _
        obtain ⟨i1, i2, i3, i4, i5⟩ := relax_ok hN (N.src g) v hv l _ (fun x hx => hl x (by simp [hx])) h1 hc1
        refine ⟨i1, i2, fun r => Int.le_trans (i3 r) (hle r), fun x hx hxs => ?_, fun r hr => ?_⟩
        · rcases List.mem_cons.1 hx with rfl | hx
          · have := i3 (N.dst x)
            rw [lab_set, if_pos ⟨rfl, by rw [h.len]; exact hlt⟩] at this
            rw [← hc]; exact this
          · exact i4 x hx hxs
        · by_cases hlt2 : N.μ (N.lab (l.foldl (N.relax (N.src g)) (out.set (N.dst g) (N.f g (N.lab out (N.src g))))) r) < N.μ (N.lab (out.set (N.dst g) (N.f g (N.lab out (N.src g)))) r)
          · exact i5 r hlt2
          · have h3 := i3 r
            have he : N.μ (N.lab (l.foldl (N.relax (N.src g)) (out.set (N.dst g) (N.f g (N.lab out (N.src g))))) r) = N.μ (N.lab (out.set (N.dst g) (N.f g (N.lab out (N.src g)))) r) := by omega
            rw [he] at hr ⊢
            rw [lab_set] at hr ⊢
            split at hr
            · rename_i e
              rw [if_pos e, ← hc]; exact hw
            · exact absurd hr (Int.lt_irrefl _)
      · have hlen : N.dst g < out.length := by rw [h.len]; exact hlt
        have hr : N.relax (N.src g) out g = out := by
          unfold Net.relax Net.best; rw [if_pos rfl, if_neg hb]
          unfold Net.lab
          rw [List.getD_eq_getElem?_getD, List.getElem?_eq_getElem hlen]
          simp
        rw [hr]
        obtain ⟨i1, i2, i3, i4, i5⟩ := relax_ok hN (N.src g) v hv l out (fun x hx => hl x (by simp [hx])) h hc
        refine ⟨i1, i2, i3, fun x hx hxs => ?_, i5⟩
        rcases List.mem_cons.1 hx with rfl | hx
        · have := i3 (N.dst x); rw [hc] at hb; omega
        · exact i4 x hx hxs
    · have hr : N.relax c out g = out := by unfold Net.relax; rw [if_neg hs]
      rw [hr]
      obtain ⟨i1, i2, i3, i4, i5⟩ := relax_ok hN c v hv l out (fun x hx => hl x (by simp [hx])) h hc
      refine ⟨i1, i2, i3, fun x hx hxs => ?_, i5⟩
      rcases List.mem_cons.1 hx with rfl | hx
      · exact absurd hxs hs
      · exact i4 x hx hxs
structure DijOK (N : Net γ) (n : Nat) (a : Nat) (t : Int) (out : List Int) (done : List Bool) : Prop where
  row : RowOK N n a t out
  len : done.length = n
  fin : ∀ g ∈ N.gs, dn done (N.src g) = true → N.μ (N.lab out (N.src g)) < N.μ N.inf → N.μ (N.lab out (N.dst g)) ≤ N.μ (N.f g (N.lab out (N.src g)))
  ord : ∀ r s, dn done r = true → s < n → dn done s = false → N.μ (N.lab out r) ≤ N.μ (N.lab out s)
theorem dn_set (done : List Bool) (i r : Nat) (hi : i < done.length) : dn (done.set i true) r = if i = r then true else dn done r := by
  unfold dn
  rw [List.getD_eq_getElem?_getD, List.getD_eq_getElem?_getD, List.getElem?_set]
  by_cases h : i = r
  · subst h; simp [hi]
  · simp [h]
theorem dijF_is (hN : N.OK n) : ∀ (k : Nat) (out : List Int) (done : List Bool), DijOK N n a t out done → undone done = k → (N.dijF k out done).length = n ∧ IsArr N a t (N.lab (N.dijF k out done))
  | 0, out, done, h, hu => by
    refine ⟨h.row.len, ⟨⟨lab_in hN h.row.In, fun g hg hl => ?_⟩, h.row.start, h.row.low⟩⟩
    exact h.fin g hg (undone_zero done hu _ (by rw [h.len]; exact hN.src g hg)) hl
  | k + 1, out, done, h, hu => by
    have hsel := sel_ok (N := N) hN out done
    rw [h.row.len] at hsel
    unfold Net.dijF
    by_cases hc : N.sel out done < 0
    · rw [if_pos hc]
      refine ⟨h.row.len, ⟨⟨lab_in hN h.row.In, fun g hg hl => ?_⟩, h.row.start, h.row.low⟩⟩
      cases hd : dn done (N.src g) with
      | true => exact h.fin g hg hd hl
      | false => exact absurd hl (hsel.none hc _ (hN.src g hg) hd)
    · rw [if_neg hc]
      obtain ⟨s1, s2, s3, s4⟩ := hsel.some (by omega)
      generalize hcn : (N.sel out done).toNat = c at *
      have hcl : c < n := by omega
      obtain ⟨i1, i2, i3, i4, i5⟩ := relax_ok (a := a) (t := t) hN c (N.lab out c) s3 N.gs out (fun _ h => h) h.row rfl
      have hcd : c < done.length := by rw [h.len]; exact hcl
      -- a label that is settled stays
      have stay : ∀ r, dn done r = true → N.lab (N.gs.foldl (N.relax c) out) r = N.lab out r := fun r hr => by
        refine hN.inj _ _ (lab_in hN i1.In r) (lab_in hN h.row.In r) ?_
        have h1 := i3 r
        have h2 := h.ord r c hr hcl s2
        by_cases hlt : N.μ (N.lab (N.gs.foldl (N.relax c) out) r) < N.μ (N.lab out r)
        · have := i5 r hlt; omega
        · omega
      refine dijF_is hN k _ _ ⟨i1, by simp [h.len], fun g hg hd hl => ?_, fun r s hr hs hd => ?_⟩ ?_
      · rw [dn_set _ _ _ hcd] at hd
        by_cases he : c = N.src g
        · have := i4 g hg he.symm
          rw [← he, i2]; exact this
        · rw [if_neg he] at hd
          rw [stay _ hd] at hl ⊢
          have := h.fin g hg hd hl
          have := i3 (N.dst g)
          omega
      · rw [dn_set _ _ _ hcd] at hr hd
        have hsv : N.μ (N.lab out c) ≤ N.μ (N.lab (N.gs.foldl (N.relax c) out) s) := by
          have hne : c ≠ s := fun e => by rw [if_pos e] at hd; cases hd
          rw [if_neg hne] at hd
          have h1 := i3 s
          have h2 := s4 s hs hd
          by_cases hlt : N.μ (N.lab (N.gs.foldl (N.relax c) out) s) < N.μ (N.lab out s)
          · have := i5 s hlt; omega
          · omega
        by_cases he : c = r
        · subst he; rw [i2]; exact hsv
        · rw [if_neg he] at hr
          rw [stay r hr]
          have := h.ord r c hr hcl s2
          omega
      · have := undone_set done c hcd s2
        omega
theorem rowOK_init (hN : N.OK n) (ha : a < n) (ht : N.In t) : RowOK N n a t ((List.replicate n N.inf).set a t) := by
  have hlab : ∀ r, N.lab ((List.replicate n N.inf).set a t) r = if a = r ∧ r < n then t else N.inf := fun r => by
    rw [lab_set]
    simp only [List.length_replicate]
    split
    · rfl
    · unfold Net.lab
      rw [List.getD_eq_getElem?_getD, List.getElem?_replicate]
      split <;> rfl
  refine ⟨by simp, fun x hx => ?_, ?_, fun r hr => ?_⟩
  · rcases List.mem_or_eq_of_mem_set hx with hx | rfl
    · rw [List.mem_replicate] at hx; rw [hx.2]; exact hN.inIn
    · exact ht
  · rw [hlab, if_pos ⟨rfl, ha⟩]; exact Int.le_refl _
  · rw [hlab] at hr ⊢
    split
    · rename_i e; obtain ⟨rfl, _⟩ := e; exact low_self
    · rename_i e; rw [if_neg e] at hr; exact absurd hr (Int.lt_irrefl _)
theorem dij_is (hN : N.OK n) (ha : a < n) (ht : N.In t) :
    (N.dijF n ((List.replicate n N.inf).set a t) (List.replicate n false)).length = n ∧ IsArr N a t (N.lab (N.dijF n ((List.replicate n N.inf).set a t) (List.replicate n false))) := by
  have hd : ∀ r, dn (List.replicate n false) r = false := fun r => by
    unfold dn
    rw [List.getD_eq_getElem?_getD, List.getElem?_replicate]
    split <;> rfl
  exact dijF_is hN n _ _ ⟨rowOK_init hN ha ht, by simp, (fun g _ h => by rw [hd] at h; cases h), (fun r s h => by rw [hd] at h; cases h)⟩ (undone_rep n)
theorem RowOK.is (hN : N.OK n) {row : List Int} (h : RowOK N n a t row) (hno : ∀ g ∈ N.gs, N.μ (N.lab row (N.src g)) < N.μ N.inf → ¬ N.μ (N.f g (N.lab row (N.src g))) < N.μ (N.lab row (N.dst g))) : IsArr N a t (N.lab row) :=
  ⟨⟨lab_in hN h.In, fun g hg hl => by have := hno g hg hl; omega⟩, h.start, h.low⟩
theorem dij_eq (hN : N.OK n) (ha : a < n) (ht : N.In t) {row : List Int} (hl : row.length = n) (h : IsArr N a t (N.lab row)) :
    row = N.dijF n ((List.replicate n N.inf).set a t) (List.replicate n false) := by
  obtain ⟨h1, h2⟩ := dij_is hN ha ht
  exact list_of_lab (by rw [hl, h1]) (fun r => h.unique hN h2 r)
end
def sumN : List Int → Nat
  | [] => 0
  | x :: l => x.toNat + sumN l
theorem sumN_set : ∀ (l : List Int) (i : Nat) (x y : Int), l[i]? = some y → 0 ≤ x → x < y → sumN (l.set i x) < sumN l
  | a :: l, 0, x, y, h, h0, hl => by
    simp only [List.getElem?_cons_zero, Option.some.injEq] at h
    subst h
    simp only [List.set_cons_zero, sumN]; omega
  | a :: l, i + 1, x, y, h, h0, hl => by
    have := sumN_set l i x y (by simpa using h) h0 hl
    simp only [List.set_cons_succ, sumN]; omega
end Go.Proofs.Lab
