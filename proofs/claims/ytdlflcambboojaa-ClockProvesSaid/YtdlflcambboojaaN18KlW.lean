/-
  Contracts of functions, proved by going through their code. No conditions.
-/
import Derived.Test.YtdlflcambboojaaMaa
import Derived.Test.YtdlflcambboojaaMbc
import Derived.Test.YtdlflcambboojaaMbd
import Derived.Test.YtdlflcambboojaaN18KtZ
import Derived.Test.YtdlflcambboojaaN18KlV
set_option linter.unusedVariables false
set_option linter.unusedSimpArgs false
namespace Go.Proofs.Ks
open Go Go.Pg Go.Proofs
def itB (L : List Lk) (b : List Int) (v : Nat) : Nat → Nat
  | 0 => v
  | j + 1 => (lkAt L (b.getD (itB L b v j) 0)).a
theorem itB_in (L : List Lk) (b : List Int) (v : Nat) : ∀ j, itB L b (lkAt L (b.getD v 0)).a j = itB L b v (j + 1)
  | 0 => rfl
  | j + 1 => by
    show (lkAt L (b.getD (itB L b (lkAt L (b.getD v 0)).a j) 0)).a = (lkAt L (b.getD (itB L b v (j + 1)) 0)).a
    rw [itB_in L b v j]
theorem itB_add (L : List Lk) (b : List Int) (v : Nat) {i j : Nat} (h : itB L b v i = itB L b v j) : ∀ m, itB L b v (i + m) = itB L b v (j + m)
  | 0 => h
  | m + 1 => by
    show (lkAt L (b.getD (itB L b v (i + m)) 0)).a = (lkAt L (b.getD (itB L b v (j + m)) 0)).a
    rw [itB_add L b v h m]
theorem least_one (Q : Nat → Prop) : ∀ m : Nat, (∃ s, 1 ≤ s ∧ s ≤ m ∧ Q s) → ∃ s, 1 ≤ s ∧ s ≤ m ∧ Q s ∧ ∀ u, 1 ≤ u → u < s → ¬ Q u
  | 0, ⟨s, h1, h2, _⟩ => by omega
  | m + 1, ⟨s, h1, h2, h3⟩ => by
    by_cases h : ∃ s, 1 ≤ s ∧ s ≤ m ∧ Q s
    · obtain ⟨s, g1, g2, g3, g4⟩ := least_one Q m h
      exact ⟨s, g1, by omega, g3, g4⟩
    · exact ⟨s, h1, h2, h3, fun u hu hus hq => h ⟨u, hu, by omega, hq⟩⟩
theorem twice_in {n : Nat} {x : Nat → Nat} (h : ∀ j, j ≤ n → x j < n) : ∃ i j, i < j ∧ j ≤ n ∧ x i = x j := by
  by_cases hq : ∃ i j, i < j ∧ j ≤ n ∧ x i = x j
  · exact hq
  · exfalso
    have hn : ((List.range (n + 1)).map x).Nodup := by
      refine List.pairwise_map.2 (List.Pairwise.imp_of_mem (fun {i j} hi hj hij e => ?_) List.pairwise_lt_range)
      rw [List.mem_range] at hi hj
      exact hq ⟨i, j, hij, by omega, e⟩
    have := pigeon n _ (fun y hy => by
      obtain ⟨j, hj, rfl⟩ := List.mem_map.1 hy
      rw [List.mem_range] at hj
      exact h j (by omega)) hn
    rw [List.length_map, List.length_range] at this
    omega
section
variable {L : List Lk} {n : Nat} {d b : List Int} {t : Nat → Nat} {k : Nat}
theorem Bf.link (h : Bf L n d b t (n * L.length) k) {v : Nat} (hv : v < n) (ht : 0 < t v) : (0 ≤ b.getD v 0 ∧ b.getD v 0 < (L.length : Int)) ∧ lkAt L (b.getD v 0) ∈ L ∧ okB L b (v : Int) = true := by
  have hb : 0 ≤ b.getD v 0 ∧ b.getD v 0 < (L.length : Int) := by
    rcases h.never v hv with e | e
    · omega
    · exact e
  refine ⟨hb, (lkAt_get hb).2.2, ?_⟩
  unfold okB
  rw [Int.toNat_natCast, h.lenb]
  simp only [Bool.and_eq_true, decide_eq_true_eq]
  exact ⟨by omega, by omega, hb⟩
theorem Bf.chain (h : Bf L n d b t (n * L.length) k) (hL : ∀ l ∈ L, l.a < n ∧ l.b < n) {v : Nat} (hv : v < n) (ht : n * L.length < t v) : ∀ j, j ≤ n → itB L b v j < n ∧ (n - j) * L.length < t (itB L b v j)
  | 0, _ => ⟨hv, ht⟩
  | j + 1, hj => by
    obtain ⟨h1, h2⟩ := h.chain hL hv ht j (by omega)
    have ht0 : 0 < t (itB L b v j) := by omega
    obtain ⟨_, h4, _⟩ := h.link h1 ht0
    refine ⟨(hL _ h4).1, ?_⟩
    have h5 := h.late _ h1 ht0
    have e : (n - j) * L.length = (n - (j + 1)) * L.length + L.length := by
      rw [show n - j = (n - (j + 1)) + 1 by omega, Nat.succ_mul]
    show (n - (j + 1)) * L.length < t (lkAt L (b.getD (itB L b v j) 0)).a
    omega
theorem back_chain : ∀ (m : Nat) (v : Nat), (∀ j, j < m → okB L b (itB L b v j : Nat) = true) → backN L b m (v : Int) = some ((itB L b v m : Nat) : Int)
  | 0, v, _ => rfl
  | m + 1, v, h => by
    have h0 : okB L b (v : Int) = true := h 0 (by omega)
    unfold backN
    rw [if_pos h0, Int.toNat_natCast, back_chain m _ (fun j hj => by rw [itB_in]; exact h (j + 1) (by omega)), itB_in]
def gB (L : List Lk) (b : List Int) (c : Nat) (i : Nat) : Int := b.getD (itB L b c i) 0
theorem cyc_chain {c P : Nat} (hok : ∀ j, j < P → okB L b (itB L b c j : Nat) = true) (hP : itB L b c P = c) (hmin : ∀ u, 1 ≤ u → u < P → itB L b c u ≠ c) : ∀ (f s : Nat) (o : List Int), s < P → P ≤ s + f →
    cycF L b (c : Int) f ((itB L b c s : Nat) : Int) o = some (o ++ (List.range' s (P - s)).map (gB L b c))
  | 0, s, o, hs, hf => by omega
  | f + 1, s, o, hs, hf => by
    unfold cycF
    rw [if_pos (hok s hs), Int.toNat_natCast]
    have hst : (lkAt L (b.getD (itB L b c s) 0)).a = itB L b c (s + 1) := rfl
    rw [hst]
    by_cases he : s + 1 = P
    · rw [he, hP, if_pos rfl, show P - s = 1 by omega]
      rfl
    · have hn : ¬ ((itB L b c (s + 1) : Nat) : Int) = (c : Int) := fun e => hmin (s + 1) (by omega) (by omega) (by omega)
      rw [if_neg hn, cyc_chain hok hP hmin f (s + 1) _ (by omega) (by omega), show P - s = (P - (s + 1)) + 1 by omega, List.range'_succ, List.map_cons, List.append_assoc]
      rfl
def sumB (L : List Lk) (b : List Int) (c : Nat) : Nat → Int
  | 0 => 0
  | m + 1 => sumB L b c m + (lkAt L (gB L b c m)).m
theorem walk_chain {c P : Nat} (hin : ∀ j, j < P → (0 ≤ gB L b c j ∧ gB L b c j < (L.length : Int)) ∧ (lkAt L (gB L b c j)).b = itB L b c j) : ∀ (m : Nat) (u : Int), m ≤ P →
    walkF L (((List.range' 0 m).map (gB L b c)).reverse) ((itB L b c m : Nat) : Int) u = (((itB L b c 0 : Nat) : Int), u + sumB L b c m, true)
  | 0, u, _ => by simp [walkF, sumB]
  | m + 1, u, hm => by
    obtain ⟨h1, h2⟩ := hin m (by omega)
    rw [List.range'_concat, List.map_append, List.reverse_append]
    show walkF L (gB L b c (0 + 1 * m) :: ((List.range' 0 m).map (gB L b c)).reverse) ((itB L b c (m + 1) : Nat) : Int) u = _
    rw [show 0 + 1 * m = m by omega]
    unfold walkF
    rw [if_pos ⟨h1, rfl⟩, h2, walk_chain hin m _ (by omega)]
    simp only [sumB]
    rw [Int.add_assoc, Int.add_comm (sumB L b c m)]
theorem tele {T : Nat} (h : Bf L n d b t (n * L.length) k) (hT : ∀ v, t v ≤ T) {c : Nat} : ∀ m, (∀ j, j < m → itB L b c j < n ∧ 0 < t (itB L b c j)) →
    d.getD (itB L b c m) 0 * ((T : Int) + 1) + (t (itB L b c m) : Int) + sumB L b c m * ((T : Int) + 1) + m ≤ d.getD c 0 * ((T : Int) + 1) + (t c : Int)
  | 0, _ => by simp only [itB, sumB]; omega
  | m + 1, hv => by
    have ih := tele h hT m (fun j hj => hv j (by omega))
    obtain ⟨h1, h2⟩ := hv m (by omega)
    have hp := h.par _ h1 h2
    have ht := hT (lkAt L (b.getD (itB L b c m) 0)).a
    show d.getD (lkAt L (b.getD (itB L b c m) 0)).a 0 * ((T : Int) + 1) + (t (lkAt L (b.getD (itB L b c m) 0)).a : Int) + (sumB L b c m + (lkAt L (b.getD (itB L b c m) 0)).m) * ((T : Int) + 1) + ((m + 1 : Nat) : Int) ≤ _
    obtain ⟨Y, hY⟩ : ∃ z, lkAt L (b.getD (itB L b c m) 0) = z := ⟨_, rfl⟩
    rw [hY] at hp ht ⊢
    obtain ⟨X, hX⟩ : ∃ z, itB L b c m = z := ⟨_, rfl⟩
    rw [hX] at ih hp h1 h2
    rw [Int.add_mul]
    rcases hp with hp | ⟨hp, hq⟩
    · have h3 : (d.getD Y.a 0 + Y.m + 1) * ((T : Int) + 1) ≤ d.getD X 0 * ((T : Int) + 1) := Int.mul_le_mul_of_nonneg_right (by omega) (by omega)
      rw [Int.add_mul, Int.add_mul, Int.one_mul] at h3
      omega
    · have h3 : (d.getD Y.a 0 + Y.m) * ((T : Int) + 1) = d.getD X 0 * ((T : Int) + 1) := by rw [hp]
      rw [Int.add_mul] at h3
      omega
theorem clash_cycle (hL : ∀ l ∈ L, l.a < n ∧ l.b < n) (hne : ∀ l ∈ L, l.a ≠ l.b) (hn : n ≤ 100) (hq : 0 ≤ (lengthsF n L (-1)).2.2) :
    ∃ OUT, clashO n L = some OUT ∧ cycleB L OUT = true ∧ (∀ q ∈ OUT, 0 ≤ q ∧ q < (L.length : Int)) ∧ (OUT.map fun q => (lkAt L q).b).Nodup ∧ OUT.length ≤ n := by
  obtain ⟨d, t, k, v, h, hv, hvn, hvt⟩ := lengths_back hL hne hq
  obtain ⟨b, hb⟩ : ∃ z, (lengthsF n L (-1)).2.1 = z := ⟨_, rfl⟩
  have hb' := hb
  rw [hb] at h
  have hch := h.chain hL hvn hvt
  have hpos : ∀ j, j ≤ n → itB L b v j < n ∧ 0 < t (itB L b v j) := fun j hj => by have := hch j hj; exact ⟨this.1, by omega⟩
  obtain ⟨i, j, hij, hjn, hxx⟩ := twice_in (x := itB L b v) (fun j hj => (hch j hj).1)
  obtain ⟨c, hc⟩ : ∃ z, itB L b v n = z := ⟨_, rfl⟩
  have hcs : ∀ s, itB L b c s = itB L b v (n + s) := by
    intro s
    induction s with
    | zero => exact hc.symm
    | succ s ih => show (lkAt L (b.getD (itB L b c s) 0)).a = (lkAt L (b.getD (itB L b v (n + s)) 0)).a; rw [ih]
  have hper : ∀ s, s ≤ j - i → itB L b c s = itB L b v (n + s - (j - i)) := fun s hs => by
    rw [hcs]
    have := itB_add L b v hxx (n + s - j)
    rw [show i + (n + s - j) = n + s - (j - i) by omega, show j + (n + s - j) = n + s by omega] at this
    exact this.symm
  have hp0 : itB L b c (j - i) = c := by rw [hper _ (Nat.le_refl _), show n + (j - i) - (j - i) = n by omega]; exact hc
  obtain ⟨P, P1, P2, P3, P4⟩ := least_one (fun s => itB L b c s = c) (j - i) ⟨j - i, by omega, Nat.le_refl _, hp0⟩
  have hval : ∀ s, s ≤ P → itB L b c s < n ∧ 0 < t (itB L b c s) := fun s hs => by rw [hper s (by omega)]; exact hpos _ (by omega)
  have hok : ∀ s, s < P → okB L b (itB L b c s : Nat) = true := fun s hs => (h.link (hval s (by omega)).1 (hval s (by omega)).2).2.2
  have hin : ∀ s, s < P → (0 ≤ gB L b c s ∧ gB L b c s < (L.length : Int)) ∧ (lkAt L (gB L b c s)).b = itB L b c s := fun s hs =>
    ⟨(h.link (hval s (by omega)).1 (hval s (by omega)).2).1, h.to _ (hval s (by omega)).1 (hval s (by omega)).2⟩
  have hcy := cyc_chain hok P3 P4 1000 0 [] (by omega) (by omega)
  have hbk := back_chain (L := L) (b := b) n v (fun j hj => (h.link (hpos j (by omega)).1 (hpos j (by omega)).2).2.2)
  rw [hc] at hbk
  have hwk := walk_chain hin P 0 (Nat.le_refl _)
  rw [P3] at hwk
  have hte := tele h (T := n * L.length + k) h.now (c := c) P (fun s hs => hval s (by omega))
  rw [P3] at hte
  have hneg : sumB L b c P < 0 := by
    by_cases hs : sumB L b c P < 0
    · exact hs
    · have : 0 ≤ sumB L b c P * (((n * L.length + k : Nat) : Int) + 1) := Int.mul_nonneg (by omega) (by omega)
      omega
  have hmem : ∀ q ∈ ((List.range' 0 P).map (gB L b c)).reverse, 0 ≤ q ∧ q < (L.length : Int) := fun q hq => by
    rw [List.mem_reverse] at hq
    obtain ⟨s, hs, rfl⟩ := List.mem_map.1 hq
    rw [List.mem_range'_1] at hs
    exact (hin s (by omega)).1
  refine ⟨((List.range' 0 P).map (gB L b c)).reverse, ?_, ?_, hmem, ?_, ?_⟩
  · unfold clashO
    rw [hb', hv, hbk]
    show (cycF L b (c : Int) 1000 ((itB L b c 0 : Nat) : Int) []).map List.reverse = _
    rw [hcy]
    rfl
  · obtain ⟨m, rfl⟩ : ∃ m, P = m + 1 := ⟨P - 1, by omega⟩
    have hrev : ((List.range' 0 (m + 1)).map (gB L b c)).reverse = gB L b c m :: ((List.range' 0 m).map (gB L b c)).reverse := by
      rw [List.range'_concat, List.map_append, List.reverse_append]
      show gB L b c (0 + 1 * m) :: _ = _
      rw [show 0 + 1 * m = m by omega]
      rfl
    rw [hrev] at hwk ⊢
    have ha : ((lkAt L (gB L b c m)).a : Int) = (c : Int) := congrArg Int.ofNat P3
    rw [cycleB_cons, ha, hwk]
    obtain ⟨i0, i1⟩ := (hin m (by omega)).1
    simp only [itB, decide_true, Bool.and_true, Bool.true_and, Int.zero_add, Bool.and_eq_true, decide_eq_true_eq]
    exact ⟨⟨i0, i1⟩, hneg⟩
  · rw [List.map_reverse, List.map_map]
    refine List.pairwise_reverse.2 (List.pairwise_map.2 (List.Pairwise.imp_of_mem (fun {x y} hx hy hxy e0 => ?_) List.pairwise_lt_range'))
    have e := e0.symm
    rw [List.mem_range'_1] at hx hy
    have ex := (hin x (by omega)).2
    have ey := (hin y (by omega)).2
    have e' : itB L b c x = itB L b c y := by rw [← ex, ← ey]; exact e
    have := itB_add L b c e' (P - y)
    rw [show y + (P - y) = P by omega, P3] at this
    exact P4 (x + (P - y)) (by omega) (by omega) this
  · rw [List.length_reverse, List.length_map, List.length_range']; omega
end
end Go.Proofs.Ks
