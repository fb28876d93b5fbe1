/-
  Contracts of functions, proved by going through their code. No conditions.
-/
import Derived.Test.YtdlflcambboojaaRaa
import Derived.Test.YtdlflcambboojaaN15KoA
import Derived.Test.YtdlflcambboojaaN15KlZ
set_option linter.unusedVariables false
set_option linter.unusedSimpArgs false
namespace Go.Proofs.Ks
open Go Go.Pg Go.Proofs
def reach (T : Int) : Int → List Int → Int
  | _, [] => 0
  | p, a :: rs => if T ≤ p then 0 else 1 + reach T (p + a) rs
def standI (X Y : Int) : Int → List Int → Int
  | _, [] => 0
  | p, a :: rs => (if a = 0 ∧ X ≤ p ∧ p < Y then 1 else 0) + standI X Y (p + a) rs
def totI : List Int → Int
  | [] => 0
  | a :: rs => a + totI rs
def OkI (lo hi : Int) (rs : List Int) : Prop := ∀ a ∈ rs, a = 0 ∨ (lo ≤ a ∧ a ≤ hi)
theorem reach_done {T p : Int} (h : T ≤ p) : ∀ rs, reach T p rs = 0
  | [] => rfl
  | a :: rs => by unfold reach; rw [if_pos h]
theorem reach_nn {T : Int} : ∀ {p : Int} (rs : List Int), 0 ≤ reach T p rs
  | _, [] => Int.le_refl _
  | p, a :: rs => by
    unfold reach
    have := reach_nn (T := T) (p := p + a) rs
    split <;> omega
theorem stand_past {X Y lo hi : Int} (hlo : 0 < lo) : ∀ {p : Int} (rs : List Int), OkI lo hi rs → Y ≤ p → standI X Y p rs = 0
  | _, [], _, _ => rfl
  | p, a :: rs, h, hp => by
    have ha := h a (by simp)
    unfold standI
    rw [if_neg (by omega), stand_past hlo rs (fun b hb => h b (List.mem_cons_of_mem _ hb)) (by omega)]
    rfl
theorem lower_go {X Y lo hi : Int} (hlo : 0 < lo) : ∀ {p : Int} (rs : List Int), OkI lo hi rs → X ≤ p → Y ≤ p + totI rs → Y - p ≤ hi * (reach Y p rs - standI X Y p rs)
  | p, [], _, _, h => by simp only [totI, reach, standI] at *; simp; omega
  | p, a :: rs, h, hX, hY => by
    by_cases hp : Y ≤ p
    · rw [reach_done hp, stand_past hlo _ h hp]; simp; omega
    · have ha := h a (by simp)
      simp only [totI] at hY
      have ih := lower_go (X := X) (Y := Y) hlo (p := p + a) rs (fun b hb => h b (List.mem_cons_of_mem _ hb)) (by omega) (by omega)
      unfold reach standI
      rw [if_neg hp]
      by_cases h0 : a = 0
      · subst h0
        rw [if_pos ⟨rfl, hX, by omega⟩]
        rw [Int.add_zero] at ih ⊢
        rw [show 1 + reach Y p rs - (1 + standI X Y p rs) = reach Y p rs - standI X Y p rs by omega]
        exact ih
      · rw [if_neg (by omega), show 1 + reach Y (p + a) rs - (0 + standI X Y (p + a) rs) = (reach Y (p + a) rs - standI X Y (p + a) rs) + 1 by omega, Int.mul_add, Int.mul_one]
        omega
theorem upper_go {X Y lo hi : Int} (hlo : 0 < lo) : ∀ {p : Int} (rs : List Int), OkI lo hi rs → X ≤ p → p < Y → lo * (reach Y p rs - standI X Y p rs) ≤ Y - p + lo - 1
  | p, [], _, _, h => by simp only [reach, standI]; simp; omega
  | p, a :: rs, h, hX, hp => by
    have ha := h a (by simp)
    have h' : OkI lo hi rs := fun b hb => h b (List.mem_cons_of_mem _ hb)
    unfold reach standI
    rw [if_neg (by omega)]
    by_cases h0 : a = 0
    · subst h0
      rw [if_pos ⟨rfl, hX, hp⟩]
      have ih := upper_go (X := X) (Y := Y) hlo rs h' hX hp
      rw [Int.add_zero]
      rw [show 1 + reach Y p rs - (1 + standI X Y p rs) = reach Y p rs - standI X Y p rs by omega]
      exact ih
    · rw [if_neg (by omega), show 1 + reach Y (p + a) rs - (0 + standI X Y (p + a) rs) = (reach Y (p + a) rs - standI X Y (p + a) rs) + 1 by omega, Int.mul_add, Int.mul_one]
      by_cases hq : p + a < Y
      · have ih := upper_go (X := X) (Y := Y) hlo rs h' (show X ≤ p + a by omega) hq
        omega
      · rw [reach_done (by omega), stand_past hlo _ h' (by omega)]
        simp
        omega
theorem between_go {X Y lo hi : Int} (hlo : 0 < lo) (hXY : X ≤ Y) : ∀ {p : Int} (rs : List Int), OkI lo hi rs → p < X → Y ≤ p + totI rs →
    Y - X < hi * (reach Y p rs - reach X p rs - standI X Y p rs) + hi ∧ lo * (reach Y p rs - reach X p rs - standI X Y p rs) ≤ Y - X + lo - 1
  | p, [], _, h1, h2 => by simp only [totI] at h2; omega
  | p, a :: rs, h, h1, h2 => by
    have ha := h a (by simp)
    have h' : OkI lo hi rs := fun b hb => h b (List.mem_cons_of_mem _ hb)
    simp only [totI] at h2
    unfold reach standI
    rw [if_neg (by omega), if_neg (by omega), if_neg (by omega)]
    rw [show 1 + reach Y (p + a) rs - (1 + reach X (p + a) rs) - (0 + standI X Y (p + a) rs) = reach Y (p + a) rs - reach X (p + a) rs - standI X Y (p + a) rs by omega]
    by_cases hq : p + a < X
    · exact between_go hlo hXY rs h' hq (by omega)
    · have e0 : reach X (p + a) rs = 0 := reach_done (by omega) rs
      rw [e0, Int.sub_zero]
      have l1 := lower_go (X := X) (Y := Y) hlo rs h' (show X ≤ p + a by omega) (by omega)
      refine ⟨by omega, ?_⟩
      by_cases hy : p + a < Y
      · have u1 := upper_go (X := X) (Y := Y) hlo rs h' (show X ≤ p + a by omega) hy
        omega
      · rw [reach_done (by omega), stand_past hlo _ h' (by omega)]
        simp
        omega
theorem reach_le {T : Int} : ∀ {p : Int} (rs : List Int) (i : Nat), T ≤ p + totI (rs.take i) → i ≤ rs.length → reach T p rs ≤ (i : Int)
  | p, [], i, _, _ => by simp only [reach]; omega
  | p, a :: rs, 0, h, _ => by
    simp only [List.take_zero, totI] at h
    rw [reach_done (by omega)]; simp
  | p, a :: rs, i + 1, h, hi => by
    simp only [List.take_succ_cons, totI] at h
    simp only [zD] at hi
    have ih := reach_le (T := T) (p := p + a) rs i (by omega) (by omega)
    unfold reach
    split <;> omega
theorem tot_nn {lo hi : Int} (hlo : 0 < lo) : ∀ {rs : List Int}, OkI lo hi rs → 0 ≤ totI rs
  | [], _ => Int.le_refl _
  | a :: rs, h => by
    have ha := h a (by simp)
    have := tot_nn hlo (rs := rs) (fun b hb => h b (List.mem_cons_of_mem _ hb))
    simp only [totI]; omega
theorem le_reach {T lo hi : Int} (hlo : 0 < lo) : ∀ {p : Int} (rs : List Int) (i : Nat), OkI lo hi rs → p + totI (rs.take i) < T → i ≤ rs.length → (i : Int) ≤ reach T p rs
  | p, [], i, _, _, h => by simp only [zC] at h; simp only [reach]; omega
  | p, a :: rs, 0, _, _, _ => reach_nn _
  | p, a :: rs, i + 1, h, h1, h2 => by
    have ha := h a (by simp)
    have h' : OkI lo hi rs := fun b hb => h b (List.mem_cons_of_mem _ hb)
    simp only [List.take_succ_cons, totI] at h1
    simp only [zD] at h2
    have ih := le_reach (T := T) hlo (p := p + a) rs i h' (by omega) (by omega)
    have h3 := tot_nn hlo (rs := rs.take i) (fun b hb => h' b (List.mem_of_mem_take hb))
    unfold reach
    rw [if_neg (by omega)]
    omega
theorem tot_append : ∀ a b : List Int, totI (a ++ b) = totI a + totI b
  | [], b => by simp [totI]
  | x :: a, b => by simp only [yB, totI, tot_append a b]; omega
theorem stand_append (X Y : Int) : ∀ (p : Int) (a b : List Int), standI X Y p (a ++ b) = standI X Y p a + standI X Y (p + totI a) b
  | p, [], b => by simp [totI, standI]
  | p, x :: a, b => by
    simp only [yB, totI, standI]
    rw [stand_append X Y (p + x) a b, show p + x + totI a = p + (x + totI a) by omega]
    omega
theorem tot_rep (a : Int) : ∀ n : Nat, totI (List.replicate n a) = (n : Int) * a
  | 0 => by simp [totI]
  | n + 1 => by
    rw [List.replicate_succ]
    simp only [totI]
    rw [tot_rep a n, Int.natCast_add, Int.add_mul, Int.natCast_one, Int.one_mul]
    omega
theorem stand_rep {X Y : Int} {a : Int} (ha : a ≠ 0) : ∀ (n : Nat) (p : Int), standI X Y p (List.replicate n a) = 0
  | 0, _ => rfl
  | n + 1, p => by
    rw [List.replicate_succ]
    unfold standI
    rw [if_neg (fun h => ha h.1), stand_rep ha n]; rfl
theorem stand_rep0 {X Y p : Int} : ∀ (n : Nat), standI X Y p (List.replicate n 0) = if X ≤ p ∧ p < Y then (n : Int) else 0
  | 0 => by simp [standI]
  | n + 1 => by
    rw [List.replicate_succ]
    unfold standI
    rw [Int.add_zero, stand_rep0 n]
    by_cases h : X ≤ p ∧ p < Y
    · rw [if_pos h, if_pos ⟨rfl, h⟩, if_pos h]; omega
    · rw [if_neg h, if_neg (fun e => h e.2), if_neg h]; rfl
def secsL : List Leg → List Int
  | [] => []
  | y :: l => List.replicate y.secs.toNat y.rate ++ secsL l
theorem secs_tot : ∀ {l : List Leg}, (∀ y ∈ l, 1 ≤ y.secs) → totI (secsL l) = sumP l ∧ ((secsL l).length : Int) = sumT l
  | [], _ => ⟨rfl, rfl⟩
  | y :: l, h => by
    have hy := h y (by simp)
    obtain ⟨h1, h2⟩ := secs_tot (l := l) fun z hz => h z (List.mem_cons_of_mem _ hz)
    simp only [secsL, tot_append, tot_rep, zE, List.length_replicate, sumP, sumT]
    rw [h1, Int.toNat_of_nonneg (by omega)]
    exact ⟨rfl, by omega⟩
theorem need_secs : ∀ {l : List Leg} {F p : Int}, (∀ y ∈ l, 1 ≤ y.secs) → 0 ≤ F → needF l F p = p + totI ((secsL l).take F.toNat)
  | [], F, p, _, _ => by simp [needF, secsL, totI]
  | y :: l, F, p, h, hF => by
    have hy := h y (by simp)
    unfold needF
    rw [need_secs (fun z hz => h z (List.mem_cons_of_mem _ hz)) (by omega)]
    simp only [secsL]
    rw [List.take_append, List.take_replicate, tot_append, tot_rep, List.length_replicate]
    rw [show ((min F.toNat y.secs.toNat : Nat) : Int) = min F y.secs by omega, show (F - min F y.secs).toNat = F.toNat - y.secs.toNat by omega]
    omega
def standL (x y : Int) : Int → List Leg → Int
  | _, [] => 0
  | p, l :: r => (if l.rate = 0 ∧ x ≤ p / 1000000 ∧ p / 1000000 < y then l.secs else 0) + standL x y (p + l.secs * l.rate) r
theorem stand_legs (x y : Int) : ∀ {l : List Leg} {p : Int}, (∀ y ∈ l, 1 ≤ y.secs) → standI (x * 1000000) (y * 1000000) p (secsL l) = standL x y p l
  | [], _, _ => rfl
  | a :: l, p, h => by
    have ha := h a (by simp)
    simp only [secsL, standL]
    rw [stand_append, tot_rep, Int.toNat_of_nonneg (by omega), stand_legs x y fun z hz => h z (List.mem_cons_of_mem _ hz)]
    by_cases h0 : a.rate = 0
    · rw [h0, stand_rep0]
      by_cases hc : x ≤ p / 1000000 ∧ p / 1000000 < y
      · rw [if_pos (by omega), if_pos ⟨rfl, hc⟩]; omega
      · rw [if_neg (by omega), if_neg (fun e => hc e.2)]
    · rw [stand_rep h0, if_neg (fun e => h0 e.1)]
end Go.Proofs.Ks
