/-
  Contracts of functions, proved by going through their code. No conditions.
-/
import Derived.Test.YtdlflcambboojaaRaa
import Derived.Test.YtdlflcambboojaaN15KpG
set_option linter.unusedVariables false
set_option linter.unusedSimpArgs false
namespace Go.Proofs.Ks
open Go Go.Pg Go.Proofs
theorem has_iff {s : Span} {n : Int} : hasB s n = true ↔ s.lo ≤ n ∧ n ≤ s.hi := by
  unfold hasB
  rw [Bool.and_eq_true, decide_eq_true_eq, decide_eq_true_eq]
theorem mem_secs {a : Int} : ∀ {l : List Leg}, a ∈ secsL l → ∃ y ∈ l, a = y.rate
  | y :: l, h => by
    unfold secsL at h
    rcases List.mem_append.1 h with h | h
    · exact ⟨y, by simp, (List.mem_replicate.1 h).2⟩
    · obtain ⟨z, hz, e⟩ := mem_secs h
      exact ⟨z, List.mem_cons_of_mem _ hz, e⟩
def fullR (K : Nat) (c : Int) (l : List Leg) : List Int := List.replicate K c ++ (secsL l ++ List.replicate K c)
theorem full_at {K : Nat} {c m : Int} {l : List Leg} (hl : ∀ y ∈ l, 1 ≤ y.secs) {n : Nat} (hn : n ≤ (secsL l).length) : m - (K : Int) * c + totI ((fullR K c l).take (K + n)) = needF l (n : Int) m := by
  rw [need_secs hl (by omega), Int.toNat_natCast]
  unfold fullR
  rw [List.take_append, List.take_append, List.length_replicate, tot_append, tot_append, List.take_of_length_le (by rw [List.length_replicate]; omega), tot_rep, show K + n - K = n by omega, show n - (secsL l).length = 0 by omega]
  simp only [List.take_zero, totI]
  omega
theorem full_ok {K : Nat} {s : Session} {l : List Leg} (hs : s.R) (hr : ratesB s.rate l = true) : OkI s.rate.lo s.rate.hi (fullR K s.rate.lo l) := fun a ha => by
  obtain ⟨r1, r2, r3⟩ := hs.rate
  unfold fullR at ha
  rcases List.mem_append.1 ha with ha | ha
  · rw [(List.mem_replicate.1 ha).2]; omega
  · rcases List.mem_append.1 ha with ha | ha
    · obtain ⟨y, hy, rfl⟩ := mem_secs ha
      unfold ratesB at hr
      have := List.all_eq_true.1 hr y hy
      rw [Bool.or_eq_true, decide_eq_true_eq, has_iff] at this
      omega
    · rw [(List.mem_replicate.1 ha).2]; omega
def secAt (K : Nat) (r : Rec) (x : Run) (p : Int) : Int := x.start - K + reach (p * 1000000) (x.micro - (K : Int) * r.s.rate.lo) (fullR K r.s.rate.lo x.legs)
theorem run_tim {r : Rec} {x : Run} (hv : r.V) (hx : RunV x) (hp : playsB r.s x = true) (hd : r.s.stops.Pairwise (fun a b => a.pos ≠ b.pos)) {ts : Nat → Int} {K : Nat} (hK : K = 50000)
    (hat : ∀ i a, r.strikes[i]? = some a → (x.start ≤ ts i ∧ ts i ≤ x.start + sumT x.legs) ∧ a.pos.lo ≤ needF x.legs (ts i - x.start) x.micro / 1000000 ∧ needF x.legs (ts i - x.start) x.micro / 1000000 ≤ a.pos.hi)
    (hord : ∀ i, i + 1 < r.strikes.length → ts i ≤ ts (i + 1))
    (hsee : ∀ y ∈ r.sights, y.seen.lo ≤ ts (strikeI y.strike 0 r.strikes).toNat ∧ ts (strikeI y.strike 0 r.strikes).toNat ≤ y.seen.hi) :
    Tim r (marksR r []) 0 x.start (x.start + sumT x.legs) ts (secAt K r x) := by
  have hl : ∀ y ∈ x.legs, 1 ≤ y.secs := fun y hy => (legB_iff.1 (hx.legs y hy)).1
  obtain ⟨g1, g2⟩ := secs_tot hl
  unfold playsB endsB at hp
  simp only [Bool.and_eq_true, decide_eq_true_eq, has_iff] at hp
  obtain ⟨⟨p1, p2, p3, p4⟩, p5, p6, p7⟩ := hp
  have hok := full_ok (K := K) hv.r p5
  obtain ⟨r1, r2, r3⟩ := hv.rate
  have hlo : 0 < r.s.rate.lo := by omega
  obtain ⟨m1, m2⟩ := hx.micro
  have hlen : (fullR K r.s.rate.lo x.legs).length = K + ((secsL x.legs).length + K) := by unfold fullR; simp
  have low : ∀ (n : Nat) (p : Int), n ≤ (secsL x.legs).length → p ≤ needF x.legs (n : Int) x.micro / 1000000 → secAt K r x p ≤ x.start + n := fun n p hn h => by
    have h1 := reach_le (T := p * 1000000) (p := x.micro - (K : Int) * r.s.rate.lo) (fullR K r.s.rate.lo x.legs) (K + n) (by rw [full_at hl hn]; omega) (by omega)
    unfold secAt
    omega
  have up : ∀ (n : Nat) (p : Int), n ≤ (secsL x.legs).length → needF x.legs (n : Int) x.micro / 1000000 ≤ p → x.start + n ≤ secAt K r x (p + 1) := fun n p hn h => by
    have h1 := le_reach (T := (p + 1) * 1000000) hlo (p := x.micro - (K : Int) * r.s.rate.lo) (fullR K r.s.rate.lo x.legs) (K + n) hok (by rw [full_at hl hn]; omega) (by omega)
    unfold secAt
    omega
  have n0 : needF x.legs ((0 : Nat) : Int) x.micro = x.micro := by
    rw [need_secs hl (by omega)]; simp [totI]
  have nE : needF x.legs (((secsL x.legs).length : Nat) : Int) x.micro = x.micro + sumP x.legs := by
    rw [need_secs hl (by omega), Int.toNat_natCast, List.take_length, g1]
  have hsn : (0 : Int) ≤ sumT x.legs := by omega
  refine ⟨by omega, by omega, fun y hy => ?_, fun j hj => ?_, ⟨?_, ?_⟩, ⟨?_, ?_⟩, fun j a ha => ?_, fun a ha b hb hab => ?_⟩
  · have := hsee y hy; omega
  · have get : ∀ {i : Nat}, i < r.strikes.length → x.start ≤ ts i ∧ ts i ≤ x.start + sumT x.legs := fun {i} hi => (hat i _ (List.getElem?_eq_getElem hi)).1
    by_cases e0 : 0 < j
    · rw [if_pos e0]
      by_cases e1 : j < r.strikes.length
      · rw [if_pos e1]
        have := hord (j - 1) (by omega)
        rwa [show j - 1 + 1 = j by omega] at this
      · rw [if_neg e1]
        exact (get (by omega)).2
    · rw [if_neg e0]
      by_cases e1 : j < r.strikes.length
      · rw [if_pos e1]; exact (get e1).1
      · rw [if_neg e1]; omega
  · have := low 0 r.s.zero.lo (by omega) (by rw [n0]; omega); omega
  · have := up 0 r.s.zero.hi (by omega) (by rw [n0]; omega); omega
  · have := low _ r.s.fin.lo (Nat.le_refl _) (by rw [nE]; omega); omega
  · have := up _ r.s.fin.hi (Nat.le_refl _) (by rw [nE]; omega); omega
  · obtain ⟨⟨a1, a2⟩, a3, a4⟩ := hat j a ha
    obtain ⟨n, hn⟩ : ∃ n : Nat, ts j - x.start = (n : Int) := ⟨(ts j - x.start).toNat, by omega⟩
    rw [hn] at a3 a4
    have b1 := low n a.pos.lo (by omega) a3
    have b2 := up n a.pos.hi (by omega) a4
    omega
  · obtain ⟨a1, a2⟩ := marks_bd hv ha
    obtain ⟨b1, b2⟩ := marks_bd hv hb
    have htot : x.micro - (K : Int) * r.s.rate.lo + totI (fullR K r.s.rate.lo x.legs) = x.micro + (sumP x.legs + (K : Int) * r.s.rate.lo) := by
      unfold fullR
      rw [tot_append, tot_append, tot_rep, g1]; omega
    have hKl : 45000000000 ≤ (K : Int) * r.s.rate.lo := by
      rw [hK]; omega
    have hP : 0 ≤ sumP x.legs := by
      have := tot_nn hlo (rs := secsL x.legs) (fun c hc => hok c (by unfold fullR; simp [hc]))
      omega
    obtain ⟨c1, c2⟩ := between_go (X := a * 1000000) (Y := b * 1000000) hlo (by omega) (p := x.micro - (K : Int) * r.s.rate.lo) (fullR K r.s.rate.lo x.legs) hok (by omega) (by omega)
    have hS : standI (a * 1000000) (b * 1000000) (x.micro - (K : Int) * r.s.rate.lo) (fullR K r.s.rate.lo x.legs) = sumS (fun t => stoodZ x.legs x.micro t.pos) a b r.s.stops 0 := by
      unfold fullR
      rw [stand_append, stand_append, stand_rep (by omega), stand_rep (by omega), tot_rep, show x.micro - (K : Int) * r.s.rate.lo + (K : Int) * r.s.rate.lo = x.micro by omega, stand_legs a b hl, (stand_stops a b hd hl).2 p7]
      omega
    have hst : ∀ t ∈ r.s.stops, t.secs.lo ≤ stoodZ x.legs x.micro t.pos ∧ stoodZ x.legs x.micro t.pos ≤ t.secs.hi := fun t ht => by
      unfold stopsB at p6
      exact has_iff.1 (List.all_eq_true.1 p6 t ht)
    have s1 := sumS_le (f := (·.secs.lo)) (g := fun t => stoodZ x.legs x.micro t.pos) (x := a) (y := b) (l := r.s.stops) fun t ht => (hst t ht).1
    have s2 := sumS_le (f := fun t => stoodZ x.legs x.micro t.pos) (g := (·.secs.hi)) (x := a) (y := b) (l := r.s.stops) fun t ht => (hst t ht).2
    rw [hS] at c1 c2
    rw [(leastR_eq r.s a b).1, (leastR_eq r.s a b).2]
    have hD : secAt K r x b - secAt K r x a = reach (b * 1000000) (x.micro - (K : Int) * r.s.rate.lo) (fullR K r.s.rate.lo x.legs) - reach (a * 1000000) (x.micro - (K : Int) * r.s.rate.lo) (fullR K r.s.rate.lo x.legs) := by unfold secAt; omega
    rw [hD]
    obtain ⟨D, hD'⟩ : ∃ D, reach (b * 1000000) (x.micro - (K : Int) * r.s.rate.lo) (fullR K r.s.rate.lo x.legs) - reach (a * 1000000) (x.micro - (K : Int) * r.s.rate.lo) (fullR K r.s.rate.lo x.legs) = D := ⟨_, rfl⟩
    obtain ⟨S, hS'⟩ : ∃ S, sumS (fun t => stoodZ x.legs x.micro t.pos) a b r.s.stops 0 = S := ⟨_, rfl⟩
    rw [hD', hS'] at c1 c2
    rw [hS'] at s1 s2
    rw [hD']
    have d1 : (b - a) * 1000000 / r.s.rate.hi < D - S + 1 := Int.ediv_lt_of_lt_mul (by omega) (by rw [Int.add_mul, Int.one_mul, Int.mul_comm (D - S)]; omega)
    have d2 : D - S ≤ ((b - a) * 1000000 + r.s.rate.lo - 1) / r.s.rate.lo := (fl_iff hlo).2 (by rw [Int.mul_comm]; omega)
    omega
end Go.Proofs.Ks
