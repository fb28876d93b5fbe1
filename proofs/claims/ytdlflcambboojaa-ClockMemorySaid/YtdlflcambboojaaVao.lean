/-
  Contracts of functions, proved by going through their code. No conditions.
-/
import Derived.Test.YtdlflcambboojaaVaa
import Derived.Test.YtdlflcambboojaaVan
set_option linter.unusedVariables false
set_option linter.unusedSimpArgs false
set_option maxHeartbeats 8000000
set_option maxRecDepth 10000
namespace Go.Proofs.Ks
open Go Go.Pg Go.Proofs
def atI (kd nm : Int) : Nat → List Node → Int
  | _, [] => -1
  | k, x :: r => if x.kind = kd ∧ x.num = nm then (k : Int) else atI kd nm (k + 1) r
theorem rat_ok (l : List Node) (kd nm : Int) (hl : l.length ≤ 1099511627776) : OKv cx 85 [lNode l, ai kd, ai nm] (ai (atI kd nm 0 l)) := by
  obtain ⟨RES, hR⟩ : ∃ x, atI kd nm 0 l = x := ⟨_, rfl⟩
  rw [hR]
  refine OKat.of_body (rs := [6]) Try.func85 rfl (by decide +kernel) rfl (by simp [Try.ntmps85]) ?_
  simp only [Try.ntmps85]
  repeat' first
    | apply jA | apply jB | apply jC | apply jD | apply jE | apply jF | apply jG | apply jH | apply jI
    | ((first | (apply jK cx_ok; decide) | (apply jN; rfl; decide) | apply jR); (simp (disch := omega) only [push_cast, simprocAttr] <;> rfl); all_goals try ((with_reducible intro hI); try first | (cases hI; done) | (simp only [INTS, zL] at hI; try first | (exfalso; omega) | (have hT : True := hI; clear hT hI))))
    | ((first | apply jf | apply jg); (iterate 2 (try (simp (disch := omega) only [push_cast, simprocAttr] <;> rfl))))
  refine AW.loop (fun n s => ∃ (k : Nat) (rest : List Node), n = rest.length ∧ (l.drop k = rest) ∧ (atI kd nm k rest = RES) ∧ s.tm 0 = lNode l ∧ s.tm 1 = ai kd ∧ s.tm 2 = ai nm ∧ s.tm 7 = ai k) (l.length) ⟨0, l, rfl, rfl, hR, ?_, ?_, ?_, ?_⟩ ?_
  iterate 4 (first | (simp (disch := omega) only [push_cast, simprocAttr] <;> first | rfl | omega) | omega)
  rintro n s ⟨k, rest, hn, hp0, hp1, hS⟩
  rcases rest with _ | ⟨x, rest⟩
  · have hk := drop_nil hp0
    repeat' first
      | apply jA | apply jB | apply jC | apply jD | apply jE | apply jF | apply jG | apply jH | apply jI
      | ((first | (apply jK cx_ok; decide) | (apply jN; rfl; decide) | apply jR); (simp (disch := omega) only [push_cast, simprocAttr, hS, hk] <;> rfl); all_goals try ((with_reducible intro hI); try first | (cases hI; done) | (simp only [INTS, zL] at hI; try first | (exfalso; omega) | (have hT : True := hI; clear hT hI))))
      | ((first | apply jf | apply jg); (iterate 2 (try (simp (disch := omega) only [push_cast, simprocAttr, hS, hk] <;> rfl))))
    all_goals (show _ = _; rw [← hp1]; rfl)
  · obtain ⟨hk, hg, hd', hl', hm, hx⟩ := drop_cons hp0 eNode []
    by_cases h1 : x.kind = kd
    · have h1T : (x.kind = kd) = True := eq_true h1
      by_cases h2 : x.num = nm
      · have h2T : (x.num = nm) = True := eq_true h2
        rw [atI, if_pos ⟨h1, h2⟩] at hp1
        repeat' first
          | apply jA | apply jB | apply jC | apply jD | apply jE | apply jF | apply jG | apply jH | apply jI
          | ((first | (apply jK cx_ok; decide) | (apply jN; rfl; decide) | apply jR); (simp (disch := omega) only [push_cast, simprocAttr, hS, hk, hg, hx, h1T, h2T] <;> rfl); all_goals try ((with_reducible intro hI); try first | (cases hI; done) | (simp only [INTS, zL] at hI; try first | (exfalso; omega) | (have hT : True := hI; clear hT hI))))
          | ((first | apply jf | apply jg); (iterate 2 (try (simp (disch := omega) only [push_cast, simprocAttr, hS, hk, hg, hx, h1T, h2T] <;> rfl))))
        all_goals (show _ = _; rw [← hp1])
      · have h2F : (x.num = nm) = False := eq_false h2
        rw [atI, if_neg (fun h => h2 h.2)] at hp1
        repeat' first
          | apply jA | apply jB | apply jC | apply jD | apply jE | apply jF | apply jG | apply jH | apply jI
          | ((first | (apply jK cx_ok; decide) | (apply jN; rfl; decide) | apply jR); (simp (disch := omega) only [push_cast, simprocAttr, hS, hk, hg, hx, h1T, h2F] <;> rfl); all_goals try ((with_reducible intro hI); try first | (cases hI; done) | (simp only [INTS, zL] at hI; try first | (exfalso; omega) | (have hT : True := hI; clear hT hI))))
          | ((first | apply jf | apply jg); (iterate 2 (try (simp (disch := omega) only [push_cast, simprocAttr, hS, hk, hg, hx, h1T, h2F] <;> rfl))))
        all_goals (refine ⟨rest.length, ?_, k + 1, rest, rfl, hd', hp1, ?_, ?_, ?_, ?_⟩; ((simp only [zD] at *; omega)); all_goals first | (simp (disch := omega) only [push_cast, simprocAttr, hS, hk, hg, hx, h1T, h2F] <;> first | rfl | omega) | omega)
    · have h1F : (x.kind = kd) = False := eq_false h1
      rw [atI, if_neg (fun h => h1 h.1)] at hp1
      repeat' first
        | apply jA | apply jB | apply jC | apply jD | apply jE | apply jF | apply jG | apply jH | apply jI
        | ((first | (apply jK cx_ok; decide) | (apply jN; rfl; decide) | apply jR); (simp (disch := omega) only [push_cast, simprocAttr, hS, hk, hg, hx, h1F] <;> rfl); all_goals try ((with_reducible intro hI); try first | (cases hI; done) | (simp only [INTS, zL] at hI; try first | (exfalso; omega) | (have hT : True := hI; clear hT hI))))
        | ((first | apply jf | apply jg); (iterate 2 (try (simp (disch := omega) only [push_cast, simprocAttr, hS, hk, hg, hx, h1F] <;> rfl))))
      all_goals (refine ⟨rest.length, ?_, k + 1, rest, rfl, hd', hp1, ?_, ?_, ?_, ?_⟩; ((simp only [zD] at *; omega)); all_goals first | (simp (disch := omega) only [push_cast, simprocAttr, hS, hk, hg, hx, h1F] <;> first | rfl | omega) | omega)
def addS (x y : Int) : List Stop → Int × Int → Int × Int
  | [], p => p
  | t :: r, p => addS x y r (if x ≤ t.pos ∧ t.pos < y then (p.1 + t.secs.lo, p.2 + t.secs.hi) else p)
def leastR (s : Session) (x y : Int) : Int × Int := addS x y s.stops ((y - x) * 1000000 / s.rate.hi, ((y - x) * 1000000 + s.rate.lo - 1) / s.rate.lo)
structure Session.R (s : Session) : Prop where
  rate : 900000 ≤ s.rate.lo ∧ s.rate.lo ≤ s.rate.hi ∧ s.rate.hi ≤ 1100000
  nstops : s.stops.length ≤ 4
  stops : ∀ x ∈ s.stops, 0 ≤ x.secs.lo ∧ x.secs.lo ≤ x.secs.hi ∧ x.secs.hi ≤ 36000
theorem Rec.V.r {r : Rec} (h : r.V) : r.s.R := ⟨h.rate, h.nstops, fun x hx => (h.stops x hx).2.2⟩
theorem div_bound {n d : Int} (hn : 0 ≤ n) (hm : n ≤ 43200000000 + 1100000) (hd : 900000 ≤ d) : 0 ≤ n / d ∧ n / d ≤ 48002 := by
  refine ⟨Int.ediv_nonneg hn (by omega), ?_⟩
  have h1 : n / d < 48003 := Int.ediv_lt_of_lt_mul (by omega) (by omega)
  omega
theorem least_ok (s0 : Session) (x y : Int) (hv : s0.R) (hx0 : 0 ≤ x) (hxy : x ≤ y) (hy : y ≤ 43200) : OKv cx 116 [.agg (eSession s0), ai x, ai y] (.tup [ai (leastR s0 x y).1, ai (leastR s0 x y).2]) := by
  obtain ⟨r1, r2, r3⟩ := hv.rate
  have hn4 := hv.nstops
  have z1 : (s0.rate.hi = 0) = False := eq_false (by omega)
  have z2 : (s0.rate.lo = 0) = False := eq_false (by omega)
  have d1 := div_bound (n := (y - x) * 1000000) (d := s0.rate.hi) (by omega) (by omega) (by omega)
  have d2 := div_bound (n := (y - x) * 1000000 + s0.rate.lo - 1) (d := s0.rate.lo) (by omega) (by omega) (by omega)
  obtain ⟨RES, hR⟩ : ∃ p, leastR s0 x y = p := ⟨_, rfl⟩
  rw [hR]
  unfold leastR at hR
  obtain ⟨Q1, hQ1⟩ : ∃ q, (y - x) * 1000000 / s0.rate.hi = q := ⟨_, rfl⟩
  obtain ⟨Q2, hQ2⟩ : ∃ q, ((y - x) * 1000000 + s0.rate.lo - 1) / s0.rate.lo = q := ⟨_, rfl⟩
  rw [hQ1] at d1 hR
  rw [hQ2] at d2 hR
  refine OKat.of_body (rs := [6, 7]) Try.func116 rfl (by decide +kernel) rfl (by simp [Try.ntmps116]) ?_
  simp only [Try.ntmps116]
  repeat' first
    | apply jA | apply jB | apply jC | apply jD | apply jE | apply jF | apply jG | apply jH | apply jI
    | ((first | (apply jK cx_ok; decide) | (apply jN; rfl; decide) | apply jR); (simp (disch := omega) only [push_cast, simprocAttr, z1, z2, hQ1, hQ2] <;> rfl); all_goals try ((with_reducible intro hI); try first | (cases hI; done) | (simp only [INTS, zL] at hI; try first | (exfalso; omega) | (have hT : True := hI; clear hT hI))))
    | ((first | apply jh | apply ji); (iterate 2 (try (simp (disch := omega) only [push_cast, simprocAttr, z1, z2, hQ1, hQ2] <;> rfl))))
  refine AW.loop (fun n s => ∃ (k : Nat) (p : Int × Int) (rest : List Stop), n = rest.length ∧ (s0.stops.drop k = rest) ∧ (addS x y rest p = RES) ∧ (0 ≤ p.1 ∧ p.1 ≤ 48002 + 36000 * k ∧ 0 ≤ p.2 ∧ p.2 ≤ 48002 + 36000 * k) ∧ 1 ≤ s.nx ∧ s.tm 1 = ai x ∧ s.tm 2 = ai y ∧ s.tm 3 = .ptr 0 0 0 1 ∧ s.tm 8 = ai p.1 ∧ s.tm 9 = ai p.2 ∧ s.tm 10 = ai k ∧ Pg.rowAt s.H (0) = some ({ k := 12, es := [eSession s0], ty := 26 })) (s0.stops.length) ⟨0, (Q1, Q2), s0.stops, rfl, rfl, hR, ⟨d1.1, (by omega), d2.1, (by omega)⟩, ?_, ?_, ?_, ?_, ?_, ?_, ?_, ?_⟩ ?_
  iterate 8 (first | (simp (disch := omega) only [push_cast, simprocAttr, z1, z2, hQ1, hQ2] <;> first | rfl | omega) | omega)
  rintro n s ⟨k, p, rest, hn, hp0, hp1, hp2, hnl, hS⟩
  have hZ : (0 : Nat) ≠ s.nx ∧ s.nx ≠ (0 : Nat) := by omega
  obtain ⟨p1, p2, p3, p4⟩ := hp2
  rcases rest with _ | ⟨st, rest⟩
  · have hk := drop_nil hp0
    repeat' first
      | apply jA | apply jB | apply jC | apply jD | apply jE | apply jF | apply jG | apply jH | apply jI
      | ((first | (apply jK cx_ok; decide) | (apply jN; rfl; decide) | apply jR); (simp (disch := omega) only [push_cast, simprocAttr, hS, hZ, hk] <;> rfl); all_goals try ((with_reducible intro hI); try first | (cases hI; done) | (simp only [INTS, zL] at hI; try first | (exfalso; omega) | (have hT : True := hI; clear hT hI))))
      | ((first | apply jh | apply ji); (iterate 2 (try (simp (disch := omega) only [push_cast, simprocAttr, hS, hZ, hk] <;> rfl))))
    all_goals (show _ = _; rw [← hp1]; rfl)
  · obtain ⟨hk, hg, hd', hl', hm, hx⟩ := drop_cons hp0 eStop []
    obtain ⟨b1, b2, b3⟩ := hv.stops st hm
    by_cases hq : x ≤ st.pos ∧ st.pos < y
    · have q1 := hq.1
      have q2 := hq.2
      rw [addS, if_pos hq] at hp1
      repeat' first
        | apply jA | apply jB | apply jC | apply jD | apply jE | apply jF | apply jG | apply jH | apply jI
        | ((first | (apply jK cx_ok; decide) | (apply jN; rfl; decide) | apply jR); (simp (disch := omega) only [push_cast, simprocAttr, hS, hZ, hk, hg, hx, q1, q2] <;> rfl); all_goals try ((with_reducible intro hI); try first | (cases hI; done) | (simp only [INTS, zL] at hI; try first | (exfalso; omega) | (have hT : True := hI; clear hT hI))))
        | ((first | apply jh | apply ji); (iterate 2 (try (simp (disch := omega) only [push_cast, simprocAttr, hS, hZ, hk, hg, hx, q1, q2] <;> rfl))))
      all_goals (refine ⟨rest.length, ?_, k + 1, (p.1 + st.secs.lo, p.2 + st.secs.hi), rest, rfl, hd', hp1, ⟨(by dsimp only; omega), (by dsimp only; omega), (by dsimp only; omega), (by dsimp only; omega)⟩, ?_, ?_, ?_, ?_, ?_, ?_, ?_, ?_⟩; ((simp only [zD] at *; omega)); all_goals first | (simp (disch := omega) only [push_cast, simprocAttr, hS, hZ, hk, hg, hx, q1, q2] <;> first | rfl | omega) | omega)
    · rw [addS, if_neg hq] at hp1
      repeat' first
        | apply jA | apply jB | apply jC | apply jD | apply jE | apply jF | apply jG | apply jH | apply jI
        | ((first | (apply jK cx_ok; decide) | (apply jN; rfl; decide) | apply jR); (simp (disch := omega) only [push_cast, simprocAttr, hS, hZ, hk, hg, hx] <;> rfl); all_goals try ((with_reducible intro hI); try first | (cases hI; done) | (simp only [INTS, zL] at hI; try first | (exfalso; omega) | (have hT : True := hI; clear hT hI))))
        | ((first | apply jh | apply ji); (iterate 2 (try (simp (disch := omega) only [push_cast, simprocAttr, hS, hZ, hk, hg, hx] <;> rfl))))
      all_goals first
        | (exfalso; omega)
        | (refine ⟨rest.length, ?_, k + 1, p, rest, rfl, hd', hp1, ⟨p1, (by omega), p3, (by omega)⟩, ?_, ?_, ?_, ?_, ?_, ?_, ?_, ?_⟩; ((simp only [zD] at *; omega)); all_goals first | (simp (disch := omega) only [push_cast, simprocAttr, hS, hZ, hk, hg, hx] <;> first | rfl | omega) | omega)
def bothL (nd : Nat) (x : Span) : List Lk := [⟨0, nd, x.hi⟩, ⟨nd, 0, -x.lo⟩]
theorem both_ok (nd : Int) (x : Span) (hn : 0 ≤ nd) (hb : 0 ≤ x.lo ∧ x.lo ≤ 1099511627776) : OKv cx 103 [ai nd, .agg (eSpan x)] (lLink (bothL nd.toNat x)) := by
  have en := Int.toNat_of_nonneg hn
  have hb1 := hb.1
  have hb2 := hb.2
  refine OKat.of_body (rs := [4]) Try.func103 rfl (by decide +kernel) rfl (by simp [Try.ntmps103]) ?_
  simp only [Try.ntmps103]
  repeat' first
    | apply jA | apply jB | apply jC | apply jD | apply jE | apply jF | apply jG | apply jH | apply jI
    | ((first | (apply jK cx_ok; decide) | apply jR); (simp (disch := omega) only [push_cast, simprocAttr] <;> rfl); all_goals try ((with_reducible intro hI); try first | (cases hI; done) | (simp only [INTS, zL] at hI; try first | (exfalso; omega) | (have hT : True := hI; clear hT hI))))
    | ((first | apply jf | apply jg); (iterate 2 (try (simp (disch := omega) only [push_cast, simprocAttr] <;> rfl))))
  all_goals (show _ = _; simp [bothL, en])
theorem bothN_ok (nd : Int) (x : Span) (hn : 0 ≤ nd) (hb : 0 ≤ x.lo ∧ x.lo ≤ 1099511627776) : OKm cx 103 [ai nd, .agg (eSpan x)] (fun _ => none) 0 (NewRow (· = { k := 3, es := (bothL nd.toNat x).map eLink, ty := 66 })) := by
  have en := Int.toNat_of_nonneg hn
  have hb1 := hb.1
  have hb2 := hb.2
  refine OKm.of_body cx_ok (rs := [.tmp 4]) Try.func103 rfl (by decide +kernel) rfl (by simp [Try.ntmps103]) ?_
  simp only [Try.ntmps103]
  repeat' first
    | apply jA | apply jB | apply jC | apply jD | apply jE | apply jF | apply jG | apply jH | apply jI
    | ((first | (apply jK cx_ok; decide) | apply jR); (simp (disch := omega) only [push_cast, simprocAttr] <;> rfl); all_goals try ((with_reducible intro hI); try first | (cases hI; done) | (simp only [INTS, zL] at hI; try first | (exfalso; omega) | (have hT : True := hI; clear hT hI))))

  all_goals
    (apply W.retX (vs := [.ref 1 0 2])
     · (simp (disch := omega) only [push_cast, simprocAttr] <;> rfl)
     · exact newRow_of (i := 1) (row := { k := 3, es := (bothL nd.toNat x).map eLink, ty := 66 }) (by simp (disch := omega) only [push_cast, simprocAttr] <;> rfl) (by simp [bothL, en]) rfl (fun e he c hc => by simp [bothL] at he; rcases he with rfl | rfl <;> simp at hc <;> rcases hc with rfl | rfl | rfl <;> exact ⟨_, rfl⟩) (by simp [bothL]))
def needleL (l : List Node) (nd : Nat) (x : Span) : List Lk := [⟨nd, (atI 4 x.lo 0 l).toNat, 0⟩, ⟨(atI 4 (x.hi + 1) 0 l).toNat, nd, 0⟩]
theorem needle_ok (l : List Node) (nd : Int) (x : Span) (hn : 0 ≤ nd) (hl : l.length ≤ 1099511627776) (hb : x.hi ≤ 43199) (h0 : 0 ≤ x.hi) (h1 : 0 ≤ atI 4 x.lo 0 l) (h2 : 0 ≤ atI 4 (x.hi + 1) 0 l) : OKv cx 115 [lNode l, ai nd, .agg (eSpan x)] (lLink (needleL l nd.toNat x)) := by
  have en := Int.toNat_of_nonneg hn
  have e1 : ((atI 4 x.lo 0 l).toNat : Int) = atI 4 x.lo 0 l := Int.toNat_of_nonneg h1
  have e2 : ((atI 4 (x.hi + 1) 0 l).toNat : Int) = atI 4 (x.hi + 1) 0 l := Int.toNat_of_nonneg h2
  refine OKat.of_body (rs := [6]) Try.func115 rfl (by decide +kernel) rfl (by simp [Try.ntmps115]) ?_
  simp only [Try.ntmps115]
  repeat' first
    | apply jA | apply jB | apply jC | apply jD | apply jE | apply jF | apply jG | apply jH | apply jI | apply jJ
    | refine AW.draw (id := 1) cx_mixed [] [] [] 15 (by decide +kernel) ?_
    | refine W.draw cx_mixed (by decide +kernel) ?_
    | ((first | (apply jK cx_ok; decide) | (apply jL cx_ok; decide; decide) | apply jR); (simp (disch := omega) only [push_cast, simprocAttr, take_mapLen] <;> rfl); all_goals try ((with_reducible intro hI); try first | (cases hI; done) | (simp only [INTS, zL] at hI; try first | (exfalso; omega) | (have hT : True := hI; clear hT hI))))
    | ((first | (apply jc cx_ok; decide; decide)); (simp (disch := omega) only [push_cast, simprocAttr, take_mapLen] <;> rfl))
    | ((apply jZ cx_ok; decide; decide); (simp (disch := omega) only [push_cast, simprocAttr, take_mapLen] <;> rfl); (simp (disch := omega) only [push_cast, simprocAttr, take_mapLen, updH_at, zJ]); (simp (disch := omega) only [push_cast, simprocAttr, take_mapLen] <;> omega))
    | ((first | (apply jV cx_ok; decide) | (apply jW cx_ok; decide; decide)); (iterate 2 (simp (disch := omega) only [push_cast, simprocAttr, take_mapLen] <;> rfl)); (with_reducible first | exact rat_ok _ _ _ hl); try first | rfl | (simp (disch := omega) only [push_cast, simprocAttr, take_mapLen] <;> rfl))
    | ((first | apply jf | apply jg); (iterate 2 (try (simp (disch := omega) only [push_cast, simprocAttr, take_mapLen] <;> rfl))))
  all_goals (show _ = _; simp [needleL, e1, e2, en])
end Go.Proofs.Ks

namespace Go.Proofs.Ks
theorem insI_mem {n a : Int} : ∀ {l : List Int}, a ∈ insI n l ↔ a = n ∨ a ∈ l
  | [] => by simp [insI]
  | x :: r => by
    have ih := @insI_mem n a r
    unfold insI
    split
    · simp only [List.mem_cons, ih]
      constructor
      · rintro (h | h | h) <;> simp [h]
      · rintro (h | h | h) <;> simp [h]
    · split
      · rename_i h; subst h; simp
      · simp
theorem insI_sorted {n : Int} : ∀ {l : List Int}, l.Pairwise (· < ·) → (insI n l).Pairwise (· < ·)
  | [], _ => by simp [insI]
  | x :: r, h => by
    obtain ⟨h1, h2⟩ := List.pairwise_cons.1 h
    unfold insI
    split
    · rename_i hlt
      refine List.pairwise_cons.2 ⟨fun a ha => ?_, insI_sorted h2⟩
      rcases insI_mem.1 ha with rfl | ha
      · exact hlt
      · exact h1 a ha
    · split
      · exact h
      · rename_i h3 h4
        refine List.pairwise_cons.2 ⟨fun a ha => ?_, h⟩
        rcases List.mem_cons.1 ha with rfl | ha
        · omega
        · have := h1 a ha; omega
theorem insS_mem {a : Int} : ∀ {l : List Strike} {M : List Int}, a ∈ insS l M ↔ a ∈ M ∨ ∃ x ∈ l, a = x.pos.lo ∨ a = x.pos.hi + 1
  | [], M => by simp [insS]
  | x :: l, M => by
    unfold insS
    rw [insS_mem, insI_mem, insI_mem]
    simp only [List.mem_cons, exists_eq_or_imp]
    constructor
    · rintro ((h | h | h) | h)
      · exact .inr (.inl (.inr h))
      · exact .inr (.inl (.inl h))
      · exact .inl h
      · exact .inr (.inr h)
    · rintro (h | (h | h) | h)
      · exact .inl (.inr (.inr h))
      · exact .inl (.inr (.inl h))
      · exact .inl (.inl h)
      · exact .inr h
theorem insS_sorted : ∀ {l : List Strike} {M : List Int}, M.Pairwise (· < ·) → (insS l M).Pairwise (· < ·)
  | [], _, h => h
  | _ :: l, _, h => insS_sorted (l := l) (insI_sorted (insI_sorted h))
theorem insM_mem {a : Int} : ∀ {l M : List Int}, a ∈ insM l M ↔ a ∈ M ∨ a ∈ l
  | [], M => by simp [insM]
  | x :: l, M => by
    unfold insM
    rw [insM_mem, insI_mem]
    simp only [List.mem_cons]
    constructor
    · rintro ((h | h) | h) <;> simp [h]
    · rintro (h | h | h) <;> simp [h]
theorem insM_sorted : ∀ {l M : List Int}, M.Pairwise (· < ·) → (insM l M).Pairwise (· < ·)
  | [], _, h => h
  | _ :: l, _, h => insM_sorted (l := l) (insI_sorted h)
theorem marksR_mem {r : Rec} {more : List Int} {a : Int} : a ∈ marksR r more ↔ (a = r.s.zero.lo ∨ a = r.s.zero.hi + 1 ∨ a = r.s.fin.lo ∨ a = r.s.fin.hi + 1) ∨ (∃ x ∈ r.strikes, a = x.pos.lo ∨ a = x.pos.hi + 1) ∨ a ∈ more := by
  unfold marksR
  rw [insM_mem, insS_mem, insI_mem, insI_mem, insI_mem, insI_mem]
  simp only [List.not_mem_nil, or_false]
  constructor
  · rintro ((h | h) | h)
    · exact .inl (by omega)
    · exact .inr (.inl h)
    · exact .inr (.inr h)
  · rintro (h | h | h)
    · exact .inl (.inl (by omega))
    · exact .inl (.inr h)
    · exact .inr h
theorem marksR_sorted (r : Rec) (more : List Int) : (marksR r more).Pairwise (· < ·) := by
  unfold marksR
  exact insM_sorted (insS_sorted (insI_sorted (insI_sorted (insI_sorted (insI_sorted List.Pairwise.nil)))))
theorem marksR_bound {r : Rec} (hv : r.V) {more : List Int} (hm : ∀ a ∈ more, 0 ≤ a ∧ a ≤ 43200) {a : Int} (h : a ∈ marksR r more) : 0 ≤ a ∧ a ≤ 43200 := by
  have := hv.z; have := hv.f; have := hv.zf
  rcases marksR_mem.1 h with h | ⟨x, hx, h⟩ | h
  · omega
  · have := hv.strikes x hx; omega
  · exact hm a h
theorem atI_append (kd nm : Int) : ∀ (l m : List Node) (k : Nat), (∀ x ∈ l, ¬ (x.kind = kd ∧ x.num = nm)) → atI kd nm k (l ++ m) = atI kd nm (k + l.length) m
  | [], m, k, _ => by simp
  | x :: l, m, k, h => by
    have h1 := h x (by simp)
    have h2 := atI_append kd nm l m (k + 1) (fun y hy => h y (by simp [hy]))
    simp only [List.cons_append, atI]
    rw [if_neg h1, h2, show k + 1 + l.length = k + (l.length + 1) by omega]; rfl
theorem atI_case (kd nm : Int) : ∀ (l : List Node) (k : Nat), (atI kd nm k l = -1 ∧ ∀ x ∈ l, ¬ (x.kind = kd ∧ x.num = nm)) ∨ ∃ i, i < l.length ∧ atI kd nm k l = ((k + i : Nat) : Int) ∧ l.getD i default = ⟨kd, nm⟩
  | [], k => .inl ⟨rfl, fun x hx => by simp at hx⟩
  | x :: l, k => by
    unfold atI
    by_cases h : x.kind = kd ∧ x.num = nm
    · rw [if_pos h]
      refine .inr ⟨0, by simp, rfl, ?_⟩
      obtain ⟨h1, h2⟩ := h
      cases x; simp only at h1 h2; subst h1; subst h2; rfl
    · rw [if_neg h]
      rcases atI_case kd nm l (k + 1) with ⟨h1, h2⟩ | ⟨i, h1, h2, h3⟩
      · refine .inl ⟨h1, fun y hy => ?_⟩
        rcases List.mem_cons.1 hy with rfl | hy
        · exact h
        · exact h2 y hy
      · exact .inr ⟨i + 1, by simp; omega, by rw [h2, show k + 1 + i = k + (i + 1) by omega], by simpa using h3⟩
theorem nodesR_len (r : Rec) (more : List Int) : (nodesR r more).length = 3 + r.strikes.length + (marksR r more).length := by
  unfold nodesR; rw [List.length_append, List.length_append, nd0_len, ndS_len, ndM_len]
theorem at_mark {r : Rec} {more : List Int} {p : Int} (h : p ∈ marksR r more) : 0 ≤ atI 4 p 0 (nodesR r more) ∧ atI 4 p 0 (nodesR r more) < ((nodesR r more).length : Int) := by
  rcases atI_case 4 p (nodesR r more) 0 with ⟨_, h2⟩ | ⟨i, h1, h2, _⟩
  · exfalso
    refine h2 ⟨4, p⟩ ?_ ⟨rfl, rfl⟩
    unfold nodesR ndM
    exact List.mem_append_right _ (List.mem_map.2 ⟨p, h, rfl⟩)
  · rw [h2]; omega
theorem node_mark {r : Rec} {more : List Int} {j : Nat} (h : j < (marksR r more).length) : (nodesR r more).getD (3 + r.strikes.length + j) default = ⟨4, (marksR r more).getD j 0⟩ := by
  unfold nodesR
  rw [List.getD_eq_getElem?_getD, List.getElem?_append_right (by rw [List.length_append, nd0_len, ndS_len]; omega)]
  rw [show 3 + r.strikes.length + j - (nd0 ++ ndS r.strikes.length).length = j by rw [List.length_append, nd0_len, ndS_len]; omega]
  unfold ndM
  rw [List.getElem?_map, List.getElem?_eq_getElem h, List.getD_eq_getElem?_getD, List.getElem?_eq_getElem h]; rfl
def sgL (r : Rec) : List Sight → List Lk
  | [] => []
  | x :: l => bothL (3 + strikeI x.strike 0 r.strikes).toNat x.seen ++ sgL r l
def rowK (S i : Nat) : Lk := ⟨if i < S then 3 + i else 2, if 0 < i then 2 + i else 1, 0⟩
def rwL (S : Nat) : Nat → Nat → List Lk
  | 0, _ => []
  | c + 1, i => rowK S i :: rwL S c (i + 1)
def ndL (nd : List Node) : Nat → List Strike → List Lk
  | _, [] => []
  | i, x :: l => needleL nd (3 + i) x.pos ++ ndL nd (i + 1) l
def pairL (s : Session) (i : Nat) (x : Int) : Nat → List Int → List Lk
  | _, [] => []
  | k, y :: l => ⟨i, k, (leastR s x y).2⟩ :: ⟨k, i, -(leastR s x y).1⟩ :: pairL s i x (k + 1) l
def pairsL (s : Session) : Nat → List Int → List Lk
  | _, [] => []
  | i, x :: l => pairL s i x (i + 1) l ++ pairsL s (i + 1) l
def linksR (r : Rec) (more : List Int) : List Lk :=
  bothL 1 r.s.inn ++ (bothL 2 r.s.out ++ (sgL r r.sights ++ (rwL r.strikes.length (r.strikes.length + 1) 0 ++ (needleL (nodesR r more) 1 r.s.zero ++ (ndL (nodesR r more) 0 r.strikes ++ (needleL (nodesR r more) 2 r.s.fin ++ pairsL r.s (3 + r.strikes.length) (marksR r more)))))))
theorem leastR_bound (s : Session) (x y : Int) (hv : s.R) (hx0 : 0 ≤ x) (hxy : x ≤ y) (hy : y ≤ 43200) : 0 ≤ (leastR s x y).1 ∧ (leastR s x y).1 ≤ 192002 ∧ 0 ≤ (leastR s x y).2 ∧ (leastR s x y).2 ≤ 192002 := by
  obtain ⟨r1, r2, r3⟩ := hv.rate
  have d1 := div_bound (n := (y - x) * 1000000) (d := s.rate.hi) (by omega) (by omega) (by omega)
  have d2 := div_bound (n := (y - x) * 1000000 + s.rate.lo - 1) (d := s.rate.lo) (by omega) (by omega) (by omega)
  have go : ∀ (l : List Stop) (p : Int × Int), (∀ t ∈ l, 0 ≤ t.secs.lo ∧ t.secs.lo ≤ t.secs.hi ∧ t.secs.hi ≤ 36000) → 0 ≤ p.1 → 0 ≤ p.2 →
      0 ≤ (addS x y l p).1 ∧ (addS x y l p).1 ≤ p.1 + 36000 * l.length ∧ 0 ≤ (addS x y l p).2 ∧ (addS x y l p).2 ≤ p.2 + 36000 * l.length := by
    intro l
    induction l with
    | nil => intro p _ h1 h2; simp only [addS, List.length_nil]; omega
    | cons t l ih =>
      intro p hl h1 h2
      have ht := hl t (by simp)
      unfold addS
      split
      · have := ih (p.1 + t.secs.lo, p.2 + t.secs.hi) (fun z hz => hl z (by simp [hz])) (by dsimp only; omega) (by dsimp only; omega)
        simp only [List.length_cons] at this ⊢; omega
      · have := ih p (fun z hz => hl z (by simp [hz])) h1 h2
        simp only [List.length_cons] at this ⊢; omega
  have h := go s.stops ((y - x) * 1000000 / s.rate.hi, ((y - x) * 1000000 + s.rate.lo - 1) / s.rate.lo) hv.stops d1.1 d2.1
  have hn := hv.nstops
  unfold leastR
  dsimp only at h
  omega
end Go.Proofs.Ks
