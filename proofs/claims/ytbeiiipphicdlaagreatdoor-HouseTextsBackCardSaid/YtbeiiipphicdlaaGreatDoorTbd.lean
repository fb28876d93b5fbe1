/-
  Contracts of functions, proved by going through their code. No conditions.
-/
import Derived.Test.YtbeiiipphicdlaaGreatDoorTaa
import Derived.Test.YtbeiiipphicdlaaGreatDoorTan
import Derived.Test.YtbeiiipphicdlaaGreatDoorTao
set_option linter.unusedVariables false
set_option linter.unusedSimpArgs false
set_option maxHeartbeats 8000000
set_option maxRecDepth 10000
namespace Go.Proofs.Hz
open Go Go.Pg Go.Proofs
def finalL (t day : Int) : List Span → Option Int
  | [] => none
  | x :: rest => if 0 ≤ day then (if day + x.lo ≤ min t (day + x.hi) then some (min t (day + x.hi)) else finalL t day rest) else none
def finalD (t : Int) (hours : List Span) : List Int → Option Int
  | [] => none
  | day :: ds => match finalL t day hours.reverse with | some n => some n | none => finalD t hours ds
def final (d : Door) (t : Int) : Option Int := finalD t d.hours [t / 86400 * 86400, (t / 86400 - 1) * 86400]
theorem final_ok (d : Door) (t : Int) (hd : d.OK) (h0 : 0 ≤ t) (h1 : t ≤ 1073741824) : OKv cx 86 [.agg (eDoor d), ai t] (eOpt (final d t)) := by
  have hlen := hd.nh
  refine OKat.of_body (rs := [4, 5]) Tryz.func86 rfl (by decide +kernel) rfl (by simp [Tryz.ntmps86]) ?_
  simp only [Tryz.ntmps86]
  repeat' first
    | apply AW.seq | apply AW.region | apply AW.ret | apply AW.block | apply AW.skip | apply AW.exit | apply AW.scope | apply AW.label | apply AWL.nil
    | ((first | (apply W.step cx_ok; decide) | apply W.store cx_ok | (apply W.gS; rfl; decide) | apply AW.cond); (simp (disch := omega) only [push_cast, simprocAttr, Int.reduceEq] <;> rfl); all_goals try ((with_reducible intro hI); try first | (cases hI; done) | (simp only [INTS] at hI; try first | (exfalso; omega) | (have hT : True := hI; clear hT hI))))
    | ((first | apply W.ret2 | apply W.end2); (iterate 2 (try (simp (disch := omega) only [push_cast, simprocAttr, Int.reduceEq] <;> rfl))))
  refine AW.loop (fun n s => ∃ (j : Nat) (ds : List Int), n = ds.length ∧ ([t / 86400 * 86400, (t / 86400 - 1) * 86400].drop j = ds) ∧ (finalD t d.hours ds = final d t) ∧ 1 ≤ s.nx ∧ s.tm 1 = ai t ∧ s.tm 2 = .ptr 0 0 0 1 ∧ s.tm 18 = .agg [ai (t / 86400 * 86400), ai ((t / 86400 - 1) * 86400)] ∧ s.tm 19 = ai j ∧ Pg.rowAt s.H (0) = some ({ k := 2, es := [eDoor d], ty := 38 })) (2) ⟨0, _, rfl, rfl, rfl, ?_, ?_, ?_, ?_, ?_, ?_⟩ ?_
  iterate 6 (first | (simp (disch := omega) only [push_cast, simprocAttr, Int.reduceEq] <;> first | rfl | omega) | omega)
  rintro n s ⟨j, ds, hn, hp0, hp1, hnl, hS⟩
  have hZ : (0 : Nat) ≠ s.nx ∧ s.nx ≠ (0 : Nat) := by omega
  rcases ds with _ | ⟨y, ds⟩
  · have hj : ¬ ((j : Int) < 2) := by have := drop_nil hp0; simpa using this
    repeat' first
      | apply AW.seq | apply AW.region | apply AW.ret | apply AW.block | apply AW.skip | apply AW.exit | apply AW.scope | apply AW.label | apply AWL.nil
      | ((first | (apply W.step cx_ok; decide) | apply W.store cx_ok | (apply W.gS; rfl; decide) | apply AW.cond); (simp (disch := omega) only [push_cast, simprocAttr, hS, hZ, hj] <;> rfl); all_goals try ((with_reducible intro hI); try first | (cases hI; done) | (simp only [INTS] at hI; try first | (exfalso; omega) | (have hT : True := hI; clear hT hI))))
      | ((first | apply W.ret2 | apply W.end2); (iterate 2 (try (simp (disch := omega) only [push_cast, simprocAttr, hS, hZ, hj] <;> rfl))))
    all_goals (show _ = _; rw [← hp1]; rfl)
  · obtain ⟨hj', _, hdj, hlj, hmj, hxj⟩ := drop_cons hp0 ai .junk
    have hj : (j : Int) < 2 := by simpa using hj'
    have hj2 : (j : Int) < ((2 : Nat) : Int) := hj
    have hy : -86400 ≤ y ∧ y ≤ 1073913600 := by simp at hmj; omega
    simp only [List.map_cons, List.map_nil] at hxj
    repeat' first
      | apply AW.seq | apply AW.region | apply AW.ret | apply AW.block | apply AW.skip | apply AW.exit | apply AW.scope | apply AW.label | apply AWL.nil
      | ((first | (apply W.step cx_ok; decide) | apply W.store cx_ok | (apply W.gS; rfl; decide) | apply AW.cond); (simp (disch := omega) only [push_cast, simprocAttr, hS, hZ, Nat.mul_one, hj, hj2, hxj] <;> rfl); all_goals try ((with_reducible intro hI); try first | (cases hI; done) | (simp only [INTS] at hI; try first | (exfalso; omega) | (have hT : True := hI; clear hT hI))))
      | ((first | apply W.ret2 | apply W.end2); (iterate 2 (try (simp (disch := omega) only [push_cast, simprocAttr, hS, hZ, Nat.mul_one, hj, hj2, hxj] <;> rfl))))
    refine AW.loop (fun n s => ∃ (k : Nat) (rest : List Span), n = rest.length ∧ (d.hours.reverse.drop k = rest) ∧ ((match finalL t y rest with | some n => some n | none => finalD t d.hours ds) = final d t) ∧ (rest.length ≤ 8) ∧ 1 ≤ s.nx ∧ s.tm 1 = ai t ∧ s.tm 2 = .ptr 0 0 0 1 ∧ s.tm 7 = ai y ∧ s.tm 8 = ai ((rest.length : Int) - 1) ∧ s.tm 18 = .agg [ai (t / 86400 * 86400), ai ((t / 86400 - 1) * 86400)] ∧ s.tm 19 = ai j ∧ Pg.rowAt s.H (0) = some ({ k := 2, es := [eDoor d], ty := 38 })) (d.hours.length) ⟨0, d.hours.reverse, (by simp), rfl, hp1, (by simpa using hlen), ?_, ?_, ?_, ?_, ?_, ?_, ?_, ?_⟩ ?_
    iterate 8 (first | (simp (disch := omega) only [push_cast, simprocAttr, hS, hZ, Nat.mul_one, hj, hj2, hxj, List.length_reverse] <;> first | rfl | omega) | omega)
    rintro n2 s2 ⟨k2, rest2, hn2, hp02, hp12, hp22, hnl2, hS2⟩
    have hZ2 : (0 : Nat) ≠ s2.nx ∧ s2.nx ≠ (0 : Nat) := by omega
    rcases rest2 with _ | ⟨x2, rest2⟩
    · have hk2 : ¬ ((0 : Int) ≤ ((([] : List Span).length : Int) - 1)) := by simp
      simp only [List.length_nil] at hk2 hS2
      repeat' first
        | apply AW.seq | apply AW.region | apply AW.ret | apply AW.block | apply AW.skip | apply AW.exit | apply AW.scope | apply AW.label | apply AWL.nil
        | ((first | (apply W.step cx_ok; decide) | apply W.store cx_ok | (apply W.gS; rfl; decide) | apply AW.cond); (simp (disch := omega) only [push_cast, simprocAttr, hS2, hZ2, hk2] <;> rfl); all_goals try ((with_reducible intro hI); try first | (cases hI; done) | (simp only [INTS] at hI; try first | (exfalso; omega) | (have hT : True := hI; clear hT hI))))
        | ((first | apply W.ret2 | apply W.end2); (iterate 2 (try (simp (disch := omega) only [push_cast, simprocAttr, hS2, hZ2, hk2] <;> rfl))))
      all_goals
        (have hp1' : finalD t d.hours ds = final d t := hp12
         (refine ⟨ds.length, ?_, j + 1, ds, rfl, hdj, hp1', ?_, ?_, ?_, ?_, ?_, ?_⟩; ((simp only [List.length_cons] at *; omega)); all_goals first | (simp (disch := omega) only [push_cast, simprocAttr, hS2, hZ2] <;> first | rfl | omega) | omega))
    · obtain ⟨hk2, hg2, hd'2, hl'2, hm2⟩ := drop_rev hp02 eSpan []
      have hb := hd.hours _ hm2
      have he : (((x2 :: rest2).length : Nat) : Int) - 1 = (rest2.length : Int) := by simp
      rw [he] at hS2
      repeat' first
        | apply AW.seq | apply AW.region | apply AW.ret | apply AW.block | apply AW.skip | apply AW.exit | apply AW.scope | apply AW.label | apply AWL.nil
        | ((first | (apply W.step cx_ok; decide) | apply W.store cx_ok | (apply W.gS; rfl; decide) | apply AW.cond); (simp (disch := omega) only [push_cast, simprocAttr, hS2, hZ2, hk2, hg2] <;> rfl); all_goals try ((with_reducible intro hI); try first | (cases hI; done) | (simp only [INTS] at hI; try first | (exfalso; omega) | (have hT : True := hI; clear hT hI))))
        | ((first | apply W.ret2 | apply W.end2); (iterate 2 (try (simp (disch := omega) only [push_cast, simprocAttr, hS2, hZ2, hk2, hg2] <;> rfl))))
      all_goals first
        | (show _ = _; rw [← hp12, finalL, if_pos (by omega), if_pos (by first | omega | (simp_all; done))]; rfl)
        | (have hp1' : finalD t d.hours ds = final d t := by rw [← hp12, finalL, if_neg (by omega)]
           (refine ⟨ds.length, ?_, j + 1, ds, rfl, hdj, hp1', ?_, ?_, ?_, ?_, ?_, ?_⟩; ((simp only [List.length_cons] at *; omega)); all_goals first | (simp (disch := omega) only [push_cast, simprocAttr, hS2, hZ2] <;> first | rfl | omega) | omega))
        | (rw [finalL, if_pos (by omega), if_neg (by first | omega | (simp_all; omega) | (simp_all; done))] at hp12
           (refine ⟨rest2.length, ?_, k2 + 1, rest2, rfl, hd'2, hp12, (by simp only [List.length_cons] at hp22; omega), ?_, ?_, ?_, ?_, ?_, ?_, ?_, ?_⟩; ((simp only [List.length_cons] at *; omega)); all_goals first | (simp (disch := omega) only [push_cast, simprocAttr, hS2, hZ2, hg2, hk2] <;> first | rfl | omega) | omega))
def lastL (d : Door) : Nat → Int → Int
  | 0, _ => -1
  | f + 1, t => if 0 ≤ t then (if (final d t).isSome = true then (if (over d.shut ((final d t).getD 0)).2 = true then lastL d f ((over d.shut ((final d t).getD 0)).1.lo - 1) else (final d t).getD 0) else -1) else -1
def last (d : Door) (t : Int) : Int := lastL d 17 t
theorem last_ok (d : Door) (t : Int) (hd : d.OK) (h0 : -1 ≤ t) (h1 : t ≤ 1073741824) : OKv cx 66 [.agg (eDoor d), ai t] (ai (last d t)) := by
  have hlen := hd.ns
  refine OKat.of_body (rs := [4]) Tryz.func66 rfl (by decide +kernel) rfl (by simp [Tryz.ntmps66]) ?_
  simp only [Tryz.ntmps66]
  repeat' first
    | apply AW.seq | apply AW.region | apply AW.ret | apply AW.block | apply AW.skip | apply AW.exit | apply AW.scope | apply AW.label | apply AWL.nil
    | ((first | (apply W.step cx_ok; decide) | apply W.store cx_ok | (apply W.gS; rfl; decide) | apply AW.cond); (simp (disch := omega) only [push_cast, simprocAttr] <;> rfl); all_goals try ((with_reducible intro hI); try first | (cases hI; done) | (simp only [INTS] at hI; try first | (exfalso; omega) | (have hT : True := hI; clear hT hI))))
    | ((first | apply W.ret1 | apply W.end1); (iterate 2 (try (simp (disch := omega) only [push_cast, simprocAttr] <;> rfl))))
  refine AW.loop (fun n s => ∃ (f : Nat) (u : Int) (i : Int), n = f ∧ (i + f = 17) ∧ (0 ≤ i ∧ -1 ≤ u ∧ u ≤ 1073741824) ∧ (lastL d f u = last d t) ∧ 1 ≤ s.nx ∧ s.tm 1 = ai u ∧ s.tm 2 = .ptr 0 0 0 1 ∧ s.tm 5 = ai i ∧ Pg.rowAt s.H (0) = some ({ k := 2, es := [eDoor d], ty := 38 })) (17) ⟨17, t, 0, rfl, by omega, by omega, rfl, ?_, ?_, ?_, ?_, ?_⟩ ?_
  iterate 5 (first | (simp (disch := omega) only [push_cast, simprocAttr] <;> first | rfl | omega) | omega)
  rintro n s ⟨f, u, i, hn, hp0, hp1, hp2, hnl, hS⟩
  have hZ : (0 : Nat) ≠ s.nx ∧ s.nx ≠ (0 : Nat) := by omega
  rcases f with _ | f
  · have hi : ¬ (i ≤ 16) := by omega
    repeat' first
      | apply AW.seq | apply AW.region | apply AW.ret | apply AW.block | apply AW.skip | apply AW.exit | apply AW.scope | apply AW.label | apply AWL.nil
      | ((first | (apply W.step cx_ok; decide) | apply W.store cx_ok | (apply W.gS; rfl; decide) | apply AW.cond); (simp (disch := omega) only [push_cast, simprocAttr, hS, hZ, hi] <;> rfl); all_goals try ((with_reducible intro hI); try first | (cases hI; done) | (simp only [INTS] at hI; try first | (exfalso; omega) | (have hT : True := hI; clear hT hI))))
      | ((first | apply W.ret1 | apply W.end1); (iterate 2 (try (simp (disch := omega) only [push_cast, simprocAttr, hS, hZ, hi] <;> rfl))))
    all_goals (show _ = _; rw [← hp2]; rfl)
  · have hi : i ≤ 16 := by omega
    repeat' first
      | apply AW.seq | apply AW.region | apply AW.ret | apply AW.block | apply AW.skip | apply AW.exit | apply AW.scope | apply AW.label | apply AWL.nil
      | ((first | (apply W.step cx_ok; decide) | apply W.store cx_ok | (apply W.gS; rfl; decide) | apply AW.cond); (simp (disch := omega) only [push_cast, simprocAttr, hS, hZ, hi] <;> rfl); all_goals try ((with_reducible intro hI); try first | (cases hI; done) | (simp only [INTS] at hI; try first | (exfalso; omega) | (have hT : True := hI; clear hT hI))))
      | ((apply W.callv cx_ok; decide); (iterate 2 (simp (disch := omega) only [push_cast, simprocAttr, hS, hZ, hi] <;> rfl)); (with_reducible first | exact final_ok _ _ hd (by omega) (by omega) | exact over_ok _ _ (by omega)); try first | rfl | (simp (disch := omega) only [push_cast, simprocAttr, hS, hZ, hi] <;> rfl))
      | ((first | apply W.ret1 | apply W.end1); (iterate 2 (try (simp (disch := omega) only [push_cast, simprocAttr, hS, hZ, hi] <;> rfl))))
    all_goals first
      | (show _ = _; rw [← hp2]; simp [lastL, *]; done)
      | (show _ = _; rw [← hp2, lastL, if_neg (by omega)]; done)
      | (have ho := over_mem d.shut ((final d u).getD 0) (by assumption)
         have hb := hd.shut _ ho.1
         have hp2' : lastL d f ((over d.shut ((final d u).getD 0)).1.lo - 1) = last d t := by rw [← hp2]; simp [lastL, *]
         (refine ⟨f, ?_, f, _, i + 1, rfl, (by omega), (by omega), hp2', ?_, ?_, ?_, ?_, ?_⟩; (omega); all_goals first | (simp (disch := omega) only [push_cast, simprocAttr, hS, hZ, hi] <;> first | rfl | omega) | omega))
end Go.Proofs.Hz

namespace Go.Proofs.Hz
open Go Go.Pg Go.Proofs
structure IsNext (d : Door) (t n : Int) : Prop where
  ge : t ≤ n
  no : ∀ u, t ≤ u → u < n → u ≤ 1073741823 → openR d u ≠ true
  at' : n = 1073741824 ∨ (n ≤ 1073741823 ∧ openR d n = true)
theorem openR_iff {d : Door} {u : Int} (h0 : 0 ≤ u) : openR d u = true ↔ (∃ x ∈ d.hours, u / 86400 * 86400 + x.lo ≤ u ∧ u ≤ u / 86400 * 86400 + x.hi) ∧ ∀ x ∈ d.shut, ¬ (x.lo ≤ u ∧ u ≤ x.hi) := by
  unfold openR
  rw [Bool.and_eq_true, inS_iff, tmodN h0]
  have hb : (!inS d.shut u) = true ↔ ∀ x ∈ d.shut, ¬ (x.lo ≤ u ∧ u ≤ x.hi) := by
    have := inS_iff d.shut u
    cases hs : inS d.shut u with
    | false => rw [hs] at this; simp only [Bool.false_eq_true, false_iff, not_exists, not_and] at this; simp; intro x hx h1; have := this x hx h1; omega
    | true => rw [hs] at this; simp only [true_iff] at this; simp; obtain ⟨x, hx, h1⟩ := this; exact ⟨x, hx, h1.1, h1.2⟩
  rw [hb]
  constructor
  · rintro ⟨⟨x, hx, h1⟩, h2⟩; exact ⟨⟨x, hx, by omega⟩, h2⟩
  · rintro ⟨⟨x, hx, h1⟩, h2⟩; exact ⟨⟨x, hx, by omega⟩, h2⟩
theorem firstL_least (t day : Int) : ∀ (l : List Span), l.Pairwise (fun a b => a.hi + 2 ≤ b.lo) → (∀ x ∈ l, x.lo ≤ x.hi) → ∀ u, t ≤ u → u ≤ 1073741823 → (∀ n, firstL t day l = some n → u < n) → ∀ x ∈ l, ¬ (day + x.lo ≤ u ∧ u ≤ day + x.hi)
  | [], _, _, _, _, _, _ => by simp
  | y :: rest, hp, hv, u, h1, h2, hn => by
    obtain ⟨p1, p2⟩ := List.pairwise_cons.1 hp
    have hy := hv y (by simp)
    unfold firstL at hn
    split at hn
    · rename_i hc
      have := hn _ rfl
      intro x hx
      rcases List.mem_cons.1 hx with rfl | hx
      · omega
      · have := p1 x hx; omega
    · rename_i hc
      have ih := firstL_least t day rest p2 (fun z hz => hv z (by simp [hz])) u h1 h2 hn
      intro x hx
      rcases List.mem_cons.1 hx with rfl | hx
      · omega
      · exact ih x hx
theorem first_spec {d : Door} (hd : d.V) {t : Int} (h0 : 0 ≤ t) (h1 : t ≤ 1073741824) :
    (∀ n, first d t = some n → t ≤ n ∧ n ≤ 1073741823 ∧ ∃ x ∈ d.hours, n / 86400 * 86400 + x.lo ≤ n ∧ n ≤ n / 86400 * 86400 + x.hi) ∧
    (∀ u, t ≤ u → u ≤ 1073741823 → (∀ n, first d t = some n → u < n) → ¬ ∃ x ∈ d.hours, u / 86400 * 86400 + x.lo ≤ u ∧ u ≤ u / 86400 * 86400 + x.hi) := by
  have hv := hd.hours.2.1
  have hp := hd.hours.2.2
  have hlh : ∀ x ∈ d.hours, x.lo ≤ x.hi := fun x hx => (hv x hx).2.1
  have L0 := firstL_least t (t / 86400 * 86400) d.hours hp hlh
  have L1 := firstL_least t ((t / 86400 + 1) * 86400) d.hours hp hlh
  have S0 := firstL_spec t (t / 86400 * 86400) d.hours
  have S1 := firstL_spec t ((t / 86400 + 1) * 86400) d.hours
  have hf : first d t = match firstL t (t / 86400 * 86400) d.hours with | some n => some n | none => (match firstL t ((t / 86400 + 1) * 86400) d.hours with | some n => some n | none => none) := rfl
  rw [hf]
  cases e0 : firstL t (t / 86400 * 86400) d.hours with
  | some n =>
    obtain ⟨x, hx, a1, a2, a3⟩ := S0 n e0
    have hb := hv x hx
    simp only [Option.some.injEq]
    refine ⟨fun m hm => ?_, fun u u1 u2 hu => ?_⟩
    · subst hm
      refine ⟨by omega, a3, x, hx, ?_⟩
      have : n / 86400 = t / 86400 := by omega
      omega
    · have hun := hu n rfl
      have hd' : u / 86400 = t / 86400 := by omega
      rintro ⟨y, hy, hh⟩
      exact L0 u u1 u2 (fun m hm => by rw [e0] at hm; injection hm with hm; omega) y hy (by omega)
  | none =>
    simp only
    cases e1 : firstL t ((t / 86400 + 1) * 86400) d.hours with
    | some n =>
      obtain ⟨x, hx, a1, a2, a3⟩ := S1 n e1
      have hb := hv x hx
      simp only [Option.some.injEq]
      refine ⟨fun m hm => ?_, fun u u1 u2 hu => ?_⟩
      · subst hm
        refine ⟨by omega, a3, x, hx, ?_⟩
        have : n / 86400 = t / 86400 + 1 := by omega
        omega
      · have hun := hu n rfl
        rintro ⟨y, hy, hh⟩
        have hd' : u / 86400 = t / 86400 ∨ u / 86400 = t / 86400 + 1 := by omega
        rcases hd' with hd' | hd'
        · exact L0 u u1 u2 (fun m hm => by rw [e0] at hm; cases hm) y hy (by omega)
        · exact L1 u u1 u2 (fun m hm => by rw [e1] at hm; injection hm with hm; omega) y hy (by omega)
    | none =>
      refine ⟨fun m hm => (by cases hm), fun u u1 u2 _ => ?_⟩
      rintro ⟨y, hy, hh⟩
      have hb := hv y hy
      have hd' : u / 86400 = t / 86400 ∨ u / 86400 = t / 86400 + 1 ∨ t / 86400 + 2 ≤ u / 86400 := by omega
      rcases hd' with hd' | hd' | hd'
      · exact L0 u u1 u2 (fun m hm => by rw [e0] at hm; cases hm) y hy (by omega)
      · exact L1 u u1 u2 (fun m hm => by rw [e1] at hm; cases hm) y hy (by omega)
      · exact L1 ((t / 86400 + 1) * 86400 + y.lo) (by omega) (by omega) (fun m hm => by rw [e1] at hm; cases hm) y hy (by omega)
theorem over_in {l : List Span} {n : Int} (h : (over l n).2 = false) : ∀ x ∈ l, ¬ (x.lo ≤ n ∧ n ≤ x.hi) := by
  rw [over_iff] at h
  have := inS_iff l n
  rw [h] at this
  simp only [Bool.false_eq_true, false_iff, not_exists, not_and] at this
  intro x hx h1
  exact this x hx h1.1 h1.2
theorem filter_drop {α : Type} {p q : α → Bool} : ∀ (l : List α) (x : α), x ∈ l → p x = true → q x = false → (∀ y, q y = true → p y = true) → (l.filter q).length < (l.filter p).length := filter_len_lt
theorem nextL_is {d : Door} (hd : d.V) : ∀ (f : Nat) (t : Int), 0 ≤ t → t ≤ 1073741824 → (d.shut.filter (fun s => decide (t ≤ s.hi))).length < f → IsNext d t (nextL d f t)
  | 0, _, _, _, h => absurd h (Nat.not_lt_zero _)
  | f + 1, t, h0, h1, hf => by
    obtain ⟨S, L⟩ := first_spec hd h0 h1
    have hvs := hd.shut.2.1
    unfold nextL
    cases hn : first d t with
    | none =>
      simp only [Option.isSome_none, Bool.false_eq_true, if_false]
      refine ⟨h1, fun u u1 u2 u3 ho => ?_, .inl rfl⟩
      rw [openR_iff (by omega)] at ho
      exact L u u1 u3 (fun n h => by rw [hn] at h; cases h) ho.1
    | some n =>
      obtain ⟨s1, s2, s3⟩ := S n hn
      simp only [Option.isSome_some, if_true, Option.getD_some]
      have hno : ∀ u, t ≤ u → u < n → openR d u ≠ true := fun u u1 u2 ho => by
        rw [openR_iff (by omega)] at ho
        exact L u u1 (by omega) (fun m h => by rw [hn] at h; injection h with h; omega) ho.1
      split
      · rename_i ho
        obtain ⟨m1, m2, m3⟩ := over_mem d.shut n ho
        have hb := hvs _ m1
        have ih := nextL_is hd f ((over d.shut n).1.hi + 1) (by omega) (by omega) (by
          have := filter_drop (p := fun s => decide (t ≤ s.hi)) (q := fun s => decide ((over d.shut n).1.hi + 1 ≤ s.hi)) d.shut (over d.shut n).1 m1 (by simp; omega) (by simp; omega) (fun y hy => by simp at hy ⊢; omega)
          omega)
        refine ⟨by have := ih.ge; omega, fun u u1 u2 u3 hop => ?_, ih.at'⟩
        rcases Int.lt_or_le u n with hu | hu
        · exact hno u u1 hu hop
        · rcases Int.lt_or_le (over d.shut n).1.hi u with hu2 | hu2
          · exact ih.no u (by omega) u2 u3 hop
          · rw [openR_iff (by omega)] at hop
            exact hop.2 _ m1 (by omega)
      · rename_i ho
        refine ⟨s1, fun u u1 u2 _ => hno u u1 u2, .inr ⟨s2, ?_⟩⟩
        rw [openR_iff (by omega)]
        exact ⟨s3, over_in (by simpa using ho)⟩
theorem next_is {d : Door} (hd : d.V) {t : Int} (h0 : 0 ≤ t) (h1 : t ≤ 1073741824) : IsNext d t (next d t) :=
  nextL_is hd 17 t h0 h1 (by have := List.length_filter_le (fun s : Span => decide (t ≤ s.hi)) d.shut; have := hd.shut.1; omega)
structure IsLast (d : Door) (t n : Int) : Prop where
  le : n ≤ t
  no : ∀ u, u ≤ t → n < u → 0 ≤ u → openR d u ≠ true
  at' : n = -1 ∨ (0 ≤ n ∧ openR d n = true)
theorem finalL_spec (t day : Int) : ∀ (l : List Span) (n : Int), finalL t day l = some n → 0 ≤ day ∧ ∃ x ∈ l, n = min t (day + x.hi) ∧ day + x.lo ≤ n
  | [], n, h => by cases h
  | x :: rest, n, h => by
    unfold finalL at h
    split at h
    · rename_i h0
      split at h
      · rename_i hc; injection h with h; exact ⟨h0, x, by simp, h.symm, by omega⟩
      · obtain ⟨h1, y, hy, h2⟩ := finalL_spec t day rest n h; exact ⟨h1, y, by simp [hy], h2⟩
    · cases h
theorem finalL_most (t day : Int) (hd : 0 ≤ day) : ∀ (l : List Span), l.Pairwise (fun a b => b.hi + 2 ≤ a.lo) → (∀ x ∈ l, x.lo ≤ x.hi) → ∀ u, u ≤ t → (∀ n, finalL t day l = some n → n < u) → ∀ x ∈ l, ¬ (day + x.lo ≤ u ∧ u ≤ day + x.hi)
  | [], _, _, _, _, _ => by simp
  | y :: rest, hp, hv, u, h1, hn => by
    obtain ⟨p1, p2⟩ := List.pairwise_cons.1 hp
    have hy := hv y (by simp)
    unfold finalL at hn
    rw [if_pos hd] at hn
    split at hn
    · rename_i hc
      have := hn _ rfl
      intro x hx
      rcases List.mem_cons.1 hx with rfl | hx
      · omega
      · have := p1 x hx; omega
    · rename_i hc
      have ih := finalL_most t day hd rest p2 (fun z hz => hv z (by simp [hz])) u h1 hn
      intro x hx
      rcases List.mem_cons.1 hx with rfl | hx
      · omega
      · exact ih x hx
theorem final_spec {d : Door} (hd : d.V) {t : Int} (h0 : 0 ≤ t) :
    (∀ n, final d t = some n → 0 ≤ n ∧ n ≤ t ∧ ∃ x ∈ d.hours, n / 86400 * 86400 + x.lo ≤ n ∧ n ≤ n / 86400 * 86400 + x.hi) ∧
    (∀ u, 0 ≤ u → u ≤ t → (∀ n, final d t = some n → n < u) → ¬ ∃ x ∈ d.hours, u / 86400 * 86400 + x.lo ≤ u ∧ u ≤ u / 86400 * 86400 + x.hi) := by
  have hv := hd.hours.2.1
  have hp : d.hours.reverse.Pairwise (fun a b => b.hi + 2 ≤ a.lo) := List.pairwise_reverse.2 hd.hours.2.2
  have hlh : ∀ x ∈ d.hours.reverse, x.lo ≤ x.hi := fun x hx => (hv x (by simpa using hx)).2.1
  have L0 := finalL_most t (t / 86400 * 86400) (by omega) d.hours.reverse hp hlh
  have S0 := finalL_spec t (t / 86400 * 86400) d.hours.reverse
  have S1 := finalL_spec t ((t / 86400 - 1) * 86400) d.hours.reverse
  have hf : final d t = match finalL t (t / 86400 * 86400) d.hours.reverse with | some n => some n | none => (match finalL t ((t / 86400 - 1) * 86400) d.hours.reverse with | some n => some n | none => none) := rfl
  rw [hf]
  cases e0 : finalL t (t / 86400 * 86400) d.hours.reverse with
  | some n =>
    obtain ⟨hd0, x, hx, a1, a2⟩ := S0 n e0
    have hx' : x ∈ d.hours := by simpa using hx
    have hb := hv x hx'
    simp only [Option.some.injEq]
    refine ⟨fun m hm => ?_, fun u u0 u1 hu => ?_⟩
    · subst hm
      refine ⟨by omega, by omega, x, hx', ?_⟩
      have : n / 86400 = t / 86400 := by omega
      omega
    · have hun := hu n rfl
      have hd' : u / 86400 = t / 86400 := by omega
      rintro ⟨y, hy, hh⟩
      exact L0 u u1 (fun m hm => by rw [e0] at hm; injection hm with hm; omega) y (by simpa using hy) (by omega)
  | none =>
    simp only
    cases e1 : finalL t ((t / 86400 - 1) * 86400) d.hours.reverse with
    | some n =>
      obtain ⟨hd1, x, hx, a1, a2⟩ := S1 n e1
      have hx' : x ∈ d.hours := by simpa using hx
      have hb := hv x hx'
      have L1 := finalL_most t ((t / 86400 - 1) * 86400) hd1 d.hours.reverse hp hlh
      simp only [Option.some.injEq]
      refine ⟨fun m hm => ?_, fun u u0 u1 hu => ?_⟩
      · subst hm
        refine ⟨by omega, by omega, x, hx', ?_⟩
        have : n / 86400 = t / 86400 - 1 := by omega
        omega
      · have hun := hu n rfl
        rintro ⟨y, hy, hh⟩
        have hd' : u / 86400 = t / 86400 ∨ u / 86400 = t / 86400 - 1 := by omega
        rcases hd' with hd' | hd'
        · exact L0 u u1 (fun m hm => by rw [e0] at hm; cases hm) y (by simpa using hy) (by omega)
        · exact L1 u u1 (fun m hm => by rw [e1] at hm; injection hm with hm; omega) y (by simpa using hy) (by omega)
    | none =>
      refine ⟨fun m hm => (by cases hm), fun u u0 u1 _ => ?_⟩
      rintro ⟨y, hy, hh⟩
      have hb := hv y hy
      have hd' : u / 86400 = t / 86400 ∨ u / 86400 ≤ t / 86400 - 1 := by omega
      rcases hd' with hd' | hd'
      · exact L0 u u1 (fun m hm => by rw [e0] at hm; cases hm) y (by simpa using hy) (by omega)
      · have hd1 : 0 ≤ (t / 86400 - 1) * 86400 := by omega
        have L1 := finalL_most t ((t / 86400 - 1) * 86400) hd1 d.hours.reverse hp hlh
        exact L1 ((t / 86400 - 1) * 86400 + y.lo) (by omega) (fun m hm => by rw [e1] at hm; cases hm) y (by simpa using hy) (by omega)
theorem lastL_is {d : Door} (hd : d.V) : ∀ (f : Nat) (t : Int), -1 ≤ t → (d.shut.filter (fun s => decide (s.lo ≤ t))).length < f → IsLast d t (lastL d f t)
  | 0, _, _, h => absurd h (Nat.not_lt_zero _)
  | f + 1, t, h1, hf => by
    have hvs := hd.shut.2.1
    unfold lastL
    rcases Int.lt_or_le t 0 with ht | h0
    · rw [if_neg (by omega)]
      exact ⟨h1, fun u u1 u2 u3 => by omega, .inl rfl⟩
    rw [if_pos h0]
    obtain ⟨S, L⟩ := final_spec hd h0
    cases hn : final d t with
    | none =>
      simp only [Option.isSome_none, Bool.false_eq_true, if_false]
      refine ⟨h1, fun u u1 u2 u3 ho => ?_, .inl rfl⟩
      rw [openR_iff (by omega)] at ho
      exact L u u3 u1 (fun n h => by rw [hn] at h; cases h) ho.1
    | some n =>
      obtain ⟨s1, s2, s3⟩ := S n hn
      simp only [Option.isSome_some, if_true, Option.getD_some]
      have hno : ∀ u, u ≤ t → n < u → openR d u ≠ true := fun u u1 u2 ho => by
        rw [openR_iff (by omega)] at ho
        exact L u (by omega) u1 (fun m h => by rw [hn] at h; injection h with h; omega) ho.1
      split
      · rename_i ho
        obtain ⟨m1, m2, m3⟩ := over_mem d.shut n ho
        have hb := hvs _ m1
        have ih := lastL_is hd f ((over d.shut n).1.lo - 1) (by omega) (by
          have := filter_drop (p := fun s => decide (s.lo ≤ t)) (q := fun s => decide (s.lo ≤ (over d.shut n).1.lo - 1)) d.shut (over d.shut n).1 m1 (by simp; omega) (by simp; omega) (fun y hy => by simp at hy ⊢; omega)
          omega)
        refine ⟨by have := ih.le; omega, fun u u1 u2 u3 hop => ?_, ih.at'⟩
        rcases Int.lt_or_le n u with hu | hu
        · exact hno u u1 hu hop
        · rcases Int.lt_or_le u (over d.shut n).1.lo with hu2 | hu2
          · exact ih.no u (by omega) u2 u3 hop
          · rw [openR_iff (by omega)] at hop
            exact hop.2 _ m1 (by omega)
      · rename_i ho
        refine ⟨s2, fun u u1 u2 _ => hno u u1 u2, .inr ⟨s1, ?_⟩⟩
        rw [openR_iff s1]
        exact ⟨s3, over_in (by simpa using ho)⟩
theorem last_is {d : Door} (hd : d.V) {t : Int} (h1 : -1 ≤ t) : IsLast d t (last d t) :=
  lastL_is hd 17 t h1 (by have := List.length_filter_le (fun s : Span => decide (s.lo ≤ t)) d.shut; have := hd.shut.1; omega)
theorem last_mono {d : Door} (hd : d.V) {t u : Int} (h0 : -1 ≤ t) (h : t ≤ u) : last d t ≤ last d u := by
  have a := last_is hd h0
  have b := last_is hd (t := u) (by omega)
  rcases Int.lt_or_le (last d u) (last d t) with hl | hl
  · have := a.le
    rcases a.at' with e | ⟨e1, e2⟩
    · have := b.at'; omega
    · exact absurd e2 (b.no _ (by omega) hl e1)
  · exact hl
end Go.Proofs.Hz

namespace Go.Proofs.Lab
structure Net (γ : Type) where
  μ : Int → Int
  inf : Int
  src : γ → Nat
  dst : γ → Nat
  f : γ → Int → Int
  gs : List γ
  In : Int → Prop
variable {γ : Type}
structure Net.OK (N : Net γ) (n : Nat) : Prop where
  inj : ∀ x y, N.In x → N.In y → N.μ x = N.μ y → x = y
  inIn : N.In N.inf
  le : ∀ x, N.In x → N.μ x ≤ N.μ N.inf
  src : ∀ g ∈ N.gs, N.src g < n
  dst : ∀ g ∈ N.gs, N.dst g < n
  In : ∀ g ∈ N.gs, ∀ x, N.In x → N.μ x < N.μ N.inf → N.In (N.f g x)
  mono : ∀ g ∈ N.gs, ∀ x y, N.In x → N.In y → N.μ x ≤ N.μ y → N.μ y < N.μ N.inf → N.μ (N.f g x) ≤ N.μ (N.f g y)
  worse : ∀ g ∈ N.gs, ∀ x, N.In x → N.μ x < N.μ N.inf → N.μ x < N.μ (N.f g x)
def Net.lab (N : Net γ) (row : List Int) (r : Nat) : Int := row.getD r N.inf
structure Closed (N : Net γ) (M : Nat → Int) : Prop where
  In : ∀ r, N.In (M r)
  rel : ∀ g ∈ N.gs, N.μ (M (N.src g)) < N.μ N.inf → N.μ (M (N.dst g)) ≤ N.μ (N.f g (M (N.src g)))
def Low (N : Net γ) (a : Nat) (t : Int) (r : Nat) (s : Int) : Prop := ∀ M, Closed N M → N.μ (M a) ≤ N.μ t → N.μ (M r) ≤ N.μ s
structure IsArr (N : Net γ) (a : Nat) (t : Int) (R : Nat → Int) : Prop where
  closed : Closed N R
  start : N.μ (R a) ≤ N.μ t
  low : ∀ r, N.μ (R r) < N.μ N.inf → Low N a t r (R r)
section
variable {N : Net γ} {n : Nat} {a : Nat} {t : Int}
theorem IsArr.most (hN : N.OK n) {R M : Nat → Int} (h : IsArr N a t R) (hM : Closed N M) (hs : N.μ (M a) ≤ N.μ t) (r : Nat) : N.μ (M r) ≤ N.μ (R r) := by
  have h1 := hN.le _ (h.closed.In r)
  have h2 := hN.le _ (hM.In r)
  by_cases hr : N.μ (R r) < N.μ N.inf
  · exact h.low r hr M hM hs
  · omega
theorem low_self : Low N a t a t := fun _ _ hs => hs
theorem low_step (hN : N.OK n) {g : γ} (hg : g ∈ N.gs) {s : Int} (hs : N.In s) (hi : N.μ s < N.μ N.inf) (h : Low N a t (N.src g) s) : Low N a t (N.dst g) (N.f g s) := by
  intro M hM hst
  have h1 := h M hM hst
  have h2 := hM.rel g hg (by omega)
  have h3 := hN.mono g hg _ _ (hM.In _) hs h1 hi
  omega
theorem lab_set (row : List Int) (i : Nat) (x : Int) (r : Nat) : N.lab (row.set i x) r = if i = r ∧ r < row.length then x else N.lab row r := by
  unfold Net.lab
  rw [List.getD_eq_getElem?_getD, List.getD_eq_getElem?_getD, List.getElem?_set]
  by_cases h : i = r
  · subst h
    by_cases h2 : i < row.length
    · simp [h2]
    · simp [h2, List.getElem?_eq_none (Nat.le_of_not_lt h2)]
  · simp [h]
theorem lab_in {row : List Int} (hN : N.OK n) (h : ∀ x ∈ row, N.In x) (r : Nat) : N.In (N.lab row r) := by
  unfold Net.lab
  rw [List.getD_eq_getElem?_getD]
  cases hr : row[r]? with
  | none => exact hN.inIn
  | some x => exact h x (List.mem_of_getElem? hr)
def dn (done : List Bool) (r : Nat) : Bool := done.getD r false
structure SelOK (N : Net γ) (out : List Int) (done : List Bool) (k : Nat) (c : Int) : Prop where
  none : c < 0 → ∀ i, i < k → dn done i = false → ¬ N.μ (N.lab out i) < N.μ N.inf
  some : 0 ≤ c → c < k ∧ dn done c.toNat = false ∧ N.μ (N.lab out c.toNat) < N.μ N.inf ∧ ∀ i, i < k → dn done i = false → N.μ (N.lab out c.toNat) ≤ N.μ (N.lab out i)
structure RowOK (N : Net γ) (n : Nat) (a : Nat) (t : Int) (out : List Int) : Prop where
  len : out.length = n
  In : ∀ x ∈ out, N.In x
  start : N.μ (N.lab out a) ≤ N.μ t
  low : ∀ r, N.μ (N.lab out r) < N.μ N.inf → Low N a t r (N.lab out r)
theorem RowOK.put (hN : N.OK n) {out : List Int} (h : RowOK N n a t out) {g : γ} (hg : g ∈ N.gs) (hs : N.μ (N.lab out (N.src g)) < N.μ N.inf) (hb : N.μ (N.f g (N.lab out (N.src g))) ≤ N.μ (N.lab out (N.dst g))) :
    RowOK N n a t (out.set (N.dst g) (N.f g (N.lab out (N.src g)))) := by
  refine ⟨by simp [h.len], fun x hx => ?_, ?_, fun r => ?_⟩
  · rcases List.mem_or_eq_of_mem_set hx with hx | rfl
    · exact h.In x hx
    · exact hN.In g hg _ (lab_in hN h.In _) hs
  · rw [lab_set]
    have := h.start
    split
    · rename_i he; obtain ⟨rfl, _⟩ := he; omega
    · exact this
  · rw [lab_set]
    split
    · rename_i he; obtain ⟨rfl, _⟩ := he
      intro _
      exact low_step hN hg (lab_in hN h.In _) hs (h.low _ hs)
    · exact h.low r
structure DijOK (N : Net γ) (n : Nat) (a : Nat) (t : Int) (out : List Int) (done : List Bool) : Prop where
  row : RowOK N n a t out
  len : done.length = n
  fin : ∀ g ∈ N.gs, dn done (N.src g) = true → N.μ (N.lab out (N.src g)) < N.μ N.inf → N.μ (N.lab out (N.dst g)) ≤ N.μ (N.f g (N.lab out (N.src g)))
  ord : ∀ r s, dn done r = true → s < n → dn done s = false → N.μ (N.lab out r) ≤ N.μ (N.lab out s)
theorem rowOK_init (hN : N.OK n) (ha : a < n) (ht : N.In t) : RowOK N n a t ((List.replicate n N.inf).set a t) := by
  have hlab : ∀ r, N.lab ((List.replicate n N.inf).set a t) r = if a = r ∧ r < n then t else N.inf := fun r => by
    rw [lab_set]
    simp only [List.length_replicate]
    split
    · rfl
    · unfold Net.lab
      rw [List.getD_eq_getElem?_getD, List.getElem?_replicate]
      split <;> rfl
  refine ⟨by simp, fun x hx => ?_, ?_, fun r hr => ?_⟩
  · rcases List.mem_or_eq_of_mem_set hx with hx | rfl
    · rw [List.mem_replicate] at hx; rw [hx.2]; exact hN.inIn
    · exact ht
  · rw [hlab, if_pos ⟨rfl, ha⟩]; exact Int.le_refl _
  · rw [hlab] at hr ⊢
    split
    · rename_i e; obtain ⟨rfl, _⟩ := e; exact low_self
    · rename_i e; rw [if_neg e] at hr; exact absurd hr (Int.lt_irrefl _)
theorem RowOK.is (hN : N.OK n) {row : List Int} (h : RowOK N n a t row) (hno : ∀ g ∈ N.gs, N.μ (N.lab row (N.src g)) < N.μ N.inf → ¬ N.μ (N.f g (N.lab row (N.src g))) < N.μ (N.lab row (N.dst g))) : IsArr N a t (N.lab row) :=
  ⟨⟨lab_in hN h.In, fun g hg hl => by have := hno g hg hl; omega⟩, h.start, h.low⟩
end
def sumN : List Int → Nat
  | [] => 0
  | x :: l => x.toNat + sumN l
theorem sumN_set : ∀ (l : List Int) (i : Nat) (x y : Int), l[i]? = some y → 0 ≤ x → x < y → sumN (l.set i x) < sumN l
  | a :: l, 0, x, y, h, h0, hl => by
    simp only [List.getElem?_cons_zero, Option.some.injEq] at h
    subst h
    simp only [List.set_cons_zero, sumN]; omega
  | a :: l, i + 1, x, y, h, h0, hl => by
    have := sumN_set l i x y (by simpa using h) h0 hl
    simp only [List.set_cons_succ, sumN]; omega
end Go.Proofs.Lab

namespace Go.Proofs.Hz
open Go Go.Pg Go.Proofs Go.Proofs.Lab
def House.nextAt (h : House) (g : Gate) (t : Int) : Int := if 0 ≤ g.door then next (h.door g.door) t else t
def House.lastAt (h : House) (g : Gate) (t : Int) : Int := if 0 ≤ g.door then last (h.door g.door) t else t
def enter (h : House) (g : Gate) (t : Int) : Int := if 1073741823 < h.nextAt g t + g.secs then 1073741824 else h.nextAt g t + g.secs
def depart (h : House) (g : Gate) (t : Int) : Int := if t - g.secs < 0 then -1 else h.lastAt g (t - g.secs)
theorem gatesL_ok : ∀ (l : List Way) (i : Nat) (nr nd : Nat), (∀ w ∈ l, w.OK nr nd) → ∀ g ∈ gatesL i l, (0 ≤ g.from' ∧ g.from' < (nr : Int)) ∧ (0 ≤ g.to ∧ g.to < (nr : Int)) ∧ (1 ≤ g.secs ∧ g.secs ≤ 3600) ∧ (-1 ≤ g.door ∧ g.door < (nd : Int)) ∧ g.from' ≠ g.to
  | [], _, _, _, _, g, hg => by simp [gatesL] at hg
  | w :: rest, i, nr, nd, hw, g, hg => by
    have h0 := hw w (by simp)
    unfold Way.OK at h0
    unfold gatesL at hg
    rcases List.mem_cons.1 hg with rfl | hg
    · dsimp only; omega
    · rcases List.mem_append.1 hg with hg | hg
      · split at hg
        · simp only [List.mem_singleton] at hg; subst hg; dsimp only; omega
        · simp at hg
      · exact gatesL_ok rest (i + 1) nr nd (fun x hx => hw x (by simp [hx])) g hg
theorem gate_ok {h : House} (hv : h.V) {g : Gate} (hg : g ∈ gates h) : g.OK h := by
  obtain ⟨h1, h2, h3, h4, _⟩ := gatesL_ok h.ways 0 _ _ hv.ways g hg
  exact ⟨h1, h2, h3, h4⟩
section
variable {h : House} {g : Gate}
theorem nextAt_ge (hv : h.V) (hg : g.OK h) {t : Int} (h0 : 0 ≤ t) (h1 : t ≤ 1073741824) : t ≤ h.nextAt g t ∧ h.nextAt g t ≤ 1073741824 := by
  unfold House.nextAt
  split
  · rename_i hd
    have hn := next_is (hv.door hd hg.door.2) h0 h1
    have := hn.ge
    rcases hn.at' with e | ⟨e, _⟩ <;> omega
  · omega
theorem lastAt_le (hv : h.V) (hg : g.OK h) {t : Int} (h0 : -1 ≤ t) : -1 ≤ h.lastAt g t ∧ h.lastAt g t ≤ t := by
  unfold House.lastAt
  split
  · rename_i hd
    have hn := last_is (hv.door hd hg.door.2) h0
    have := hn.le
    rcases hn.at' with e | ⟨e, _⟩ <;> omega
  · omega
theorem lastAt_mono (hv : h.V) (hg : g.OK h) {t u : Int} (h0 : -1 ≤ t) (hu : t ≤ u) : h.lastAt g t ≤ h.lastAt g u := by
  unfold House.lastAt
  split
  · rename_i hd; exact last_mono (hv.door hd hg.door.2) h0 hu
  · exact hu
theorem depart_spec (hv : h.V) (hg : g.OK h) {t : Int} (h0 : 0 ≤ t) : -1 ≤ depart h g t ∧ depart h g t < t := by
  have := hg.secs
  unfold depart
  split
  · omega
  · have := lastAt_le hv hg (t := t - g.secs) (by omega); omega
theorem depart_mono (hv : h.V) (hg : g.OK h) {t u : Int} (h0 : -1 ≤ t) (hu : t ≤ u) : depart h g t ≤ depart h g u := by
  have := hg.secs
  unfold depart
  split
  · split
    · omega
    · have := lastAt_le hv hg (t := u - g.secs) (by omega); omega
  · rw [if_neg (by omega)]; exact lastAt_mono hv hg (by omega) (by omega)
end
def depN (h : House) : Net Gate := { μ := Neg.neg, inf := -1, src := fun g => g.to.toNat, dst := fun g => g.from'.toNat, f := depart h, gs := gates h, In := fun x => -1 ≤ x ∧ x ≤ 1073741823 }
theorem depN_ok {h : House} (hv : h.V) : (depN h).OK h.rooms.length := by
  refine ⟨fun x y _ _ h => ?_, (show (-1 : Int) ≤ -1 ∧ (-1 : Int) ≤ 1073741823 by decide), fun x hx => ?_, fun g hg => ?_, fun g hg => ?_, fun g hg x hx hl => ?_, fun g hg x y hx hy hxy hyl => ?_, fun g hg x hx hl => ?_⟩
  · have h' : -x = -y := h
    omega
  · have hx' : -1 ≤ x ∧ x ≤ 1073741823 := hx
    show -x ≤ -(-1)
    omega
  · have := (gate_ok hv hg).to; show g.to.toNat < _; omega
  · have := (gate_ok hv hg).from'; show g.from'.toNat < _; omega
  · have hx' : -1 ≤ x ∧ x ≤ 1073741823 := hx
    have hl' : -x < -(-1) := hl
    have := depart_spec hv (gate_ok hv hg) (t := x) (by omega)
    show -1 ≤ depart h g x ∧ depart h g x ≤ 1073741823
    omega
  · have hx' : -1 ≤ x ∧ x ≤ 1073741823 := hx
    have hy' : -1 ≤ y ∧ y ≤ 1073741823 := hy
    have hxy' : -x ≤ -y := hxy
    have hyl' : -y < -(-1) := hyl
    have := depart_mono hv (gate_ok hv hg) (t := y) (u := x) (by omega) (by omega)
    show -(depart h g x) ≤ -(depart h g y)
    omega
  · have hx' : -1 ≤ x ∧ x ≤ 1073741823 := hx
    have hl' : -x < -(-1) := hl
    have := depart_spec hv (gate_ok hv hg) (t := x) (by omega)
    show -x < -(depart h g x)
    omega
def impr (f : Gate → Int → Int) (row : List Int) (g : Gate) : Bool :=
  decide (0 ≤ row.getD g.from'.toNat 0) && (decide (0 ≤ f g (row.getD g.from'.toNat 0)) && (decide (row.getD g.to.toNat 0 < 0) || decide (f g (row.getD g.from'.toNat 0) < row.getD g.to.toNat 0)))
def spreadF (f : Gate → Int → Int) (gs : List Gate) : Nat → List Int → List Gate → List Int × List Gate
  | 0, row, by' => (row, by')
  | k + 1, row, by' => match gs.find? (impr f row) with
    | none => (row, by')
    | some g => spreadF f gs k (row.set g.to.toNat (f g (row.getD g.from'.toNat 0))) (by'.set g.to.toNat g)
def room1 (x : Int) : Int := if x < 0 then 1073741824 else x
def spreadM (row : List Int) : Nat := sumN (row.map room1)
def spread (f : Gate → Int → Int) (gs : List Gate) (row : List Int) : List Int × List Gate := spreadF f gs (spreadM row + 1) row (List.replicate row.length .zero)
theorem getD_set' (row : List Int) (i : Nat) (x : Int) (h : i < row.length) : row[i]? = some (row.getD i 0) := by
  rw [List.getD_eq_getElem?_getD, List.getElem?_eq_getElem h]; rfl
theorem spreadM_lt {row : List Int} {i : Nat} {x : Int} (hi : i < row.length) (h0 : 0 ≤ x) (hx : x < 1073741824) (hb : row.getD i 0 < 0 ∨ x < row.getD i 0) : spreadM (row.set i x) < spreadM row := by
  unfold spreadM
  rw [List.map_set]
  refine sumN_set _ i _ (room1 (row.getD i 0)) ?_ ?_ ?_
  · rw [List.getElem?_map, getD_set' row i 0 hi]; rfl
  · unfold room1; split <;> omega
  · unfold room1
    rw [if_neg (by omega)]
    split <;> omega
theorem impr_iff {f : Gate → Int → Int} {row : List Int} {g : Gate} : impr f row g = true ↔ 0 ≤ row.getD g.from'.toNat 0 ∧ 0 ≤ f g (row.getD g.from'.toNat 0) ∧ (row.getD g.to.toNat 0 < 0 ∨ f g (row.getD g.from'.toNat 0) < row.getD g.to.toNat 0) := by
  unfold impr
  simp only [Bool.and_eq_true, decide_eq_true_eq, Bool.or_eq_true]
def nextH (h : House) (g : Gate) (t : Int) : Int := if enter h g t ≠ 1073741824 then enter h g t else -1
structure RowV (row : List Int) : Prop where
  bound : ∀ x ∈ row, -1 ≤ x ∧ x ≤ 1073741823
def lateStep (f : Gate → Int → Int) (p : List Int × Bool) (g : Gate) : List Int × Bool :=
  if p.1.getD g.to.toNat 0 < 0 then p else if p.1.getD g.from'.toNat 0 < f g (p.1.getD g.to.toNat 0) then (p.1.set g.from'.toNat (f g (p.1.getD g.to.toNat 0)), true) else p
def lateF (f : Gate → Int → Int) (gs : List Gate) : Nat → List Int → List Int
  | 0, row => row
  | k + 1, row => if (gs.foldl (lateStep f) (row, false)).2 = true then lateF f gs k (gs.foldl (lateStep f) (row, false)).1 else (gs.foldl (lateStep f) (row, false)).1
def lateM (row : List Int) : Nat := sumN (row.map fun x => 1073741823 - x)
def late (h : House) (to : Nat) (t : Int) : List Int := lateF (depart h) (gates h) (lateM ((List.replicate h.rooms.length (-1)).set to t) + 1) ((List.replicate h.rooms.length (-1)).set to t)
theorem lateM_lt {row : List Int} {i : Nat} {x : Int} (hi : i < row.length) (hx : x ≤ 1073741823) (hb : row.getD i 0 < x) : lateM (row.set i x) < lateM row := by
  unfold lateM
  rw [List.map_set]
  exact sumN_set _ i _ (1073741823 - row.getD i 0) (by rw [List.getElem?_map, getD_set' row i 0 hi]; rfl) (by omega) (by omega)
theorem late_pass {h : House} (hv : h.V) {a : Nat} {t : Int} : ∀ (l : List Gate) (row : List Int) (ch : Bool), (∀ g ∈ l, g ∈ gates h) → RowOK (depN h) h.rooms.length a t row →
    RowOK (depN h) h.rooms.length a t (l.foldl (lateStep (depart h)) (row, ch)).1 ∧ lateM (l.foldl (lateStep (depart h)) (row, ch)).1 ≤ lateM row ∧
    (ch = true → (l.foldl (lateStep (depart h)) (row, ch)).2 = true) ∧
    (ch = false → (l.foldl (lateStep (depart h)) (row, ch)).2 = true → lateM (l.foldl (lateStep (depart h)) (row, ch)).1 < lateM row) ∧
    ((l.foldl (lateStep (depart h)) (row, ch)).2 = false → (l.foldl (lateStep (depart h)) (row, ch)).1 = row ∧ ∀ g ∈ l, 0 ≤ row.getD g.to.toNat 0 → ¬ row.getD g.from'.toNat 0 < depart h g (row.getD g.to.toNat 0))
  | [], row, ch, _, hp => ⟨hp, Nat.le_refl _, (fun h => h), (fun h h' => by rw [h] at h'; cases h'), (fun _ => ⟨rfl, fun g hg => by cases hg⟩)⟩
  | g :: l, row, ch, hl, hp => by
    have hN := depN_ok hv
    have hg := hl g (by simp)
    have hrl : row.length = h.rooms.length := hp.len
    have hs : g.to.toNat < row.length := by rw [hrl]; exact hN.src g hg
    have hd : g.from'.toNat < row.length := by rw [hrl]; exact hN.dst g hg
    simp only [List.foldl_cons]
    have hsl : (depN h).lab row ((depN h).src g) = row.getD g.to.toNat 0 := by
      show row.getD g.to.toNat (-1) = _
      rw [List.getD_eq_getElem?_getD, List.getD_eq_getElem?_getD, List.getElem?_eq_getElem hs]; rfl
    have hdl : (depN h).lab row ((depN h).dst g) = row.getD g.from'.toNat 0 := by
      show row.getD g.from'.toNat (-1) = _
      rw [List.getD_eq_getElem?_getD, List.getD_eq_getElem?_getD, List.getElem?_eq_getElem hd]; rfl
    by_cases h1 : row.getD g.to.toNat 0 < 0
    · have e : lateStep (depart h) (row, ch) g = (row, ch) := by unfold lateStep; rw [if_pos h1]
      rw [e]
      obtain ⟨i1, i2, i3, i4, i5⟩ := late_pass hv l row ch (fun x hx => hl x (by simp [hx])) hp
      refine ⟨i1, i2, i3, i4, fun hc => ⟨(i5 hc).1, fun x hx h0 => ?_⟩⟩
      rcases List.mem_cons.1 hx with rfl | hx
      · omega
      · exact (i5 hc).2 x hx h0
    · by_cases h2 : row.getD g.from'.toNat 0 < depart h g (row.getD g.to.toNat 0)
      · have e : lateStep (depart h) (row, ch) g = (row.set g.from'.toNat (depart h g (row.getD g.to.toNat 0)), true) := by unfold lateStep; rw [if_neg h1, if_pos h2]
        rw [e]
        have hx0 : row.getD g.to.toNat 0 ≤ 1073741823 := (hp.In _ (List.mem_of_getElem? (getD_set' row _ 0 hs))).2
        have hsp := depart_spec hv (gate_ok hv hg) (t := row.getD g.to.toNat 0) (by omega)
        have hput := hp.put hN hg (by rw [hsl]; show -(row.getD g.to.toNat 0) < -(-1); omega) (by
          rw [hsl, hdl]
          show -(depart h g (row.getD g.to.toNat 0)) ≤ -(row.getD g.from'.toNat 0)
          omega)
        rw [hsl] at hput
        have hm := lateM_lt (row := row) (i := g.from'.toNat) (x := depart h g (row.getD g.to.toNat 0)) hd (by omega) h2
        obtain ⟨i1, i2, i3, i4, i5⟩ := late_pass hv l (row.set g.from'.toNat (depart h g (row.getD g.to.toNat 0))) true (fun x hx => hl x (by simp [hx])) hput
        refine ⟨i1, by omega, fun _ => i3 rfl, fun _ _ => by omega, fun hc => ?_⟩
        rw [i3 rfl] at hc; cases hc
      · have e : lateStep (depart h) (row, ch) g = (row, ch) := by unfold lateStep; rw [if_neg h1, if_neg h2]
        rw [e]
        obtain ⟨i1, i2, i3, i4, i5⟩ := late_pass hv l row ch (fun x hx => hl x (by simp [hx])) hp
        refine ⟨i1, i2, i3, i4, fun hc => ⟨(i5 hc).1, fun x hx h0 => ?_⟩⟩
        rcases List.mem_cons.1 hx with rfl | hx
        · exact h2
        · exact (i5 hc).2 x hx h0
end Go.Proofs.Hz
