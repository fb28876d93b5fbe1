/-
  Contracts of functions, proved by going through their code. No conditions.
-/
import Derived.Test.YtofdhddbfjfkcaaDoorPgc
import Derived.Test.YtofdhddbfjfkcaaDoorHb
import Derived.Test.YtofdhddbfjfkcaaDoorHe
import Derived.Test.YtofdhddbfjfkcaaDoorVa
import Derived.Test.YtofdhddbfjfkcaaDoorVo
set_option maxHeartbeats 8000000
set_option linter.unusedSimpArgs false
set_option linter.unusedVariables false
set_option maxRecDepth 10000
namespace Go.Proofs.Hs
open Go Go.Pg Go.Proofs

theorem putO_len (out : List Span) (x : Span) : out.length ≤ (putO out x).length := by
  unfold putO; split <;> simp
theorem stepO_len (hi : Int) (p : List Span × Bool) (x : Span) : p.1.length ≤ (stepO hi p x).1.length := by
  unfold stepO
  split
  · exact Nat.le_refl _
  · split
    · exact Nat.le_refl _
    · exact putO_len _ _
theorem cutF_len (hi : Int) : ∀ (l : List Span) (lo sh : Int) (p : List Span × Bool), p.1.length ≤ (cutF hi l lo sh p).1.length
  | [], lo, sh, p => by
    unfold cutF; split
    · exact stepO_len _ _ _
    · exact Nat.le_refl _
  | x :: r, lo, sh, p => by
    unfold cutF; split
    · exact Nat.le_refl _
    · split
      · exact cutF_len hi r _ _ _
      · refine Nat.le_trans ?_ (cutF_len hi r _ _ _)
        split
        · exact stepO_len _ _ _
        · exact Nat.le_refl _
theorem dayF_len (d : Door) (hi from' base : Int) : ∀ (l : List Span) (p : List Span × Bool), p.1.length ≤ (dayF d hi from' base l p).1.length
  | [], p => Nat.le_refl _
  | x :: r, p => by
    unfold dayF; split
    · exact Nat.le_refl _
    · exact Nat.le_trans (cutF_len hi _ _ _ _) (dayF_len d hi from' base r _)
theorem daysF_len (d : Door) (hi from' : Int) : ∀ (k : Nat) (day : Int) (p : List Span × Bool), p.1.length ≤ (daysF d hi from' k day p).1.length
  | 0, _, p => Nat.le_refl _
  | k + 1, day, p => by
    unfold daysF; split
    · exact Nat.le_refl _
    · split
      · exact dayF_len _ _ _ _ _ _
      · exact Nat.le_trans (dayF_len _ _ _ _ _ _) (daysF_len d hi from' k _ _)
theorem rowAt_eqH {H H' : Nat → Option AO} {i : Nat} (h : H' i = H i) : Pg.rowAt H' i = Pg.rowAt H i := by unfold Pg.rowAt; rw [h]
theorem eta_true {p : List Span × Bool} (h : p.2 = true) : p = (p.1, true) := by obtain ⟨a, b⟩ := p; simp only at h; subst h; rfl

/-- A consumer of spans behind yield: J tells what it has made of the caller's objects. -/
structure Yl (l n0 : Nat) (hi : Int) (M : Nat) (J : List Span × Bool → (Nat → Option AO) → Prop) : Prop where
  frame : ∀ p H id o, J p H → n0 ≤ id → J p (updH H id o)
  y : ∀ p H nx (x : Span), p.2 = false → J p H → n0 ≤ nx → 0 ≤ x.lo → x.lo ≤ x.hi → x.hi ≤ 1073741823 → (stepO hi p x).1.length ≤ M →
    YOK cx l [.agg (eSpan x)] H nx (fun b H' nx' => b = !(stepO hi p x).2 ∧ J (stepO hi p x) H' ∧ nx ≤ nx' ∧ ∀ id, n0 ≤ id → id < nx → H' id = H id)

theorem open_ok (d : Door) (from' : Int) : OKv cx 106 [.agg (eDoor d), ai from'] (.clo 124 [.iptr [ai from'] 0, .iptr (eDoor d) 0]) := by
  refine OKat.of_body (rs := [4]) Tryd.func106 rfl (by decide +kernel) rfl (by simp [Tryd.ntmps106]) ?_
  simp only [Tryd.ntmps106]
  repeat' first
    | apply AW.seq | apply AW.region | apply AW.ret | apply AW.block | apply AW.skip | apply AW.exit | apply AW.scope | apply AW.label | apply AWL.nil
    | ((first | (apply W.step cx_ok; decide) | apply AW.cond); (simp (disch := omega) only [push_cast, simprocAttr] <;> rfl); all_goals try ((with_reducible intro hI); try first | (cases hI; done) | (simp only [INTS, not_true_eq_false] at hI; try first | (exfalso; omega) | (have hT : True := hI; clear hT hI))))
    | ((first | apply W.ret1 | apply W.end1); (iterate 2 (try (simp (disch := omega) only [push_cast, simprocAttr] <;> rfl))))
  all_goals (show _ = _; rfl)

theorem open1_ok (d : Door) (hd : d.V) (from' hi : Int) (hf : 0 ≤ from' ∧ from' ≤ 1073741823) (l n0 M : Nat) {J : List Span × Bool → (Nat → Option AO) → Prop} (hJ : Yl l n0 hi M J) (H : Nat → Option AO) (nx : Nat) (hnx : n0 ≤ nx) (hJ0 : J ([], false) H) {RES : List Span × Bool}
    (hR : daysF d hi from' (1073741824 - from' / 86400 * 86400).toNat (from' / 86400 * 86400) ([], false) = RES) (hM : RES.1.length ≤ M) :
    OKm cx 124 [.v (.func (.yield l) #[] #[]), .iptr [ai from'] 0, .iptr (eDoor d) 0] H nx (fun _ H' nx' => J RES H' ∧ n0 ≤ nx') := by
  have hnh := hd.ok.nh
  have hns := hd.ok.ns
  refine OKm.of_body cx_ok (rs := []) Tryd.func124 rfl (by decide +kernel) rfl (by simp [Tryd.ntmps124]) ?_
  simp only [Tryd.ntmps124]
  repeat' first
    | apply AW.seq | apply AW.region | apply AW.ret | apply AW.block | apply AW.skip | apply AW.exit | apply AW.scope | apply AW.label | apply AWL.nil
    | ((first | (apply W.step cx_ok; decide) | apply W.store cx_ok | (apply W.gS; rfl; decide) | apply AW.cond); (simp (disch := omega) only [push_cast, simprocAttr] <;> rfl); all_goals try ((with_reducible intro hI); try first | (cases hI; done) | (simp only [INTS, not_true_eq_false] at hI; try first | (exfalso; omega) | (have hT : True := hI; clear hT hI))))
    | ((first | apply W.retC | apply W.endC' | apply W.retM | apply W.endM' | apply W.ret1 | apply W.end1 | apply W.ret2 | apply W.end2 | apply W.ret3 | apply W.end3 | apply W.ret0 | apply W.end0); (iterate 2 (try (simp (disch := omega) only [push_cast, simprocAttr] <;> rfl))))
  refine AW.loop (fun n s => ∃ (k : Nat) (day : Int) (p : List Span × Bool), n = k ∧ (0 ≤ day ∧ day ≤ 1073828223) ∧ (1073741823 - day < (k : Int)) ∧ (daysF d hi from' k day p = RES) ∧ (p.2 = false) ∧ (J p s.H) ∧ n0 ≤ s.nx ∧ s.tm 0 = .v (.func (.yield l) #[] #[]) ∧ s.tm 1 = .iptr [ai from'] 0 ∧ s.tm 2 = .iptr (eDoor d) 0 ∧ s.tm 4 = ai day) ((1073741824 - from' / 86400 * 86400).toNat) ⟨_, from' / 86400 * 86400, ([], false), rfl, (by omega), (by omega), hR, rfl, (by (try simp (disch := omega) only [push_cast, simprocAttr]); (repeat (refine hJ.frame _ _ _ _ ?_ (by omega))); exact hJ0), ?_, ?_, ?_, ?_, ?_⟩ ?_
  iterate 5 (first | (simp (disch := omega) only [push_cast, simprocAttr] <;> first | rfl | omega) | omega)
  rintro n s ⟨k, day, p, hn, hp0, hp1, hp2, hp3, hp4, hnl, hS⟩
  by_cases hdy : 1073741823 < day
  · have hq : p = RES := by
      rw [← hp2]
      cases k with
      | zero => rfl
      | succ k => rw [daysF, if_pos hdy]
    repeat' first
      | apply AW.seq | apply AW.region | apply AW.ret | apply AW.block | apply AW.skip | apply AW.exit | apply AW.scope | apply AW.label | apply AWL.nil
      | ((first | (apply W.step cx_ok; decide) | apply W.store cx_ok | (apply W.gS; rfl; decide) | apply AW.cond); (simp (disch := omega) only [push_cast, simprocAttr, hS, hdy] <;> rfl); all_goals try ((with_reducible intro hI); try first | (cases hI; done) | (simp only [INTS, not_true_eq_false] at hI; try first | (exfalso; omega) | (have hT : True := hI; clear hT hI))))
      | ((first | apply W.retC | apply W.endC' | apply W.retM | apply W.endM' | apply W.ret1 | apply W.end1 | apply W.ret2 | apply W.end2 | apply W.ret3 | apply W.end3 | apply W.ret0 | apply W.end0); (iterate 2 (try (simp (disch := omega) only [push_cast, simprocAttr, hS, hdy] <;> rfl))))
    all_goals
      ((try simp only [thenQ, blockQ, loopQ, scopeQ, if_true, reduceIte])
       first | apply W.retX (vs := []) | apply W.endX (vs := [])
       · rfl
       refine ⟨?_, ?_⟩
       · rw [← hq]; exact hp4
       · exact hnl)
  · obtain ⟨k', rfl⟩ : ∃ k', k = k' + 1 := ⟨k - 1, by omega⟩
    rw [daysF, if_neg hdy] at hp2
    repeat' first
      | apply AW.seq | apply AW.region | apply AW.ret | apply AW.block | apply AW.skip | apply AW.exit | apply AW.scope | apply AW.label | apply AWL.nil
      | ((first | (apply W.step cx_ok; decide) | apply W.store cx_ok | (apply W.gS; rfl; decide) | apply AW.cond); (simp (disch := omega) only [push_cast, simprocAttr, hS, hdy] <;> rfl); all_goals try ((with_reducible intro hI); try first | (cases hI; done) | (simp only [INTS, not_true_eq_false] at hI; try first | (exfalso; omega) | (have hT : True := hI; clear hT hI))))
      | ((first | apply W.retC | apply W.endC' | apply W.retM | apply W.endM' | apply W.ret1 | apply W.end1 | apply W.ret2 | apply W.end2 | apply W.ret3 | apply W.end3 | apply W.ret0 | apply W.end0); (iterate 2 (try (simp (disch := omega) only [push_cast, simprocAttr, hS, hdy] <;> rfl))))
    refine AW.loop (fun n s => ∃ (k : Nat) (q : List Span × Bool) (rest : List Span), n = rest.length ∧ (d.hours.drop k = rest) ∧ (dayF d hi from' day rest q = dayF d hi from' day d.hours p) ∧ (q.2 = false) ∧ (J q s.H) ∧ n0 ≤ s.nx ∧ s.tm 0 = .v (.func (.yield l) #[] #[]) ∧ s.tm 1 = .iptr [ai from'] 0 ∧ s.tm 2 = .iptr (eDoor d) 0 ∧ s.tm 4 = ai day ∧ s.tm 17 = lSpan d.hours ∧ s.tm 18 = ai d.hours.length ∧ s.tm 19 = ai k) (d.hours.length) ⟨0, p, d.hours, rfl, rfl, rfl, hp3, (by (try simp (disch := omega) only [push_cast, simprocAttr]); (repeat (refine hJ.frame _ _ _ _ ?_ (by omega))); exact hp4), ?_, ?_, ?_, ?_, ?_, ?_, ?_, ?_⟩ ?_
    iterate 8 (first | (simp (disch := omega) only [push_cast, simprocAttr, hS, hdy] <;> first | rfl | omega) | omega)
    rintro n1 s1 ⟨k1, q1, rest1, hn1, hp01, hp11, hp21, hp31, hnl1, hS1⟩
    rcases rest1 with _ | ⟨x, rest1⟩
    · have hk := drop_nil hp01
      have hq1 : q1 = dayF d hi from' day d.hours p := by rw [← hp11, dayF]
      by_cases hh : d.hours.length = 0
      · rw [if_pos (.inr hh)] at hp2
        have hhI : ((d.hours.length : Int) = 0) = True := eq_true (by omega)
        repeat' first
          | apply AW.seq | apply AW.region | apply AW.ret | apply AW.block | apply AW.skip | apply AW.exit | apply AW.scope | apply AW.label | apply AWL.nil
          | ((first | (apply W.step cx_ok; decide) | apply W.store cx_ok | (apply W.gS; rfl; decide) | apply AW.cond); (simp (disch := omega) only [push_cast, simprocAttr, hS1, hk, hhI] <;> rfl); all_goals try ((with_reducible intro hI); try first | (cases hI; done) | (simp only [INTS, not_true_eq_false] at hI; try first | (exfalso; omega) | (have hT : True := hI; clear hT hI))))
          | ((first | apply W.retC | apply W.endC' | apply W.retM | apply W.endM' | apply W.ret1 | apply W.end1 | apply W.ret2 | apply W.end2 | apply W.ret3 | apply W.end3 | apply W.ret0 | apply W.end0); (iterate 2 (try (simp (disch := omega) only [push_cast, simprocAttr, hS1, hk, hhI] <;> rfl))))
        all_goals
          ((try simp only [thenQ, blockQ, loopQ, scopeQ, if_true, reduceIte])
           first | apply W.retX (vs := []) | apply W.endX (vs := [])
           · rfl
           refine ⟨?_, ?_⟩
           · rw [← hp2, ← hq1]; exact hp31
           · exact hnl1)
      · rw [if_neg (by rw [← hq1, hp21]; simp [hh]), ← hq1] at hp2
        have hhI : ((d.hours.length : Int) = 0) = False := eq_false (by omega)
        repeat' first
          | apply AW.seq | apply AW.region | apply AW.ret | apply AW.block | apply AW.skip | apply AW.exit | apply AW.scope | apply AW.label | apply AWL.nil
          | ((first | (apply W.step cx_ok; decide) | apply W.store cx_ok | (apply W.gS; rfl; decide) | apply AW.cond); (simp (disch := omega) only [push_cast, simprocAttr, hS1, hk, hhI] <;> rfl); all_goals try ((with_reducible intro hI); try first | (cases hI; done) | (simp only [INTS, not_true_eq_false] at hI; try first | (exfalso; omega) | (have hT : True := hI; clear hT hI))))
          | ((first | apply W.retC | apply W.endC' | apply W.retM | apply W.endM' | apply W.ret1 | apply W.end1 | apply W.ret2 | apply W.end2 | apply W.ret3 | apply W.end3 | apply W.ret0 | apply W.end0); (iterate 2 (try (simp (disch := omega) only [push_cast, simprocAttr, hS1, hk, hhI] <;> rfl))))
        all_goals
          (refine ⟨k', ?_, k', day + 86400, q1, rfl, (by omega), (by omega), hp2, hp21, (by (try simp (disch := omega) only [push_cast, simprocAttr]); (repeat (refine hJ.frame _ _ _ _ ?_ (by omega))); exact hp31), ?_, ?_, ?_, ?_, ?_⟩; (omega); all_goals first | (simp (disch := omega) only [push_cast, simprocAttr, hS1, hk, hhI] <;> first | rfl | omega) | omega)
    · obtain ⟨hk, hg, hd', hl', hm, hx⟩ := drop_cons hp01 eSpan []
      have hb := hd.ok.hours x hm
      obtain ⟨LO, hLO⟩ : ∃ z, max from' (day + x.lo) = z := ⟨_, rfl⟩
      obtain ⟨SH, hSH⟩ : ∃ z, min 1073741823 (day + x.hi) = z := ⟨_, rfl⟩
      have hD : dayF d hi from' day rest1 (cutF hi d.shut LO SH q1) = dayF d hi from' day d.hours p := by
        rw [← hp11, dayF, if_neg (by rw [hp21]; simp), hLO, hSH]
      have fin : ∀ P : List Span × Bool, P.2 = true → cutF hi d.shut LO SH q1 = P → P = RES := fun P hP hc => by
        rw [hc, eta_true hP, dayF_stop, ← eta_true hP] at hD
        rw [← hD, if_pos (.inl hP)] at hp2
        exact hp2
      have hL : ∀ P : List Span × Bool, P.1.length ≤ (cutF hi d.shut LO SH q1).1.length → P.1.length ≤ M := fun P hP => by
        have h1 := dayF_len d hi from' day rest1 (cutF hi d.shut LO SH q1)
        rw [hD] at h1
        have h2 : (dayF d hi from' day d.hours p).1.length ≤ RES.1.length := by
          rw [← hp2]
          split
          · exact Nat.le_refl _
          · exact daysF_len _ _ _ _ _ _
        omega
      repeat' first
        | apply AW.seq | apply AW.region | apply AW.ret | apply AW.block | apply AW.skip | apply AW.exit | apply AW.scope | apply AW.label | apply AWL.nil
        | ((first | (apply W.step cx_ok; decide) | apply W.store cx_ok | (apply W.gS; rfl; decide) | apply AW.cond); (simp (disch := omega) only [push_cast, simprocAttr, hS1, hk, hg, hLO, hSH] <;> rfl); all_goals try ((with_reducible intro hI); try first | (cases hI; done) | (simp only [INTS, not_true_eq_false] at hI; try first | (exfalso; omega) | (have hT : True := hI; clear hT hI))))
        | ((first | apply W.retC | apply W.endC' | apply W.retM | apply W.endM' | apply W.ret1 | apply W.end1 | apply W.ret2 | apply W.end2 | apply W.ret3 | apply W.end3 | apply W.ret0 | apply W.end0); (iterate 2 (try (simp (disch := omega) only [push_cast, simprocAttr, hS1, hk, hg, hLO, hSH] <;> rfl))))
      refine AW.loop (fun n s => ∃ (k : Nat) (lo : Int) (r : List Span × Bool) (rest : List Span), n = rest.length ∧ (d.shut.drop k = rest) ∧ (cutF hi rest lo SH r = cutF hi d.shut LO SH q1) ∧ (0 ≤ lo ∧ lo ≤ 2147483648) ∧ (r.2 = false) ∧ (J r s.H) ∧ (s1.nx < s.nx) ∧ n0 ≤ s.nx ∧ s.tm 0 = .v (.func (.yield l) #[] #[]) ∧ s.tm 1 = .iptr [ai from'] 0 ∧ s.tm 2 = .iptr (eDoor d) 0 ∧ s.tm 4 = ai day ∧ s.tm 6 = .ptr s1.nx 0 0 1 ∧ s.tm 17 = lSpan d.hours ∧ s.tm 18 = ai d.hours.length ∧ s.tm 19 = ai k1 ∧ s.tm 36 = lSpan d.shut ∧ s.tm 37 = ai d.shut.length ∧ s.tm 38 = ai k ∧ Pg.rowAt s.H (s1.nx) = some ({ k := 2, es := [[ai lo, ai SH]], ty := 38 })) (d.shut.length) ⟨0, LO, q1, d.shut, rfl, rfl, rfl, (by omega), hp21, (by (try simp (disch := omega) only [push_cast, simprocAttr]); (repeat (refine hJ.frame _ _ _ _ ?_ (by omega))); exact hp31), (Nat.lt_succ_self _), ?_, ?_, ?_, ?_, ?_, ?_, ?_, ?_, ?_, ?_, ?_, ?_, ?_⟩ ?_
      iterate 13 (first | (simp (disch := omega) only [push_cast, simprocAttr, hS1, hk, hg, hLO, hSH] <;> first | rfl | omega) | omega)
      rintro n2 s2 ⟨k2, lo2, r2, rest2, hn2, hp02, hp12, hp22, hp32, hp42, hp52, hnl2, hS2⟩
      have hZ2 : (s1.nx : Nat) ≠ s2.nx ∧ s2.nx ≠ (s1.nx : Nat) := by omega
      rcases rest2 with _ | ⟨y, rest2⟩
      · have hk2 := drop_nil hp02
        rw [cutF] at hp12
        by_cases hle : lo2 ≤ SH
        · rw [if_pos hle] at hp12
          have hleT : (lo2 ≤ SH) = True := eq_true hle
          repeat' first
            | apply AW.seq | apply AW.region | apply AW.ret | apply AW.block | apply AW.skip | apply AW.exit | apply AW.scope | apply AW.label | apply AWL.nil
            | ((first | (apply W.step cx_ok; decide) | apply W.store cx_ok | (apply W.gS; rfl; decide) | apply AW.cond); (simp (disch := omega) only [push_cast, simprocAttr, hS2, hZ2, hk2, hleT] <;> rfl); all_goals try ((with_reducible intro hI); try first | (cases hI; done) | (simp only [INTS, not_true_eq_false] at hI; try first | (exfalso; omega) | (have hT : True := hI; clear hT hI))))
            | ((first | apply W.retC | apply W.endC' | apply W.retM | apply W.endM' | apply W.ret1 | apply W.end1 | apply W.ret2 | apply W.end2 | apply W.ret3 | apply W.end3 | apply W.ret0 | apply W.end0); (iterate 2 (try (simp (disch := omega) only [push_cast, simprocAttr, hS2, hZ2, hk2, hleT] <;> rfl))))
          refine W.yield (by decide) (by simp (disch := omega) only [push_cast, simprocAttr, hS2, hZ2, hk2, hleT] <;> rfl) (va := [.agg (eSpan ⟨lo2, SH⟩)]) (by simp (disch := omega) only [push_cast, simprocAttr, hS2, hZ2, hk2, hleT] <;> rfl) (hJ.y r2 _ _ ⟨lo2, SH⟩ hp32 (by (try simp (disch := omega) only [push_cast, simprocAttr]); (repeat (refine hJ.frame _ _ _ _ ?_ (by omega))); exact hp42) (show n0 ≤ s2.nx by omega) (by dsimp only; omega) (by dsimp only; omega) (by dsimp only; omega) (hL _ (by rw [hp12]; exact Nat.le_refl _))) ?_
          rintro b H2 nx2 ⟨hbb, hJ2, hn2q, hfr⟩
          have hn3 : s2.nx ≤ nx2 := hn2q
          by_cases hst : (stepO hi r2 ⟨lo2, SH⟩).2 = true
          · have hb0 : b = false := by rw [hbb, hst]; rfl
            subst hb0
            repeat' first
              | apply AW.seq | apply AW.region | apply AW.ret | apply AW.block | apply AW.skip | apply AW.exit | apply AW.scope | apply AW.label | apply AWL.nil
              | ((first | (apply W.step cx_ok; decide) | apply W.store cx_ok | (apply W.gS; rfl; decide) | apply AW.cond); (simp (disch := omega) only [push_cast, simprocAttr, hS2, hZ2, hk2, hleT] <;> rfl); all_goals try ((with_reducible intro hI); try first | (cases hI; done) | (simp only [INTS, not_true_eq_false] at hI; try first | (exfalso; omega) | (have hT : True := hI; clear hT hI))))
              | ((first | apply W.retC | apply W.endC' | apply W.retM | apply W.endM' | apply W.ret1 | apply W.end1 | apply W.ret2 | apply W.end2 | apply W.ret3 | apply W.end3 | apply W.ret0 | apply W.end0); (iterate 2 (try (simp (disch := omega) only [push_cast, simprocAttr, hS2, hZ2, hk2, hleT] <;> rfl))))
            all_goals
              ((try simp only [thenQ, blockQ, loopQ, scopeQ, if_true, reduceIte])
               first | apply W.retX (vs := []) | apply W.endX (vs := [])
               · rfl
               refine ⟨?_, ?_⟩
               · rw [← fin _ hst hp12.symm]; exact hJ2
               · show n0 ≤ nx2; omega)
          · have hb0 : b = true := by rw [hbb]; simpa using hst
            subst hb0
            have hst' : (stepO hi r2 ⟨lo2, SH⟩).2 = false := by simpa using hst
            repeat' first
              | apply AW.seq | apply AW.region | apply AW.ret | apply AW.block | apply AW.skip | apply AW.exit | apply AW.scope | apply AW.label | apply AWL.nil
              | ((first | (apply W.step cx_ok; decide) | apply W.store cx_ok | (apply W.gS; rfl; decide) | apply AW.cond); (simp (disch := omega) only [push_cast, simprocAttr, hS2, hZ2, hk2, hleT] <;> rfl); all_goals try ((with_reducible intro hI); try first | (cases hI; done) | (simp only [INTS, not_true_eq_false] at hI; try first | (exfalso; omega) | (have hT : True := hI; clear hT hI))))
              | ((first | apply W.retC | apply W.endC' | apply W.retM | apply W.endM' | apply W.ret1 | apply W.end1 | apply W.ret2 | apply W.end2 | apply W.ret3 | apply W.end3 | apply W.ret0 | apply W.end0); (iterate 2 (try (simp (disch := omega) only [push_cast, simprocAttr, hS2, hZ2, hk2, hleT] <;> rfl))))
            all_goals
              (refine ⟨rest1.length, ?_, k1 + 1, stepO hi r2 ⟨lo2, SH⟩, rest1, rfl, hd', (by rw [hp12]; exact hD), hst', (by (try simp (disch := omega) only [push_cast, simprocAttr]); (repeat (refine hJ.frame _ _ _ _ ?_ (by omega))); exact hJ2), ?_, ?_, ?_, ?_, ?_, ?_, ?_, ?_⟩; ((simp only [List.length_cons] at *; omega)); all_goals first | (simp (disch := omega) only [push_cast, simprocAttr, hS2, hZ2, hk2, hleT] <;> first | rfl | omega) | omega)
        · rw [if_neg hle] at hp12
          have hleF : (lo2 ≤ SH) = False := eq_false hle
          repeat' first
            | apply AW.seq | apply AW.region | apply AW.ret | apply AW.block | apply AW.skip | apply AW.exit | apply AW.scope | apply AW.label | apply AWL.nil
            | ((first | (apply W.step cx_ok; decide) | apply W.store cx_ok | (apply W.gS; rfl; decide) | apply AW.cond); (simp (disch := omega) only [push_cast, simprocAttr, hS2, hZ2, hk2, hleF] <;> rfl); all_goals try ((with_reducible intro hI); try first | (cases hI; done) | (simp only [INTS, not_true_eq_false] at hI; try first | (exfalso; omega) | (have hT : True := hI; clear hT hI))))
            | ((first | apply W.retC | apply W.endC' | apply W.retM | apply W.endM' | apply W.ret1 | apply W.end1 | apply W.ret2 | apply W.end2 | apply W.ret3 | apply W.end3 | apply W.ret0 | apply W.end0); (iterate 2 (try (simp (disch := omega) only [push_cast, simprocAttr, hS2, hZ2, hk2, hleF] <;> rfl))))
          all_goals
            (refine ⟨rest1.length, ?_, k1 + 1, r2, rest1, rfl, hd', (by rw [hp12]; exact hD), hp32, (by (try simp (disch := omega) only [push_cast, simprocAttr]); (repeat (refine hJ.frame _ _ _ _ ?_ (by omega))); exact hp42), ?_, ?_, ?_, ?_, ?_, ?_, ?_, ?_⟩; ((simp only [List.length_cons] at *; omega)); all_goals first | (simp (disch := omega) only [push_cast, simprocAttr, hS2, hZ2, hk2, hleF] <;> first | rfl | omega) | omega)
      · obtain ⟨hk2, hg2, hd'2, hl'2, hm2, hx2⟩ := drop_cons hp02 eSpan []
        have hb2 := hd.ok.shut y hm2
        rw [cutF, if_neg (by rw [hp32]; simp)] at hp12
        by_cases hc : y.hi < lo2 ∨ SH < y.lo
        · rw [if_pos hc] at hp12
          repeat' first
            | apply AW.seq | apply AW.region | apply AW.ret | apply AW.block | apply AW.skip | apply AW.exit | apply AW.scope | apply AW.label | apply AWL.nil
            | ((first | (apply W.step cx_ok; decide) | apply W.store cx_ok | (apply W.gS; rfl; decide) | apply AW.cond); (simp (disch := omega) only [push_cast, simprocAttr, hS2, hZ2, hk2, hg2] <;> rfl); all_goals try ((with_reducible intro hI); try first | (cases hI; done) | (simp only [INTS, not_true_eq_false] at hI; try first | (exfalso; omega) | (have hT : True := hI; clear hT hI))))
            | ((first | apply W.retC | apply W.endC' | apply W.retM | apply W.endM' | apply W.ret1 | apply W.end1 | apply W.ret2 | apply W.end2 | apply W.ret3 | apply W.end3 | apply W.ret0 | apply W.end0); (iterate 2 (try (simp (disch := omega) only [push_cast, simprocAttr, hS2, hZ2, hk2, hg2] <;> rfl))))
          all_goals
            (refine ⟨rest2.length, ?_, k2 + 1, lo2, r2, rest2, rfl, hd'2, hp12, hp22, hp32, (by (try simp (disch := omega) only [push_cast, simprocAttr]); (repeat (refine hJ.frame _ _ _ _ ?_ (by omega))); exact hp42), (Nat.lt_succ_of_lt hp52), ?_, ?_, ?_, ?_, ?_, ?_, ?_, ?_, ?_, ?_, ?_, ?_, ?_⟩; ((simp only [List.length_cons] at *; omega)); all_goals first | (simp (disch := omega) only [push_cast, simprocAttr, hS2, hZ2, hk2, hg2] <;> first | rfl | omega) | omega)
        · rw [if_neg hc] at hp12
          by_cases hlt : lo2 < y.lo
          · rw [if_pos hlt] at hp12
            have hltT : (lo2 < y.lo) = True := eq_true hlt
            repeat' first
              | apply AW.seq | apply AW.region | apply AW.ret | apply AW.block | apply AW.skip | apply AW.exit | apply AW.scope | apply AW.label | apply AWL.nil
              | ((first | (apply W.step cx_ok; decide) | apply W.store cx_ok | (apply W.gS; rfl; decide) | apply AW.cond); (simp (disch := omega) only [push_cast, simprocAttr, hS2, hZ2, hk2, hg2, hltT] <;> rfl); all_goals try ((with_reducible intro hI); try first | (cases hI; done) | (simp only [INTS, not_true_eq_false] at hI; try first | (exfalso; omega) | (have hT : True := hI; clear hT hI))))
              | ((first | apply W.retC | apply W.endC' | apply W.retM | apply W.endM' | apply W.ret1 | apply W.end1 | apply W.ret2 | apply W.end2 | apply W.ret3 | apply W.end3 | apply W.ret0 | apply W.end0); (iterate 2 (try (simp (disch := omega) only [push_cast, simprocAttr, hS2, hZ2, hk2, hg2, hltT] <;> rfl))))
            refine W.yield (by decide) (by simp (disch := omega) only [push_cast, simprocAttr, hS2, hZ2, hk2, hg2, hltT] <;> rfl) (va := [.agg (eSpan ⟨lo2, y.lo - 1⟩)]) (by simp (disch := omega) only [push_cast, simprocAttr, hS2, hZ2, hk2, hg2, hltT] <;> rfl) (hJ.y r2 _ _ ⟨lo2, y.lo - 1⟩ hp32 (by (try simp (disch := omega) only [push_cast, simprocAttr]); (repeat (refine hJ.frame _ _ _ _ ?_ (by omega))); exact hp42) (show n0 ≤ s2.nx + 1 by omega) (by dsimp only; omega) (by dsimp only; omega) (by dsimp only; omega) (hL _ (by rw [← hp12]; exact cutF_len _ _ _ _ _))) ?_
            rintro b H2 nx2 ⟨hbb, hJ2, hn2q, hfr⟩
            have hn3 : s2.nx + 1 ≤ nx2 := hn2q
            by_cases hst : (stepO hi r2 ⟨lo2, y.lo - 1⟩).2 = true
            · have hb0 : b = false := by rw [hbb, hst]; rfl
              subst hb0
              repeat' first
                | apply AW.seq | apply AW.region | apply AW.ret | apply AW.block | apply AW.skip | apply AW.exit | apply AW.scope | apply AW.label | apply AWL.nil
                | ((first | (apply W.step cx_ok; decide) | apply W.store cx_ok | (apply W.gS; rfl; decide) | apply AW.cond); (simp (disch := omega) only [push_cast, simprocAttr, hS2, hZ2, hk2, hg2, hltT] <;> rfl); all_goals try ((with_reducible intro hI); try first | (cases hI; done) | (simp only [INTS, not_true_eq_false] at hI; try first | (exfalso; omega) | (have hT : True := hI; clear hT hI))))
                | ((first | apply W.retC | apply W.endC' | apply W.retM | apply W.endM' | apply W.ret1 | apply W.end1 | apply W.ret2 | apply W.end2 | apply W.ret3 | apply W.end3 | apply W.ret0 | apply W.end0); (iterate 2 (try (simp (disch := omega) only [push_cast, simprocAttr, hS2, hZ2, hk2, hg2, hltT] <;> rfl))))
              all_goals
                ((try simp only [thenQ, blockQ, loopQ, scopeQ, if_true, reduceIte])
                 first | apply W.retX (vs := []) | apply W.endX (vs := [])
                 · rfl
                 refine ⟨?_, ?_⟩
                 · rw [← fin _ hst (by rw [← hp12, eta_true hst, cutF_stop])]; exact hJ2
                 · show n0 ≤ nx2; omega)
            · have hb0 : b = true := by rw [hbb]; simpa using hst
              subst hb0
              have hst' : (stepO hi r2 ⟨lo2, y.lo - 1⟩).2 = false := by simpa using hst
              have h6 : Pg.rowAt H2 s1.nx = some { k := 2, es := [[ai lo2, ai SH]], ty := 38 } := (rowAt_eqH (hfr s1.nx (by omega) (Nat.lt_succ_of_lt hp52))).trans (by simp (disch := omega) only [push_cast, simprocAttr, hS2, hZ2, hk2, hg2] <;> rfl)
              have h8 : Pg.rowAt H2 s2.nx = some { k := 2, es := [eSpan y], ty := 38 } := (rowAt_eqH (hfr s2.nx hnl2 (Nat.lt_succ_self _))).trans (by simp (disch := omega) only [push_cast, simprocAttr, hS2, hZ2, hk2, hg2] <;> rfl)
              have hz1 : (s1.nx : Nat) ≠ nx2 := by omega
              have hz2 : nx2 ≠ (s1.nx : Nat) := by omega
              repeat' first
                | apply AW.seq | apply AW.region | apply AW.ret | apply AW.block | apply AW.skip | apply AW.exit | apply AW.scope | apply AW.label | apply AWL.nil
                | ((first | (apply W.step cx_ok; decide) | apply W.store cx_ok | (apply W.gS; rfl; decide) | apply AW.cond); (simp (disch := omega) only [push_cast, simprocAttr, hS2, hZ2, hk2, hg2, hltT, h6, h8, hz1, hz2] <;> rfl); all_goals try ((with_reducible intro hI); try first | (cases hI; done) | (simp only [INTS, not_true_eq_false] at hI; try first | (exfalso; omega) | (have hT : True := hI; clear hT hI))))
                | ((first | apply W.retC | apply W.endC' | apply W.retM | apply W.endM' | apply W.ret1 | apply W.end1 | apply W.ret2 | apply W.end2 | apply W.ret3 | apply W.end3 | apply W.ret0 | apply W.end0); (iterate 2 (try (simp (disch := omega) only [push_cast, simprocAttr, hS2, hZ2, hk2, hg2, hltT, h6, h8, hz1, hz2] <;> rfl))))
              all_goals
                (refine ⟨rest2.length, ?_, k2 + 1, y.hi + 1, stepO hi r2 ⟨lo2, y.lo - 1⟩, rest2, rfl, hd'2, hp12, (by omega), hst', (by (try simp (disch := omega) only [push_cast, simprocAttr]); (repeat (refine hJ.frame _ _ _ _ ?_ (by omega))); exact hJ2), (show s1.nx < nx2 by omega), ?_, ?_, ?_, ?_, ?_, ?_, ?_, ?_, ?_, ?_, ?_, ?_, ?_⟩; ((simp only [List.length_cons] at *; omega)); all_goals first | (simp (disch := omega) only [push_cast, simprocAttr, hS2, hZ2, hk2, hg2, hltT, h6, h8, hz1, hz2] <;> first | rfl | omega) | omega)
          · rw [if_neg hlt] at hp12
            have hltF : (lo2 < y.lo) = False := eq_false hlt
            repeat' first
              | apply AW.seq | apply AW.region | apply AW.ret | apply AW.block | apply AW.skip | apply AW.exit | apply AW.scope | apply AW.label | apply AWL.nil
              | ((first | (apply W.step cx_ok; decide) | apply W.store cx_ok | (apply W.gS; rfl; decide) | apply AW.cond); (simp (disch := omega) only [push_cast, simprocAttr, hS2, hZ2, hk2, hg2, hltF] <;> rfl); all_goals try ((with_reducible intro hI); try first | (cases hI; done) | (simp only [INTS, not_true_eq_false] at hI; try first | (exfalso; omega) | (have hT : True := hI; clear hT hI))))
              | ((first | apply W.retC | apply W.endC' | apply W.retM | apply W.endM' | apply W.ret1 | apply W.end1 | apply W.ret2 | apply W.end2 | apply W.ret3 | apply W.end3 | apply W.ret0 | apply W.end0); (iterate 2 (try (simp (disch := omega) only [push_cast, simprocAttr, hS2, hZ2, hk2, hg2, hltF] <;> rfl))))
            all_goals
              (refine ⟨rest2.length, ?_, k2 + 1, y.hi + 1, r2, rest2, rfl, hd'2, hp12, (by omega), hp32, (by (try simp (disch := omega) only [push_cast, simprocAttr]); (repeat (refine hJ.frame _ _ _ _ ?_ (by omega))); exact hp42), (Nat.lt_succ_of_lt hp52), ?_, ?_, ?_, ?_, ?_, ?_, ?_, ?_, ?_, ?_, ?_, ?_, ?_⟩; ((simp only [List.length_cons] at *; omega)); all_goals first | (simp (disch := omega) only [push_cast, simprocAttr, hS2, hZ2, hk2, hg2, hltF] <;> first | rfl | omega) | omega)

end Go.Proofs.Hs

namespace Go.Proofs.Hs
open Go Go.Pg Go.Proofs

theorem rnd_ok (l : Nat) : (cx.rnd l).OK := ⟨cx_ok.T, cx_ok.eqT, cx_ok.E⟩
theorem rnd_mixed (l : Nat) : (cx.rnd l).P.follows .mixedOrders = true := cx_mixed
def L69 (L : Loop) (b : Bool) : Loop := if b = true then { L with state := .done, pending := some (.exit 0) } else L
/-- The objects of Openings while its loop runs. -/
structure J69 (l D : Nat) (L : Loop) (tm : Nat → AV) (sp : Span) (p : List Span × Bool) (H : Nat → Option AO) : Prop where
  bnd : ∀ y ∈ p.1, 0 ≤ y.hi ∧ y.hi ≤ 1073741823
  b5 : Pg.rowAt H 1 = some { k := 2, es := [eSpan sp], ty := 38 }
  b9 : Pg.rowAt H 2 = some { k := 1, es := [[.ref 3 0 p.1.length]], ty := 91 }
  out : Pg.rowAt H 3 = some { k := 2, es := p.1.map eSpan, ty := 38, lo := p.1.length }
  dfr : H 4 = some (.mp (.dfr D (some [])) 0 [])
  rcd : H 5 = some (.mp (.loop l (L69 L p.2)) 0 (keepT 89 tm))
theorem J69.frame {l D : Nat} {L : Loop} {tm : Nat → AV} {sp : Span} (p : List Span × Bool) (H : Nat → Option AO) (id : Nat) (o : AO) (h : J69 l D L tm sp p H) (hid : 6 ≤ id) : J69 l D L tm sp p (updH H id o) := by
  obtain ⟨h0, h1, h2, h3, h4, h5⟩ := h
  have e : ∀ j, j < 6 → updH H id o j = H j := fun j hj => by simp only [updH]; rw [if_neg (by omega)]
  exact ⟨h0, (rowAt_eqH (e 1 (by omega))).trans h1, (rowAt_eqH (e 2 (by omega))).trans h2, (rowAt_eqH (e 3 (by omega))).trans h3, (e 4 (by omega)).trans h4, (e 5 (by omega)).trans h5⟩

theorem apart_len : ∀ (l : List Span) (a b : Int), Apart l → (∀ n, cov l n → a ≤ n ∧ n < b) → a ≤ b → (l.length : Int) ≤ b - a
  | [], a, b, _, _, h => by simp only [List.length_nil]; omega
  | x :: l, a, b, ha, hc, h => by
    have h1 := hc x.lo ⟨x, by simp, Int.le_refl _, ha.le x (by simp)⟩
    have h2 := hc x.hi ⟨x, by simp, ha.le x (by simp), Int.le_refl _⟩
    have h3 := ha.le x (by simp)
    have h4 := apart_len l (x.hi + 1) b ha.tail (fun n hn => ⟨by have := ha.ahead hn; omega, (hc n (cov_cons.2 (.inr hn))).2⟩) (by omega)
    simp only [List.length_cons]
    omega
theorem lastS_mem (l : List Span) (h : 0 < l.length) : lastS l ∈ l := by
  unfold lastS
  rw [List.getD_eq_getElem?_getD, List.getElem?_eq_getElem (by omega)]
  exact List.getElem_mem _
theorem stepO_bnd {hi : Int} {p : List Span × Bool} {x : Span} (hb : ∀ y ∈ p.1, 0 ≤ y.hi ∧ y.hi ≤ 1073741823) (hx : 0 ≤ x.hi ∧ x.hi ≤ 1073741823) (hh : 0 ≤ hi) : ∀ y ∈ (stepO hi p x).1, 0 ≤ y.hi ∧ y.hi ≤ 1073741823 := by
  unfold stepO
  split
  · exact hb
  · split
    · exact hb
    · unfold putO
      intro y hy
      split at hy
      · rcases List.mem_or_eq_of_mem_set hy with hy | rfl
        · exact hb y hy
        · dsimp only; omega
      · rcases List.mem_append.1 hy with hy | hy
        · exact hb y hy
        · rw [List.mem_singleton.1 hy]; dsimp only; omega
theorem afterR_69 {C : Cx} {N : Nat} {tail : Code} {Q : Exit → St → Prop} {L : Loop} {b : Bool} {st : St} (hL : L.pending = none) (h : AW C N tail Q st) : afterR C N tail 0 Q (L69 L b).pending st := by
  unfold L69
  split
  · simpa [afterR] using h
  · rw [hL]; exact h
theorem awk_gen {C : Cx} {N : Nat} {y z : Code} {Q : Exit → St → Prop} {s : St} (G : St → Prop) (hG : G s) (h : ∀ t, G t → AWk C N y z Q t) : AWk C N y z Q s := h s hG

theorem Openings_ok (h : House) (n0 : Int) (sp : Span) (hfit : h.Fit) : OKv cx 69 [.agg (eHouse h), ai n0, .agg (eSpan sp)] (.tup [lSpan (openingsH h n0 sp).1, ai (openingsH h n0 sp).2]) := by
  by_cases he : doorE h n0 [] = 0
  · obtain ⟨hc, ⟨hdn, hdl⟩, _⟩ := doorE_zero he
    have hv := Check_V hc
    have hdv := hv.door hdn hdl
    have hdg : (h.doors.map eDoor).getD n0.toNat [] = eDoor (h.door n0) := getD_map eDoor h.doors _ [] ⟨[], []⟩ (by omega)
    have hE0 : openingsH h n0 sp = if sp.hi < sp.lo ∨ timeB sp.lo = false ∨ timeB sp.hi = false then ([], 1) else if 604800 ≤ sp.hi - sp.lo then ([], 2) else (openL (h.door n0) sp, 0) := if_neg (by simp [he])
    by_cases hsp : sp.hi < sp.lo ∨ timeB sp.lo = false ∨ timeB sp.hi = false
    · rw [if_pos hsp] at hE0
      rw [hE0]
      refine OKat.of_body (rs := [6, 7]) Tryd.func69 rfl (by decide +kernel) rfl (by simp [Tryd.ntmps69]) ?_
      simp only [Tryd.ntmps69]
      repeat' first
        | apply AW.seq | apply AW.region | apply AW.ret | apply AW.block | apply AW.skip | apply AW.exit | apply AW.scope | apply AW.label | apply AWL.nil | apply D.nil
        | refine W.draw cx_mixed (by decide +kernel) ?_
        | ((first | (apply W.step cx_ok; decide) | (apply D.step cx_ok; decide; decide) | apply W.store cx_ok | (apply W.gS; rfl; decide) | (apply D.gS; rfl; decide; decide) | apply AW.cond); (simp (disch := omega) only [push_cast, simprocAttr, he] <;> rfl); all_goals try ((with_reducible intro hI); try first | (cases hI; done) | (simp only [INTS, not_true_eq_false] at hI; try first | (exfalso; omega) | (have hT : True := hI; clear hT hI))))
        | ((first | (apply W.callv cx_ok; decide) | (apply D.callv cx_ok; decide; decide)); (iterate 2 (simp (disch := omega) only [push_cast, simprocAttr, he] <;> rfl)); (with_reducible first | exact doorNone_ok _ _ hfit | exact time_ok _); try first | rfl | (simp (disch := omega) only [push_cast, simprocAttr, he] <;> rfl))
        | ((first | apply W.ret2 | apply W.end2); (iterate 2 (try (simp (disch := omega) only [push_cast, simprocAttr, he] <;> rfl))))
      all_goals first
        | (show _ = _; rfl)
        | (exfalso; unfold timeB at hsp; simp only [Bool.and_eq_false_iff, decide_eq_false_iff_not] at hsp; omega)
    · rw [if_neg hsp] at hE0
      have hspb : 0 ≤ sp.lo ∧ sp.lo ≤ sp.hi ∧ sp.hi ≤ 1073741823 := by unfold timeB at hsp; simp only [not_or, Bool.not_eq_false, Bool.and_eq_true, decide_eq_true_eq] at hsp; omega
      have hs1 := hspb.1
      have hs2 := hspb.2.1
      have hs3 := hspb.2.2
      by_cases hlm : 604800 ≤ sp.hi - sp.lo
      · rw [if_pos hlm] at hE0
        rw [hE0]
        refine OKat.of_body (rs := [6, 7]) Tryd.func69 rfl (by decide +kernel) rfl (by simp [Tryd.ntmps69]) ?_
        simp only [Tryd.ntmps69]
        repeat' first
          | apply AW.seq | apply AW.region | apply AW.ret | apply AW.block | apply AW.skip | apply AW.exit | apply AW.scope | apply AW.label | apply AWL.nil | apply D.nil
          | refine W.draw cx_mixed (by decide +kernel) ?_
          | ((first | (apply W.step cx_ok; decide) | (apply D.step cx_ok; decide; decide) | apply W.store cx_ok | (apply W.gS; rfl; decide) | (apply D.gS; rfl; decide; decide) | apply AW.cond); (simp (disch := omega) only [push_cast, simprocAttr, he, hlm] <;> rfl); all_goals try ((with_reducible intro hI); try first | (cases hI; done) | (simp only [INTS, not_true_eq_false] at hI; try first | (exfalso; omega) | (have hT : True := hI; clear hT hI))))
          | ((first | (apply W.callv cx_ok; decide) | (apply D.callv cx_ok; decide; decide)); (iterate 2 (simp (disch := omega) only [push_cast, simprocAttr, he, hlm] <;> rfl)); (with_reducible first | exact doorNone_ok _ _ hfit | exact time_ok _); try first | rfl | (simp (disch := omega) only [push_cast, simprocAttr, he, hlm] <;> rfl))
          | ((first | apply W.ret2 | apply W.end2); (iterate 2 (try (simp (disch := omega) only [push_cast, simprocAttr, he, hlm] <;> rfl))))
        all_goals first
          | (show _ = _; rfl)
          | (exfalso; omega)
      · rw [if_neg hlm] at hE0
        rw [hE0]
        refine OKm.toAt (Q := fun r H' _ => viewA H' r = some (.tup [lSpan (openL (h.door n0) sp), ai 0])) (OKm.of_bodyX cx_ok (rs := [.tmp 6, .tmp 7]) Tryd.func69 rfl (by decide +kernel) rfl (by simp [Tryd.ntmps69]) ?_) (fun r H nx hq => ⟨_, hq, rfl⟩)
        simp only [Tryd.ntmps69]
        refine AWx.seqS ?_
        repeat' first
          | apply AW.seq | apply AW.region | apply AW.ret | apply AW.block | apply AW.skip | apply AW.exit | apply AW.scope | apply AW.label | apply AWL.nil | apply D.nil
          | refine W.draw cx_mixed (by decide +kernel) ?_
          | ((first | (apply W.step cx_ok; decide) | (apply D.step cx_ok; decide; decide) | apply W.store cx_ok | (apply W.gS; rfl; decide) | (apply D.gS; rfl; decide; decide) | apply AW.cond); (simp (disch := omega) only [push_cast, simprocAttr, he, hlm, hs1, hs2, hs3] <;> rfl); all_goals try ((with_reducible intro hI); try first | (cases hI; done) | (simp only [INTS, not_true_eq_false] at hI; try first | (exfalso; omega) | (have hT : True := hI; clear hT hI))))
          | ((first | (apply W.callv cx_ok; decide) | (apply D.callv cx_ok; decide; decide)); (iterate 2 (simp (disch := omega) only [push_cast, simprocAttr, he, hlm, hs1, hs2, hs3] <;> rfl)); (with_reducible first | exact doorNone_ok _ _ hfit | exact time_ok _); try first | rfl | (simp (disch := omega) only [push_cast, simprocAttr, he, hlm, hs1, hs2, hs3] <;> rfl))
          | ((first | apply W.ret2 | apply W.end2); (iterate 2 (try (simp (disch := omega) only [push_cast, simprocAttr, he, hlm, hs1, hs2, hs3] <;> rfl))))
        all_goals try (exfalso; omega)
        refine Stop.mk ?_
        refine AWx.seqS ?_
        repeat' first
          | apply AW.seq | apply AW.region | apply AW.ret | apply AW.block | apply AW.skip | apply AW.exit | apply AW.scope | apply AW.label | apply AWL.nil | apply D.nil
          | refine W.draw cx_mixed (by decide +kernel) ?_
          | ((first | (apply W.step cx_ok; decide) | (apply D.step cx_ok; decide; decide) | apply W.store cx_ok | (apply W.gS; rfl; decide) | (apply D.gS; rfl; decide; decide) | apply AW.cond); (simp (disch := omega) only [push_cast, simprocAttr, he, hlm, hs1, hs2, hs3] <;> rfl); all_goals try ((with_reducible intro hI); try first | (cases hI; done) | (simp only [INTS, not_true_eq_false] at hI; try first | (exfalso; omega) | (have hT : True := hI; clear hT hI))))
          | ((first | (apply W.callv cx_ok; decide) | (apply D.callv cx_ok; decide; decide)); (iterate 2 (simp (disch := omega) only [push_cast, simprocAttr, he, hlm, hs1, hs2, hs3] <;> rfl)); (with_reducible first | exact doorNone_ok _ _ hfit | exact time_ok _); try first | rfl | (simp (disch := omega) only [push_cast, simprocAttr, he, hlm, hs1, hs2, hs3] <;> rfl))
          | ((first | apply W.ret2 | apply W.end2); (iterate 2 (try (simp (disch := omega) only [push_cast, simprocAttr, he, hlm, hs1, hs2, hs3] <;> rfl))))
        all_goals try (exfalso; omega)
        refine Stop.mk ?_
        refine AWx.seqS ?_
        repeat' first
          | apply AW.seq | apply AW.region | apply AW.ret | apply AW.block | apply AW.skip | apply AW.exit | apply AW.scope | apply AW.label | apply AWL.nil | apply D.nil
          | refine W.draw cx_mixed (by decide +kernel) ?_
          | ((first | (apply W.step cx_ok; decide) | (apply D.step cx_ok; decide; decide) | apply W.store cx_ok | (apply W.gS; rfl; decide) | (apply D.gS; rfl; decide; decide) | apply AW.cond); (simp (disch := omega) only [push_cast, simprocAttr, he, hlm, hs1, hs2, hs3] <;> rfl); all_goals try ((with_reducible intro hI); try first | (cases hI; done) | (simp only [INTS, not_true_eq_false] at hI; try first | (exfalso; omega) | (have hT : True := hI; clear hT hI))))
          | ((first | (apply W.callv cx_ok; decide) | (apply D.callv cx_ok; decide; decide)); (iterate 2 (simp (disch := omega) only [push_cast, simprocAttr, he, hlm, hs1, hs2, hs3] <;> rfl)); (with_reducible first | exact doorNone_ok _ _ hfit | exact time_ok _); try first | rfl | (simp (disch := omega) only [push_cast, simprocAttr, he, hlm, hs1, hs2, hs3] <;> rfl))
          | ((first | apply W.ret2 | apply W.end2); (iterate 2 (try (simp (disch := omega) only [push_cast, simprocAttr, he, hlm, hs1, hs2, hs3] <;> rfl))))
        all_goals try (exfalso; omega)
        refine Stop.mk ?_
        refine AWx.seqS ?_
        repeat' first
          | apply AW.seq | apply AW.region | apply AW.ret | apply AW.block | apply AW.skip | apply AW.exit | apply AW.scope | apply AW.label | apply AWL.nil | apply D.nil
          | refine W.draw cx_mixed (by decide +kernel) ?_
          | ((first | (apply W.step cx_ok; decide) | (apply D.step cx_ok; decide; decide) | apply W.store cx_ok | (apply W.gS; rfl; decide) | (apply D.gS; rfl; decide; decide) | apply AW.cond); (simp (disch := omega) only [push_cast, simprocAttr, he, hlm, hs1, hs2, hs3] <;> rfl); all_goals try ((with_reducible intro hI); try first | (cases hI; done) | (simp only [INTS, not_true_eq_false] at hI; try first | (exfalso; omega) | (have hT : True := hI; clear hT hI))))
          | ((first | (apply W.callv cx_ok; decide) | (apply D.callv cx_ok; decide; decide)); (iterate 2 (simp (disch := omega) only [push_cast, simprocAttr, he, hlm, hs1, hs2, hs3] <;> rfl)); (with_reducible first | exact doorNone_ok _ _ hfit | exact time_ok _); try first | rfl | (simp (disch := omega) only [push_cast, simprocAttr, he, hlm, hs1, hs2, hs3] <;> rfl))
          | ((first | apply W.ret2 | apply W.end2); (iterate 2 (try (simp (disch := omega) only [push_cast, simprocAttr, he, hlm, hs1, hs2, hs3] <;> rfl))))
        all_goals try (exfalso; omega)
        refine Stop.mk ?_
        refine AWx.seqS ?_
        repeat' first
          | apply AW.seq | apply AW.region | apply AW.ret | apply AW.block | apply AW.skip | apply AW.exit | apply AW.scope | apply AW.label | apply AWL.nil | apply D.nil
          | refine W.draw cx_mixed (by decide +kernel) ?_
          | ((first | (apply W.step cx_ok; decide) | (apply D.step cx_ok; decide; decide) | apply W.store cx_ok | (apply W.gS; rfl; decide) | (apply D.gS; rfl; decide; decide) | apply AW.cond); (simp (disch := omega) only [push_cast, simprocAttr, he, hlm, hs1, hs2, hs3] <;> rfl); all_goals try ((with_reducible intro hI); try first | (cases hI; done) | (simp only [INTS, not_true_eq_false] at hI; try first | (exfalso; omega) | (have hT : True := hI; clear hT hI))))
          | ((first | (apply W.callv cx_ok; decide) | (apply D.callv cx_ok; decide; decide)); (iterate 2 (simp (disch := omega) only [push_cast, simprocAttr, he, hlm, hs1, hs2, hs3] <;> rfl)); (with_reducible first | exact doorNone_ok _ _ hfit | exact time_ok _); try first | rfl | (simp (disch := omega) only [push_cast, simprocAttr, he, hlm, hs1, hs2, hs3] <;> rfl))
          | ((first | apply W.ret2 | apply W.end2); (iterate 2 (try (simp (disch := omega) only [push_cast, simprocAttr, he, hlm, hs1, hs2, hs3] <;> rfl))))
        all_goals try (exfalso; omega)
        refine Stop.mk ?_
        refine AWx.ofk (AWk.seqS ?_)
        refine AW.adoptCell 2 0 0 2 38 (r := { k := 1, es := [[.v (.slice none 0 0)]], ty := 91 }) ?_ rfl ?_
        · (simp (disch := omega) only [push_cast, simprocAttr, he, hlm, hs1, hs2, hs3])
        repeat' first
          | apply AW.seq | apply AW.region | apply AW.ret | apply AW.block | apply AW.skip | apply AW.exit | apply AW.scope | apply AW.label | apply AWL.nil | apply D.nil
          | refine W.draw cx_mixed (by decide +kernel) ?_
          | ((first | (apply W.step cx_ok; decide) | (apply D.step cx_ok; decide; decide) | apply W.store cx_ok | (apply W.gS; rfl; decide) | (apply D.gS; rfl; decide; decide) | apply AW.cond); (simp (disch := omega) only [push_cast, simprocAttr, he, hlm, hs1, hs2, hs3, hdn, hdl, hdg] <;> rfl); all_goals try ((with_reducible intro hI); try first | (cases hI; done) | (simp only [INTS, not_true_eq_false] at hI; try first | (exfalso; omega) | (have hT : True := hI; clear hT hI))))
          | ((first | (apply W.callv cx_ok; decide) | (apply D.callv cx_ok; decide; decide)); (iterate 2 (simp (disch := omega) only [push_cast, simprocAttr, he, hlm, hs1, hs2, hs3, hdn, hdl, hdg] <;> rfl)); (with_reducible first | exact open_ok _ _); try first | rfl | (simp (disch := omega) only [push_cast, simprocAttr, he, hlm, hs1, hs2, hs3, hdn, hdl, hdg] <;> rfl))
          | ((first | apply W.ret2 | apply W.end2); (iterate 2 (try (simp (disch := omega) only [push_cast, simprocAttr, he, hlm, hs1, hs2, hs3, hdn, hdl, hdg] <;> rfl))))
        all_goals try (exfalso; omega)
        refine Stop.mk ?_
        refine awk_gen (fun t => t.tm 5 = .ptr 1 0 0 1 ∧ t.tm 9 = .ptr 2 0 0 1 ∧ t.tm 48 = .clo 124 [.iptr [ai sp.lo] 0, .iptr (eDoor (h.door n0)) 0] ∧ t.nx = 4 ∧ Pg.rowAt t.H 1 = some { k := 2, es := [eSpan sp], ty := 38 } ∧
            Pg.rowAt t.H 2 = some { k := 1, es := [[.ref 3 0 0]], ty := 91 } ∧ Pg.rowAt t.H 3 = some { k := 2, es := [], ty := 38 }) ⟨?_, ?_, ?_, ?_, ?_, ?_, ?_⟩ ?_
        iterate 7 (simp (disch := omega) only [push_cast, simprocAttr, he, hlm, hs1, hs2, hs3] <;> rfl)
        rintro t ⟨ht5, ht9, ht48, htnx, hb5, hb9, hout⟩
        refine AWk.range (f := 124) (caps := [.iptr [ai sp.lo] 0, .iptr (eDoor (h.door n0)) 0]) ht48 fun Dn l fn => ?_
        rw [htnx]
        refine OKm.mono (open1_ok (h.door n0) hdv sp.lo sp.hi ⟨hs1, by omega⟩ l 6 604801 (J := J69 l Dn ?L t.tm sp) ?hJ _ _ (Nat.le_refl _) ?hJ0 rfl ?hM) ?post
        case hJ0 =>
          refine ⟨fun y hy => (by cases hy), ?_, ?_, ?_, rfl, ?_⟩
          · simp only [rowAt_updM]; simpa using hb5
          · simp only [rowAt_updM]; simpa using hb9
          · simp only [rowAt_updM]; simpa using hout
          · simp only [L69, Bool.false_eq_true, if_false]
            exact (if_pos rfl : (if (5 : Nat) = 4 + 1 then _ else _) = _)
        case hM =>
          have hbu := openL_built hdv hspb
          have := apart_len _ sp.lo (sp.hi + 1) hbu.apart (fun n hn => ⟨((hbu.is n).1 hn).2.1, ((hbu.is n).1 hn).2.2⟩) (by omega)
          have hrf : (openL (h.door n0) sp).length = (daysF (h.door n0) sp.hi sp.lo (1073741824 - sp.lo / 86400 * 86400).toNat (sp.lo / 86400 * 86400) ([], false)).1.length := rfl
          omega
        case hJ =>
          refine ⟨fun p G id o hp hid => J69.frame p G id o hp hid, fun p G m x hp2 hJ hm hx0 hx1 hx2 hlen => ?_⟩
          obtain ⟨out, bb⟩ := p
          simp only at hp2
          subst hp2
          obtain ⟨hbn, hb5, hb9, hout, hdf, hrc⟩ := hJ
          simp only [L69, Bool.false_eq_true, if_false] at hb9 hout hrc
          have hol : out.length ≤ 604801 := Nat.le_trans (stepO_len sp.hi (out, false) x) hlen
          refine YOK.of_body (id := 5) (args := [.agg (eSpan x)]) hrc rfl rfl (by intro p hp; have : p = 49 := (by simpa using hp); subst this; decide) ?_
          show AW (cx.rnd l) 89 _ _ { tm := upd (cutT 89 t.tm) 49 (.agg (eSpan x)), H := G, nx := m }
          have hc5 : cutT 89 t.tm 5 = .ptr 1 0 0 1 := by simp [cutT, ht5]
          have hc9 : cutT 89 t.tm 9 = .ptr 2 0 0 1 := by simp [cutT, ht9]
          have g0 : ((0 : Nat) = m) = False := eq_false (by omega)
          have gg0 : (m = (0 : Nat)) = False := eq_false (by omega)
          have g1 : ((1 : Nat) = m) = False := eq_false (by omega)
          have gg1 : (m = (1 : Nat)) = False := eq_false (by omega)
          have g2 : ((2 : Nat) = m) = False := eq_false (by omega)
          have gg2 : (m = (2 : Nat)) = False := eq_false (by omega)
          have g3 : ((3 : Nat) = m) = False := eq_false (by omega)
          have gg3 : (m = (3 : Nat)) = False := eq_false (by omega)
          have g4 : ((4 : Nat) = m) = False := eq_false (by omega)
          have gg4 : (m = (4 : Nat)) = False := eq_false (by omega)
          have g5 : ((5 : Nat) = m) = False := eq_false (by omega)
          have gg5 : (m = (5 : Nat)) = False := eq_false (by omega)
          by_cases hlt : sp.hi < x.lo
          · have hS0 : stepO sp.hi (out, false) x = (out, true) := by unfold stepO; rw [if_neg (by simp), if_pos hlt]
            have hltT : (sp.hi < x.lo) = True := eq_true hlt
            repeat' first
              | apply AW.seq | apply AW.region | apply AW.ret | apply AW.block | apply AW.skip | apply AW.exit | apply AW.scope | apply AW.label | apply AWL.nil | apply D.nil
              | refine W.draw (rnd_mixed l) (by decide +kernel) ?_
              | ((first | (apply W.step (rnd_ok l); decide) | (apply D.step (rnd_ok l); decide; decide) | apply W.store (rnd_ok l) | (apply W.gS; rfl; decide) | (apply D.gS; rfl; decide; decide) | apply AW.cond); (simp (disch := omega) only [push_cast, simprocAttr, Cx.rnd, hc5, hc9, hb5, hb9, hout, hrc, hdf, g0, g1, g2, g3, g4, g5, gg0, gg1, gg2, gg3, gg4, gg5, hltT] <;> rfl); all_goals try ((with_reducible intro hI); try first | (cases hI; done) | (simp only [INTS, not_true_eq_false] at hI; try first | (exfalso; omega) | (have hT : True := hI; clear hT hI))))
            refine ⟨?_, ?_⟩
            · (simp (disch := omega) only [push_cast, simprocAttr, Cx.rnd, hc5, hc9, hb5, hb9, hout, hrc, hdf, g0, g1, g2, g3, g4, g5, gg0, gg1, gg2, gg3, gg4, gg5, hltT])
            repeat' first
              | apply AW.seq | apply AW.region | apply AW.ret | apply AW.block | apply AW.skip | apply AW.exit | apply AW.scope | apply AW.label | apply AWL.nil | apply D.nil
              | refine W.draw (rnd_mixed l) (by decide +kernel) ?_
              | ((first | (apply W.step (rnd_ok l); decide) | (apply D.step (rnd_ok l); decide; decide) | apply W.store (rnd_ok l) | (apply W.gS; rfl; decide) | (apply D.gS; rfl; decide; decide) | apply AW.cond); (simp (disch := omega) only [push_cast, simprocAttr, Cx.rnd, hc5, hc9, hb5, hb9, hout, hrc, hdf, g0, g1, g2, g3, g4, g5, gg0, gg1, gg2, gg3, gg4, gg5, hltT] <;> rfl); all_goals try ((with_reducible intro hI); try first | (cases hI; done) | (simp only [INTS, not_true_eq_false] at hI; try first | (exfalso; omega) | (have hT : True := hI; clear hT hI))))
            all_goals
              ((try simp only [thenQ, blockQ, loopQ, scopeQ, if_true, reduceIte])
               refine ⟨?_, ?_⟩
               · (simp (disch := omega) only [push_cast, simprocAttr, Cx.rnd, hc5, hc9, hb5, hb9, hout, hrc, hdf, g0, g1, g2, g3, g4, g5, gg0, gg1, gg2, gg3, gg4, gg5, hltT])
               refine ⟨?_, ⟨stepO_bnd hbn (by omega) (by omega), ?_, ?_, ?_, ?_, ?_⟩, ?_, ?_⟩
               · rw [hS0]; rfl
               · ((try rw [hS0]); simp (disch := omega) only [push_cast, simprocAttr, Cx.rnd, hc5, hc9, hb5, hb9, hout, hrc, hdf, g0, g1, g2, g3, g4, g5, gg0, gg1, gg2, gg3, gg4, gg5, hltT] <;> first | rfl | (simp [L69]; done))
               · ((try rw [hS0]); simp (disch := omega) only [push_cast, simprocAttr, Cx.rnd, hc5, hc9, hb5, hb9, hout, hrc, hdf, g0, g1, g2, g3, g4, g5, gg0, gg1, gg2, gg3, gg4, gg5, hltT] <;> first | rfl | (simp [L69]; done))
               · ((try rw [hS0]); simp (disch := omega) only [push_cast, simprocAttr, Cx.rnd, hc5, hc9, hb5, hb9, hout, hrc, hdf, g0, g1, g2, g3, g4, g5, gg0, gg1, gg2, gg3, gg4, gg5, hltT] <;> first | rfl | (simp [L69]; done))
               · ((try rw [hS0]); simp (disch := omega) only [push_cast, simprocAttr, Cx.rnd, hc5, hc9, hb5, hb9, hout, hrc, hdf, g0, g1, g2, g3, g4, g5, gg0, gg1, gg2, gg3, gg4, gg5, hltT] <;> first | rfl | (simp [L69]; done))
               · ((try rw [hS0]); simp (disch := omega) only [push_cast, simprocAttr, Cx.rnd, hc5, hc9, hb5, hb9, hout, hrc, hdf, g0, g1, g2, g3, g4, g5, gg0, gg1, gg2, gg3, gg4, gg5, hltT] <;> first | rfl | (simp [L69]; done))
               · (simp (disch := omega) only [push_cast, simprocAttr, Cx.rnd, hc5, hc9, hb5, hb9, hout, hrc, hdf, g0, g1, g2, g3, g4, g5, gg0, gg1, gg2, gg3, gg4, gg5, hltT] <;> omega)
               · intro i hi6 him
                 have f0 : (i = 1) = False := eq_false (by omega)
                 have f1 : (i = 2) = False := eq_false (by omega)
                 have f2 : (i = 3) = False := eq_false (by omega)
                 have f3 : (i = 4) = False := eq_false (by omega)
                 have f4 : (i = 5) = False := eq_false (by omega)
                 have f5 : (i = m) = False := eq_false (by omega)
                 have f6 : (i = m + 1) = False := eq_false (by omega)
                 have f7 : (i = m + 2) = False := eq_false (by omega)
                 have f8 : (i = m + 3) = False := eq_false (by omega)
                 (simp (disch := omega) only [push_cast, simprocAttr, Cx.rnd, hc5, hc9, hb5, hb9, hout, hrc, hdf, g0, g1, g2, g3, g4, g5, gg0, gg1, gg2, gg3, gg4, gg5, hltT, f0, f1, f2, f3, f4, f5, f6, f7, f8]))
          · have hltF : (sp.hi < x.lo) = False := eq_false hlt
            by_cases hz : 0 < out.length
            · have z1 : (0 : Int) < (out.length : Int) := by omega
              have z2 : max ((out.length : Int) - 1) 0 = (out.length : Int) - 1 := by omega
              have z3 : (0 : Int) ≤ (out.length : Int) - 1 := by omega
              have z4 : (out.length : Int) - 1 < (out.length : Int) := by omega
              have z5 : ((out.length : Int) - 1).toNat = out.length - 1 := by omega
              have z6 : out.length - 1 < out.length := by omega
              have z9 := hbn (lastS out) (lastS_mem out hz)
              have z7 : (out.map eSpan).getD (out.length - 1) [] = eSpan (lastS out) := getD_eSpan out (out.length - 1) z6
              have z8 : (out.map eSpan)[out.length - 1]? = some (eSpan (lastS out)) := get_eSpan out (out.length - 1) z6
              by_cases hq : x.lo ≤ (lastS out).hi + 1
              · have hqT : (x.lo ≤ (lastS out).hi + 1) = True := eq_true hq
                have hS0 : stepO sp.hi (out, false) x = (out.set (out.length - 1) ⟨(lastS out).lo, min x.hi sp.hi⟩, false) := by unfold stepO; rw [if_neg (by simp), if_neg hlt]; unfold putO; rw [if_pos ⟨hz, hq⟩]
                repeat' first
                  | apply AW.seq | apply AW.region | apply AW.ret | apply AW.block | apply AW.skip | apply AW.exit | apply AW.scope | apply AW.label | apply AWL.nil | apply D.nil
                  | refine W.draw (rnd_mixed l) (by decide +kernel) ?_
                  | ((first | (apply W.step (rnd_ok l); decide) | (apply D.step (rnd_ok l); decide; decide) | apply W.store (rnd_ok l) | (apply W.gS; rfl; decide) | (apply D.gS; rfl; decide; decide) | apply AW.cond); (simp (disch := omega) only [push_cast, simprocAttr, Cx.rnd, hc5, hc9, hb5, hb9, hout, hrc, hdf, g0, g1, g2, g3, g4, g5, gg0, gg1, gg2, gg3, gg4, gg5, hltF, z1, z2, z3, z4, z5, z6, z7, z8] <;> rfl); all_goals try ((with_reducible intro hI); try first | (cases hI; done) | (simp only [INTS, not_true_eq_false] at hI; try first | (exfalso; omega) | (have hT : True := hI; clear hT hI))))
                refine ⟨?_, ?_⟩
                · (simp (disch := omega) only [push_cast, simprocAttr, Cx.rnd, hc5, hc9, hb5, hb9, hout, hrc, hdf, g0, g1, g2, g3, g4, g5, gg0, gg1, gg2, gg3, gg4, gg5, hltF, z1, z2, z3, z4, z5, z6, z7, z8])
                repeat' first
                  | apply AW.seq | apply AW.region | apply AW.ret | apply AW.block | apply AW.skip | apply AW.exit | apply AW.scope | apply AW.label | apply AWL.nil | apply D.nil
                  | refine W.draw (rnd_mixed l) (by decide +kernel) ?_
                  | ((first | (apply W.step (rnd_ok l); decide) | (apply D.step (rnd_ok l); decide; decide) | apply W.store (rnd_ok l) | (apply W.gS; rfl; decide) | (apply D.gS; rfl; decide; decide) | apply AW.cond); (simp (disch := omega) only [push_cast, simprocAttr, Cx.rnd, hc5, hc9, hb5, hb9, hout, hrc, hdf, g0, g1, g2, g3, g4, g5, gg0, gg1, gg2, gg3, gg4, gg5, hltF, z1, z2, z3, z4, z5, z6, z7, z8] <;> rfl); all_goals try ((with_reducible intro hI); try first | (cases hI; done) | (simp only [INTS, not_true_eq_false] at hI; try first | (exfalso; omega) | (have hT : True := hI; clear hT hI))))
                all_goals
                  ((try simp only [thenQ, blockQ, loopQ, scopeQ, if_true, reduceIte])
                   refine ⟨?_, ?_⟩
                   · (simp (disch := omega) only [push_cast, simprocAttr, Cx.rnd, hc5, hc9, hb5, hb9, hout, hrc, hdf, g0, g1, g2, g3, g4, g5, gg0, gg1, gg2, gg3, gg4, gg5, hltF, z1, z2, z3, z4, z5, z6, z7, z8])
                   refine ⟨?_, ⟨stepO_bnd hbn (by omega) (by omega), ?_, ?_, ?_, ?_, ?_⟩, ?_, ?_⟩
                   · rw [hS0]; rfl
                   · ((try rw [hS0]); simp (disch := omega) only [push_cast, simprocAttr, Cx.rnd, hc5, hc9, hb5, hb9, hout, hrc, hdf, g0, g1, g2, g3, g4, g5, gg0, gg1, gg2, gg3, gg4, gg5, hltF, z1, z2, z3, z4, z5, z6, z7, z8] <;> first | rfl | (simp [L69]; done))
                   · ((try rw [hS0]); simp (disch := omega) only [push_cast, simprocAttr, Cx.rnd, hc5, hc9, hb5, hb9, hout, hrc, hdf, g0, g1, g2, g3, g4, g5, gg0, gg1, gg2, gg3, gg4, gg5, hltF, z1, z2, z3, z4, z5, z6, z7, z8] <;> first | rfl | (simp [L69]; done))
                   · ((try rw [hS0]); simp (disch := omega) only [push_cast, simprocAttr, Cx.rnd, hc5, hc9, hb5, hb9, hout, hrc, hdf, g0, g1, g2, g3, g4, g5, gg0, gg1, gg2, gg3, gg4, gg5, hltF, z1, z2, z3, z4, z5, z6, z7, z8] <;> first | rfl | (simp [L69]; done))
                   · ((try rw [hS0]); simp (disch := omega) only [push_cast, simprocAttr, Cx.rnd, hc5, hc9, hb5, hb9, hout, hrc, hdf, g0, g1, g2, g3, g4, g5, gg0, gg1, gg2, gg3, gg4, gg5, hltF, z1, z2, z3, z4, z5, z6, z7, z8] <;> first | rfl | (simp [L69]; done))
                   · ((try rw [hS0]); simp (disch := omega) only [push_cast, simprocAttr, Cx.rnd, hc5, hc9, hb5, hb9, hout, hrc, hdf, g0, g1, g2, g3, g4, g5, gg0, gg1, gg2, gg3, gg4, gg5, hltF, z1, z2, z3, z4, z5, z6, z7, z8] <;> first | rfl | (simp [L69]; done))
                   · (simp (disch := omega) only [push_cast, simprocAttr, Cx.rnd, hc5, hc9, hb5, hb9, hout, hrc, hdf, g0, g1, g2, g3, g4, g5, gg0, gg1, gg2, gg3, gg4, gg5, hltF, z1, z2, z3, z4, z5, z6, z7, z8] <;> omega)
                   · intro i hi6 him
                     have f0 : (i = 1) = False := eq_false (by omega)
                     have f1 : (i = 2) = False := eq_false (by omega)
                     have f2 : (i = 3) = False := eq_false (by omega)
                     have f3 : (i = 4) = False := eq_false (by omega)
                     have f4 : (i = 5) = False := eq_false (by omega)
                     have f5 : (i = m) = False := eq_false (by omega)
                     have f6 : (i = m + 1) = False := eq_false (by omega)
                     have f7 : (i = m + 2) = False := eq_false (by omega)
                     have f8 : (i = m + 3) = False := eq_false (by omega)
                     (simp (disch := omega) only [push_cast, simprocAttr, Cx.rnd, hc5, hc9, hb5, hb9, hout, hrc, hdf, g0, g1, g2, g3, g4, g5, gg0, gg1, gg2, gg3, gg4, gg5, hltF, z1, z2, z3, z4, z5, z6, z7, z8, f0, f1, f2, f3, f4, f5, f6, f7, f8]))
              · have hqF : (x.lo ≤ (lastS out).hi + 1) = False := eq_false hq
                have hS0 : stepO sp.hi (out, false) x = (out ++ [⟨x.lo, min x.hi sp.hi⟩], false) := by unfold stepO; rw [if_neg (by simp), if_neg hlt]; unfold putO; rw [if_neg (fun hh => hq hh.2)]
                repeat' first
                  | apply AW.seq | apply AW.region | apply AW.ret | apply AW.block | apply AW.skip | apply AW.exit | apply AW.scope | apply AW.label | apply AWL.nil | apply D.nil
                  | refine W.draw (rnd_mixed l) (by decide +kernel) ?_
                  | ((first | (apply W.step (rnd_ok l); decide) | (apply D.step (rnd_ok l); decide; decide) | apply W.store (rnd_ok l) | (apply W.gS; rfl; decide) | (apply D.gS; rfl; decide; decide) | apply AW.cond); (simp (disch := omega) only [push_cast, simprocAttr, Cx.rnd, hc5, hc9, hb5, hb9, hout, hrc, hdf, g0, g1, g2, g3, g4, g5, gg0, gg1, gg2, gg3, gg4, gg5, hltF, z1, z2, z3, z4, z5, z6, z7, z8, List.length_cons, List.length_nil, take_map_all] <;> rfl); all_goals try ((with_reducible intro hI); try first | (cases hI; done) | (simp only [INTS, not_true_eq_false] at hI; try first | (exfalso; omega) | (have hT : True := hI; clear hT hI))))
                refine ⟨?_, ?_⟩
                · (simp (disch := omega) only [push_cast, simprocAttr, Cx.rnd, hc5, hc9, hb5, hb9, hout, hrc, hdf, g0, g1, g2, g3, g4, g5, gg0, gg1, gg2, gg3, gg4, gg5, hltF, z1, z2, z3, z4, z5, z6, z7, z8, List.length_cons, List.length_nil, take_map_all])
                repeat' first
                  | apply AW.seq | apply AW.region | apply AW.ret | apply AW.block | apply AW.skip | apply AW.exit | apply AW.scope | apply AW.label | apply AWL.nil | apply D.nil
                  | refine W.draw (rnd_mixed l) (by decide +kernel) ?_
                  | ((first | (apply W.step (rnd_ok l); decide) | (apply D.step (rnd_ok l); decide; decide) | apply W.store (rnd_ok l) | (apply W.gS; rfl; decide) | (apply D.gS; rfl; decide; decide) | apply AW.cond); (simp (disch := omega) only [push_cast, simprocAttr, Cx.rnd, hc5, hc9, hb5, hb9, hout, hrc, hdf, g0, g1, g2, g3, g4, g5, gg0, gg1, gg2, gg3, gg4, gg5, hltF, z1, z2, z3, z4, z5, z6, z7, z8, List.length_cons, List.length_nil, take_map_all] <;> rfl); all_goals try ((with_reducible intro hI); try first | (cases hI; done) | (simp only [INTS, not_true_eq_false] at hI; try first | (exfalso; omega) | (have hT : True := hI; clear hT hI))))
                  | (apply W.append (rnd_ok l); decide; rfl; rfl; rfl; decide; (iterate 3 (simp (disch := omega) only [push_cast, simprocAttr, Cx.rnd, hc5, hc9, hb5, hb9, hout, hrc, hdf, g0, g1, g2, g3, g4, g5, gg0, gg1, gg2, gg3, gg4, gg5, hltF, z1, z2, z3, z4, z5, z6, z7, z8, List.length_cons, List.length_nil, take_map_all] <;> rfl)); simp; (rfl); ((try dsimp only); (try simp only [List.length_map, List.length_append, List.length_cons, List.length_nil]); omega); ((try dsimp only); (try simp only [List.length_map, List.length_append, List.length_cons, List.length_nil]); omega))
                all_goals
                  ((try simp only [thenQ, blockQ, loopQ, scopeQ, if_true, reduceIte])
                   refine ⟨?_, ?_⟩
                   · (simp (disch := omega) only [push_cast, simprocAttr, Cx.rnd, hc5, hc9, hb5, hb9, hout, hrc, hdf, g0, g1, g2, g3, g4, g5, gg0, gg1, gg2, gg3, gg4, gg5, hltF, z1, z2, z3, z4, z5, z6, z7, z8, List.length_cons, List.length_nil, take_map_all])
                   refine ⟨?_, ⟨stepO_bnd hbn (by omega) (by omega), ?_, ?_, ?_, ?_, ?_⟩, ?_, ?_⟩
                   · rw [hS0]; rfl
                   · ((try rw [hS0]); simp (disch := omega) only [push_cast, simprocAttr, Cx.rnd, hc5, hc9, hb5, hb9, hout, hrc, hdf, g0, g1, g2, g3, g4, g5, gg0, gg1, gg2, gg3, gg4, gg5, hltF, z1, z2, z3, z4, z5, z6, z7, z8, List.length_cons, List.length_nil, take_map_all] <;> first | rfl | (simp [L69]; done))
                   · ((try rw [hS0]); simp (disch := omega) only [push_cast, simprocAttr, Cx.rnd, hc5, hc9, hb5, hb9, hout, hrc, hdf, g0, g1, g2, g3, g4, g5, gg0, gg1, gg2, gg3, gg4, gg5, hltF, z1, z2, z3, z4, z5, z6, z7, z8, List.length_cons, List.length_nil, take_map_all] <;> first | rfl | (simp [L69]; done))
                   · ((try rw [hS0]); simp (disch := omega) only [push_cast, simprocAttr, Cx.rnd, hc5, hc9, hb5, hb9, hout, hrc, hdf, g0, g1, g2, g3, g4, g5, gg0, gg1, gg2, gg3, gg4, gg5, hltF, z1, z2, z3, z4, z5, z6, z7, z8, List.length_cons, List.length_nil, take_map_all] <;> first | rfl | (simp [L69]; done))
                   · ((try rw [hS0]); simp (disch := omega) only [push_cast, simprocAttr, Cx.rnd, hc5, hc9, hb5, hb9, hout, hrc, hdf, g0, g1, g2, g3, g4, g5, gg0, gg1, gg2, gg3, gg4, gg5, hltF, z1, z2, z3, z4, z5, z6, z7, z8, List.length_cons, List.length_nil, take_map_all] <;> first | rfl | (simp [L69]; done))
                   · ((try rw [hS0]); simp (disch := omega) only [push_cast, simprocAttr, Cx.rnd, hc5, hc9, hb5, hb9, hout, hrc, hdf, g0, g1, g2, g3, g4, g5, gg0, gg1, gg2, gg3, gg4, gg5, hltF, z1, z2, z3, z4, z5, z6, z7, z8, List.length_cons, List.length_nil, take_map_all] <;> first | rfl | (simp [L69]; done))
                   · (simp (disch := omega) only [push_cast, simprocAttr, Cx.rnd, hc5, hc9, hb5, hb9, hout, hrc, hdf, g0, g1, g2, g3, g4, g5, gg0, gg1, gg2, gg3, gg4, gg5, hltF, z1, z2, z3, z4, z5, z6, z7, z8, List.length_cons, List.length_nil, take_map_all] <;> omega)
                   · intro i hi6 him
                     have f0 : (i = 1) = False := eq_false (by omega)
                     have f1 : (i = 2) = False := eq_false (by omega)
                     have f2 : (i = 3) = False := eq_false (by omega)
                     have f3 : (i = 4) = False := eq_false (by omega)
                     have f4 : (i = 5) = False := eq_false (by omega)
                     have f5 : (i = m) = False := eq_false (by omega)
                     have f6 : (i = m + 1) = False := eq_false (by omega)
                     have f7 : (i = m + 2) = False := eq_false (by omega)
                     have f8 : (i = m + 3) = False := eq_false (by omega)
                     (simp (disch := omega) only [push_cast, simprocAttr, Cx.rnd, hc5, hc9, hb5, hb9, hout, hrc, hdf, g0, g1, g2, g3, g4, g5, gg0, gg1, gg2, gg3, gg4, gg5, hltF, z1, z2, z3, z4, z5, z6, z7, z8, List.length_cons, List.length_nil, take_map_all, f0, f1, f2, f3, f4, f5, f6, f7, f8]))
            · have z1 : ((0 : Int) < (out.length : Int)) = False := eq_false (by omega)
              have hS0 : stepO sp.hi (out, false) x = (out ++ [⟨x.lo, min x.hi sp.hi⟩], false) := by unfold stepO; rw [if_neg (by simp), if_neg hlt]; unfold putO; rw [if_neg (fun hh => hz hh.1)]
              repeat' first
                | apply AW.seq | apply AW.region | apply AW.ret | apply AW.block | apply AW.skip | apply AW.exit | apply AW.scope | apply AW.label | apply AWL.nil | apply D.nil
                | refine W.draw (rnd_mixed l) (by decide +kernel) ?_
                | ((first | (apply W.step (rnd_ok l); decide) | (apply D.step (rnd_ok l); decide; decide) | apply W.store (rnd_ok l) | (apply W.gS; rfl; decide) | (apply D.gS; rfl; decide; decide) | apply AW.cond); (simp (disch := omega) only [push_cast, simprocAttr, Cx.rnd, hc5, hc9, hb5, hb9, hout, hrc, hdf, g0, g1, g2, g3, g4, g5, gg0, gg1, gg2, gg3, gg4, gg5, hltF, z1, List.length_cons, List.length_nil, take_map_all] <;> rfl); all_goals try ((with_reducible intro hI); try first | (cases hI; done) | (simp only [INTS, not_true_eq_false] at hI; try first | (exfalso; omega) | (have hT : True := hI; clear hT hI))))
              refine ⟨?_, ?_⟩
              · (simp (disch := omega) only [push_cast, simprocAttr, Cx.rnd, hc5, hc9, hb5, hb9, hout, hrc, hdf, g0, g1, g2, g3, g4, g5, gg0, gg1, gg2, gg3, gg4, gg5, hltF, z1, List.length_cons, List.length_nil, take_map_all])
              repeat' first
                | apply AW.seq | apply AW.region | apply AW.ret | apply AW.block | apply AW.skip | apply AW.exit | apply AW.scope | apply AW.label | apply AWL.nil | apply D.nil
                | refine W.draw (rnd_mixed l) (by decide +kernel) ?_
                | ((first | (apply W.step (rnd_ok l); decide) | (apply D.step (rnd_ok l); decide; decide) | apply W.store (rnd_ok l) | (apply W.gS; rfl; decide) | (apply D.gS; rfl; decide; decide) | apply AW.cond); (simp (disch := omega) only [push_cast, simprocAttr, Cx.rnd, hc5, hc9, hb5, hb9, hout, hrc, hdf, g0, g1, g2, g3, g4, g5, gg0, gg1, gg2, gg3, gg4, gg5, hltF, z1, List.length_cons, List.length_nil, take_map_all] <;> rfl); all_goals try ((with_reducible intro hI); try first | (cases hI; done) | (simp only [INTS, not_true_eq_false] at hI; try first | (exfalso; omega) | (have hT : True := hI; clear hT hI))))
                | (apply W.append (rnd_ok l); decide; rfl; rfl; rfl; decide; (iterate 3 (simp (disch := omega) only [push_cast, simprocAttr, Cx.rnd, hc5, hc9, hb5, hb9, hout, hrc, hdf, g0, g1, g2, g3, g4, g5, gg0, gg1, gg2, gg3, gg4, gg5, hltF, z1, List.length_cons, List.length_nil, take_map_all] <;> rfl)); simp; (rfl); ((try dsimp only); (try simp only [List.length_map, List.length_append, List.length_cons, List.length_nil]); omega); ((try dsimp only); (try simp only [List.length_map, List.length_append, List.length_cons, List.length_nil]); omega))
              all_goals
                ((try simp only [thenQ, blockQ, loopQ, scopeQ, if_true, reduceIte])
                 refine ⟨?_, ?_⟩
                 · (simp (disch := omega) only [push_cast, simprocAttr, Cx.rnd, hc5, hc9, hb5, hb9, hout, hrc, hdf, g0, g1, g2, g3, g4, g5, gg0, gg1, gg2, gg3, gg4, gg5, hltF, z1, List.length_cons, List.length_nil, take_map_all])
                 refine ⟨?_, ⟨stepO_bnd hbn (by omega) (by omega), ?_, ?_, ?_, ?_, ?_⟩, ?_, ?_⟩
                 · rw [hS0]; rfl
                 · ((try rw [hS0]); simp (disch := omega) only [push_cast, simprocAttr, Cx.rnd, hc5, hc9, hb5, hb9, hout, hrc, hdf, g0, g1, g2, g3, g4, g5, gg0, gg1, gg2, gg3, gg4, gg5, hltF, z1, List.length_cons, List.length_nil, take_map_all] <;> first | rfl | (simp [L69]; done))
                 · ((try rw [hS0]); simp (disch := omega) only [push_cast, simprocAttr, Cx.rnd, hc5, hc9, hb5, hb9, hout, hrc, hdf, g0, g1, g2, g3, g4, g5, gg0, gg1, gg2, gg3, gg4, gg5, hltF, z1, List.length_cons, List.length_nil, take_map_all] <;> first | rfl | (simp [L69]; done))
                 · ((try rw [hS0]); simp (disch := omega) only [push_cast, simprocAttr, Cx.rnd, hc5, hc9, hb5, hb9, hout, hrc, hdf, g0, g1, g2, g3, g4, g5, gg0, gg1, gg2, gg3, gg4, gg5, hltF, z1, List.length_cons, List.length_nil, take_map_all] <;> first | rfl | (simp [L69]; done))
                 · ((try rw [hS0]); simp (disch := omega) only [push_cast, simprocAttr, Cx.rnd, hc5, hc9, hb5, hb9, hout, hrc, hdf, g0, g1, g2, g3, g4, g5, gg0, gg1, gg2, gg3, gg4, gg5, hltF, z1, List.length_cons, List.length_nil, take_map_all] <;> first | rfl | (simp [L69]; done))
                 · ((try rw [hS0]); simp (disch := omega) only [push_cast, simprocAttr, Cx.rnd, hc5, hc9, hb5, hb9, hout, hrc, hdf, g0, g1, g2, g3, g4, g5, gg0, gg1, gg2, gg3, gg4, gg5, hltF, z1, List.length_cons, List.length_nil, take_map_all] <;> first | rfl | (simp [L69]; done))
                 · (simp (disch := omega) only [push_cast, simprocAttr, Cx.rnd, hc5, hc9, hb5, hb9, hout, hrc, hdf, g0, g1, g2, g3, g4, g5, gg0, gg1, gg2, gg3, gg4, gg5, hltF, z1, List.length_cons, List.length_nil, take_map_all] <;> omega)
                 · intro i hi6 him
                   have f0 : (i = 1) = False := eq_false (by omega)
                   have f1 : (i = 2) = False := eq_false (by omega)
                   have f2 : (i = 3) = False := eq_false (by omega)
                   have f3 : (i = 4) = False := eq_false (by omega)
                   have f4 : (i = 5) = False := eq_false (by omega)
                   have f5 : (i = m) = False := eq_false (by omega)
                   have f6 : (i = m + 1) = False := eq_false (by omega)
                   have f7 : (i = m + 2) = False := eq_false (by omega)
                   have f8 : (i = m + 3) = False := eq_false (by omega)
                   (simp (disch := omega) only [push_cast, simprocAttr, Cx.rnd, hc5, hc9, hb5, hb9, hout, hrc, hdf, g0, g1, g2, g3, g4, g5, gg0, gg1, gg2, gg3, gg4, gg5, hltF, z1, List.length_cons, List.length_nil, take_map_all, f0, f1, f2, f3, f4, f5, f6, f7, f8]))

        case post =>
          have hop : openL (h.door n0) sp = (daysF (h.door n0) sp.hi sp.lo (1073741824 - sp.lo / 86400 * 86400).toNat (sp.lo / 86400 * 86400) ([], false)).1 := rfl
          generalize daysF (h.door n0) sp.hi sp.lo (1073741824 - sp.lo / 86400 * 86400).toNat (sp.lo / 86400 * 86400) ([], false) = R at hop ⊢
          clear hb9 hout hb5
          rintro r G m ⟨⟨hbn, hb5, hb9, hout, hdf, hrc⟩, hm⟩
          refine ⟨_, hrc, ?_, ?_⟩
          · unfold L69; split <;> simp
          refine afterR_69 rfl ?_
          repeat' first
            | apply AW.seq | apply AW.region | apply AW.ret | apply AW.block | apply AW.skip | apply AW.exit | apply AW.scope | apply AW.label | apply AWL.nil | apply D.nil
            | refine W.draw cx_mixed (by decide +kernel) ?_
            | ((first | (apply W.step cx_ok; decide) | (apply D.step cx_ok; decide; decide) | apply W.store cx_ok | (apply W.gS; rfl; decide) | (apply D.gS; rfl; decide; decide) | apply AW.cond); (simp (disch := omega) only [push_cast, simprocAttr, hb9, hout, hdf, ht9, ht5, take_map_all, hop] <;> rfl); all_goals try ((with_reducible intro hI); try first | (cases hI; done) | (simp only [INTS, not_true_eq_false] at hI; try first | (exfalso; omega) | (have hT : True := hI; clear hT hI))))
          all_goals
            (refine ⟨?_, ?_⟩
             · (simp (disch := omega) only [push_cast, simprocAttr, hb9, hout, hdf, ht9, ht5, take_map_all, hop] <;> rfl)
             intro H2 hH2
             have h3 : Pg.rowAt H2 3 = some { k := 2, es := R.1.map eSpan, ty := 38, lo := R.1.length } := (hH2 3).trans (by simp (disch := omega) only [push_cast, simprocAttr, hb9, hout, hdf, ht9, ht5, take_map_all, hop] <;> rfl)
             apply W.retX (vs := [.ref 3 0 R.1.length, ai 0])
             · (simp (disch := omega) only [push_cast, simprocAttr, hb9, hout, hdf, ht9, ht5, take_map_all, hop] <;> rfl)
             · (simp (disch := omega) only [push_cast, simprocAttr, hb9, hout, hdf, ht9, ht5, take_map_all, hop, h3] <;> rfl))
  · have hE0 : openingsH h n0 sp = ([], doorE h n0 []) := if_pos he
    rw [hE0]
    refine OKat.of_body (rs := [6, 7]) Tryd.func69 rfl (by decide +kernel) rfl (by simp [Tryd.ntmps69]) ?_
    simp only [Tryd.ntmps69]
    repeat' first
      | apply AW.seq | apply AW.region | apply AW.ret | apply AW.block | apply AW.skip | apply AW.exit | apply AW.scope | apply AW.label | apply AWL.nil | apply D.nil
      | refine W.draw cx_mixed (by decide +kernel) ?_
      | ((first | (apply W.step cx_ok; decide) | (apply D.step cx_ok; decide; decide) | apply W.store cx_ok | (apply W.gS; rfl; decide) | (apply D.gS; rfl; decide; decide) | apply AW.cond); (simp (disch := omega) only [push_cast, simprocAttr, he] <;> rfl); all_goals try ((with_reducible intro hI); try first | (cases hI; done) | (simp only [INTS, not_true_eq_false] at hI; try first | (exfalso; omega) | (have hT : True := hI; clear hT hI))))
      | ((first | (apply W.callv cx_ok; decide) | (apply D.callv cx_ok; decide; decide)); (iterate 2 (simp (disch := omega) only [push_cast, simprocAttr, he] <;> rfl)); (with_reducible first | exact doorNone_ok _ _ hfit); try first | rfl | (simp (disch := omega) only [push_cast, simprocAttr, he] <;> rfl))
      | ((first | apply W.ret2 | apply W.end2); (iterate 2 (try (simp (disch := omega) only [push_cast, simprocAttr, he] <;> rfl))))
    all_goals (show _ = _; rfl)

end Go.Proofs.Hs
