/-
  Contracts of functions, proved by going through their code. No conditions.
-/
import Derived.Test.YtofdhddbfjfkcaaDoorHc
import Derived.Test.YtofdhddbfjfkcaaDoorHe
import Derived.Test.YtofdhddbfjfkcaaDoorHf
import Derived.Test.YtofdhddbfjfkcaaDoorVi
import Derived.Test.YtofdhddbfjfkcaaDoorVp
set_option maxHeartbeats 8000000
set_option linter.unusedSimpArgs false
set_option linter.unusedVariables false
set_option maxRecDepth 10000
namespace Go.Proofs.Hs
open Go Go.Pg Go.Proofs

theorem openingsH_len (h : House) (n0 : Int) (sp : Span) : (openingsH h n0 sp).1.length ≤ 1099511627776 := by
  unfold openingsH
  split
  · simp
  · rename_i he
    split
    · simp
    · rename_i hsp
      split
      · simp
      · rename_i hlm
        obtain ⟨hc, ⟨hdn, hdl⟩, _⟩ := doorE_zero (h := h) (n := n0) (ts := []) (by simpa using he)
        have hdv := (Check_V hc).door hdn hdl
        have hspb : 0 ≤ sp.lo ∧ sp.lo ≤ sp.hi ∧ sp.hi ≤ 1073741823 := by unfold timeB at hsp; simp only [not_or, Bool.not_eq_false, Bool.and_eq_true, decide_eq_true_eq] at hsp; omega
        have hbu := openL_built hdv hspb
        have := apart_len _ sp.lo (sp.hi + 1) hbu.apart (fun n hn => ⟨((hbu.is n).1 hn).2.1, ((hbu.is n).1 hn).2.2⟩) (by omega)
        show (openL (h.door n0) sp).length ≤ 1099511627776
        omega
theorem AW.mid {K I : St → Prop} {C : Cx} {N : Nat} {c : Code} {Q : Exit → St → Prop} {s : St} (hK : ∀ s, I s → K s) (h : AW C N c (thenQ I Q) s) : AW C N c (thenQ K Q) s := by
  refine AW.mono h fun e s' hq => ?_
  cases e with
  | normal => exact hK _ hq
  | exit id' => exact hq
  | ret => exact hq
  | goto l => exact hq
  | panic c => exact hq
  | outgrown => exact hq
theorem apart_prev {l : List Span} (h : Apart l) {k : Nat} {x : Span} {r : List Span} (hd : l.drop k = x :: r) (hk : 0 < k) : (l.getD (k - 1) ⟨0, 0⟩).hi + 2 ≤ x.lo := by
  have hl : k < l.length := by
    rcases Nat.lt_or_ge k l.length with h' | h'
    · exact h'
    · rw [List.drop_eq_nil_of_le h'] at hd; cases hd
  have hx : l[k] = x := by
    have h1 := congrArg (fun m => m[0]?) hd
    simp only [List.getElem?_drop, Nat.add_zero, List.getElem?_cons_zero] at h1
    rw [List.getElem?_eq_getElem hl] at h1
    exact Option.some.inj h1
  have h2 := List.pairwise_iff_getElem.1 h.pw (k - 1) k (by omega) hl (by omega)
  rw [hx] at h2
  rw [List.getD_eq_getElem?_getD, List.getElem?_eq_getElem (by omega)]
  exact h2
def inU (u : Int) (y : Span) : Bool := decide (y.lo ≤ u) && decide (u ≤ y.hi)
theorem opens_case (h : House) (n : Int) (sp : Span) : ((openingsH h n sp).2 = 0 → Built (h.door n) sp.lo (sp.hi + 1) (openingsH h n sp).1 ∧ ∀ y ∈ (openingsH h n sp).1, 0 ≤ y.lo ∧ y.hi ≤ 1073741823) ∧ (¬ (openingsH h n sp).2 = 0 → (openingsH h n sp).1 = []) := by
  unfold openingsH
  split
  · rename_i he; exact ⟨fun hq => absurd hq he, fun _ => rfl⟩
  · rename_i he
    split
    · exact ⟨fun hq => absurd hq (by decide), fun _ => rfl⟩
    · rename_i hsp
      split
      · exact ⟨fun hq => absurd hq (by decide), fun _ => rfl⟩
      · obtain ⟨hc, ⟨hdn, hdl⟩, _⟩ := doorE_zero (h := h) (n := n) (ts := []) (by simpa using he)
        have hdv := (Check_V hc).door hdn hdl
        have hspb : 0 ≤ sp.lo ∧ sp.lo ≤ sp.hi ∧ sp.hi ≤ 1073741823 := by unfold timeB at hsp; simp only [not_or, Bool.not_eq_false, Bool.and_eq_true, decide_eq_true_eq] at hsp; omega
        have hbu := openL_built hdv hspb
        refine ⟨fun _ => ⟨hbu, fun y hy => ?_⟩, fun hq => absurd rfl hq⟩
        have hle := hbu.apart.le y hy
        have h1 := (hbu.is y.lo).1 ⟨y, hy, Int.le_refl _, hle⟩
        have h2 := (hbu.is y.hi).1 ⟨y, hy, hle, Int.le_refl _⟩
        omega
theorem law19_ok (h : House) (n0 t u : Int) (sp : Span) (hn : ∀ r ∈ h.rooms, r.name.size ≤ 9223372036854775807) : OKv cx 19 [.agg (eHouse h), ai n0, ai t, ai u, .agg (eSpan sp)] (ab true) := by
  by_cases hr : (few h && decide ((Check h).1 = 0)) = true
  ·
    by_cases hds : ¬ (h.doors.length : Int) = 0
    ·
      by_cases hta : (decide (0 ≤ t) && decide (t ≤ 1073741823)) = true
      ·
        by_cases htb : (decide (0 ≤ u) && decide (u ≤ 1073741823)) = true
        ·
          obtain ⟨hf, hc⟩ : few h = true ∧ (Check h).1 = 0 := by simpa using hr
          have hfit := few_fit hf hn
          have hv := Check_V hc
          have hrl := hv.rooms
          have htab : 0 ≤ t ∧ t ≤ 1073741823 := by simpa using hta
          have htbb : 0 ≤ u ∧ u ≤ 1073741823 := by simpa using htb
          have hfd := hfit.nd
          obtain ⟨Dr, hDr⟩ : ∃ x, someN n0 h.doors.length = x := ⟨_, rfl⟩
          have hDrb := someN_lt n0 (k := (h.doors.length : Int)) (by omega)
          rw [hDr] at hDrb
          have hdl := hDrb.2
          have hdv := hv.door hDrb.1 hdl
          have dE : ∀ z : Int, 0 ≤ z → z ≤ 1073741823 → doorE h Dr [z] = 0 := fun z z1 z2 => by rw [doorE_one]; unfold doorRE; rw [if_neg (by unfold timeOK; omega)]; exact hc
          have dI : ∀ z : Int, 0 ≤ z → z ≤ 1073741823 → isOpenH h Dr z = (openR (h.door Dr) z, 0) := fun z z1 z2 => by
            unfold isOpenH
            rw [if_neg (by simp [dE z z1 z2])]
            have h2 := next_open hdv z1 z2
            have h3 : decide (next (h.door Dr) z = z) = openR (h.door Dr) z := by rw [Bool.eq_iff_iff, decide_eq_true_eq]; exact h2
            rw [h3]
          obtain ⟨X, hX⟩ : ∃ x, next (h.door Dr) t = x := ⟨_, rfl⟩
          obtain ⟨Y, hY⟩ : ∃ x, last (h.door Dr) t = x := ⟨_, rfl⟩
          have oN : nextOpenH h Dr t = (X, 0) := by unfold nextOpenH; rw [if_neg (by simp [dE t htab.1 htab.2]), hX]
          have oL : lastOpenH h Dr t = (Y, 0) := by unfold lastOpenH; rw [if_neg (by simp [dE t htab.1 htab.2]), hY]
          have nx := next_is hdv (t := t) (by omega) (by omega)
          have lx := last_is hdv (t := t) (by omega)
          rw [hX] at nx
          rw [hY] at lx
          have nxg := nx.ge
          have lxg := lx.le
          have nxb : X ≤ 1073741824 := by rcases nx.at' with e | ⟨e, _⟩ <;> omega
          have lxb : -1 ≤ Y := by rcases lx.at' with e | ⟨e, _⟩ <;> omega
          have oX : X < 1073741824 → isOpenH h Dr X = (true, 0) := fun hq => by
            rw [dI X (by omega) (by omega)]
            rcases nx.at' with e | ⟨_, e⟩
            · omega
            · rw [e]
          have oY : 0 ≤ Y → isOpenH h Dr Y = (true, 0) := fun hq => by
            rw [dI Y (by omega) (by omega)]
            rcases lx.at' with e | ⟨_, e⟩
            · omega
            · rw [e]
          have oI := dI u htbb.1 htbb.2
          have nu := nx.no u
          have lu := lx.no u
          have hop := opens_case h Dr sp
          obtain ⟨O, hO⟩ : ∃ x, (openingsH h Dr sp).1 = x := ⟨_, rfl⟩
          obtain ⟨ee, hE⟩ : ∃ x, (openingsH h Dr sp).2 = x := ⟨_, rfl⟩
          have oO : openingsH h Dr sp = (O, ee) := by rw [← hO, ← hE]
          rw [hO, hE] at hop
          obtain ⟨W0, hW0⟩ : ∃ x, openR (h.door Dr) u = x := ⟨_, rfl⟩
          rw [hW0] at oI
          refine OKat.of_body (rs := [10]) Tryd.func19 rfl (by decide +kernel) rfl (by simp [Tryd.ntmps19]) ?_
          simp only [Tryd.ntmps19]
          repeat' first
            | refine AW.seq ?_ | refine AW.ret ?_ | refine AW.block ?_ | refine AW.skip ?_ | refine AW.exit ?_ | refine AW.scope ?_ | refine AW.label ?_ | refine AWL.nil ?_ | refine D.nil ?_
            | refine W.draw cx_mixed (by decide +kernel) ?_
            | ((first | (apply W.step cx_ok; decide) | (apply D.step cx_ok; decide; decide) | (apply W.gS; rfl; decide) | (apply D.gS; rfl; decide; decide)); (simp (disch := omega) only [push_cast, simprocAttr] <;> rfl); all_goals try ((with_reducible intro hI); try first | (cases hI; done) | (simp only [INTS, not_true_eq_false] at hI; try first | (exfalso; omega) | (have hT : True := hI; clear hT hI))))
            | ((first | (apply W.gU; rfl; decide) | (apply D.gU; rfl; decide; decide)); (simp (disch := omega) only [push_cast, simprocAttr] <;> rfl))
            | ((first | apply W.ret1 | apply W.end1); (iterate 2 (try (simp (disch := omega) only [push_cast, simprocAttr] <;> rfl))))
          refine AW.region ?_
          repeat' first
            | refine AW.seq ?_ | refine AW.ret ?_ | refine AW.block ?_ | refine AW.skip ?_ | refine AW.exit ?_ | refine AW.scope ?_ | refine AW.label ?_ | refine AWL.nil ?_ | refine D.nil ?_
            | refine W.draw cx_mixed (by decide +kernel) ?_
            | ((first | (apply W.step cx_ok; decide) | (apply D.step cx_ok; decide; decide) | (apply W.gS; rfl; decide) | (apply D.gS; rfl; decide; decide)); (simp (disch := omega) only [push_cast, simprocAttr, hr] <;> rfl); all_goals try ((with_reducible intro hI); try first | (cases hI; done) | (simp only [INTS, not_true_eq_false] at hI; try first | (exfalso; omega) | (have hT : True := hI; clear hT hI))))
            | ((first | (apply W.gU; rfl; decide) | (apply D.gU; rfl; decide; decide)); (simp (disch := omega) only [push_cast, simprocAttr, hr] <;> rfl))
            | ((first | apply W.ret1 | apply W.end1); (iterate 2 (try (simp (disch := omega) only [push_cast, simprocAttr, hr] <;> rfl))))
          refine AW.region ?_
          repeat' first
            | refine AW.seq ?_ | refine AW.ret ?_ | refine AW.block ?_ | refine AW.skip ?_ | refine AW.exit ?_ | refine AW.scope ?_ | refine AW.label ?_ | refine AWL.nil ?_ | refine D.nil ?_
            | refine W.draw cx_mixed (by decide +kernel) ?_
            | ((first | (apply W.step cx_ok; decide) | (apply D.step cx_ok; decide; decide) | (apply W.gS; rfl; decide) | (apply D.gS; rfl; decide; decide)); (simp (disch := omega) only [push_cast, simprocAttr, hr, hds, hta, htb] <;> rfl); all_goals try ((with_reducible intro hI); try first | (cases hI; done) | (simp only [INTS, not_true_eq_false] at hI; try first | (exfalso; omega) | (have hT : True := hI; clear hT hI))))
            | ((first | (apply W.gU; rfl; decide) | (apply D.gU; rfl; decide; decide)); (simp (disch := omega) only [push_cast, simprocAttr, hr, hds, hta, htb] <;> rfl))
            | ((first | (apply W.callv cx_ok; decide) | (apply D.callv cx_ok; decide; decide)); (iterate 2 (simp (disch := omega) only [push_cast, simprocAttr, hr, hds, hta, htb] <;> rfl)); (with_reducible first | exact right_ok _ hn | exact Time_ok _); try first | rfl | (simp (disch := omega) only [push_cast, simprocAttr, hr, hds, hta, htb] <;> rfl))
            | ((first | apply W.ret1 | apply W.end1); (iterate 2 (try (simp (disch := omega) only [push_cast, simprocAttr, hr, hds, hta, htb] <;> rfl))))
          (apply AW.cond; (simp (disch := omega) only [push_cast, simprocAttr] <;> rfl); all_goals try ((with_reducible intro hI); try first | (cases hI; done) | (simp only [INTS, not_true_eq_false] at hI; try first | (exfalso; omega) | (have hT : True := hI; clear hT hI))))
          repeat' first
            | refine AW.seq ?_ | refine AW.ret ?_ | refine AW.block ?_ | refine AW.skip ?_ | refine AW.exit ?_ | refine AW.scope ?_ | refine AW.label ?_ | refine AWL.nil ?_ | refine D.nil ?_
            | refine W.draw cx_mixed (by decide +kernel) ?_
            | ((first | (apply W.step cx_ok; decide) | (apply D.step cx_ok; decide; decide) | (apply W.gS; rfl; decide) | (apply D.gS; rfl; decide; decide)); (simp (disch := omega) only [push_cast, simprocAttr] <;> rfl); all_goals try ((with_reducible intro hI); try first | (cases hI; done) | (simp only [INTS, not_true_eq_false] at hI; try first | (exfalso; omega) | (have hT : True := hI; clear hT hI))))
            | ((first | (apply W.gU; rfl; decide) | (apply D.gU; rfl; decide; decide)); (simp (disch := omega) only [push_cast, simprocAttr] <;> rfl))
            | ((first | apply W.ret1 | apply W.end1); (iterate 2 (try (simp (disch := omega) only [push_cast, simprocAttr] <;> rfl))))
          refine AW.region ?_
          repeat' first
            | refine AW.seq ?_ | refine AW.ret ?_ | refine AW.block ?_ | refine AW.skip ?_ | refine AW.exit ?_ | refine AW.scope ?_ | refine AW.label ?_ | refine AWL.nil ?_ | refine D.nil ?_
            | refine W.draw cx_mixed (by decide +kernel) ?_
            | ((first | (apply W.step cx_ok; decide) | (apply D.step cx_ok; decide; decide) | (apply W.gS; rfl; decide) | (apply D.gS; rfl; decide; decide)); (simp (disch := omega) only [push_cast, simprocAttr, hDr, oN, oL, oI] <;> rfl); all_goals try ((with_reducible intro hI); try first | (cases hI; done) | (simp only [INTS, not_true_eq_false] at hI; try first | (exfalso; omega) | (have hT : True := hI; clear hT hI))))
            | ((first | (apply W.gU; rfl; decide) | (apply D.gU; rfl; decide; decide)); (simp (disch := omega) only [push_cast, simprocAttr, hDr, oN, oL, oI] <;> rfl))
            | ((first | (apply W.callv cx_ok; decide) | (apply D.callv cx_ok; decide; decide)); (iterate 2 (simp (disch := omega) only [push_cast, simprocAttr, hDr, oN, oL, oI] <;> rfl)); (with_reducible first | exact some_ok _ _ (by omega)); try first | rfl | (simp (disch := omega) only [push_cast, simprocAttr, hDr, oN, oL, oI] <;> rfl))
            | ((first | apply W.ret1 | apply W.end1); (iterate 2 (try (simp (disch := omega) only [push_cast, simprocAttr, hDr, oN, oL, oI] <;> rfl))))
          refine AW.region ?_
          repeat' first
            | refine AW.seq ?_ | refine AW.ret ?_ | refine AW.block ?_ | refine AW.skip ?_ | refine AW.exit ?_ | refine AW.scope ?_ | refine AW.label ?_ | refine AWL.nil ?_ | refine D.nil ?_
            | refine W.draw cx_mixed (by decide +kernel) ?_
            | ((first | (apply W.step cx_ok; decide) | (apply D.step cx_ok; decide; decide) | (apply W.gS; rfl; decide) | (apply D.gS; rfl; decide; decide)); (simp (disch := omega) only [push_cast, simprocAttr, hDr, oN, oL, oI] <;> rfl); all_goals try ((with_reducible intro hI); try first | (cases hI; done) | (simp only [INTS, not_true_eq_false] at hI; try first | (exfalso; omega) | (have hT : True := hI; clear hT hI))))
            | ((first | (apply W.gU; rfl; decide) | (apply D.gU; rfl; decide; decide)); (simp (disch := omega) only [push_cast, simprocAttr, hDr, oN, oL, oI] <;> rfl))
            | ((first | (apply W.callv cx_ok; decide) | (apply D.callv cx_ok; decide; decide)); (iterate 2 (simp (disch := omega) only [push_cast, simprocAttr, hDr, oN, oL, oI] <;> rfl)); (with_reducible first | exact NextOpen_ok _ _ _ hfit); try first | rfl | (simp (disch := omega) only [push_cast, simprocAttr, hDr, oN, oL, oI] <;> rfl))
            | ((first | apply W.ret1 | apply W.end1); (iterate 2 (try (simp (disch := omega) only [push_cast, simprocAttr, hDr, oN, oL, oI] <;> rfl))))
          refine AW.region ?_
          repeat' first
            | refine AW.seq ?_ | refine AW.ret ?_ | refine AW.block ?_ | refine AW.skip ?_ | refine AW.exit ?_ | refine AW.scope ?_ | refine AW.label ?_ | refine AWL.nil ?_ | refine D.nil ?_
            | refine W.draw cx_mixed (by decide +kernel) ?_
            | ((first | (apply W.step cx_ok; decide) | (apply D.step cx_ok; decide; decide) | (apply W.gS; rfl; decide) | (apply D.gS; rfl; decide; decide)); (simp (disch := omega) only [push_cast, simprocAttr, hDr, oN, oL, oI] <;> rfl); all_goals try ((with_reducible intro hI); try first | (cases hI; done) | (simp only [INTS, not_true_eq_false] at hI; try first | (exfalso; omega) | (have hT : True := hI; clear hT hI))))
            | ((first | (apply W.gU; rfl; decide) | (apply D.gU; rfl; decide; decide)); (simp (disch := omega) only [push_cast, simprocAttr, hDr, oN, oL, oI] <;> rfl))
            | ((first | (apply W.callv cx_ok; decide) | (apply D.callv cx_ok; decide; decide)); (iterate 2 (simp (disch := omega) only [push_cast, simprocAttr, hDr, oN, oL, oI] <;> rfl)); (with_reducible first | exact LastOpen_ok _ _ _ hfit); try first | rfl | (simp (disch := omega) only [push_cast, simprocAttr, hDr, oN, oL, oI] <;> rfl))
            | ((first | apply W.ret1 | apply W.end1); (iterate 2 (try (simp (disch := omega) only [push_cast, simprocAttr, hDr, oN, oL, oI] <;> rfl))))
          refine AW.region ?_
          repeat' first
            | refine AW.seq ?_ | refine AW.ret ?_ | refine AW.block ?_ | refine AW.skip ?_ | refine AW.exit ?_ | refine AW.scope ?_ | refine AW.label ?_ | refine AWL.nil ?_ | refine D.nil ?_
            | refine W.draw cx_mixed (by decide +kernel) ?_
            | ((first | (apply W.step cx_ok; decide) | (apply D.step cx_ok; decide; decide) | (apply W.gS; rfl; decide) | (apply D.gS; rfl; decide; decide)); (simp (disch := omega) only [push_cast, simprocAttr, hDr, oN, oL, oI] <;> rfl); all_goals try ((with_reducible intro hI); try first | (cases hI; done) | (simp only [INTS, not_true_eq_false] at hI; try first | (exfalso; omega) | (have hT : True := hI; clear hT hI))))
            | ((first | (apply W.gU; rfl; decide) | (apply D.gU; rfl; decide; decide)); (simp (disch := omega) only [push_cast, simprocAttr, hDr, oN, oL, oI] <;> rfl))
            | ((first | (apply W.callv cx_ok; decide) | (apply D.callv cx_ok; decide; decide)); (iterate 2 (simp (disch := omega) only [push_cast, simprocAttr, hDr, oN, oL, oI] <;> rfl)); (with_reducible first | exact IsOpen_ok _ _ _ hfit); try first | rfl | (simp (disch := omega) only [push_cast, simprocAttr, hDr, oN, oL, oI] <;> rfl))
            | ((first | apply W.ret1 | apply W.end1); (iterate 2 (try (simp (disch := omega) only [push_cast, simprocAttr, hDr, oN, oL, oI] <;> rfl))))
          refine AW.mid (I := fun s => 2 ≤ s.nx ∧ s.tm 3 = ai u ∧ s.tm 5 = .ptr 0 0 0 1 ∧ s.tm 9 = .ptr 1 0 0 1 ∧ s.tm 11 = ai Dr ∧ s.tm 16 = ab W0 ∧ s.tm 14 = ai Y ∧ s.tm 117 = ab false ∧ s.tm 12 = ai X ∧ Pg.rowAt s.H 0 = some { k := 3, es := [eHouse h], ty := 26 } ∧ Pg.rowAt s.H 1 = some { k := 2, es := [eSpan sp], ty := 38 }) ?_ ?_
          rotate_left
          · cases W0
            ·
              repeat' first
                | apply AW.seq | apply AW.region | apply AW.ret | apply AW.block | apply AW.skip | apply AW.exit | apply AW.scope | apply AW.label | apply AWL.nil | apply D.nil
                | refine W.draw cx_mixed (by decide +kernel) ?_
                | ((first | (apply W.step cx_ok; decide) | (apply D.step cx_ok; decide; decide) | (apply W.gS; rfl; decide) | (apply D.gS; rfl; decide; decide) | apply AW.cond); (simp (disch := omega) only [push_cast, simprocAttr, hDr, oN, oL, oI] <;> rfl); all_goals try ((with_reducible intro hI); try first | (cases hI; done) | (simp only [INTS, not_true_eq_false] at hI; try first | (exfalso; omega) | (have hT : True := hI; clear hT hI))))
                | ((first | (apply W.gU; rfl; decide) | (apply D.gU; rfl; decide; decide)); (simp (disch := omega) only [push_cast, simprocAttr, hDr, oN, oL, oI] <;> rfl))
                | ((first | apply W.ret1 | apply W.end1); (iterate 2 (try (simp (disch := omega) only [push_cast, simprocAttr, hDr, oN, oL, oI] <;> rfl))))
              all_goals (refine ⟨?_, ?_, ?_, ?_, ?_, ?_, ?_, ?_, ?_, ?_, ?_⟩; all_goals first | (simp (disch := omega) only [push_cast, simprocAttr, hDr, oN, oL, oI] <;> first | rfl | omega) | omega)
            ·
              have nu' := fun a b c => nu a b c hW0
              have lu' := fun a b c => lu a b c hW0
              have nu2 : ¬ (t ≤ u ∧ u < X) := fun hh => nu' hh.1 hh.2 (by omega)
              have lu2 : ¬ (u ≤ t ∧ Y < u) := fun hh => lu' hh.1 hh.2 (by omega)
              have nu3 : t ≤ u → (u < X) = False := fun h => eq_false fun g => nu2 ⟨h, g⟩
              have lu3 : u ≤ t → (Y < u) = False := fun h => eq_false fun g => lu2 ⟨h, g⟩
              repeat' first
                | apply AW.seq | apply AW.region | apply AW.ret | apply AW.block | apply AW.skip | apply AW.exit | apply AW.scope | apply AW.label | apply AWL.nil | apply D.nil
                | refine W.draw cx_mixed (by decide +kernel) ?_
                | ((first | (apply W.step cx_ok; decide) | (apply D.step cx_ok; decide; decide) | (apply W.gS; rfl; decide) | (apply D.gS; rfl; decide; decide) | apply AW.cond); (simp (disch := omega) only [push_cast, simprocAttr, hDr, oN, oL, oI, nu3, lu3] <;> rfl); all_goals try ((with_reducible intro hI); try first | (cases hI; done) | (simp only [INTS, not_true_eq_false] at hI; try first | (exfalso; omega) | (have hT : True := hI; clear hT hI))))
                | ((first | (apply W.gU; rfl; decide) | (apply D.gU; rfl; decide; decide)); (simp (disch := omega) only [push_cast, simprocAttr, hDr, oN, oL, oI, nu3, lu3] <;> rfl))
                | ((first | apply W.ret1 | apply W.end1); (iterate 2 (try (simp (disch := omega) only [push_cast, simprocAttr, hDr, oN, oL, oI, nu3, lu3] <;> rfl))))
              all_goals (refine ⟨?_, ?_, ?_, ?_, ?_, ?_, ?_, ?_, ?_, ?_, ?_⟩; all_goals first | (simp (disch := omega) only [push_cast, simprocAttr, hDr, oN, oL, oI, nu3, lu3] <;> first | rfl | omega) | omega)
          rintro s ⟨hnl, hS⟩
          have hZ : (0 : Nat) ≠ s.nx ∧ s.nx ≠ (0 : Nat) ∧ (1 : Nat) ≠ s.nx ∧ s.nx ≠ (1 : Nat) := by omega
          (apply AW.cond; (simp (disch := omega) only [push_cast, simprocAttr, hS, hZ, oX, oY, oO] <;> rfl); all_goals try ((with_reducible intro hI); try first | (cases hI; done) | (simp only [INTS, not_true_eq_false] at hI; try first | (exfalso; omega) | (have hT : True := hI; clear hT hI))))
          repeat' first
            | apply AW.seq | apply AW.region | apply AW.ret | apply AW.block | apply AW.skip | apply AW.exit | apply AW.scope | apply AW.label | apply AWL.nil | apply D.nil
            | refine W.draw cx_mixed (by decide +kernel) ?_
            | ((first | (apply W.step cx_ok; decide) | (apply D.step cx_ok; decide; decide) | (apply W.gS; rfl; decide) | (apply D.gS; rfl; decide; decide)); (simp (disch := omega) only [push_cast, simprocAttr, hS, hZ, oX, oY, oO] <;> rfl); all_goals try ((with_reducible intro hI); try first | (cases hI; done) | (simp only [INTS, not_true_eq_false] at hI; try first | (exfalso; omega) | (have hT : True := hI; clear hT hI))))
            | ((first | (apply W.gU; rfl; decide) | (apply D.gU; rfl; decide; decide)); (simp (disch := omega) only [push_cast, simprocAttr, hS, hZ, oX, oY, oO] <;> rfl))
            | ((first | apply W.ret1 | apply W.end1); (iterate 2 (try (simp (disch := omega) only [push_cast, simprocAttr, hS, hZ, oX, oY, oO] <;> rfl))))
          refine AW.mid (I := fun s => 2 ≤ s.nx ∧ s.tm 3 = ai u ∧ s.tm 5 = .ptr 0 0 0 1 ∧ s.tm 9 = .ptr 1 0 0 1 ∧ s.tm 11 = ai Dr ∧ s.tm 16 = ab W0 ∧ s.tm 14 = ai Y ∧ Pg.rowAt s.H 0 = some { k := 3, es := [eHouse h], ty := 26 } ∧ Pg.rowAt s.H 1 = some { k := 2, es := [eSpan sp], ty := 38 }) ?_ ?_
          rotate_left
          ·
            (apply AW.cond; (simp (disch := omega) only [push_cast, simprocAttr, hS, hZ, oX, oY, oO] <;> rfl); all_goals try ((with_reducible intro hI); try first | (cases hI; done) | (simp only [INTS, not_true_eq_false] at hI; try first | (exfalso; omega) | (have hT : True := hI; clear hT hI))))
            repeat' first
              | apply AW.seq | apply AW.region | apply AW.ret | apply AW.block | apply AW.skip | apply AW.exit | apply AW.scope | apply AW.label | apply AWL.nil | apply D.nil
              | refine W.draw cx_mixed (by decide +kernel) ?_
              | ((first | (apply W.step cx_ok; decide) | (apply D.step cx_ok; decide; decide) | (apply W.gS; rfl; decide) | (apply D.gS; rfl; decide; decide) | apply AW.cond); (simp (disch := omega) only [push_cast, simprocAttr, hS, hZ, oX, oY, oO] <;> rfl); all_goals try ((with_reducible intro hI); try first | (cases hI; done) | (simp only [INTS, not_true_eq_false] at hI; try first | (exfalso; omega) | (have hT : True := hI; clear hT hI))))
              | ((first | (apply W.gU; rfl; decide) | (apply D.gU; rfl; decide; decide)); (simp (disch := omega) only [push_cast, simprocAttr, hS, hZ, oX, oY, oO] <;> rfl))
              | ((first | (apply W.callv cx_ok; decide) | (apply D.callv cx_ok; decide; decide)); (iterate 2 (simp (disch := omega) only [push_cast, simprocAttr, hS, hZ, oX, oY, oO] <;> rfl)); (with_reducible first | exact IsOpen_ok _ _ _ hfit); try first | rfl | (simp (disch := omega) only [push_cast, simprocAttr, hS, hZ, oX, oY, oO] <;> rfl))
              | ((first | apply W.ret1 | apply W.end1); (iterate 2 (try (simp (disch := omega) only [push_cast, simprocAttr, hS, hZ, oX, oY, oO] <;> rfl))))
            all_goals (refine ⟨?_, ?_, ?_, ?_, ?_, ?_, ?_, ?_, ?_⟩; all_goals first | (simp (disch := omega) only [push_cast, simprocAttr, hS, hZ, oX, oY, oO] <;> first | rfl | omega) | omega)
          clear hS hZ hnl
          rintro s1 ⟨hnl, hS⟩
          have hZ : (0 : Nat) ≠ s1.nx ∧ s1.nx ≠ (0 : Nat) ∧ (1 : Nat) ≠ s1.nx ∧ s1.nx ≠ (1 : Nat) := by omega
          repeat' first
            | apply AW.seq | apply AW.region | apply AW.ret | apply AW.block | apply AW.skip | apply AW.exit | apply AW.scope | apply AW.label | apply AWL.nil | apply D.nil
            | refine W.draw cx_mixed (by decide +kernel) ?_
            | ((first | (apply W.step cx_ok; decide) | (apply D.step cx_ok; decide; decide) | (apply W.gS; rfl; decide) | (apply D.gS; rfl; decide; decide)); (simp (disch := omega) only [push_cast, simprocAttr, hS, hZ, oX, oY, oO] <;> rfl); all_goals try ((with_reducible intro hI); try first | (cases hI; done) | (simp only [INTS, not_true_eq_false] at hI; try first | (exfalso; omega) | (have hT : True := hI; clear hT hI))))
            | ((first | (apply W.gU; rfl; decide) | (apply D.gU; rfl; decide; decide)); (simp (disch := omega) only [push_cast, simprocAttr, hS, hZ, oX, oY, oO] <;> rfl))
            | ((first | apply W.ret1 | apply W.end1); (iterate 2 (try (simp (disch := omega) only [push_cast, simprocAttr, hS, hZ, oX, oY, oO] <;> rfl))))
          refine AW.mid (I := fun s => 2 ≤ s.nx ∧ s.tm 3 = ai u ∧ s.tm 5 = .ptr 0 0 0 1 ∧ s.tm 9 = .ptr 1 0 0 1 ∧ s.tm 11 = ai Dr ∧ s.tm 16 = ab W0 ∧ Pg.rowAt s.H 0 = some { k := 3, es := [eHouse h], ty := 26 } ∧ Pg.rowAt s.H 1 = some { k := 2, es := [eSpan sp], ty := 38 }) ?_ ?_
          rotate_left
          ·
            (apply AW.cond; (simp (disch := omega) only [push_cast, simprocAttr, hS, hZ, oX, oY, oO] <;> rfl); all_goals try ((with_reducible intro hI); try first | (cases hI; done) | (simp only [INTS, not_true_eq_false] at hI; try first | (exfalso; omega) | (have hT : True := hI; clear hT hI))))
            repeat' first
              | apply AW.seq | apply AW.region | apply AW.ret | apply AW.block | apply AW.skip | apply AW.exit | apply AW.scope | apply AW.label | apply AWL.nil | apply D.nil
              | refine W.draw cx_mixed (by decide +kernel) ?_
              | ((first | (apply W.step cx_ok; decide) | (apply D.step cx_ok; decide; decide) | (apply W.gS; rfl; decide) | (apply D.gS; rfl; decide; decide) | apply AW.cond); (simp (disch := omega) only [push_cast, simprocAttr, hS, hZ, oX, oY, oO] <;> rfl); all_goals try ((with_reducible intro hI); try first | (cases hI; done) | (simp only [INTS, not_true_eq_false] at hI; try first | (exfalso; omega) | (have hT : True := hI; clear hT hI))))
              | ((first | (apply W.gU; rfl; decide) | (apply D.gU; rfl; decide; decide)); (simp (disch := omega) only [push_cast, simprocAttr, hS, hZ, oX, oY, oO] <;> rfl))
              | ((first | (apply W.callv cx_ok; decide) | (apply D.callv cx_ok; decide; decide)); (iterate 2 (simp (disch := omega) only [push_cast, simprocAttr, hS, hZ, oX, oY, oO] <;> rfl)); (with_reducible first | exact IsOpen_ok _ _ _ hfit); try first | rfl | (simp (disch := omega) only [push_cast, simprocAttr, hS, hZ, oX, oY, oO] <;> rfl))
              | ((first | apply W.ret1 | apply W.end1); (iterate 2 (try (simp (disch := omega) only [push_cast, simprocAttr, hS, hZ, oX, oY, oO] <;> rfl))))
            all_goals (refine ⟨?_, ?_, ?_, ?_, ?_, ?_, ?_, ?_⟩; all_goals first | (simp (disch := omega) only [push_cast, simprocAttr, hS, hZ, oX, oY, oO] <;> first | rfl | omega) | omega)
          clear hS hZ hnl
          rintro s0 ⟨hnl, hS⟩
          have hZ : (0 : Nat) ≠ s0.nx ∧ s0.nx ≠ (0 : Nat) ∧ (1 : Nat) ≠ s0.nx ∧ s0.nx ≠ (1 : Nat) := by omega
          by_cases hee : ee = 0
          ·
            have hB := hop.1 hee
            have hap := hB.1.apart
            have hfin : O.any (inU u) = (W0 && (decide (sp.lo ≤ u) && decide (u ≤ sp.hi))) := by
              rw [← hW0, Bool.eq_iff_iff, List.any_eq_true]
              have h1 := hB.1.is u
              unfold cov at h1
              simp only [inU, Bool.and_eq_true, decide_eq_true_eq]
              rw [h1]
              constructor
              · rintro ⟨a, b, c⟩; exact ⟨a, b, by omega⟩
              · rintro ⟨a, b, c⟩; exact ⟨a, b, by omega⟩
            have hbd : ∀ y ∈ O, 0 ≤ y.lo ∧ y.hi ≤ 1073741823 := hB.2
            have hol : (O.length : Int) ≤ 1099511627776 := by have := openingsH_len h Dr sp; rw [hO] at this; omega
            repeat' first
              | apply AW.seq | apply AW.region | apply AW.ret | apply AW.block | apply AW.skip | apply AW.exit | apply AW.scope | apply AW.label | apply AWL.nil | apply D.nil
              | refine W.draw cx_mixed (by decide +kernel) ?_
              | ((first | (apply W.step cx_ok; decide) | (apply D.step cx_ok; decide; decide) | (apply W.gS; rfl; decide) | (apply D.gS; rfl; decide; decide) | apply AW.cond); (simp (disch := omega) only [push_cast, simprocAttr, hS, hZ, oO, hee] <;> rfl); all_goals try ((with_reducible intro hI); try first | (cases hI; done) | (simp only [INTS, not_true_eq_false] at hI; try first | (exfalso; omega) | (have hT : True := hI; clear hT hI))))
              | ((first | (apply W.gU; rfl; decide) | (apply D.gU; rfl; decide; decide)); (simp (disch := omega) only [push_cast, simprocAttr, hS, hZ, oO, hee] <;> rfl))
              | ((first | (apply W.callv cx_ok; decide) | (apply D.callv cx_ok; decide; decide)); (iterate 2 (simp (disch := omega) only [push_cast, simprocAttr, hS, hZ, oO, hee] <;> rfl)); (with_reducible first | exact Openings_ok _ _ _ hfit); try first | rfl | (simp (disch := omega) only [push_cast, simprocAttr, hS, hZ, oO, hee] <;> rfl))
              | ((first | apply W.ret1 | apply W.end1); (iterate 2 (try (simp (disch := omega) only [push_cast, simprocAttr, hS, hZ, oO, hee] <;> rfl))))
            refine AW.loop (fun n s => ∃ (k : Nat) (tld : Bool) (rest : List Span), n = rest.length ∧ (O.drop k = rest) ∧ ((tld || rest.any (inU u)) = O.any (inU u)) ∧ 2 ≤ s.nx ∧ s.tm 3 = ai u ∧ s.tm 9 = .ptr 1 0 0 1 ∧ s.tm 16 = ab W0 ∧ s.tm 22 = lSpan O ∧ s.tm 24 = ab tld ∧ s.tm 25 = ai k ∧ Pg.rowAt s.H (1) = some ({ k := 2, es := [eSpan sp], ty := 38 })) (O.length) ⟨0, false, O, rfl, rfl, (Bool.false_or _), ?_, ?_, ?_, ?_, ?_, ?_, ?_, ?_⟩ ?_
            iterate 8 (first | (simp (disch := omega) only [push_cast, simprocAttr, hS, hZ, oO, hee] <;> first | rfl | omega) | omega)
            rintro n1 s1 ⟨k1, tld1, rest1, hn1, hp01, hp11, hnl1, hS1⟩
            have hZ1 : (1 : Nat) ≠ s1.nx ∧ s1.nx ≠ (1 : Nat) := by omega
            rcases rest1 with _ | ⟨x, rest1⟩
            · have hk := drop_nil hp01
              have htf : tld1 = O.any (inU u) := by simpa using hp11
              rw [hfin] at htf
              subst htf
              repeat' first
                | apply AW.seq | apply AW.region | apply AW.ret | apply AW.block | apply AW.skip | apply AW.exit | apply AW.scope | apply AW.label | apply AWL.nil | apply D.nil
                | refine W.draw cx_mixed (by decide +kernel) ?_
                | ((first | (apply W.step cx_ok; decide) | (apply D.step cx_ok; decide; decide) | (apply W.gS; rfl; decide) | (apply D.gS; rfl; decide; decide) | apply AW.cond); (simp (disch := omega) only [push_cast, simprocAttr, hS1, hZ1, hk] <;> rfl); all_goals try ((with_reducible intro hI); try first | (cases hI; done) | (simp only [INTS, not_true_eq_false] at hI; try first | (exfalso; omega) | (have hT : True := hI; clear hT hI))))
                | ((first | (apply W.gU; rfl; decide) | (apply D.gU; rfl; decide; decide)); (simp (disch := omega) only [push_cast, simprocAttr, hS1, hZ1, hk] <;> rfl))
                | ((first | (apply W.callv cx_ok; decide) | (apply D.callv cx_ok; decide; decide)); (iterate 2 (simp (disch := omega) only [push_cast, simprocAttr, hS1, hZ1, hk] <;> rfl)); (with_reducible first | exact In_ok _ _ _ | exact sanity_ok); try first | rfl | (simp (disch := omega) only [push_cast, simprocAttr, hS1, hZ1, hk] <;> rfl))
                | ((first | apply W.ret1 | apply W.end1); (iterate 2 (try (simp (disch := omega) only [push_cast, simprocAttr, hS1, hZ1, hk] <;> rfl))))
              all_goals (show _ = _; first | rfl | (simp_all; done))
            · obtain ⟨hk, hg, hd', hl', hm, hx⟩ := drop_cons hp01 eSpan []
              have hxb := hbd x hm
              have hxl := hap.le x hm
              have hnx : ¬ (x.hi < x.lo) := by omega
              have hnew : ((tld1 || inU u x) || rest1.any (inU u)) = O.any (inU u) := by rw [← hp11, List.any_cons, Bool.or_assoc]
              by_cases hk0 : 0 < k1
              · have z1 : (0 : Int) < (k1 : Int) := by omega
                have z2 : max ((k1 : Int) - 1) 0 = (k1 : Int) - 1 := by omega
                have z3 : (0 : Int) ≤ (k1 : Int) - 1 := by omega
                have z4 : (k1 : Int) - 1 < (O.length : Int) := by omega
                have z5 : ((k1 : Int) - 1).toNat = k1 - 1 := by omega
                have z6 : k1 - 1 < O.length := by omega
                have z7 := getD_eSpan O (k1 - 1) z6
                have z8 := get_eSpan O (k1 - 1) z6
                have z10 := apart_prev hap hp01 hk0
                have z11 : O.getD (k1 - 1) ⟨0, 0⟩ ∈ O := by
                  rw [List.getD_eq_getElem?_getD, List.getElem?_eq_getElem z6]; exact List.getElem_mem _
                have z12 := hbd _ z11
                have z13 := hap.le _ z11
                generalize O.getD (k1 - 1) ⟨0, 0⟩ = y at z7 z8 z10 z12 z13
                have z9 : ¬ (x.lo ≤ y.hi + 1) := by omega
                repeat' first
                  | apply AW.seq | apply AW.region | apply AW.ret | apply AW.block | apply AW.skip | apply AW.exit | apply AW.scope | apply AW.label | apply AWL.nil | apply D.nil
                  | refine W.draw cx_mixed (by decide +kernel) ?_
                  | ((first | (apply W.step cx_ok; decide) | (apply D.step cx_ok; decide; decide) | (apply W.gS; rfl; decide) | (apply D.gS; rfl; decide; decide) | apply AW.cond); (simp (disch := omega) only [push_cast, simprocAttr, hS1, hZ1, hk, hg, hx, hnx, z1, z2, z3, z4, z5, z6, z7, z8, z9] <;> rfl); all_goals try ((with_reducible intro hI); try first | (cases hI; done) | (simp only [INTS, not_true_eq_false] at hI; try first | (exfalso; omega) | (have hT : True := hI; clear hT hI))))
                  | ((first | (apply W.gU; rfl; decide) | (apply D.gU; rfl; decide; decide)); (simp (disch := omega) only [push_cast, simprocAttr, hS1, hZ1, hk, hg, hx, hnx, z1, z2, z3, z4, z5, z6, z7, z8, z9] <;> rfl))
                  | ((first | (apply W.callv cx_ok; decide) | (apply D.callv cx_ok; decide; decide)); (iterate 2 (simp (disch := omega) only [push_cast, simprocAttr, hS1, hZ1, hk, hg, hx, hnx, z1, z2, z3, z4, z5, z6, z7, z8, z9] <;> rfl)); (with_reducible first | exact In_ok _ _ _); try first | rfl | (simp (disch := omega) only [push_cast, simprocAttr, hS1, hZ1, hk, hg, hx, hnx, z1, z2, z3, z4, z5, z6, z7, z8, z9] <;> rfl))
                  | ((first | apply W.ret1 | apply W.end1); (iterate 2 (try (simp (disch := omega) only [push_cast, simprocAttr, hS1, hZ1, hk, hg, hx, hnx, z1, z2, z3, z4, z5, z6, z7, z8, z9] <;> rfl))))
                all_goals (cases tld1 <;> first | (refine ⟨rest1.length, ?_, k1 + 1, (_ || inU u x), rest1, rfl, hd', hnew, ?_, ?_, ?_, ?_, ?_, ?_, ?_, ?_⟩; ((simp only [List.length_cons] at *; omega)); all_goals first | (simp (disch := omega) only [push_cast, simprocAttr, hS1, hZ1, hk, hg, hx, hnx, z1, z2, z3, z4, z5, z6, z7, z8, z9, inU, Bool.true_or, Bool.false_or] <;> first | rfl | omega) | omega) | (exfalso; simp_all; done))
              · have z1 : ((0 : Int) < (k1 : Int)) = False := eq_false (by omega)
                repeat' first
                  | apply AW.seq | apply AW.region | apply AW.ret | apply AW.block | apply AW.skip | apply AW.exit | apply AW.scope | apply AW.label | apply AWL.nil | apply D.nil
                  | refine W.draw cx_mixed (by decide +kernel) ?_
                  | ((first | (apply W.step cx_ok; decide) | (apply D.step cx_ok; decide; decide) | (apply W.gS; rfl; decide) | (apply D.gS; rfl; decide; decide) | apply AW.cond); (simp (disch := omega) only [push_cast, simprocAttr, hS1, hZ1, hk, hg, hx, hnx, z1] <;> rfl); all_goals try ((with_reducible intro hI); try first | (cases hI; done) | (simp only [INTS, not_true_eq_false] at hI; try first | (exfalso; omega) | (have hT : True := hI; clear hT hI))))
                  | ((first | (apply W.gU; rfl; decide) | (apply D.gU; rfl; decide; decide)); (simp (disch := omega) only [push_cast, simprocAttr, hS1, hZ1, hk, hg, hx, hnx, z1] <;> rfl))
                  | ((first | (apply W.callv cx_ok; decide) | (apply D.callv cx_ok; decide; decide)); (iterate 2 (simp (disch := omega) only [push_cast, simprocAttr, hS1, hZ1, hk, hg, hx, hnx, z1] <;> rfl)); (with_reducible first | exact In_ok _ _ _); try first | rfl | (simp (disch := omega) only [push_cast, simprocAttr, hS1, hZ1, hk, hg, hx, hnx, z1] <;> rfl))
                  | ((first | apply W.ret1 | apply W.end1); (iterate 2 (try (simp (disch := omega) only [push_cast, simprocAttr, hS1, hZ1, hk, hg, hx, hnx, z1] <;> rfl))))
                all_goals (cases tld1 <;> first | (refine ⟨rest1.length, ?_, k1 + 1, (_ || inU u x), rest1, rfl, hd', hnew, ?_, ?_, ?_, ?_, ?_, ?_, ?_, ?_⟩; ((simp only [List.length_cons] at *; omega)); all_goals first | (simp (disch := omega) only [push_cast, simprocAttr, hS1, hZ1, hk, hg, hx, hnx, z1, inU, Bool.true_or, Bool.false_or] <;> first | rfl | omega) | omega) | (exfalso; simp_all; done))
          ·
            have hOn : O = [] := hop.2 hee
            subst hOn
            repeat' first
              | apply AW.seq | apply AW.region | apply AW.ret | apply AW.block | apply AW.skip | apply AW.exit | apply AW.scope | apply AW.label | apply AWL.nil | apply D.nil
              | refine W.draw cx_mixed (by decide +kernel) ?_
              | ((first | (apply W.step cx_ok; decide) | (apply D.step cx_ok; decide; decide) | (apply W.gS; rfl; decide) | (apply D.gS; rfl; decide; decide) | apply AW.cond); (simp (disch := omega) only [push_cast, simprocAttr, hS, hZ, oO, hee, List.length_nil] <;> rfl); all_goals try ((with_reducible intro hI); try first | (cases hI; done) | (simp only [INTS, not_true_eq_false] at hI; try first | (exfalso; omega) | (have hT : True := hI; clear hT hI))))
              | ((first | (apply W.gU; rfl; decide) | (apply D.gU; rfl; decide; decide)); (simp (disch := omega) only [push_cast, simprocAttr, hS, hZ, oO, hee, List.length_nil] <;> rfl))
              | ((first | (apply W.callv cx_ok; decide) | (apply D.callv cx_ok; decide; decide)); (iterate 2 (simp (disch := omega) only [push_cast, simprocAttr, hS, hZ, oO, hee, List.length_nil] <;> rfl)); (with_reducible first | exact Openings_ok _ _ _ hfit | exact sanity_ok); try first | rfl | (simp (disch := omega) only [push_cast, simprocAttr, hS, hZ, oO, hee, List.length_nil] <;> rfl))
              | ((first | apply W.ret1 | apply W.end1); (iterate 2 (try (simp (disch := omega) only [push_cast, simprocAttr, hS, hZ, oO, hee, List.length_nil] <;> rfl))))
            all_goals first | (show _ = _; first | rfl | (simp_all; done)) | (exfalso; omega)
        ·
          have htb' : (decide (0 ≤ u) && decide (u ≤ 1073741823)) = false := by simpa using htb
          refine OKat.of_body (rs := [10]) Tryd.func19 rfl (by decide +kernel) rfl (by simp [Tryd.ntmps19]) ?_
          simp only [Tryd.ntmps19]
          repeat' first
            | apply AW.seq | apply AW.region | apply AW.ret | apply AW.block | apply AW.skip | apply AW.exit | apply AW.scope | apply AW.label | apply AWL.nil | apply D.nil
            | refine W.draw cx_mixed (by decide +kernel) ?_
            | ((first | (apply W.step cx_ok; decide) | (apply D.step cx_ok; decide; decide) | (apply W.gS; rfl; decide) | (apply D.gS; rfl; decide; decide) | apply AW.cond); (simp (disch := omega) only [push_cast, simprocAttr, hr, hds, hta, htb'] <;> rfl); all_goals try ((with_reducible intro hI); try first | (cases hI; done) | (simp only [INTS, not_true_eq_false] at hI; try first | (exfalso; omega) | (have hT : True := hI; clear hT hI))))
            | ((first | (apply W.gU; rfl; decide) | (apply D.gU; rfl; decide; decide)); (simp (disch := omega) only [push_cast, simprocAttr, hr, hds, hta, htb'] <;> rfl))
            | ((first | (apply W.callv cx_ok; decide) | (apply D.callv cx_ok; decide; decide)); (iterate 2 (simp (disch := omega) only [push_cast, simprocAttr, hr, hds, hta, htb'] <;> rfl)); (with_reducible first | exact right_ok _ hn | exact sanity_ok | exact Time_ok _); try first | rfl | (simp (disch := omega) only [push_cast, simprocAttr, hr, hds, hta, htb'] <;> rfl))
            | ((first | apply W.ret1 | apply W.end1); (iterate 2 (try (simp (disch := omega) only [push_cast, simprocAttr, hr, hds, hta, htb'] <;> rfl))))
          all_goals (show _ = _; first | rfl | (simp_all; done))
      ·
        have hta' : (decide (0 ≤ t) && decide (t ≤ 1073741823)) = false := by simpa using hta
        refine OKat.of_body (rs := [10]) Tryd.func19 rfl (by decide +kernel) rfl (by simp [Tryd.ntmps19]) ?_
        simp only [Tryd.ntmps19]
        repeat' first
          | apply AW.seq | apply AW.region | apply AW.ret | apply AW.block | apply AW.skip | apply AW.exit | apply AW.scope | apply AW.label | apply AWL.nil | apply D.nil
          | refine W.draw cx_mixed (by decide +kernel) ?_
          | ((first | (apply W.step cx_ok; decide) | (apply D.step cx_ok; decide; decide) | (apply W.gS; rfl; decide) | (apply D.gS; rfl; decide; decide) | apply AW.cond); (simp (disch := omega) only [push_cast, simprocAttr, hr, hds, hta'] <;> rfl); all_goals try ((with_reducible intro hI); try first | (cases hI; done) | (simp only [INTS, not_true_eq_false] at hI; try first | (exfalso; omega) | (have hT : True := hI; clear hT hI))))
          | ((first | (apply W.gU; rfl; decide) | (apply D.gU; rfl; decide; decide)); (simp (disch := omega) only [push_cast, simprocAttr, hr, hds, hta'] <;> rfl))
          | ((first | (apply W.callv cx_ok; decide) | (apply D.callv cx_ok; decide; decide)); (iterate 2 (simp (disch := omega) only [push_cast, simprocAttr, hr, hds, hta'] <;> rfl)); (with_reducible first | exact right_ok _ hn | exact sanity_ok | exact Time_ok _); try first | rfl | (simp (disch := omega) only [push_cast, simprocAttr, hr, hds, hta'] <;> rfl))
          | ((first | apply W.ret1 | apply W.end1); (iterate 2 (try (simp (disch := omega) only [push_cast, simprocAttr, hr, hds, hta'] <;> rfl))))
        all_goals (show _ = _; first | rfl | (simp_all; done))
    ·
      refine OKat.of_body (rs := [10]) Tryd.func19 rfl (by decide +kernel) rfl (by simp [Tryd.ntmps19]) ?_
      simp only [Tryd.ntmps19]
      repeat' first
        | apply AW.seq | apply AW.region | apply AW.ret | apply AW.block | apply AW.skip | apply AW.exit | apply AW.scope | apply AW.label | apply AWL.nil | apply D.nil
        | refine W.draw cx_mixed (by decide +kernel) ?_
        | ((first | (apply W.step cx_ok; decide) | (apply D.step cx_ok; decide; decide) | (apply W.gS; rfl; decide) | (apply D.gS; rfl; decide; decide) | apply AW.cond); (simp (disch := omega) only [push_cast, simprocAttr, hr, hds] <;> rfl); all_goals try ((with_reducible intro hI); try first | (cases hI; done) | (simp only [INTS, not_true_eq_false] at hI; try first | (exfalso; omega) | (have hT : True := hI; clear hT hI))))
        | ((first | (apply W.gU; rfl; decide) | (apply D.gU; rfl; decide; decide)); (simp (disch := omega) only [push_cast, simprocAttr, hr, hds] <;> rfl))
        | ((first | (apply W.callv cx_ok; decide) | (apply D.callv cx_ok; decide; decide)); (iterate 2 (simp (disch := omega) only [push_cast, simprocAttr, hr, hds] <;> rfl)); (with_reducible first | exact right_ok _ hn | exact sanity_ok | exact Time_ok _); try first | rfl | (simp (disch := omega) only [push_cast, simprocAttr, hr, hds] <;> rfl))
        | ((first | apply W.ret1 | apply W.end1); (iterate 2 (try (simp (disch := omega) only [push_cast, simprocAttr, hr, hds] <;> rfl))))
      all_goals (show _ = _; first | rfl | (simp_all; done))
  ·
    have hr' : (few h && decide ((Check h).1 = 0)) = false := by simpa using hr
    refine OKat.of_body (rs := [10]) Tryd.func19 rfl (by decide +kernel) rfl (by simp [Tryd.ntmps19]) ?_
    simp only [Tryd.ntmps19]
    repeat' first
      | apply AW.seq | apply AW.region | apply AW.ret | apply AW.block | apply AW.skip | apply AW.exit | apply AW.scope | apply AW.label | apply AWL.nil | apply D.nil
      | refine W.draw cx_mixed (by decide +kernel) ?_
      | ((first | (apply W.step cx_ok; decide) | (apply D.step cx_ok; decide; decide) | (apply W.gS; rfl; decide) | (apply D.gS; rfl; decide; decide) | apply AW.cond); (simp (disch := omega) only [push_cast, simprocAttr, hr'] <;> rfl); all_goals try ((with_reducible intro hI); try first | (cases hI; done) | (simp only [INTS, not_true_eq_false] at hI; try first | (exfalso; omega) | (have hT : True := hI; clear hT hI))))
      | ((first | (apply W.gU; rfl; decide) | (apply D.gU; rfl; decide; decide)); (simp (disch := omega) only [push_cast, simprocAttr, hr'] <;> rfl))
      | ((first | (apply W.callv cx_ok; decide) | (apply D.callv cx_ok; decide; decide)); (iterate 2 (simp (disch := omega) only [push_cast, simprocAttr, hr'] <;> rfl)); (with_reducible first | exact right_ok _ hn | exact sanity_ok | exact Time_ok _); try first | rfl | (simp (disch := omega) only [push_cast, simprocAttr, hr'] <;> rfl))
      | ((first | apply W.ret1 | apply W.end1); (iterate 2 (try (simp (disch := omega) only [push_cast, simprocAttr, hr'] <;> rfl))))
    all_goals (show _ = _; first | rfl | (simp_all; done))

end Go.Proofs.Hs
