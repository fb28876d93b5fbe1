/-
  Contracts of functions, proved by going through their code. No conditions.
-/
import Derived.Test.YtdlflcambboojaaVaa
import Derived.Test.YtdlflcambboojaaVax
set_option linter.unusedVariables false
set_option linter.unusedSimpArgs false
set_option maxHeartbeats 8000000
set_option maxRecDepth 10000
namespace Go.Proofs.Ks
open Go Go.Pg Go.Proofs
theorem build_a {H0 : Nat → Option AO} {nx : Nat} (r : Rec) (more : List Int) (hv : r.V) (hml : more.length ≤ 8) (hmb : ∀ a ∈ more, 0 ≤ a ∧ a ≤ 43200) {Q : AV → (Nat → Option AO) → Nat → Prop}
    (hK : ∀ (D dn : Nat) (s : St), s.tm 5 = .ptr (nx + 3) 0 0 1 → SysM s.H (nx + 2) (nx + 4) (nx + 1) (nx + 5) (nodesR r more) (linksR r more) → Pg.rowAt s.H (nx + 3) = some { k := 1, es := [[.ptr (nx + 2) 0 0 1]], ty := 122 } → (∀ j, j < nx → s.H j = H0 j) → s.H dn = some (.mp (.dfr D (some [])) 0 []) → nx + 6 ≤ dn → nx + 6 ≤ s.nx →
      AW cx 66 tail87 (fun e s' => s'.H dn = some (.mp (.dfr D (some [])) 0 []) ∧ endXt cx [.tmp 4] Q e s') s) :
    OKm cx 87 [.agg (eRec r), lInt more] H0 nx Q := by
  have hns := hv.nstrikes
  obtain ⟨_, _, hnl⟩ := linksR_ok hv hml hmb
  have hndl := nodesR_len r more
  have hso := marksR_sorted r more
  have hmk := marked_ok r more hv hml
  obtain ⟨PL, hPL⟩ : ∃ z, marksR r more = z := ⟨_, rfl⟩
  rw [hPL] at hso hmk hndl
  have hpl : PL.length ≤ 100 := by omega
  have hal : ∀ {args : List AV} {H : Nat → Option AO} {m : Nat}, args = [.ptr (nx + 2) 0 0 1, .agg (eRec r), lInt PL] → OKm cx 113 args H m _ := fun {args H m} h => h ▸ all_m r PL (g := nx + 2) (H := H) (nx := m)
  refine OKm.of_bodyXt cx_ok (rs := [.tmp 4]) Try.func87 rfl (by decide +kernel) rfl (by simp [Try.ntmps87]) ?_
  simp only [Try.ntmps87]
  refine AWx.seqS ?_
  repeat' first
    | apply jA | apply jB | apply jC | apply jD | apply jE | apply jF | apply jG | apply jH | apply jI | apply jJ
    | refine W.draw cx_mixed (by decide +kernel) ?_
    | ((first | (apply jK cx_ok; decide) | (apply jL cx_ok; decide; decide) | apply jM cx_ok | (apply jN; rfl; decide) | (apply jO; rfl; decide; decide) | apply jR | apply jS cx_ok); (simp (disch := omega) only [push_cast, simprocAttr, natNe, zI, zG, zJ] <;> rfl); all_goals try ((with_reducible intro hI); try first | (cases hI; done) | (simp only [INTS, zL] at hI; try first | (exfalso; omega) | (have hT : True := hI; clear hT hI))))
    | ((first | (apply jP; rfl; decide) | (apply jQ; rfl; decide; decide)); (simp (disch := omega) only [push_cast, simprocAttr, natNe, zI, zG, zJ] <;> rfl))
    | (refine W.makeMap cx_ok (by simp only [push_cast, simprocAttr] <;> rfl) (by decide) ?_)

  refine Pg.Stop.mk ?_
  refine AWx.seqS ?_
  repeat' first
    | apply jA | apply jB | apply jC | apply jD | apply jE | apply jF | apply jG | apply jH | apply jI | apply jJ
    | refine W.draw cx_mixed (by decide +kernel) ?_
    | ((first | (apply jK cx_ok; decide) | (apply jL cx_ok; decide; decide) | apply jM cx_ok | (apply jN; rfl; decide) | (apply jO; rfl; decide; decide) | apply jR | apply jS cx_ok); (simp (disch := omega) only [push_cast, simprocAttr, natNe, zI, zG, zJ] <;> rfl); all_goals try ((with_reducible intro hI); try first | (cases hI; done) | (simp only [INTS, zL] at hI; try first | (exfalso; omega) | (have hT : True := hI; clear hT hI))))
    | ((first | (apply jP; rfl; decide) | (apply jQ; rfl; decide; decide)); (simp (disch := omega) only [push_cast, simprocAttr, natNe, zI, zG, zJ] <;> rfl))
    | (refine W.makeMap cx_ok (by simp only [push_cast, simprocAttr] <;> rfl) (by decide) ?_)

  refine Pg.Stop.mk ?_
  refine AWx.seqS ?_
  refine AW.adoptCell (nx + 2) 0 0 2 144 (r := { k := 3, es := [[.v (.slice none 0 0), .map (nx + 1), .v (.slice none 0 0)]], ty := 135 }) (by simp (disch := omega) only [push_cast, simprocAttr, natNe, zI, zG, zJ] <;> rfl) rfl ?_
  refine AW.adoptCell (nx + 2) 0 2 3 66 (r := { k := 3, es := [[.ref (nx + 4) 0 0, .map (nx + 1), .v (.slice none 0 0)]], ty := 135 }) (by simp (disch := omega) only [push_cast, simprocAttr, natNe, zI, zG, zJ] <;> rfl) rfl ?_
  repeat' first
    | apply jA | apply jB | apply jC | apply jD | apply jE | apply jF | apply jG | apply jH | apply jI | apply jJ
    | refine W.draw cx_mixed (by decide +kernel) ?_
    | ((first | (apply jK cx_ok; decide) | (apply jL cx_ok; decide; decide) | apply jM cx_ok | (apply jN; rfl; decide) | (apply jO; rfl; decide; decide) | apply jR | apply jS cx_ok); (simp (disch := omega) only [push_cast, simprocAttr, natNe, zI, zG, zJ] <;> rfl); all_goals try ((with_reducible intro hI); try first | (cases hI; done) | (simp only [INTS, zL] at hI; try first | (exfalso; omega) | (have hT : True := hI; clear hT hI))))
    | ((first | (apply jP; rfl; decide) | (apply jQ; rfl; decide; decide)); (simp (disch := omega) only [push_cast, simprocAttr, natNe, zI, zG, zJ] <;> rfl))
    | (refine W.makeMap cx_ok (by simp only [push_cast, simprocAttr] <;> rfl) (by decide) ?_)

  refine Pg.Stop.mk ?_
  refine AWx.seqS ?_
  repeat' first
    | apply jA | apply jB | apply jC | apply jD | apply jE | apply jF | apply jG | apply jH | apply jI | apply jJ
    | refine W.draw cx_mixed (by decide +kernel) ?_
    | ((first | (apply jK cx_ok; decide) | (apply jL cx_ok; decide; decide) | apply jM cx_ok | (apply jN; rfl; decide) | (apply jO; rfl; decide; decide) | apply jR | apply jS cx_ok); (simp (disch := omega) only [push_cast, simprocAttr, natNe, zI, zG, zJ] <;> rfl); all_goals try ((with_reducible intro hI); try first | (cases hI; done) | (simp only [INTS, zL] at hI; try first | (exfalso; omega) | (have hT : True := hI; clear hT hI))))
    | ((first | (apply jP; rfl; decide) | (apply jQ; rfl; decide; decide)); (simp (disch := omega) only [push_cast, simprocAttr, natNe, zI, zG, zJ] <;> rfl))
    | (refine W.makeMap cx_ok (by simp only [push_cast, simprocAttr] <;> rfl) (by decide) ?_)

  refine W.callm cx_ok (by decide) (f := 111) (caps := [.ptr (nx + 3) 0 0 1]) (by simp (disch := omega) only [push_cast, simprocAttr, natNe, zI, zG, zJ] <;> rfl) (addB (H0 := H0) (r := r) (N := []) ⟨0, 0⟩ (by simp (disch := omega) only [push_cast, simprocAttr, natNe, zI, zG, zJ] <;> rfl) (by refine ⟨⟨?_, ?_, ?_, ?_⟩, ?_, ?_, fun j hj => ?_⟩ <;> (simp (disch := omega) only [push_cast, simprocAttr, natNe, zI, zG, zJ] <;> rfl)) (by simp) (by decide) (by dsimp only [St.put, nxA]; omega)) ?_
  rintro _ H1 nx1 ⟨hB1, hn1⟩
  replace hn1 : nx + 6 ≤ nx1 := hn1
  repeat' first
    | apply jA | apply jB | apply jC | apply jD | apply jE | apply jF | apply jG | apply jH | apply jI | apply jJ
    | refine W.draw cx_mixed (by decide +kernel) ?_
    | ((first | (apply jK cx_ok; decide) | (apply jL cx_ok; decide; decide) | apply jM cx_ok | (apply jN; rfl; decide) | (apply jO; rfl; decide; decide) | apply jR | apply jS cx_ok); (simp (disch := omega) only [push_cast, simprocAttr, natNe, zI, zG, zJ] <;> rfl); all_goals try ((with_reducible intro hI); try first | (cases hI; done) | (simp only [INTS, zL] at hI; try first | (exfalso; omega) | (have hT : True := hI; clear hT hI))))
    | ((first | (apply jP; rfl; decide) | (apply jQ; rfl; decide; decide)); (simp (disch := omega) only [push_cast, simprocAttr, natNe, zI, zG, zJ] <;> rfl))
    | (refine W.makeMap cx_ok (by simp only [push_cast, simprocAttr] <;> rfl) (by decide) ?_)

  refine Pg.Stop.mk ?_
  refine AWx.seqS ?_
  repeat' first
    | apply jA | apply jB | apply jC | apply jD | apply jE | apply jF | apply jG | apply jH | apply jI | apply jJ
    | refine W.draw cx_mixed (by decide +kernel) ?_
    | ((first | (apply jK cx_ok; decide) | (apply jL cx_ok; decide; decide) | apply jM cx_ok | (apply jN; rfl; decide) | (apply jO; rfl; decide; decide) | apply jR | apply jS cx_ok); (simp (disch := omega) only [push_cast, simprocAttr, natNe, zI, zG, zJ] <;> rfl); all_goals try ((with_reducible intro hI); try first | (cases hI; done) | (simp only [INTS, zL] at hI; try first | (exfalso; omega) | (have hT : True := hI; clear hT hI))))
    | ((first | (apply jP; rfl; decide) | (apply jQ; rfl; decide; decide)); (simp (disch := omega) only [push_cast, simprocAttr, natNe, zI, zG, zJ] <;> rfl))
    | (refine W.makeMap cx_ok (by simp only [push_cast, simprocAttr] <;> rfl) (by decide) ?_)

  refine W.callm cx_ok (by decide) (f := 111) (caps := [.ptr (nx + 3) 0 0 1]) (by simp (disch := omega) only [push_cast, simprocAttr, natNe, zI, zG, zJ] <;> rfl) (addB ⟨1, 0⟩ (by simp (disch := omega) only [push_cast, simprocAttr, natNe, zI, zG, zJ] <;> rfl) hB1 (by decide) (by decide) (by dsimp only [St.put, nxA]; omega)) ?_
  rintro _ H2 nx2 ⟨hB2, hn2⟩
  replace hn2 : nx1 ≤ nx2 := hn2
  repeat' first
    | apply jA | apply jB | apply jC | apply jD | apply jE | apply jF | apply jG | apply jH | apply jI | apply jJ
    | refine W.draw cx_mixed (by decide +kernel) ?_
    | ((first | (apply jK cx_ok; decide) | (apply jL cx_ok; decide; decide) | apply jM cx_ok | (apply jN; rfl; decide) | (apply jO; rfl; decide; decide) | apply jR | apply jS cx_ok); (simp (disch := omega) only [push_cast, simprocAttr, natNe, zI, zG, zJ] <;> rfl); all_goals try ((with_reducible intro hI); try first | (cases hI; done) | (simp only [INTS, zL] at hI; try first | (exfalso; omega) | (have hT : True := hI; clear hT hI))))
    | ((first | (apply jP; rfl; decide) | (apply jQ; rfl; decide; decide)); (simp (disch := omega) only [push_cast, simprocAttr, natNe, zI, zG, zJ] <;> rfl))
    | (refine W.makeMap cx_ok (by simp only [push_cast, simprocAttr] <;> rfl) (by decide) ?_)

  refine Pg.Stop.mk ?_
  refine AWx.seqS ?_
  repeat' first
    | apply jA | apply jB | apply jC | apply jD | apply jE | apply jF | apply jG | apply jH | apply jI | apply jJ
    | refine W.draw cx_mixed (by decide +kernel) ?_
    | ((first | (apply jK cx_ok; decide) | (apply jL cx_ok; decide; decide) | apply jM cx_ok | (apply jN; rfl; decide) | (apply jO; rfl; decide; decide) | apply jR | apply jS cx_ok); (simp (disch := omega) only [push_cast, simprocAttr, natNe, zI, zG, zJ] <;> rfl); all_goals try ((with_reducible intro hI); try first | (cases hI; done) | (simp only [INTS, zL] at hI; try first | (exfalso; omega) | (have hT : True := hI; clear hT hI))))
    | ((first | (apply jP; rfl; decide) | (apply jQ; rfl; decide; decide)); (simp (disch := omega) only [push_cast, simprocAttr, natNe, zI, zG, zJ] <;> rfl))
    | (refine W.makeMap cx_ok (by simp only [push_cast, simprocAttr] <;> rfl) (by decide) ?_)

  refine W.callm cx_ok (by decide) (f := 111) (caps := [.ptr (nx + 3) 0 0 1]) (by simp (disch := omega) only [push_cast, simprocAttr, natNe, zI, zG, zJ] <;> rfl) (addB ⟨2, 0⟩ (by simp (disch := omega) only [push_cast, simprocAttr, natNe, zI, zG, zJ] <;> rfl) hB2 (by decide) (by decide) (by dsimp only [St.put, nxA]; omega)) ?_
  rintro _ H3 nx3 ⟨hB3, hn3⟩
  replace hn3 : nx2 ≤ nx3 := hn3
  repeat' first
    | apply jA | apply jB | apply jC | apply jD | apply jE | apply jF | apply jG | apply jH | apply jI | apply jJ
    | refine W.draw cx_mixed (by decide +kernel) ?_
    | ((first | (apply jK cx_ok; decide) | (apply jL cx_ok; decide; decide) | apply jM cx_ok | (apply jN; rfl; decide) | (apply jO; rfl; decide; decide) | apply jR | apply jS cx_ok); (simp (disch := omega) only [push_cast, simprocAttr, natNe, zI, zG, zJ] <;> rfl); all_goals try ((with_reducible intro hI); try first | (cases hI; done) | (simp only [INTS, zL] at hI; try first | (exfalso; omega) | (have hT : True := hI; clear hT hI))))
    | ((first | (apply jP; rfl; decide) | (apply jQ; rfl; decide; decide)); (simp (disch := omega) only [push_cast, simprocAttr, natNe, zI, zG, zJ] <;> rfl))
    | (refine W.makeMap cx_ok (by simp only [push_cast, simprocAttr] <;> rfl) (by decide) ?_)

  refine Pg.Stop.mk ?_
  refine AWx.seqS ?_
  replace hB3 : Bd H0 nx r (nd0 ++ ndS 0) H3 := hB3
  have hn3' : nx + 6 ≤ nx3 := by omega
  have hr3 := hB3.rc
  repeat' first
    | apply jA | apply jB | apply jC | apply jD | apply jE | apply jF | apply jG | apply jH | apply jI | apply jJ
    | refine W.draw cx_mixed (by decide +kernel) ?_
    | ((first | (apply jK cx_ok; decide) | (apply jL cx_ok; decide; decide) | apply jM cx_ok | (apply jN; rfl; decide) | (apply jO; rfl; decide; decide) | apply jR | apply jS cx_ok); (simp (disch := omega) only [push_cast, simprocAttr, natNe, zI, zG, zJ, hr3] <;> rfl); all_goals try ((with_reducible intro hI); try first | (cases hI; done) | (simp only [INTS, zL] at hI; try first | (exfalso; omega) | (have hT : True := hI; clear hT hI))))
    | ((first | (apply jP; rfl; decide) | (apply jQ; rfl; decide; decide)); (simp (disch := omega) only [push_cast, simprocAttr, natNe, zI, zG, zJ, hr3] <;> rfl))
    | (refine W.makeMap cx_ok (by simp only [push_cast, simprocAttr] <;> rfl) (by decide) ?_)

  refine AW.loop (fun n s => ∃ (k : Nat), n = r.strikes.length - k ∧ (k ≤ r.strikes.length) ∧ (Bd H0 nx r (nd0 ++ ndS k) s.H) ∧ nx + 6 ≤ s.nx ∧ s.tm 1 = lInt more ∧ s.tm 2 = .ptr nx 0 0 1 ∧ s.tm 5 = .ptr (nx + 3) 0 0 1 ∧ s.tm 6 = .clo 111 [.ptr (nx + 3) 0 0 1] ∧ s.tm 27 = ai r.strikes.length ∧ s.tm 28 = ai k) (r.strikes.length) ⟨0, rfl, (Nat.zero_le _), hB3, ?_, ?_, ?_, ?_, ?_, ?_, ?_⟩ ?_
  iterate 7 (first | (simp (disch := omega) only [push_cast, simprocAttr, natNe, zI, zG, zJ, hr3] <;> first | rfl | omega) | omega)
  rintro n s ⟨k, hn, hp0, hp1, hnl, hS⟩
  have hr := hp1.rc
  by_cases hk : k < r.strikes.length
  · have hkI : (k : Int) < (r.strikes.length : Int) := by omega
    repeat' first
      | apply jA | apply jB | apply jC | apply jD | apply jE | apply jF | apply jG | apply jH | apply jI | apply jJ
      | refine W.draw cx_mixed (by decide +kernel) ?_
      | ((first | (apply jK cx_ok; decide) | (apply jL cx_ok; decide; decide) | apply jM cx_ok | (apply jN; rfl; decide) | (apply jO; rfl; decide; decide) | apply jR | apply jS cx_ok); (simp (disch := omega) only [push_cast, simprocAttr, natNe, zI, zG, zJ, hS, hkI] <;> rfl); all_goals try ((with_reducible intro hI); try first | (cases hI; done) | (simp only [INTS, zL] at hI; try first | (exfalso; omega) | (have hT : True := hI; clear hT hI))))
      | ((first | (apply jP; rfl; decide) | (apply jQ; rfl; decide; decide)); (simp (disch := omega) only [push_cast, simprocAttr, natNe, zI, zG, zJ, hS, hkI] <;> rfl))
      | (refine W.makeMap cx_ok (by simp only [push_cast, simprocAttr] <;> rfl) (by decide) ?_)

    refine W.callm cx_ok (by decide) (f := 111) (caps := [.ptr (nx + 3) 0 0 1]) (by simp (disch := omega) only [push_cast, simprocAttr, natNe, zI, zG, zJ, hS, hkI] <;> rfl) (addB ⟨3, (k : Int)⟩ (by simp (disch := omega) only [push_cast, simprocAttr, natNe, zI, zG, zJ, hS, hkI] <;> rfl) hp1 (new_strike k) (by rw [List.length_append, ndS_len, nd0_len]; omega) (by dsimp only [St.put, nxA]; omega)) ?_
    rintro _ H4 nx4 ⟨hB4, hn4⟩
    replace hn4 : s.nx ≤ nx4 := hn4
    repeat' first
      | apply jA | apply jB | apply jC | apply jD | apply jE | apply jF | apply jG | apply jH | apply jI | apply jJ
      | refine W.draw cx_mixed (by decide +kernel) ?_
      | ((first | (apply jK cx_ok; decide) | (apply jL cx_ok; decide; decide) | apply jM cx_ok | (apply jN; rfl; decide) | (apply jO; rfl; decide; decide) | apply jR | apply jS cx_ok); (simp (disch := omega) only [push_cast, simprocAttr, natNe, zI, zG, zJ, hS, hkI] <;> rfl); all_goals try ((with_reducible intro hI); try first | (cases hI; done) | (simp only [INTS, zL] at hI; try first | (exfalso; omega) | (have hT : True := hI; clear hT hI))))
      | ((first | (apply jP; rfl; decide) | (apply jQ; rfl; decide; decide)); (simp (disch := omega) only [push_cast, simprocAttr, natNe, zI, zG, zJ, hS, hkI] <;> rfl))
      | (refine W.makeMap cx_ok (by simp only [push_cast, simprocAttr] <;> rfl) (by decide) ?_)

    all_goals (refine ⟨r.strikes.length - (k + 1), ?_, k + 1, rfl, (by omega), (by rw [ndS_succ, ← List.append_assoc]; exact hB4), ?_, ?_, ?_, ?_, ?_, ?_, ?_⟩; (omega); all_goals first | (simp (disch := omega) only [push_cast, simprocAttr, hS, natNe, zI, zG, zJ, hkI] <;> first | rfl | omega) | omega)
  have hkI : ¬ (k : Int) < (r.strikes.length : Int) := by omega
  have hkS : k = r.strikes.length := by omega
  rw [hkS] at hp1
  repeat' first
    | apply jA | apply jB | apply jC | apply jD | apply jE | apply jF | apply jG | apply jH | apply jI | apply jJ
    | refine W.draw cx_mixed (by decide +kernel) ?_
    | ((first | (apply jK cx_ok; decide) | (apply jL cx_ok; decide; decide) | apply jM cx_ok | (apply jN; rfl; decide) | (apply jO; rfl; decide; decide) | apply jR | apply jS cx_ok); (simp (disch := omega) only [push_cast, simprocAttr, natNe, zI, zG, zJ, hS, hkI] <;> rfl); all_goals try ((with_reducible intro hI); try first | (cases hI; done) | (simp only [INTS, zL] at hI; try first | (exfalso; omega) | (have hT : True := hI; clear hT hI))))
    | ((first | (apply jP; rfl; decide) | (apply jQ; rfl; decide; decide)); (simp (disch := omega) only [push_cast, simprocAttr, natNe, zI, zG, zJ, hS, hkI] <;> rfl))
    | (refine W.makeMap cx_ok (by simp only [push_cast, simprocAttr] <;> rfl) (by decide) ?_)

  refine Pg.Stop.mk ?_
  refine AWx.seqS ?_
  have hr := hp1.rc
  repeat' first
    | apply jA | apply jB | apply jC | apply jD | apply jE | apply jF | apply jG | apply jH | apply jI | apply jJ
    | refine W.draw cx_mixed (by decide +kernel) ?_
    | ((first | (apply jK cx_ok; decide) | (apply jL cx_ok; decide; decide) | apply jM cx_ok | (apply jN; rfl; decide) | (apply jO; rfl; decide; decide) | apply jR | apply jS cx_ok); (simp (disch := omega) only [push_cast, simprocAttr, natNe, zI, zG, zJ, hS, hr] <;> rfl); all_goals try ((with_reducible intro hI); try first | (cases hI; done) | (simp only [INTS, zL] at hI; try first | (exfalso; omega) | (have hT : True := hI; clear hT hI))))
    | ((first | (apply jP; rfl; decide) | (apply jQ; rfl; decide; decide)); (simp (disch := omega) only [push_cast, simprocAttr, natNe, zI, zG, zJ, hS, hr] <;> rfl))
    | (refine W.makeMap cx_ok (by simp only [push_cast, simprocAttr] <;> rfl) (by decide) ?_)
    | ((first | (apply jV cx_ok; decide) | (apply jW cx_ok; decide; decide)); (iterate 2 (simp (disch := omega) only [push_cast, simprocAttr, natNe, zI, zG, zJ, hS, hr] <;> rfl)); (with_reducible first | exact hmk); try first | rfl | (simp (disch := omega) only [push_cast, simprocAttr, natNe, zI, zG, zJ, hS, hr] <;> rfl))

  refine Pg.Stop.mk ?_
  refine AWx.seqS ?_
  repeat' first
    | apply jA | apply jB | apply jC | apply jD | apply jE | apply jF | apply jG | apply jH | apply jI | apply jJ
    | refine W.draw cx_mixed (by decide +kernel) ?_
    | ((first | (apply jK cx_ok; decide) | (apply jL cx_ok; decide; decide) | apply jM cx_ok | (apply jN; rfl; decide) | (apply jO; rfl; decide; decide) | apply jR | apply jS cx_ok); (simp (disch := omega) only [push_cast, simprocAttr, natNe, zI, zG, zJ, hS, hr] <;> rfl); all_goals try ((with_reducible intro hI); try first | (cases hI; done) | (simp only [INTS, zL] at hI; try first | (exfalso; omega) | (have hT : True := hI; clear hT hI))))
    | ((first | (apply jP; rfl; decide) | (apply jQ; rfl; decide; decide)); (simp (disch := omega) only [push_cast, simprocAttr, natNe, zI, zG, zJ, hS, hr] <;> rfl))
    | (refine W.makeMap cx_ok (by simp only [push_cast, simprocAttr] <;> rfl) (by decide) ?_)

  refine AW.loop (fun n s => ∃ (k : Nat) (rest : List Int), n = rest.length ∧ (PL.drop k = rest) ∧ (Bd H0 nx r (nd0 ++ ndS r.strikes.length ++ ndM (PL.take k)) s.H) ∧ nx + 6 ≤ s.nx ∧ s.tm 2 = .ptr nx 0 0 1 ∧ s.tm 5 = .ptr (nx + 3) 0 0 1 ∧ s.tm 6 = .clo 111 [.ptr (nx + 3) 0 0 1] ∧ s.tm 8 = lInt PL ∧ s.tm 39 = lInt PL ∧ s.tm 40 = ai PL.length ∧ s.tm 41 = ai k) (PL.length) ⟨0, PL, rfl, rfl, (by rw [List.take_zero, ndM, List.map_nil, List.append_nil]; exact hp1), ?_, ?_, ?_, ?_, ?_, ?_, ?_, ?_⟩ ?_
  iterate 8 (first | (simp (disch := omega) only [push_cast, simprocAttr, natNe, zI, zG, zJ, hS, hr] <;> first | rfl | omega) | omega)
  rintro n1 s1 ⟨k1, rest1, hn1, hp01, hp11, hnl1, hS1⟩
  rcases rest1 with _ | ⟨x, rest1⟩
  rotate_left
  · obtain ⟨hk1, hg1, hd1, hl1, hm1, hx1⟩ := drop_cons hp01 eInt []
    have hnm := new_mark (S := r.strikes.length) hso hp01
    repeat' first
      | apply jA | apply jB | apply jC | apply jD | apply jE | apply jF | apply jG | apply jH | apply jI | apply jJ
      | refine W.draw cx_mixed (by decide +kernel) ?_
      | ((first | (apply jK cx_ok; decide) | (apply jL cx_ok; decide; decide) | apply jM cx_ok | (apply jN; rfl; decide) | (apply jO; rfl; decide; decide) | apply jR | apply jS cx_ok); (simp (disch := omega) only [push_cast, simprocAttr, natNe, zI, zG, zJ, hS1, hk1, hg1, hx1] <;> rfl); all_goals try ((with_reducible intro hI); try first | (cases hI; done) | (simp only [INTS, zL] at hI; try first | (exfalso; omega) | (have hT : True := hI; clear hT hI))))
      | ((first | (apply jP; rfl; decide) | (apply jQ; rfl; decide; decide)); (simp (disch := omega) only [push_cast, simprocAttr, natNe, zI, zG, zJ, hS1, hk1, hg1, hx1] <;> rfl))
      | (refine W.makeMap cx_ok (by simp only [push_cast, simprocAttr] <;> rfl) (by decide) ?_)

    refine W.callm cx_ok (by decide) (f := 111) (caps := [.ptr (nx + 3) 0 0 1]) (by simp (disch := omega) only [push_cast, simprocAttr, natNe, zI, zG, zJ, hS1, hk1, hg1, hx1] <;> rfl) (addB ⟨4, x⟩ (by simp (disch := omega) only [push_cast, simprocAttr, natNe, zI, zG, zJ, hS1, hk1, hg1, hx1] <;> rfl) hp11 hnm (by simp only [zE, ndS_len, nd0_len, ndM, zF, zA]; omega) (by dsimp only [St.put, nxA]; omega)) ?_
    rintro _ H5 nx5 ⟨hB5, hn5⟩
    replace hn5 : s1.nx ≤ nx5 := hn5
    repeat' first
      | apply jA | apply jB | apply jC | apply jD | apply jE | apply jF | apply jG | apply jH | apply jI | apply jJ
      | refine W.draw cx_mixed (by decide +kernel) ?_
      | ((first | (apply jK cx_ok; decide) | (apply jL cx_ok; decide; decide) | apply jM cx_ok | (apply jN; rfl; decide) | (apply jO; rfl; decide; decide) | apply jR | apply jS cx_ok); (simp (disch := omega) only [push_cast, simprocAttr, natNe, zI, zG, zJ, hS1, hk1, hg1, hx1] <;> rfl); all_goals try ((with_reducible intro hI); try first | (cases hI; done) | (simp only [INTS, zL] at hI; try first | (exfalso; omega) | (have hT : True := hI; clear hT hI))))
      | ((first | (apply jP; rfl; decide) | (apply jQ; rfl; decide; decide)); (simp (disch := omega) only [push_cast, simprocAttr, natNe, zI, zG, zJ, hS1, hk1, hg1, hx1] <;> rfl))
      | (refine W.makeMap cx_ok (by simp only [push_cast, simprocAttr] <;> rfl) (by decide) ?_)

    all_goals (refine ⟨rest1.length, ?_, k1 + 1, rest1, rfl, hd1, (by rw [take_snoc hp01, ndM_snoc, ← List.append_assoc]; exact hB5), ?_, ?_, ?_, ?_, ?_, ?_, ?_, ?_⟩; ((simp only [zD] at *; omega)); all_goals first | (simp (disch := omega) only [push_cast, simprocAttr, hS1, natNe, zI, zG, zJ, hk1, hg1, hx1] <;> first | rfl | omega) | omega)
  have hk1 := drop_nil hp01
  have hN : nd0 ++ ndS r.strikes.length ++ ndM (PL.take k1) = nodesR r more := by rw [List.take_of_length_le (List.drop_eq_nil_iff.1 hp01), ← hPL]; rfl
  rw [hN] at hp11
  have hr1 := hp11.rc
  have hc1 := hp11.sys.c
  repeat' first
    | apply jA | apply jB | apply jC | apply jD | apply jE | apply jF | apply jG | apply jH | apply jI | apply jJ
    | refine W.draw cx_mixed (by decide +kernel) ?_
    | ((first | (apply jK cx_ok; decide) | (apply jL cx_ok; decide; decide) | apply jM cx_ok | (apply jN; rfl; decide) | (apply jO; rfl; decide; decide) | apply jR | apply jS cx_ok); (simp (disch := omega) only [push_cast, simprocAttr, natNe, zI, zG, zJ, hS1, hk1] <;> rfl); all_goals try ((with_reducible intro hI); try first | (cases hI; done) | (simp only [INTS, zL] at hI; try first | (exfalso; omega) | (have hT : True := hI; clear hT hI))))
    | ((first | (apply jP; rfl; decide) | (apply jQ; rfl; decide; decide)); (simp (disch := omega) only [push_cast, simprocAttr, natNe, zI, zG, zJ, hS1, hk1] <;> rfl))
    | (refine W.makeMap cx_ok (by simp only [push_cast, simprocAttr] <;> rfl) (by decide) ?_)

  refine Pg.Stop.mk ?_
  refine AWx.ofk (AWk.seqS ?_)
  repeat' first
    | apply jA | apply jB | apply jC | apply jD | apply jE | apply jF | apply jG | apply jH | apply jI | apply jJ
    | refine W.draw cx_mixed (by decide +kernel) ?_
    | ((first | (apply jK cx_ok; decide) | (apply jL cx_ok; decide; decide) | apply jM cx_ok | (apply jN; rfl; decide) | (apply jO; rfl; decide; decide) | apply jR | apply jS cx_ok); (simp (disch := omega) only [push_cast, simprocAttr, natNe, zI, zG, zJ, hS1, hk1, hr1, hc1] <;> rfl); all_goals try ((with_reducible intro hI); try first | (cases hI; done) | (simp only [INTS, zL] at hI; try first | (exfalso; omega) | (have hT : True := hI; clear hT hI))))
    | ((first | (apply jP; rfl; decide) | (apply jQ; rfl; decide; decide)); (simp (disch := omega) only [push_cast, simprocAttr, natNe, zI, zG, zJ, hS1, hk1, hr1, hc1] <;> rfl))
    | (refine W.makeMap cx_ok (by simp only [push_cast, simprocAttr] <;> rfl) (by decide) ?_)

  refine W.callm cx_ok (by decide) (f := 113) (caps := []) (by simp (disch := omega) only [push_cast, simprocAttr, natNe, zI, zG, zJ, hS1, hk1, hr1, hc1] <;> rfl) (hal (by simp (disch := omega) only [push_cast, simprocAttr, natNe, zI, zG, zJ, hS1, hk1, hr1, hc1] <;> rfl)) ?_
  rintro _ H6 nx6 ⟨rfl, a1, a2, a3, hn6, hf6⟩
  replace hn6 : nx6 = s1.nx + 3 := hn6
  replace a1 : Pg.rowAt H6 s1.nx = _ := a1
  replace a2 : Pg.rowAt H6 (s1.nx + 1) = _ := a2
  replace a3 : Pg.rowAt H6 (s1.nx + 2) = _ := a3
  replace hf6 : ∀ j, j < s1.nx → H6 j = s1.H j := hf6
  repeat' first
    | apply jA | apply jB | apply jC | apply jD | apply jE | apply jF | apply jG | apply jH | apply jI | apply jJ
    | refine W.draw cx_mixed (by decide +kernel) ?_
    | ((first | (apply jK cx_ok; decide) | (apply jL cx_ok; decide; decide) | apply jM cx_ok | (apply jN; rfl; decide) | (apply jO; rfl; decide; decide) | apply jR | apply jS cx_ok); (simp (disch := omega) only [push_cast, simprocAttr, natNe, zI, zG, zJ, hS1, hk1, hr1, hc1] <;> rfl); all_goals try ((with_reducible intro hI); try first | (cases hI; done) | (simp only [INTS, zL] at hI; try first | (exfalso; omega) | (have hT : True := hI; clear hT hI))))
    | ((first | (apply jP; rfl; decide) | (apply jQ; rfl; decide; decide)); (simp (disch := omega) only [push_cast, simprocAttr, natNe, zI, zG, zJ, hS1, hk1, hr1, hc1] <;> rfl))
    | (refine W.makeMap cx_ok (by simp only [push_cast, simprocAttr] <;> rfl) (by decide) ?_)

  refine Pg.Stop.mk ?_
  refine awk_gen (fun t => t.tm 5 = .ptr (nx + 3) 0 0 1 ∧ t.tm 53 = .clo 121 [.ptr (s1.nx + 1) 0 0 1, .ptr s1.nx 0 0 1, .ptr (s1.nx + 2) 0 0 1] ∧ t.nx = s1.nx + 3 ∧ t.H = H6) ⟨?_, ?_, ?_, ?_⟩ ?_
  iterate 2 (simp (disch := omega) only [push_cast, simprocAttr, natNe, zI, zG, zJ, hS1, hk1, hr1, hc1] <;> rfl)
  · exact hn6
  · rfl
  rintro t ⟨ht5, ht53, htnx, htH⟩
  refine AWk.range (f := 121) (caps := [.ptr (s1.nx + 1) 0 0 1, .ptr s1.nx 0 0 1, .ptr (s1.nx + 2) 0 0 1]) ht53 fun Dn l fn => ?_
  rw [htnx, htH]
  refine all1_ok hv hml hmb (l := l) (n0 := s1.nx + 5) (rb := s1.nx + 1) (gb := s1.nx) (pb := s1.nx + 2) (g := nx + 2) (m := nx + 1) (J := JB H0 nx s1.nx r (marksR r more) (nodesR r more) l Dn ?L t.tm) ?hJ (by omega) (by omega) (by omega) (by omega) (by omega) (Nat.le_refl _) ?hJ0 ?post
  case hJ0 =>
    have u : ∀ j, j < s1.nx + 3 → ∀ x y, updH (updH H6 (s1.nx + 3) x) (s1.nx + 3 + 1) y j = H6 j := fun j hj x y => by simp only [updH]; rw [if_neg (by omega), if_neg (by omega)]
    have v : ∀ j, j < s1.nx → ∀ x y, updH (updH H6 (s1.nx + 3) x) (s1.nx + 3 + 1) y j = s1.H j := fun j hj x y => (u j (by omega) x y).trans (hf6 j hj)
    rw [hPL]
    refine ⟨⟨(rowAt_eqH (u (s1.nx + 1) (by omega) _ _)).trans a2, (rowAt_eqH (u s1.nx (by omega) _ _)).trans a1, (rowAt_eqH (u (s1.nx + 2) (by omega) _ _)).trans a3, ⟨_, _, (rowAt_eqH (v (nx + 2) (by omega) _ _)).trans hp11.sys.g⟩, (v (nx + 1) (by omega) _ _).trans hp11.sys.m⟩,
      ⟨(rowAt_eqH (v (nx + 2) (by omega) _ _)).trans hp11.sys.g, (rowAt_eqH (v (nx + 4) (by omega) _ _)).trans hp11.sys.nd, (v (nx + 1) (by omega) _ _).trans hp11.sys.m, 0, Nat.le_refl _, (rowAt_eqH (v (nx + 5) (by omega) _ _)).trans hp11.lk⟩,
      (rowAt_eqH (v (nx + 3) (by omega) _ _)).trans hp11.sys.c, fun j hj => (v j (by omega) _ _).trans (hp11.fr j hj), ?_, ?_⟩
    · show updH (updH H6 (s1.nx + 3) _) (s1.nx + 3 + 1) _ (s1.nx + 3) = _
      unfold updH; rw [if_neg (by omega), if_pos rfl]
    · exact (if_pos rfl : (if (s1.nx + 4) = s1.nx + 3 + 1 then _ else _) = _)
  case hJ =>
    refine ⟨fun p G id o hp hid => JB.frame (by omega) p G id o hp hid, fun p G hp => hp.sy, fun p G mm x hJ hm hlen => ?_⟩
    obtain ⟨⟨y1, y2, y3, ⟨ga, gl, y4⟩, y5⟩, ⟨g1, g2, g3, lw, g4, g5⟩, hc, hfr0, hdf, hrc⟩ := hJ
    refine YOK.of_body (id := s1.nx + 4) (args := [.agg (eLink x)]) hrc rfl rfl (by intro p hp; have : p = 54 := (by simpa using hp); subst this; decide) ?_
    show AW (cx.rnd l) 66 _ _ { tm := upd (cutT 66 t.tm) 54 (.agg (eLink x)), H := G, nx := mm }
    have hc5 : cutT 66 t.tm 5 = .ptr (nx + 3) 0 0 1 := by simp [cutT, ht5]
    refine AW.fresh fun hfrG0 => ?_
    have hfrG : ∀ id, mm ≤ id → G id = none := hfrG0
    repeat' first
      | apply jA | apply jB | apply jC | apply jD | apply jE | apply jF | apply jG | apply jH | apply jI | apply jJ
      | refine W.draw (rnd_mixed l) (by decide +kernel) ?_
      | ((first | (apply jK (rnd_ok l); decide) | (apply jL (rnd_ok l); decide; decide) | apply jM (rnd_ok l) | (apply jN; rfl; decide) | (apply jO; rfl; decide; decide) | apply jR | apply jS (rnd_ok l)); (simp (disch := (first | omega | (simp only [vC, vD]; omega))) only [push_cast, simprocAttr, takeM, dropM, zK, zA, zB, zN, zQ, zR, zO, zP, zT, zS, zU, leT, zH, natNe, zI, zG, zJ, Cx.rnd, hc5, hc, g1, g5, hrc, hdf, hfrG, zV, isEmpty_map, zE, zD, zC, zY, zX, zW] <;> rfl); all_goals try ((with_reducible intro hI); try first | (cases hI; done) | (simp only [INTS, zL] at hI; try first | (exfalso; omega) | (have hT : True := hI; clear hT hI))))
      | ((first | (apply jP; rfl; decide) | (apply jQ; rfl; decide; decide)); (simp (disch := (first | omega | (simp only [vC, vD]; omega))) only [push_cast, simprocAttr, takeM, dropM, zK, zA, zB, zN, zQ, zR, zO, zP, zT, zS, zU, leT, zH, natNe, zI, zG, zJ, Cx.rnd, hc5, hc, g1, g5, hrc, hdf, hfrG, zV, isEmpty_map, zE, zD, zC, zY, zX, zW] <;> rfl))
      | (refine W.makeMap (rnd_ok l) (by simp only [push_cast, simprocAttr] <;> rfl) (by decide) ?_)
      | (apply jT (rnd_ok l); decide; rfl; rfl; rfl; decide; (iterate 3 (simp (disch := (first | omega | (simp only [vC, vD]; omega))) only [push_cast, simprocAttr, takeM, dropM, zK, zA, zB, zN, zQ, zR, zO, zP, zT, zS, zU, leT, zH, natNe, zI, zG, zJ, Cx.rnd, hc5, hc, g1, g5, hrc, hdf, hfrG, zV, isEmpty_map, zE, zD, zC, zY, zX, zW] <;> rfl)); (first | (focus (simp; done)) | (intro c hc; obtain ⟨x, _, rfl⟩ := List.mem_map.1 hc; rfl)); ((first | rfl | simp (disch := omega) only [push_cast])); ((try dsimp only); (try simp only [vC, vD]); omega); ((try dsimp only); (try simp only [vC, vD]); omega))

    refine ⟨?_, ?_⟩
    · (simp (disch := omega) only [push_cast, simprocAttr, natNe, zI, zG, zJ, Cx.rnd, hc5, hc, g1, g5, hrc, hdf, hfrG, zV, isEmpty_map, zE, zD, zC, zY, zX, zW])
    repeat' first
      | apply jA | apply jB | apply jC | apply jD | apply jE | apply jF | apply jG | apply jH | apply jI | apply jJ
      | refine AW.draw (id := 19) (rnd_mixed l) [7, 10] [0, 8, 9] [nx + 5, nx + 2] 11 (by decide +kernel) ?_
      | refine W.draw (rnd_mixed l) (by decide +kernel) ?_
      | ((first | (apply jK (rnd_ok l); decide) | (apply jL (rnd_ok l); decide; decide) | apply jM (rnd_ok l) | (apply jN; rfl; decide) | (apply jO; rfl; decide; decide) | apply jR | apply jS (rnd_ok l)); (simp (disch := (first | omega | (simp only [vC, vD]; omega))) only [push_cast, simprocAttr, takeM, dropM, zK, zA, zB, zN, zQ, zR, zO, zP, zT, zS, zU, leT, zH, natNe, zI, zG, zJ, Cx.rnd, hc5, hc, g1, g5, hrc, hdf, hfrG, zV, isEmpty_map, zE, zD, zC, zY, zX, zW] <;> rfl); all_goals try ((with_reducible intro hI); try first | (cases hI; done) | (simp only [INTS, zL] at hI; try first | (exfalso; omega) | (have hT : True := hI; clear hT hI))))
      | ((first | (apply jP; rfl; decide) | (apply jQ; rfl; decide; decide) | (apply ja (rnd_ok l); decide) | (apply jb (rnd_ok l); decide; decide) | (apply D.mapUpdate (rnd_ok l); decide) | (apply jc (rnd_ok l); decide; decide)); (simp (disch := (first | omega | (simp only [vC, vD]; omega))) only [push_cast, simprocAttr, takeM, dropM, zK, zA, zB, zN, zQ, zR, zO, zP, zT, zS, zU, leT, zH, natNe, zI, zG, zJ, Cx.rnd, hc5, hc, g1, g5, hrc, hdf, hfrG, zV, isEmpty_map, zE, zD, zC, zY, zX, zW] <;> rfl); try first | exact .inl rfl | exact .inr (by simp))
      | (refine W.makeMap (rnd_ok l) (by simp only [push_cast, simprocAttr] <;> rfl) (by decide) ?_)
      | ((apply jZ (rnd_ok l); decide; decide); (simp (disch := (first | omega | (simp only [vC, vD]; omega))) only [push_cast, simprocAttr, takeM, dropM, zK, zA, zB, zN, zQ, zR, zO, zP, zT, zS, zU, leT, zH, natNe, zI, zG, zJ, Cx.rnd, hc5, hc, g1, g5, hrc, hdf, hfrG, zV, isEmpty_map, zE, zD, zC, zY, zX, zW] <;> rfl); (simp (disch := (first | omega | (simp only [vC, vD]; omega))) only [push_cast, simprocAttr, takeM, dropM, zK, zA, zB, zN, zQ, zR, zO, zP, zT, zS, zU, leT, zH, natNe, zI, zG, zJ, Cx.rnd, hc5, hc, g1, g5, hrc, hdf, hfrG, zV, isEmpty_map, zE, zD, zC, zY, zX, zW, updH_at]); (simp (disch := (first | omega | (simp only [vC, vD]; omega))) only [push_cast, simprocAttr, takeM, dropM, zK, zA, zB, zN, zQ, zR, zO, zP, zT, zS, zU, leT, zH, natNe, zI, zG, zJ, Cx.rnd, hc5, hc, g1, g5, hrc, hdf, hfrG, zV, isEmpty_map, zE, zD, zC, zY, zX, zW] <;> omega))
      | ((apply jY (rnd_ok l); decide; decide); (simp (disch := (first | omega | (simp only [vC, vD]; omega))) only [push_cast, simprocAttr, takeM, dropM, zK, zA, zB, zN, zQ, zR, zO, zP, zT, zS, zU, leT, zH, natNe, zI, zG, zJ, Cx.rnd, hc5, hc, g1, g5, hrc, hdf, hfrG, zV, isEmpty_map, zE, zD, zC, zY, zX, zW] <;> rfl); first | exact .inl rfl | exact .inr (by simp))
      | (apply jT (rnd_ok l); decide; rfl; rfl; rfl; decide; (iterate 3 (simp (disch := (first | omega | (simp only [vC, vD]; omega))) only [push_cast, simprocAttr, takeM, dropM, zK, zA, zB, zN, zQ, zR, zO, zP, zT, zS, zU, leT, zH, natNe, zI, zG, zJ, Cx.rnd, hc5, hc, g1, g5, hrc, hdf, hfrG, zV, isEmpty_map, zE, zD, zC, zY, zX, zW] <;> rfl)); (first | (focus (simp; done)) | (intro c hc; obtain ⟨x, _, rfl⟩ := List.mem_map.1 hc; rfl)); ((first | rfl | simp (disch := omega) only [push_cast])); ((try dsimp only); (try simp only [vC, vD]); omega); ((try dsimp only); (try simp only [vC, vD]); omega))
      | (apply jU (rnd_ok l); decide; decide; rfl; rfl; rfl; decide; (iterate 3 (simp (disch := (first | omega | (simp only [vC, vD]; omega))) only [push_cast, simprocAttr, takeM, dropM, zK, zA, zB, zN, zQ, zR, zO, zP, zT, zS, zU, leT, zH, natNe, zI, zG, zJ, Cx.rnd, hc5, hc, g1, g5, hrc, hdf, hfrG, zV, isEmpty_map, zE, zD, zC, zY, zX, zW] <;> rfl)); (first | (focus (simp; done)) | (intro c hc; obtain ⟨x, _, rfl⟩ := List.mem_map.1 hc; rfl)); ((first | rfl | (simp (disch := omega) only [push_cast]; done))); ((try dsimp only); (try simp only [vC, vD]); omega); ((try dsimp only); (try simp only [vC, vD]); omega); first | exact .inl rfl | exact .inr (by simp))


    all_goals
      (refine ⟨?_, rfl, ⟨⟨?_, ?_, ?_, ⟨.ref (nx + 4) 0 (nodesR r more).length, .ref (nx + 5) 0 (p.length + 1), ?_⟩, ?_⟩, ⟨?_, ?_, ?_, p.length + 1, ?_, ?_⟩, ?_, fun j hj => ?_, ?_, ?_⟩, ?_, fun i h1 h2 => ?_⟩
       all_goals first
         | (simp (disch := omega) only [push_cast, simprocAttr, natNe, zI, zG, zJ, Cx.rnd, hc5, hc, g1, g5, hrc, hdf, hfrG, zV, isEmpty_map, zE, zD, zC, zY, zX, zW, y1, y2, y3, y5, g2, g3, yB, yA] <;> first | rfl | omega)
         | omega
         | (have q := hfr0 j hj; simp (disch := omega) only [push_cast, simprocAttr, natNe, zI, zG, zJ, Cx.rnd, hc5, hc, g1, g5, hrc, hdf, hfrG, zV, isEmpty_map, zE, zD, zC, zY, zX, zW, y1, y2, y3, y5, g2, g3, yB, yA, q]))
  case post =>
    rintro G n ⟨⟨y1, y2, y3, ⟨ga, gl, y4⟩, y5⟩, ⟨g1, g2, g3, lw, g4, g5⟩, hc, hfr0, hdf, hrc⟩ hn
    have u : ∀ j, j ≠ s1.nx + 4 → ∀ o, updH G (s1.nx + 3 + 1) o j = G j := fun j hj o => by simp only [updH]; rw [if_neg (by omega)]
    refine ⟨_, hrc, by simp, ?_⟩
    delta tail87 at hK
    simp only [Try.f87, Option.getD_some, dropS1] at hK
    refine hK Dn (s1.nx + 3) _ ht5 ⟨(rowAt_eqH (u _ (by omega) _)).trans g1, (rowAt_eqH (u _ (by omega) _)).trans g2, (u _ (by omega) _).trans g3, lw, g4, (rowAt_eqH (u _ (by omega) _)).trans g5⟩ ((rowAt_eqH (u _ (by omega) _)).trans hc) (fun j hj => (u j (by omega) _).trans (hfr0 j hj)) ((u _ (by omega) _).trans hdf) (by omega) ?_
    show nx + 6 ≤ n
    omega
end Go.Proofs.Ks
