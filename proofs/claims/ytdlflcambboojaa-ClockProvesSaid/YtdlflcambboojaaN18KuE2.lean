/-
  Contracts of functions, proved by going through their code. No conditions.
-/
import Derived.Test.YtdlflcambboojaaMaa
import Derived.Test.YtdlflcambboojaaMba
import Derived.Test.YtdlflcambboojaaMbd
import Derived.Test.YtdlflcambboojaaN18KuE
set_option linter.unusedVariables false
set_option linter.unusedSimpArgs false
set_option maxHeartbeats 8000000
set_option maxRecDepth 10000
namespace Go.Proofs.Ks
open Go Go.Pg Go.Proofs
theorem reverse89_0 : SortC0 cx.P 89 := fun p cap w => Try.slices_Reverse_int_empty p cap w
theorem pathC_len {L : List Lk} {B : List Int} {b0 : Int} {OUT : List Int} : ∀ {k : Nat} {u : Int} {o : List Int}, pathC L B b0 k u o = some OUT → OUT.length ≤ o.length + k
  | 0, u, o, h => by
    unfold pathC at h
    split at h
    · injection h with h; subst h; omega
    · cases h
  | k + 1, u, o, h => by
    unfold pathC at h
    split at h
    · injection h with h; subst h; omega
    · split at h
      · have := pathC_len h
        simp only [zE, zD, zC] at this
        omega
      · cases h
theorem Path_bad (r : Rec) (f t : Int) (hc : checkE r ≠ 0) : OKv cx 74 [.agg (eRec r), ai f, ai t] (.tup [.lst [], ai (checkE r)]) := by
  have hcF : (checkE r = 0) = False := eq_false hc
  refine OKat.of_body (rs := [6, 7]) Try.func74 rfl (by decide +kernel) rfl (by simp [Try.ntmps74]) ?_
  simp only [Try.ntmps74]
  repeat' first
    | apply jA | apply jB | apply jC | apply jD | apply jE | apply jF | apply jG | apply jH | apply jI | apply jJ
    | refine W.draw cx_mixed (by decide +kernel) ?_
    | ((first | (apply jK cx_ok; decide) | (apply jL cx_ok; decide; decide) | (apply jN; rfl; decide) | (apply jO; rfl; decide; decide) | apply jR); (simp (disch := omega) only [push_cast, simprocAttr, hcF] <;> rfl); all_goals try ((with_reducible intro hI); try first | (cases hI; done) | (simp only [INTS, zL] at hI; try first | (exfalso; omega) | (have hT : True := hI; clear hT hI))))
    | ((first | (apply jV cx_ok; decide) | (apply jW cx_ok; decide; decide)); (iterate 2 (simp (disch := omega) only [push_cast, simprocAttr, hcF] <;> rfl)); (with_reducible first | exact Check_ok r); try first | rfl | (simp (disch := omega) only [push_cast, simprocAttr, hcF] <;> rfl))
    | ((first | apply jh | apply ji); (iterate 2 (try (simp (disch := omega) only [push_cast, simprocAttr, hcF] <;> rfl))))

  all_goals (show _ = _; rfl)
theorem Path_arg (r : Rec) (f t : Int) (hc : checkE r = 0) (hn : ¬ (inN r f ∧ inN r t)) : OKv cx 74 [.agg (eRec r), ai f, ai t] (.tup [.lst [], ai 1]) := by
  have hv := checkE_V hc
  obtain ⟨h1, h2, h3, h4, h5⟩ := links_facts (more := []) hv (by decide) nomore
  have hb : OKv cx 87 [.agg (eRec r), .lst []] (gSys (nodesR r []) (linksR r [])) := build_ok r [] hv (by decide) nomore
  by_cases hf : inN r f
  · have sf := nodeB_ok (nodesR r []) (linksR r []) f (by omega) true ⟨fun _ => hf, fun _ => rfl⟩
    have st := nodeB_ok (nodesR r []) (linksR r []) t (by omega) false ⟨fun h => absurd h (by decide), fun h => absurd ⟨hf, h⟩ hn⟩
    refine OKat.of_body (rs := [6, 7]) Try.func74 rfl (by decide +kernel) rfl (by simp [Try.ntmps74]) ?_
    simp only [Try.ntmps74]
    repeat' first
      | apply jA | apply jB | apply jC | apply jD | apply jE | apply jF | apply jG | apply jH | apply jI | apply jJ
      | refine W.draw cx_mixed (by decide +kernel) ?_
      | ((first | (apply jK cx_ok; decide) | (apply jL cx_ok; decide; decide) | (apply jN; rfl; decide) | (apply jO; rfl; decide; decide) | apply jR); (simp (disch := omega) only [push_cast, simprocAttr, hc] <;> rfl); all_goals try ((with_reducible intro hI); try first | (cases hI; done) | (simp only [INTS, zL] at hI; try first | (exfalso; omega) | (have hT : True := hI; clear hT hI))))
      | ((first | (apply jV cx_ok; decide) | (apply jW cx_ok; decide; decide)); (iterate 2 (simp (disch := omega) only [push_cast, simprocAttr, hc] <;> rfl)); (with_reducible first | exact Check_ok r | exact hb | exact sf | exact st); try first | rfl | (simp (disch := omega) only [push_cast, simprocAttr, hc] <;> rfl))
      | ((first | apply jh | apply ji); (iterate 2 (try (simp (disch := omega) only [push_cast, simprocAttr, hc] <;> rfl))))

    all_goals (show _ = _; rfl)
  · have sf := nodeB_ok (nodesR r []) (linksR r []) f (by omega) false ⟨fun h => absurd h (by decide), fun h => absurd h hf⟩
    have st := sf
    refine OKat.of_body (rs := [6, 7]) Try.func74 rfl (by decide +kernel) rfl (by simp [Try.ntmps74]) ?_
    simp only [Try.ntmps74]
    repeat' first
      | apply jA | apply jB | apply jC | apply jD | apply jE | apply jF | apply jG | apply jH | apply jI | apply jJ
      | refine W.draw cx_mixed (by decide +kernel) ?_
      | ((first | (apply jK cx_ok; decide) | (apply jL cx_ok; decide; decide) | (apply jN; rfl; decide) | (apply jO; rfl; decide; decide) | apply jR); (simp (disch := omega) only [push_cast, simprocAttr, hc] <;> rfl); all_goals try ((with_reducible intro hI); try first | (cases hI; done) | (simp only [INTS, zL] at hI; try first | (exfalso; omega) | (have hT : True := hI; clear hT hI))))
      | ((first | (apply jV cx_ok; decide) | (apply jW cx_ok; decide; decide)); (iterate 2 (simp (disch := omega) only [push_cast, simprocAttr, hc] <;> rfl)); (with_reducible first | exact Check_ok r | exact hb | exact sf | exact st); try first | rfl | (simp (disch := omega) only [push_cast, simprocAttr, hc] <;> rfl))
      | ((first | apply jh | apply ji); (iterate 2 (try (simp (disch := omega) only [push_cast, simprocAttr, hc] <;> rfl))))

    all_goals (show _ = _; rfl)
theorem Path_clash (r : Rec) (f t : Int) (hc : checkE r = 0) (hf : inN r f) (ht : inN r t) (hq : consP r [] = false) : OKv cx 74 [.agg (eRec r), ai f, ai t] (.tup [.lst [], ai 9]) := by
  have hv := checkE_V hc
  obtain ⟨h1, h2, h3, h4, h5⟩ := links_facts (more := []) hv (by decide) nomore
  obtain ⟨hb, hco⟩ := conP_ok r hc
  rw [hq] at hco
  have sf := nodeB_ok (nodesR r []) (linksR r []) f (by omega) true ⟨fun _ => hf, fun _ => rfl⟩
  have st := nodeB_ok (nodesR r []) (linksR r []) t (by omega) true ⟨fun _ => ht, fun _ => rfl⟩
  refine OKat.of_body (rs := [6, 7]) Try.func74 rfl (by decide +kernel) rfl (by simp [Try.ntmps74]) ?_
  simp only [Try.ntmps74]
  repeat' first
    | apply jA | apply jB | apply jC | apply jD | apply jE | apply jF | apply jG | apply jH | apply jI | apply jJ
    | refine W.draw cx_mixed (by decide +kernel) ?_
    | ((first | (apply jK cx_ok; decide) | (apply jL cx_ok; decide; decide) | (apply jN; rfl; decide) | (apply jO; rfl; decide; decide) | apply jR); (simp (disch := omega) only [push_cast, simprocAttr, hc] <;> rfl); all_goals try ((with_reducible intro hI); try first | (cases hI; done) | (simp only [INTS, zL] at hI; try first | (exfalso; omega) | (have hT : True := hI; clear hT hI))))
    | ((first | (apply jV cx_ok; decide) | (apply jW cx_ok; decide; decide)); (iterate 2 (simp (disch := omega) only [push_cast, simprocAttr, hc] <;> rfl)); (with_reducible first | exact Check_ok r | exact hb | exact sf | exact st | exact hco); try first | rfl | (simp (disch := omega) only [push_cast, simprocAttr, hc] <;> rfl))
    | ((first | apply jh | apply ji); (iterate 2 (try (simp (disch := omega) only [push_cast, simprocAttr, hc] <;> rfl))))

  all_goals (show _ = _; rfl)
theorem Path_good (r : Rec) (f t : Nat) (hc : checkE r = 0) (hf : inN r f) (ht : inN r t) (hq : consP r [] = true) {OUT : List Int} (ho : pathC (linksR r []) (lengthsF (nodesR r []).length (linksR r []) (f : Int)).2.1 (f : Int) 1000 (t : Int) [] = some OUT) :
    OKv cx 74 [.agg (eRec r), ai f, ai t] (.tup [lInt OUT.reverse, ai 0]) := by
  have hv := checkE_V hc
  obtain ⟨h1, h2, h3, h4, h5⟩ := links_facts (more := []) hv (by decide) nomore
  obtain ⟨hb, hco⟩ := conP_ok r hc
  rw [hq] at hco
  have sf := nodeB_ok (nodesR r []) (linksR r []) f (by omega) true ⟨fun _ => hf, fun _ => rfl⟩
  have st := nodeB_ok (nodesR r []) (linksR r []) t (by omega) true ⟨fun _ => ht, fun _ => rfl⟩
  have hln := lengths_ok (nodesR r []) (linksR r []) (f : Int) h1 h2 h3 h4
  obtain ⟨LK, hLK⟩ : ∃ z, linksR r [] = z := ⟨_, rfl⟩
  rw [hLK] at ho hln hb h2 hco sf st
  obtain ⟨⟨DS, PB, bad⟩, hB⟩ : ∃ z, lengthsF (nodesR r []).length LK (f : Int) = z := ⟨_, rfl⟩
  rw [hB] at hln ho
  dsimp only at hln ho
  have hol := pathC_len ho
  simp only [zC, Nat.zero_add] at hol
  have hrv : ∀ {args : List AV} {H : Nat → Option AO} {m : Nat}, args = [.ref 1 0 OUT.length] → Pg.rowAt H 1 = some { k := 1, es := OUT.map eInt, ty := 3, lo := OUT.length } →
      OKm cx 89 args H m (fun v H' nx' => v = .tup [] ∧ Pg.rowAt H' 1 = some { k := 1, es := OUT.reverse.map eInt, ty := 3, lo := OUT.length } ∧ nx' = m) := by
    rintro _ H m rfl h
    by_cases hne : OUT = []
    · subst hne
      refine OKm.mono (OKm.sorts0 ⟨_, Try.func89, by decide +kernel, rfl⟩ reverse89_0) ?_
      rintro v H' nx' ⟨rfl, rfl, rfl⟩
      exact ⟨rfl, by simpa using h, rfl⟩
    · refine OKm.mono (OKm.reverses ⟨_, Try.func89, by decide +kernel, rfl⟩ reverse89 hne (by omega) h) ?_
      rintro v H' nx' ⟨rfl, rfl, rfl⟩
      exact ⟨rfl, by simp [Pg.rowAt, updH], rfl⟩
  refine OKat.of_body (rs := [6, 7]) Try.func74 rfl (by decide +kernel) rfl (by simp [Try.ntmps74]) ?_
  simp only [Try.ntmps74]
  repeat' first
    | apply jA | apply jB | apply jC | apply jD | apply jE | apply jF | apply jG | apply jH | apply jI | apply jJ
    | refine W.draw cx_mixed (by decide +kernel) ?_
    | ((first | (apply jK cx_ok; decide) | (apply jL cx_ok; decide; decide) | (apply jN; rfl; decide) | (apply jO; rfl; decide; decide) | apply jR); (simp (disch := (first | omega | (simp only [vC]; omega))) only [push_cast, simprocAttr, takeM, dropM, zK, zA, zB, zN, zQ, zR, zO, zP, zT, zS, zU, leT, zH, hc] <;> rfl); all_goals try ((with_reducible intro hI); try first | (cases hI; done) | (simp only [INTS, zL] at hI; try first | (exfalso; omega) | (have hT : True := hI; clear hT hI))))
    | (apply jT cx_ok; decide; rfl; rfl; rfl; decide; (iterate 3 (simp (disch := (first | omega | (simp only [vC]; omega))) only [push_cast, simprocAttr, takeM, dropM, zK, zA, zB, zN, zQ, zR, zO, zP, zT, zS, zU, leT, zH, hc] <;> rfl)); (first | (focus (simp; done)) | (intro c hc; obtain ⟨x, _, rfl⟩ := List.mem_map.1 hc; rfl)); ((first | rfl | simp (disch := omega) only [push_cast])); ((try dsimp only); (try simp only [vC]); omega); ((try dsimp only); (try simp only [vC]); omega))
    | ((first | (apply jV cx_ok; decide) | (apply jW cx_ok; decide; decide)); (iterate 2 (simp (disch := (first | omega | (simp only [vC]; omega))) only [push_cast, simprocAttr, takeM, dropM, zK, zA, zB, zN, zQ, zR, zO, zP, zT, zS, zU, leT, zH, hc] <;> rfl)); (with_reducible first | exact Check_ok r | exact hb | exact sf | exact st | exact hco | exact hln); try first | rfl | (simp (disch := (first | omega | (simp only [vC]; omega))) only [push_cast, simprocAttr, takeM, dropM, zK, zA, zB, zN, zQ, zR, zO, zP, zT, zS, zU, leT, zH, hc] <;> rfl))
    | ((first | apply jh | apply ji); (iterate 2 (try (simp (disch := (first | omega | (simp only [vC]; omega))) only [push_cast, simprocAttr, takeM, dropM, zK, zA, zB, zN, zQ, zR, zO, zP, zT, zS, zU, leT, zH, hc] <;> rfl))))

  refine AW.adopt 13 1 3 ?_ ?_
  · (simp (disch := omega) only [push_cast, simprocAttr, hc])
  refine AW.loop (fun n s => ∃ (i : Nat) (u : Int) (o : List Int), n = i ∧ (pathC LK PB (f : Int) i u o = some OUT) ∧ (o.length + i = 1000) ∧ 2 ≤ s.nx ∧ s.tm 1 = ai f ∧ s.tm 9 = gSys (nodesR r []) LK ∧ s.tm 11 = lInt PB ∧ s.tm 13 = .ref 1 0 o.length ∧ s.tm 14 = ai u ∧ Pg.rowAt s.H 1 = some { k := 1, es := o.map eInt, ty := 3, lo := o.length }) (1000) ⟨1000, (t : Int), [], rfl, ho, rfl, ?_, ?_, ?_, ?_, ?_, ?_, ?_⟩ ?_
  iterate 7 (first | (simp (disch := omega) only [push_cast, simprocAttr, hc, zW, zC] <;> first | rfl | omega) | omega)
  rintro n2 s2 ⟨i2, u2, o2, hn2, hp02, hp12, hnl2, hS2⟩
  by_cases hst : u2 = (f : Int)
  · have hstT : (u2 = (f : Int)) = True := eq_true hst
    have hoO : o2 = OUT := by
      rcases i2 with _ | i2 <;> unfold pathC at hp02 <;> rw [if_pos hst] at hp02 <;> injection hp02
    subst hoO
    repeat' first
      | apply jA | apply jB | apply jC | apply jD | apply jE | apply jF | apply jG | apply jH | apply jI | apply jJ
      | refine W.draw cx_mixed (by decide +kernel) ?_
      | ((first | (apply jK cx_ok; decide) | (apply jL cx_ok; decide; decide) | (apply jN; rfl; decide) | (apply jO; rfl; decide; decide) | apply jR); (simp (disch := (first | omega | (simp only [vC]; omega))) only [push_cast, simprocAttr, takeM, dropM, zK, zA, zB, zN, zQ, zR, zO, zP, zT, zS, zU, leT, zH, hS2, hstT, natNe, zI, zG, zJ, zY, zX, zW, zE, zD, zC, isEmpty_map, zV, zM] <;> rfl); all_goals try ((with_reducible intro hI); try first | (cases hI; done) | (simp only [INTS, zL] at hI; try first | (exfalso; omega) | (have hT : True := hI; clear hT hI))))
      | (apply jT cx_ok; decide; rfl; rfl; rfl; decide; (iterate 3 (simp (disch := (first | omega | (simp only [vC]; omega))) only [push_cast, simprocAttr, takeM, dropM, zK, zA, zB, zN, zQ, zR, zO, zP, zT, zS, zU, leT, zH, hS2, hstT, natNe, zI, zG, zJ, zY, zX, zW, zE, zD, zC, isEmpty_map, zV, zM] <;> rfl)); (first | (focus (simp; done)) | (intro c hc; obtain ⟨x, _, rfl⟩ := List.mem_map.1 hc; rfl)); ((first | rfl | simp (disch := omega) only [push_cast])); ((try dsimp only); (try simp only [vC]); omega); ((try dsimp only); (try simp only [vC]); omega))
      | ((first | apply jh | apply ji); (iterate 2 (try (simp (disch := (first | omega | (simp only [vC]; omega))) only [push_cast, simprocAttr, takeM, dropM, zK, zA, zB, zN, zQ, zR, zO, zP, zT, zS, zU, leT, zH, hS2, hstT, natNe, zI, zG, zJ, zY, zX, zW, zE, zD, zC, isEmpty_map, zV, zM] <;> rfl))))

    refine W.callm cx_ok (by decide) (f := 89) (caps := []) (by simp (disch := omega) only [push_cast, simprocAttr, hS2, hstT, natNe, zI, zG, zJ, zY, zX, zW, zE, zD, zC, isEmpty_map, zV, zM] <;> rfl) (hrv (by simp (disch := omega) only [push_cast, simprocAttr, hS2, hstT, natNe, zI, zG, zJ, zY, zX, zW, zE, zD, zC, isEmpty_map, zV, zM] <;> rfl) (by simp (disch := omega) only [push_cast, simprocAttr, hS2, hstT, natNe, zI, zG, zJ, zY, zX, zW, zE, zD, zC, isEmpty_map, zV, zM] <;> rfl)) ?_
    rintro _ H3 nx3 ⟨rfl, hr3, rfl⟩
    repeat' first
      | apply jA | apply jB | apply jC | apply jD | apply jE | apply jF | apply jG | apply jH | apply jI | apply jJ
      | refine W.draw cx_mixed (by decide +kernel) ?_
      | ((first | (apply jK cx_ok; decide) | (apply jL cx_ok; decide; decide) | (apply jN; rfl; decide) | (apply jO; rfl; decide; decide) | apply jR); (simp (disch := (first | omega | (simp only [vC]; omega))) only [push_cast, simprocAttr, takeM, dropM, zK, zA, zB, zN, zQ, zR, zO, zP, zT, zS, zU, leT, zH, hS2, hstT, hr3, List.length_reverse, natNe, zI, zG, zJ, zY, zX, zW, zE, zD, zC, isEmpty_map, zV, zM] <;> rfl); all_goals try ((with_reducible intro hI); try first | (cases hI; done) | (simp only [INTS, zL] at hI; try first | (exfalso; omega) | (have hT : True := hI; clear hT hI))))
      | (apply jT cx_ok; decide; rfl; rfl; rfl; decide; (iterate 3 (simp (disch := (first | omega | (simp only [vC]; omega))) only [push_cast, simprocAttr, takeM, dropM, zK, zA, zB, zN, zQ, zR, zO, zP, zT, zS, zU, leT, zH, hS2, hstT, hr3, List.length_reverse, natNe, zI, zG, zJ, zY, zX, zW, zE, zD, zC, isEmpty_map, zV, zM] <;> rfl)); (first | (focus (simp; done)) | (intro c hc; obtain ⟨x, _, rfl⟩ := List.mem_map.1 hc; rfl)); ((first | rfl | simp (disch := omega) only [push_cast])); ((try dsimp only); (try simp only [vC]); omega); ((try dsimp only); (try simp only [vC]); omega))
      | ((first | apply jh | apply ji); (iterate 2 (try (simp (disch := (first | omega | (simp only [vC]; omega))) only [push_cast, simprocAttr, takeM, dropM, zK, zA, zB, zN, zQ, zR, zO, zP, zT, zS, zU, leT, zH, hS2, hstT, hr3, List.length_reverse, natNe, zI, zG, zJ, zY, zX, zW, zE, zD, zC, isEmpty_map, zV, zM] <;> rfl))))

    all_goals (show _ = _; rw [List.take_of_length_le (by simp)])
  · have hstF : (u2 = (f : Int)) = False := eq_false hst
    rcases i2 with _ | i2
    · unfold pathC at hp02; rw [if_neg hst] at hp02; cases hp02
    · unfold pathC at hp02
      rw [if_neg hst] at hp02
      split at hp02
      · rename_i hok
        obtain ⟨q1, q2, q3, q4, q5, q6⟩ := okB_get hok
        obtain ⟨g1, g2, g3⟩ := lkAt_get ⟨q3, q4⟩
        obtain ⟨Z, hZ⟩ : ∃ z, PB.getD u2.toNat 0 = z := ⟨_, rfl⟩
        rw [hZ] at q3 q4 q5 q6 g1 g2 hp02
        repeat' first
          | apply jA | apply jB | apply jC | apply jD | apply jE | apply jF | apply jG | apply jH | apply jI | apply jJ
          | refine W.draw cx_mixed (by decide +kernel) ?_
          | ((first | (apply jK cx_ok; decide) | (apply jL cx_ok; decide; decide) | (apply jN; rfl; decide) | (apply jO; rfl; decide; decide) | apply jR); (simp (disch := (first | omega | (simp only [vC]; omega))) only [push_cast, simprocAttr, takeM, dropM, zK, zA, zB, zN, zQ, zR, zO, zP, zT, zS, zU, leT, zH, hS2, hstF, hZ, q1, q2, q3, q4, q5, q6, g1, g2, natNe, zI, zG, zJ, zY, zX, zW, zE, zD, zC, isEmpty_map, zV, zM] <;> rfl); all_goals try ((with_reducible intro hI); try first | (cases hI; done) | (simp only [INTS, zL] at hI; try first | (exfalso; omega) | (have hT : True := hI; clear hT hI))))
          | (apply jT cx_ok; decide; rfl; rfl; rfl; decide; (iterate 3 (simp (disch := (first | omega | (simp only [vC]; omega))) only [push_cast, simprocAttr, takeM, dropM, zK, zA, zB, zN, zQ, zR, zO, zP, zT, zS, zU, leT, zH, hS2, hstF, hZ, q1, q2, q3, q4, q5, q6, g1, g2, natNe, zI, zG, zJ, zY, zX, zW, zE, zD, zC, isEmpty_map, zV, zM] <;> rfl)); (first | (focus (simp; done)) | (intro c hc; obtain ⟨x, _, rfl⟩ := List.mem_map.1 hc; rfl)); ((first | rfl | simp (disch := omega) only [push_cast])); ((try dsimp only); (try simp only [vC]); omega); ((try dsimp only); (try simp only [vC]); omega))
          | ((first | apply jh | apply ji); (iterate 2 (try (simp (disch := (first | omega | (simp only [vC]; omega))) only [push_cast, simprocAttr, takeM, dropM, zK, zA, zB, zN, zQ, zR, zO, zP, zT, zS, zU, leT, zH, hS2, hstF, hZ, q1, q2, q3, q4, q5, q6, g1, g2, natNe, zI, zG, zJ, zY, zX, zW, zE, zD, zC, isEmpty_map, zV, zM] <;> rfl))))

        all_goals (refine ⟨i2, ?_, i2, (lkAt LK Z).a, (o2 ++ [Z]), rfl, hp02, (by simp only [zE, zD, zC]; omega), ?_, ?_, ?_, ?_, ?_, ?_, ?_⟩; (omega); all_goals first | (simp (disch := omega) only [push_cast, simprocAttr, hS2, hstF, hZ, q1, q2, q3, q4, q5, q6, g1, g2, natNe, zI, zG, zJ, zY, zX, zW, zE, zD, zC, isEmpty_map, zV, zM] <;> first | rfl | omega) | omega)
      · cases hp02
end Go.Proofs.Ks
