/-
  Contracts of functions, proved by going through their code. No conditions.
-/
import Derived.Test.YtdlflcambboojaaVaa
import Derived.Test.YtdlflcambboojaaVaz
set_option linter.unusedVariables false
set_option linter.unusedSimpArgs false
set_option maxHeartbeats 8000000
set_option maxRecDepth 10000
namespace Go.Proofs.Ks
open Go Go.Pg Go.Proofs
def spansP (r : Rec) : List Span := (List.range r.strikes.length).map fun i => spanF (nodesR r []) (linksR r []) 0 (3 + i)
theorem Spans_good (r : Rec) (hc : checkE r = 0) (hq : consP r [] = true) : OKv cx 34 [.agg (eRec r)] (.tup [lSpan (spansP r), ai 0]) := by
  have hv := checkE_V hc
  have hns := hv.nstrikes
  have hl := nodesR_len r []
  have hs : OKv cx 81 [.agg (eRec r), .lst []] (.tup [gSys (nodesR r []) (linksR r []), ai 0]) := solved_good r [] hc (by decide) nomore hq
  have hat : ∀ k : Nat, k < r.strikes.length → OKv cx 83 [gSys (nodesR r []) (linksR r []), ai 3, ai k] (ai (3 + (k : Int))) := fun k hk => by rw [← atP_strike (r := r) (more := []) (i := k) hk]; exact at_ok (nodesR r []) (linksR r []) 3 k
  have hsp : ∀ k : Nat, k < r.strikes.length → OKv cx 82 [gSys (nodesR r []) (linksR r []), ai 0, ai (3 + (k : Int))] (.agg (eSpan (spanF (nodesR r []) (linksR r []) 0 (3 + k)))) := fun k hk => by
    have := spanI_ok (more := []) hv (by decide) nomore (f := 0) (t := 3 + (k : Int)) (by omega) (by omega)
    rwa [show (3 + (k : Int)).toNat = 3 + k by omega] at this
  unfold spansP
  obtain ⟨SPK, hSPK⟩ : ∃ f, (fun i => spanF (nodesR r []) (linksR r []) 0 (3 + i)) = f := ⟨_, rfl⟩
  have hsp : ∀ k : Nat, k < r.strikes.length → OKv cx 82 [gSys (nodesR r []) (linksR r []), ai 0, ai (3 + (k : Int))] (.agg (eSpan (SPK k))) := fun k hk => by rw [← hSPK]; exact hsp k hk
  rw [hSPK]
  refine OKat.of_body (rs := [2, 3]) Try.func34 rfl (by decide +kernel) rfl (by simp [Try.ntmps34]) ?_
  simp only [Try.ntmps34]
  repeat' first
    | apply jA | apply jB | apply jC | apply jD | apply jE | apply jF | apply jG | apply jH | apply jI
    | ((first | (apply jK cx_ok; decide) | apply jR); (simp (disch := (first | omega | (simp only [vC]; omega))) only [push_cast, simprocAttr, takeM, dropM, zK, zA, zB, zN, zQ, zR, zO, zP, zT, zS, zU, leT, zH] <;> rfl); all_goals try ((with_reducible intro hI); try first | (cases hI; done) | (simp only [INTS, zL] at hI; try first | (exfalso; omega) | (have hT : True := hI; clear hT hI))))
    | (apply jT cx_ok; decide; rfl; rfl; rfl; decide; (iterate 3 (simp (disch := (first | omega | (simp only [vC]; omega))) only [push_cast, simprocAttr, takeM, dropM, zK, zA, zB, zN, zQ, zR, zO, zP, zT, zS, zU, leT, zH] <;> rfl)); (first | (focus (simp; done)) | (intro c hc; obtain ⟨x, _, rfl⟩ := List.mem_map.1 hc; rfl)); ((first | rfl | simp (disch := omega) only [push_cast])); ((try dsimp only); (try simp only [vC]); omega); ((try dsimp only); (try simp only [vC]); omega))
    | ((apply jV cx_ok; decide); (iterate 2 (simp (disch := (first | omega | (simp only [vC]; omega))) only [push_cast, simprocAttr, takeM, dropM, zK, zA, zB, zN, zQ, zR, zO, zP, zT, zS, zU, leT, zH] <;> rfl)); (with_reducible first | exact hs); try first | rfl | (simp (disch := (first | omega | (simp only [vC]; omega))) only [push_cast, simprocAttr, takeM, dropM, zK, zA, zB, zN, zQ, zR, zO, zP, zT, zS, zU, leT, zH] <;> rfl))
    | ((first | apply jh | apply ji); (iterate 2 (try (simp (disch := (first | omega | (simp only [vC]; omega))) only [push_cast, simprocAttr, takeM, dropM, zK, zA, zB, zN, zQ, zR, zO, zP, zT, zS, zU, leT, zH] <;> rfl))))

  refine AW.adopt 6 2 23 ?_ ?_
  · (simp (disch := omega) only [push_cast, simprocAttr])
  refine AW.loop (fun n s => ∃ (k : Nat), n = r.strikes.length - k ∧ (k ≤ r.strikes.length) ∧ 2 ≤ s.nx ∧ s.tm 1 = .ptr 0 0 0 1 ∧ s.tm 4 = gSys (nodesR r []) (linksR r []) ∧ s.tm 6 = .ref 1 0 k ∧ s.tm 18 = ai r.strikes.length ∧ s.tm 19 = ai k ∧ Pg.rowAt s.H (1) = some ({ k := 2, es := ((List.range k).map SPK).map eSpan, ty := 23, lo := k })) (r.strikes.length) ⟨0, rfl, (Nat.zero_le _), ?_, ?_, ?_, ?_, ?_, ?_, ?_⟩ ?_
  iterate 7 (first | (simp (disch := omega) only [push_cast, simprocAttr, List.range_zero, zW] <;> first | rfl | omega) | omega)
  rintro n s ⟨k, hn, hp0, hnl, hS⟩
  have hZ : (1 : Nat) ≠ s.nx ∧ s.nx ≠ (1 : Nat) := by omega
  by_cases hk : k < r.strikes.length
  · have hkI : (k : Int) < (r.strikes.length : Int) := by omega
    have c1 := hat k hk
    have c2 := hsp k hk
    have hsu : (List.range (k + 1)).map SPK = (List.range k).map SPK ++ [SPK k] := by rw [List.range_succ, List.map_append]; rfl
    repeat' first
      | apply jA | apply jB | apply jC | apply jD | apply jE | apply jF | apply jG | apply jH | apply jI
      | ((first | (apply jK cx_ok; decide) | apply jR); (simp (disch := (first | omega | (simp only [vC, List.length_range]; omega))) only [push_cast, simprocAttr, takeM, dropM, zK, zA, zB, zN, zQ, zR, zO, zP, zT, zS, zU, leT, zH, hS, hZ, hkI, zY, zX, zW, zE, zD, zC, List.length_range, isEmpty_map, zV, zM] <;> rfl); all_goals try ((with_reducible intro hI); try first | (cases hI; done) | (simp only [INTS, zL] at hI; try first | (exfalso; omega) | (have hT : True := hI; clear hT hI))))
      | (apply jT cx_ok; decide; rfl; rfl; rfl; decide; (iterate 3 (simp (disch := (first | omega | (simp only [vC, List.length_range]; omega))) only [push_cast, simprocAttr, takeM, dropM, zK, zA, zB, zN, zQ, zR, zO, zP, zT, zS, zU, leT, zH, hS, hZ, hkI, zY, zX, zW, zE, zD, zC, List.length_range, isEmpty_map, zV, zM] <;> rfl)); (first | (focus (simp; done)) | (intro c hc; obtain ⟨x, _, rfl⟩ := List.mem_map.1 hc; rfl)); ((first | rfl | simp (disch := omega) only [push_cast])); ((try dsimp only); (try simp only [vC, List.length_range]); omega); ((try dsimp only); (try simp only [vC, List.length_range]); omega))
      | ((apply jV cx_ok; decide); (iterate 2 (simp (disch := (first | omega | (simp only [vC, List.length_range]; omega))) only [push_cast, simprocAttr, takeM, dropM, zK, zA, zB, zN, zQ, zR, zO, zP, zT, zS, zU, leT, zH, hS, hZ, hkI, zY, zX, zW, zE, zD, zC, List.length_range, isEmpty_map, zV, zM] <;> rfl)); (with_reducible first | exact c1 | exact c2); try first | rfl | (simp (disch := (first | omega | (simp only [vC, List.length_range]; omega))) only [push_cast, simprocAttr, takeM, dropM, zK, zA, zB, zN, zQ, zR, zO, zP, zT, zS, zU, leT, zH, hS, hZ, hkI, zY, zX, zW, zE, zD, zC, List.length_range, isEmpty_map, zV, zM] <;> rfl))
      | ((first | apply jh | apply ji); (iterate 2 (try (simp (disch := (first | omega | (simp only [vC, List.length_range]; omega))) only [push_cast, simprocAttr, takeM, dropM, zK, zA, zB, zN, zQ, zR, zO, zP, zT, zS, zU, leT, zH, hS, hZ, hkI, zY, zX, zW, zE, zD, zC, List.length_range, isEmpty_map, zV, zM] <;> rfl))))

    all_goals (refine ⟨r.strikes.length - (k + 1), ?_, k + 1, rfl, (by omega), ?_, ?_, ?_, ?_, ?_, ?_, ?_⟩; (omega); all_goals first | (simp (disch := omega) only [push_cast, simprocAttr, hS, hZ, hkI, hsu, zY, zX, zW, zE, zD, zC, List.length_range, isEmpty_map, zV, zM] <;> first | rfl | omega) | omega)
  have hkI : ¬ (k : Int) < (r.strikes.length : Int) := by omega
  have hkS : k = r.strikes.length := by omega
  subst hkS
  repeat' first
    | apply jA | apply jB | apply jC | apply jD | apply jE | apply jF | apply jG | apply jH | apply jI
    | ((first | (apply jK cx_ok; decide) | apply jR); (simp (disch := (first | omega | (simp only [vC, List.length_range]; omega))) only [push_cast, simprocAttr, takeM, dropM, zK, zA, zB, zN, zQ, zR, zO, zP, zT, zS, zU, leT, zH, hS, hZ, hkI, zY, zX, zW, zE, zD, zC, List.length_range, isEmpty_map, zV, zM] <;> rfl); all_goals try ((with_reducible intro hI); try first | (cases hI; done) | (simp only [INTS, zL] at hI; try first | (exfalso; omega) | (have hT : True := hI; clear hT hI))))
    | (apply jT cx_ok; decide; rfl; rfl; rfl; decide; (iterate 3 (simp (disch := (first | omega | (simp only [vC, List.length_range]; omega))) only [push_cast, simprocAttr, takeM, dropM, zK, zA, zB, zN, zQ, zR, zO, zP, zT, zS, zU, leT, zH, hS, hZ, hkI, zY, zX, zW, zE, zD, zC, List.length_range, isEmpty_map, zV, zM] <;> rfl)); (first | (focus (simp; done)) | (intro c hc; obtain ⟨x, _, rfl⟩ := List.mem_map.1 hc; rfl)); ((first | rfl | simp (disch := omega) only [push_cast])); ((try dsimp only); (try simp only [vC, List.length_range]); omega); ((try dsimp only); (try simp only [vC, List.length_range]); omega))
    | ((first | apply jh | apply ji); (iterate 2 (try (simp (disch := (first | omega | (simp only [vC, List.length_range]; omega))) only [push_cast, simprocAttr, takeM, dropM, zK, zA, zB, zN, zQ, zR, zO, zP, zT, zS, zU, leT, zH, hS, hZ, hkI, zY, zX, zW, zE, zD, zC, List.length_range, isEmpty_map, zV, zM] <;> rfl))))

  all_goals (show _ = _; rfl)
end Go.Proofs.Ks

namespace Go.Proofs.Ks
open Go Go.Pg Go.Proofs
theorem SameInts_ok (a b : List Int) (ha : a.length ≤ 1099511627776) (hb : b.length ≤ 1099511627776) : OKv cx 51 [lInt a, lInt b] (ab (decide (a = b))) := by
  by_cases hl : a.length = b.length
  · have hlI : ((a.length : Int) = (b.length : Int)) = True := eq_true (by omega)
    refine OKat.of_body (rs := [4]) Try.func51 rfl (by decide +kernel) rfl (by simp [Try.ntmps51]) ?_
    simp only [Try.ntmps51]
    repeat' first
      | apply jA | apply jB | apply jC | apply jD | apply jE | apply jF | apply jG | apply jH | apply jI | apply jJ
      | refine W.draw cx_mixed (by decide +kernel) ?_
      | ((first | (apply jK cx_ok; decide) | (apply jL cx_ok; decide; decide) | apply jR); (simp (disch := omega) only [push_cast, simprocAttr, hlI] <;> rfl); all_goals try ((with_reducible intro hI); try first | (cases hI; done) | (simp only [INTS, zL] at hI; try first | (exfalso; omega) | (have hT : True := hI; clear hT hI))))
      | ((first | apply jf | apply jg); (iterate 2 (try (simp (disch := omega) only [push_cast, simprocAttr, hlI] <;> rfl))))

    refine AW.loop (fun n s => ∃ (k : Nat), n = a.length - k ∧ (k ≤ a.length) ∧ (a.take k = b.take k) ∧ s.tm 0 = lInt a ∧ s.tm 1 = lInt b ∧ s.tm 5 = ai k) (a.length) ⟨0, rfl, (Nat.zero_le _), rfl, ?_, ?_, ?_⟩ ?_
    iterate 3 (first | (simp (disch := omega) only [push_cast, simprocAttr] <;> first | rfl | omega) | omega)
    rintro n s ⟨k, hn, hp0, hp1, hS⟩
    by_cases hk : k < a.length
    · have hkI : (k : Int) < (a.length : Int) := by omega
      have hkB : (k : Int) < (b.length : Int) := by omega
      have hkb : k < b.length := by omega
      obtain ⟨x, hx⟩ : ∃ x, a[k]? = some x := ⟨_, List.getElem?_eq_getElem hk⟩
      obtain ⟨y, hy⟩ : ∃ y, b[k]? = some y := ⟨_, List.getElem?_eq_getElem hkb⟩
      have gx : (a.map eInt)[k]? = some (eInt x) := by rw [List.getElem?_map, hx]; rfl
      have gy : (b.map eInt)[k]? = some (eInt y) := by rw [List.getElem?_map, hy]; rfl
      have dx : (a.map eInt).getD k [] = eInt x := by rw [List.getD_eq_getElem?_getD, gx]; rfl
      have dy : (b.map eInt).getD k [] = eInt y := by rw [List.getD_eq_getElem?_getD, gy]; rfl
      by_cases hxy : x = y
      · have hxT : (x = y) = True := eq_true hxy
        repeat' first
          | apply jA | apply jB | apply jC | apply jD | apply jE | apply jF | apply jG | apply jH | apply jI | apply jJ
          | refine W.draw cx_mixed (by decide +kernel) ?_
          | ((first | (apply jK cx_ok; decide) | (apply jL cx_ok; decide; decide) | apply jR); (simp (disch := omega) only [push_cast, simprocAttr, hS, hlI, hkI, hkB, gx, gy, dx, dy, hk, hkb, hxT] <;> rfl); all_goals try ((with_reducible intro hI); try first | (cases hI; done) | (simp only [INTS, zL] at hI; try first | (exfalso; omega) | (have hT : True := hI; clear hT hI))))
          | ((first | apply jf | apply jg); (iterate 2 (try (simp (disch := omega) only [push_cast, simprocAttr, hS, hlI, hkI, hkB, gx, gy, dx, dy, hk, hkb, hxT] <;> rfl))))

        all_goals (refine ⟨a.length - (k + 1), ?_, k + 1, rfl, (by omega), (by rw [List.take_add_one, List.take_add_one, hp1, hx, hy]; rw [hxy]), ?_, ?_, ?_⟩; (omega); all_goals first | (simp (disch := omega) only [push_cast, simprocAttr, hS, hlI, hkI, hkB, gx, gy, dx, dy, hk, hkb, hxT] <;> first | rfl | omega) | omega)
      · have hne : decide (a = b) = false := decide_eq_false fun e => by subst e; rw [hx] at hy; injection hy with hy; exact hxy hy
        rw [hne]
        have hxF : (x = y) = False := eq_false hxy
        repeat' first
          | apply jA | apply jB | apply jC | apply jD | apply jE | apply jF | apply jG | apply jH | apply jI | apply jJ
          | refine W.draw cx_mixed (by decide +kernel) ?_
          | ((first | (apply jK cx_ok; decide) | (apply jL cx_ok; decide; decide) | apply jR); (simp (disch := omega) only [push_cast, simprocAttr, hS, hlI, hkI, hkB, gx, gy, dx, dy, hk, hkb, hxF] <;> rfl); all_goals try ((with_reducible intro hI); try first | (cases hI; done) | (simp only [INTS, zL] at hI; try first | (exfalso; omega) | (have hT : True := hI; clear hT hI))))
          | ((first | apply jf | apply jg); (iterate 2 (try (simp (disch := omega) only [push_cast, simprocAttr, hS, hlI, hkI, hkB, gx, gy, dx, dy, hk, hkb, hxF] <;> rfl))))

        all_goals (show _ = _; rfl)
    · have hkI : ¬ (k : Int) < (a.length : Int) := by omega
      have he : decide (a = b) = true := decide_eq_true (by rw [List.take_of_length_le (by omega), List.take_of_length_le (by omega)] at hp1; exact hp1)
      rw [he]
      repeat' first
        | apply jA | apply jB | apply jC | apply jD | apply jE | apply jF | apply jG | apply jH | apply jI | apply jJ
        | refine W.draw cx_mixed (by decide +kernel) ?_
        | ((first | (apply jK cx_ok; decide) | (apply jL cx_ok; decide; decide) | apply jR); (simp (disch := omega) only [push_cast, simprocAttr, hS, hlI, hkI] <;> rfl); all_goals try ((with_reducible intro hI); try first | (cases hI; done) | (simp only [INTS, zL] at hI; try first | (exfalso; omega) | (have hT : True := hI; clear hT hI))))
        | ((first | apply jf | apply jg); (iterate 2 (try (simp (disch := omega) only [push_cast, simprocAttr, hS, hlI, hkI] <;> rfl))))

      all_goals (show _ = _; rfl)
  · have hlF : ((a.length : Int) = (b.length : Int)) = False := eq_false (by omega)
    have hne : decide (a = b) = false := decide_eq_false fun e => hl (by rw [e])
    rw [hne]
    refine OKat.of_body (rs := [4]) Try.func51 rfl (by decide +kernel) rfl (by simp [Try.ntmps51]) ?_
    simp only [Try.ntmps51]
    repeat' first
      | apply jA | apply jB | apply jC | apply jD | apply jE | apply jF | apply jG | apply jH | apply jI | apply jJ
      | refine W.draw cx_mixed (by decide +kernel) ?_
      | ((first | (apply jK cx_ok; decide) | (apply jL cx_ok; decide; decide) | apply jR); (simp (disch := omega) only [push_cast, simprocAttr, hlF] <;> rfl); all_goals try ((with_reducible intro hI); try first | (cases hI; done) | (simp only [INTS, zL] at hI; try first | (exfalso; omega) | (have hT : True := hI; clear hT hI))))
      | ((first | apply jf | apply jg); (iterate 2 (try (simp (disch := omega) only [push_cast, simprocAttr, hlF] <;> rfl))))

    all_goals (show _ = _; rfl)
theorem SameSpans_ok (a b : List Span) (ha : a.length ≤ 1099511627776) (hb : b.length ≤ 1099511627776) : OKv cx 37 [lSpan a, lSpan b] (ab (decide (a = b))) := by
  by_cases hl : a.length = b.length
  · have hlI : ((a.length : Int) = (b.length : Int)) = True := eq_true (by omega)
    refine OKat.of_body (rs := [4]) Try.func37 rfl (by decide +kernel) rfl (by simp [Try.ntmps37]) ?_
    simp only [Try.ntmps37]
    repeat' first
      | apply jA | apply jB | apply jC | apply jD | apply jE | apply jF | apply jG | apply jH | apply jI | apply jJ
      | refine W.draw cx_mixed (by decide +kernel) ?_
      | ((first | (apply jK cx_ok; decide) | (apply jL cx_ok; decide; decide) | apply jR); (simp (disch := omega) only [push_cast, simprocAttr, hlI] <;> rfl); all_goals try ((with_reducible intro hI); try first | (cases hI; done) | (simp only [INTS, zL] at hI; try first | (exfalso; omega) | (have hT : True := hI; clear hT hI))))
      | ((first | apply jf | apply jg); (iterate 2 (try (simp (disch := omega) only [push_cast, simprocAttr, hlI] <;> rfl))))

    refine AW.loop (fun n s => ∃ (k : Nat), n = a.length - k ∧ (k ≤ a.length) ∧ (a.take k = b.take k) ∧ s.tm 0 = lSpan a ∧ s.tm 1 = lSpan b ∧ s.tm 5 = ai k) (a.length) ⟨0, rfl, (Nat.zero_le _), rfl, ?_, ?_, ?_⟩ ?_
    iterate 3 (first | (simp (disch := omega) only [push_cast, simprocAttr] <;> first | rfl | omega) | omega)
    rintro n s ⟨k, hn, hp0, hp1, hS⟩
    by_cases hk : k < a.length
    · have hkI : (k : Int) < (a.length : Int) := by omega
      have hkB : (k : Int) < (b.length : Int) := by omega
      have hkb : k < b.length := by omega
      obtain ⟨x, hx⟩ : ∃ x, a[k]? = some x := ⟨_, List.getElem?_eq_getElem hk⟩
      obtain ⟨y, hy⟩ : ∃ y, b[k]? = some y := ⟨_, List.getElem?_eq_getElem hkb⟩
      have gx : (a.map eSpan)[k]? = some (eSpan x) := by rw [List.getElem?_map, hx]; rfl
      have gy : (b.map eSpan)[k]? = some (eSpan y) := by rw [List.getElem?_map, hy]; rfl
      have dx : (a.map eSpan).getD k [] = eSpan x := by rw [List.getD_eq_getElem?_getD, gx]; rfl
      have dy : (b.map eSpan).getD k [] = eSpan y := by rw [List.getD_eq_getElem?_getD, gy]; rfl
      by_cases hxy : x.lo = y.lo ∧ x.hi = y.hi
      · have hxT : (x.lo = y.lo) = True := eq_true hxy.1
        have hxU : (x.hi = y.hi) = True := eq_true hxy.2
        repeat' first
          | apply jA | apply jB | apply jC | apply jD | apply jE | apply jF | apply jG | apply jH | apply jI | apply jJ
          | refine W.draw cx_mixed (by decide +kernel) ?_
          | ((first | (apply jK cx_ok; decide) | (apply jL cx_ok; decide; decide) | apply jR); (simp (disch := omega) only [push_cast, simprocAttr, hS, hlI, hkI, hkB, gx, gy, dx, dy, hk, hkb, hxT, hxU] <;> rfl); all_goals try ((with_reducible intro hI); try first | (cases hI; done) | (simp only [INTS, zL] at hI; try first | (exfalso; omega) | (have hT : True := hI; clear hT hI))))
          | ((first | apply jf | apply jg); (iterate 2 (try (simp (disch := omega) only [push_cast, simprocAttr, hS, hlI, hkI, hkB, gx, gy, dx, dy, hk, hkb, hxT, hxU] <;> rfl))))

        all_goals (refine ⟨a.length - (k + 1), ?_, k + 1, rfl, (by omega), (by rw [List.take_add_one, List.take_add_one, hp1, hx, hy]; rw [show x = y by cases x; cases y; simp only [Span.mk.injEq]; exact hxy]), ?_, ?_, ?_⟩; (omega); all_goals first | (simp (disch := omega) only [push_cast, simprocAttr, hS, hlI, hkI, hkB, gx, gy, dx, dy, hk, hkb, hxT] <;> first | rfl | omega) | omega)
      · have hne : decide (a = b) = false := decide_eq_false fun e => by subst e; rw [hx] at hy; injection hy with hy; subst hy; exact hxy ⟨rfl, rfl⟩
        rw [hne]
        by_cases hlo : x.lo = y.lo
        · have hxT : (x.lo = y.lo) = True := eq_true hlo
          have hxF : (x.hi = y.hi) = False := eq_false fun h => hxy ⟨hlo, h⟩
          repeat' first
            | apply jA | apply jB | apply jC | apply jD | apply jE | apply jF | apply jG | apply jH | apply jI | apply jJ
            | refine W.draw cx_mixed (by decide +kernel) ?_
            | ((first | (apply jK cx_ok; decide) | (apply jL cx_ok; decide; decide) | apply jR); (simp (disch := omega) only [push_cast, simprocAttr, hS, hlI, hkI, hkB, gx, gy, dx, dy, hk, hkb, hxT, hxF] <;> rfl); all_goals try ((with_reducible intro hI); try first | (cases hI; done) | (simp only [INTS, zL] at hI; try first | (exfalso; omega) | (have hT : True := hI; clear hT hI))))
            | ((first | apply jf | apply jg); (iterate 2 (try (simp (disch := omega) only [push_cast, simprocAttr, hS, hlI, hkI, hkB, gx, gy, dx, dy, hk, hkb, hxT, hxF] <;> rfl))))

          all_goals (show _ = _; rfl)
        · have hxF : (x.lo = y.lo) = False := eq_false hlo
          repeat' first
            | apply jA | apply jB | apply jC | apply jD | apply jE | apply jF | apply jG | apply jH | apply jI | apply jJ
            | refine W.draw cx_mixed (by decide +kernel) ?_
            | ((first | (apply jK cx_ok; decide) | (apply jL cx_ok; decide; decide) | apply jR); (simp (disch := omega) only [push_cast, simprocAttr, hS, hlI, hkI, hkB, gx, gy, dx, dy, hk, hkb, hxF] <;> rfl); all_goals try ((with_reducible intro hI); try first | (cases hI; done) | (simp only [INTS, zL] at hI; try first | (exfalso; omega) | (have hT : True := hI; clear hT hI))))
            | ((first | apply jf | apply jg); (iterate 2 (try (simp (disch := omega) only [push_cast, simprocAttr, hS, hlI, hkI, hkB, gx, gy, dx, dy, hk, hkb, hxF] <;> rfl))))

          all_goals (show _ = _; rfl)
    · have hkI : ¬ (k : Int) < (a.length : Int) := by omega
      have he : decide (a = b) = true := decide_eq_true (by rw [List.take_of_length_le (by omega), List.take_of_length_le (by omega)] at hp1; exact hp1)
      rw [he]
      repeat' first
        | apply jA | apply jB | apply jC | apply jD | apply jE | apply jF | apply jG | apply jH | apply jI | apply jJ
        | refine W.draw cx_mixed (by decide +kernel) ?_
        | ((first | (apply jK cx_ok; decide) | (apply jL cx_ok; decide; decide) | apply jR); (simp (disch := omega) only [push_cast, simprocAttr, hS, hlI, hkI] <;> rfl); all_goals try ((with_reducible intro hI); try first | (cases hI; done) | (simp only [INTS, zL] at hI; try first | (exfalso; omega) | (have hT : True := hI; clear hT hI))))
        | ((first | apply jf | apply jg); (iterate 2 (try (simp (disch := omega) only [push_cast, simprocAttr, hS, hlI, hkI] <;> rfl))))

      all_goals (show _ = _; rfl)
  · have hlF : ((a.length : Int) = (b.length : Int)) = False := eq_false (by omega)
    have hne : decide (a = b) = false := decide_eq_false fun e => hl (by rw [e])
    rw [hne]
    refine OKat.of_body (rs := [4]) Try.func37 rfl (by decide +kernel) rfl (by simp [Try.ntmps37]) ?_
    simp only [Try.ntmps37]
    repeat' first
      | apply jA | apply jB | apply jC | apply jD | apply jE | apply jF | apply jG | apply jH | apply jI | apply jJ
      | refine W.draw cx_mixed (by decide +kernel) ?_
      | ((first | (apply jK cx_ok; decide) | (apply jL cx_ok; decide; decide) | apply jR); (simp (disch := omega) only [push_cast, simprocAttr, hlF] <;> rfl); all_goals try ((with_reducible intro hI); try first | (cases hI; done) | (simp only [INTS, zL] at hI; try first | (exfalso; omega) | (have hT : True := hI; clear hT hI))))
      | ((first | apply jf | apply jg); (iterate 2 (try (simp (disch := omega) only [push_cast, simprocAttr, hlF] <;> rfl))))

    all_goals (show _ = _; rfl)
end Go.Proofs.Ks

namespace Go.Proofs.Ks
open Go Go.Pg Go.Proofs
def legB (l : Leg) : Bool := decide (1 ≤ l.secs) && decide (l.secs ≤ 36000) && (decide (l.rate = 0) || (decide (900000 ≤ l.rate) && decide (l.rate ≤ 1100000)))
def runT : List Leg → Int → Int → Int
  | [], T, P => if 1073741823 < T ∨ 43200000000 ≤ P then 1 else 0
  | l :: r, T, P => if legB l = true then runT r (T + l.secs) (P + l.secs * l.rate) else 1
def runE (x : Run) : Int := if 40 < x.legs.length then 2 else if x.start < 0 ∨ 1073741823 < x.start ∨ x.micro < 0 ∨ 43200000000 ≤ x.micro then 1 else runT x.legs x.start x.micro
def sumT : List Leg → Int
  | [] => 0
  | l :: r => l.secs + sumT r
def sumP : List Leg → Int
  | [] => 0
  | l :: r => l.secs * l.rate + sumP r
theorem legB_iff {l : Leg} : legB l = true ↔ 1 ≤ l.secs ∧ l.secs ≤ 36000 ∧ (l.rate = 0 ∨ (900000 ≤ l.rate ∧ l.rate ≤ 1100000)) := by
  unfold legB; simp only [Bool.and_eq_true, Bool.or_eq_true, decide_eq_true_eq, and_assoc]
theorem mul_bd {a b A B : Int} (ha : 0 ≤ a) (ha2 : a ≤ A) (hb : 0 ≤ b) (hb2 : b ≤ B) : 0 ≤ a * b ∧ a * b ≤ A * B := by
  refine ⟨Int.mul_nonneg ha hb, ?_⟩
  exact Int.le_trans (Int.mul_le_mul_of_nonneg_right ha2 hb) (Int.mul_le_mul_of_nonneg_left hb2 (by omega))
theorem leg_bd {l : Leg} (h : legB l = true) : 1 ≤ l.secs ∧ l.secs ≤ 36000 ∧ 0 ≤ l.rate ∧ l.rate ≤ 1100000 ∧ 0 ≤ l.secs * l.rate ∧ l.secs * l.rate ≤ 39600000000 := by
  obtain ⟨h1, h2, h3⟩ := legB_iff.1 h
  have h4 : 0 ≤ l.rate ∧ l.rate ≤ 1100000 := by omega
  have := mul_bd (a := l.secs) (b := l.rate) (A := 36000) (B := 1100000) (by omega) h2 h4.1 h4.2
  omega
theorem runT_zero : ∀ {l : List Leg} {T P : Int}, runT l T P = 0 → (∀ y ∈ l, legB y = true) ∧ T + sumT l ≤ 1073741823 ∧ P + sumP l < 43200000000
  | [], T, P, h => by
    unfold runT at h
    split at h
    · cases h
    · simp only [sumT, sumP]; exact ⟨fun y hy => (by cases hy), by omega, by omega⟩
  | l :: r, T, P, h => by
    unfold runT at h
    split at h
    · rename_i hl
      obtain ⟨h1, h2, h3⟩ := runT_zero h
      simp only [sumT, sumP]
      refine ⟨fun y hy => ?_, by omega, by omega⟩
      rcases List.mem_cons.1 hy with rfl | hy
      · exact hl
      · exact h1 y hy
    · cases h
structure RunV (x : Run) : Prop where
  n : x.legs.length ≤ 40
  start : 0 ≤ x.start ∧ x.start ≤ 1073741823
  micro : 0 ≤ x.micro ∧ x.micro < 43200000000
  legs : ∀ y ∈ x.legs, legB y = true
  time : x.start + sumT x.legs ≤ 1073741823
  place : x.micro + sumP x.legs < 43200000000
theorem runE_V {x : Run} (h : runE x = 0) : RunV x := by
  unfold runE at h
  split at h
  · cases h
  · split at h
    · cases h
    · obtain ⟨h1, h2, h3⟩ := runT_zero h
      exact ⟨by omega, by omega, by omega, h1, h2, h3⟩
theorem CheckRun_ok (x : Run) (hlen : x.legs.length ≤ 1099511627776) : OKv cx 68 [.agg (eRun x)] (ai (runE x)) := by
  by_cases hn : 40 < x.legs.length
  · have e : runE x = 2 := by unfold runE; rw [if_pos hn]
    have hnI : (40 : Int) < (x.legs.length : Int) := by omega
    rw [e]
    refine OKat.of_body (rs := [2]) Try.func68 rfl (by decide +kernel) rfl (by simp [Try.ntmps68]) ?_
    simp only [Try.ntmps68]
    repeat' first
      | apply jA | apply jB | apply jC | apply jD | apply jE | apply jF | apply jG | apply jH | apply jI | apply jJ
      | refine W.draw cx_mixed (by decide +kernel) ?_
      | ((first | (apply jK cx_ok; decide) | (apply jL cx_ok; decide; decide) | apply jM cx_ok | (apply jN; rfl; decide) | (apply jO; rfl; decide; decide) | apply jR); (simp (disch := omega) only [push_cast, simprocAttr, hnI] <;> rfl); all_goals try ((with_reducible intro hI); try first | (cases hI; done) | (simp only [INTS, zL] at hI; try first | (exfalso; omega) | (have hT : True := hI; clear hT hI))))
      | ((first | (apply jP; rfl; decide) | (apply jQ; rfl; decide; decide)); (simp (disch := omega) only [push_cast, simprocAttr, hnI] <;> rfl))
      | ((first | apply jf | apply jg); (iterate 2 (try (simp (disch := omega) only [push_cast, simprocAttr, hnI] <;> rfl))))

    all_goals (show _ = _; rfl)
  · have hnI : ¬ (40 : Int) < (x.legs.length : Int) := by omega
    by_cases hb : x.start < 0 ∨ 1073741823 < x.start ∨ x.micro < 0 ∨ 43200000000 ≤ x.micro
    · have e : runE x = 1 := by unfold runE; rw [if_neg hn, if_pos hb]
      rw [e]
      refine OKat.of_body (rs := [2]) Try.func68 rfl (by decide +kernel) rfl (by simp [Try.ntmps68]) ?_
      simp only [Try.ntmps68]
      repeat' first
        | apply jA | apply jB | apply jC | apply jD | apply jE | apply jF | apply jG | apply jH | apply jI | apply jJ
        | refine W.draw cx_mixed (by decide +kernel) ?_
        | ((first | (apply jK cx_ok; decide) | (apply jL cx_ok; decide; decide) | apply jM cx_ok | (apply jN; rfl; decide) | (apply jO; rfl; decide; decide) | apply jR); (simp (disch := omega) only [push_cast, simprocAttr, hnI] <;> rfl); all_goals try ((with_reducible intro hI); try first | (cases hI; done) | (simp only [INTS, zL] at hI; try first | (exfalso; omega) | (have hT : True := hI; clear hT hI))))
        | ((first | (apply jP; rfl; decide) | (apply jQ; rfl; decide; decide)); (simp (disch := omega) only [push_cast, simprocAttr, hnI] <;> rfl))
        | ((first | apply jf | apply jg); (iterate 2 (try (simp (disch := omega) only [push_cast, simprocAttr, hnI] <;> rfl))))

      all_goals first
        | (show _ = _; rfl)
        | (exfalso; omega)
    · have e : runE x = runT x.legs x.start x.micro := by unfold runE; rw [if_neg hn, if_neg hb]
      obtain ⟨RES, hRES⟩ : ∃ z, runT x.legs x.start x.micro = z := ⟨_, rfl⟩
      rw [e, hRES]
      simp only [not_or, Int.not_lt, Int.not_le] at hb
      obtain ⟨b1, b2, b3, b4⟩ := hb
      refine OKat.of_body (rs := [2]) Try.func68 rfl (by decide +kernel) rfl (by simp [Try.ntmps68]) ?_
      simp only [Try.ntmps68]
      repeat' first
        | apply jA | apply jB | apply jC | apply jD | apply jE | apply jF | apply jG | apply jH | apply jI | apply jJ
        | refine W.draw cx_mixed (by decide +kernel) ?_
        | ((first | (apply jK cx_ok; decide) | (apply jL cx_ok; decide; decide) | apply jM cx_ok | (apply jN; rfl; decide) | (apply jO; rfl; decide; decide) | apply jR); (simp (disch := omega) only [push_cast, simprocAttr, hnI, b1, b2, b3, b4] <;> rfl); all_goals try ((with_reducible intro hI); try first | (cases hI; done) | (simp only [INTS, zL] at hI; try first | (exfalso; omega) | (have hT : True := hI; clear hT hI))))
        | ((first | (apply jP; rfl; decide) | (apply jQ; rfl; decide; decide)); (simp (disch := omega) only [push_cast, simprocAttr, hnI, b1, b2, b3, b4] <;> rfl))
        | ((first | apply jf | apply jg); (iterate 2 (try (simp (disch := omega) only [push_cast, simprocAttr, hnI, b1, b2, b3, b4] <;> rfl))))

      refine AW.loop (fun n s => ∃ (k : Nat) (T P : Int) (rest : List Leg), n = rest.length ∧ (x.legs.drop k = rest) ∧ (runT rest T P = RES) ∧ (0 ≤ T ∧ T ≤ 1073741823 + 36000 * (k : Int)) ∧ (0 ≤ P ∧ P ≤ 43200000000 + 39600000000 * (k : Int)) ∧ 1 ≤ s.nx ∧ s.tm 3 = ai 43200000000 ∧ s.tm 4 = ai T ∧ s.tm 5 = ai P ∧ s.tm 36 = lLeg x.legs ∧ s.tm 37 = ai x.legs.length ∧ s.tm 38 = ai k) (x.legs.length) ⟨0, x.start, x.micro, x.legs, rfl, rfl, hRES, ⟨b1, (by omega)⟩, ⟨b3, (by omega)⟩, ?_, ?_, ?_, ?_, ?_, ?_, ?_⟩ ?_
      iterate 7 (first | (simp (disch := omega) only [push_cast, simprocAttr, hnI, b1, b2, b3, b4] <;> first | rfl | omega) | omega)
      rintro n s ⟨k, T, P, rest, hn, hp0, hp1, hp2, hp3, hnl, hS⟩
      rcases rest with _ | ⟨y, rest⟩
      · have hk := drop_nil hp0
        unfold runT at hp1
        repeat' first
          | apply jA | apply jB | apply jC | apply jD | apply jE | apply jF | apply jG | apply jH | apply jI | apply jJ
          | refine W.draw cx_mixed (by decide +kernel) ?_
          | ((first | (apply jK cx_ok; decide) | (apply jL cx_ok; decide; decide) | apply jM cx_ok | (apply jN; rfl; decide) | (apply jO; rfl; decide; decide) | apply jR); (simp (disch := omega) only [push_cast, simprocAttr, hS, hk] <;> rfl); all_goals try ((with_reducible intro hI); try first | (cases hI; done) | (simp only [INTS, zL] at hI; try first | (exfalso; omega) | (have hT : True := hI; clear hT hI))))
          | ((first | (apply jP; rfl; decide) | (apply jQ; rfl; decide; decide)); (simp (disch := omega) only [push_cast, simprocAttr, hS, hk] <;> rfl))
          | ((first | apply jf | apply jg); (iterate 2 (try (simp (disch := omega) only [push_cast, simprocAttr, hS, hk] <;> rfl))))

        all_goals (show _ = _; rw [← hp1]; split <;> first | rfl | (exfalso; omega))
      · obtain ⟨hk, hg, hd', hl', hm, hx⟩ := drop_cons hp0 eLeg []
        have hk40 : (k : Int) ≤ 40 := by omega
        unfold runT at hp1
        by_cases hlg : legB y = true
        · obtain ⟨q1, q2, q3, q4, q5, q6⟩ := leg_bd hlg
          have q7 := legB_iff.1 hlg
          rw [if_pos hlg] at hp1
          repeat' first
            | apply jA | apply jB | apply jC | apply jD | apply jE | apply jF | apply jG | apply jH | apply jI | apply jJ
            | refine W.draw cx_mixed (by decide +kernel) ?_
            | ((first | (apply jK cx_ok; decide) | (apply jL cx_ok; decide; decide) | apply jM cx_ok | (apply jN; rfl; decide) | (apply jO; rfl; decide; decide) | apply jR); (simp (disch := omega) only [push_cast, simprocAttr, hS, hk, hg, hx] <;> rfl); all_goals try ((with_reducible intro hI); try first | (cases hI; done) | (simp only [INTS, zL] at hI; try first | (exfalso; omega) | (have hT : True := hI; clear hT hI))))
            | ((first | (apply jP; rfl; decide) | (apply jQ; rfl; decide; decide)); (simp (disch := omega) only [push_cast, simprocAttr, hS, hk, hg, hx] <;> rfl))
            | ((first | apply jf | apply jg); (iterate 2 (try (simp (disch := omega) only [push_cast, simprocAttr, hS, hk, hg, hx] <;> rfl))))

          all_goals first
            | (exfalso; omega)
            | (refine ⟨rest.length, ?_, k + 1, T + y.secs, P + y.secs * y.rate, rest, rfl, hd', hp1, (by omega), (by omega), ?_, ?_, ?_, ?_, ?_, ?_, ?_⟩; ((simp only [zD] at *; omega)); all_goals first | (simp (disch := omega) only [push_cast, simprocAttr, hS, hk, hg, hx] <;> first | rfl | omega) | omega)
        · have q7 : ¬ (1 ≤ y.secs ∧ y.secs ≤ 36000 ∧ (y.rate = 0 ∨ (900000 ≤ y.rate ∧ y.rate ≤ 1100000))) := fun h => hlg (legB_iff.2 h)
          rw [if_neg hlg] at hp1
          repeat' first
            | apply jA | apply jB | apply jC | apply jD | apply jE | apply jF | apply jG | apply jH | apply jI | apply jJ
            | refine W.draw cx_mixed (by decide +kernel) ?_
            | ((first | (apply jK cx_ok; decide) | (apply jL cx_ok; decide; decide) | apply jM cx_ok | (apply jN; rfl; decide) | (apply jO; rfl; decide; decide) | apply jR); (simp (disch := omega) only [push_cast, simprocAttr, hS, hk, hg, hx] <;> rfl); all_goals try ((with_reducible intro hI); try first | (cases hI; done) | (simp only [INTS, zL] at hI; try first | (exfalso; omega) | (have hT : True := hI; clear hT hI))))
            | ((first | (apply jP; rfl; decide) | (apply jQ; rfl; decide; decide)); (simp (disch := omega) only [push_cast, simprocAttr, hS, hk, hg, hx] <;> rfl))
            | ((first | apply jf | apply jg); (iterate 2 (try (simp (disch := omega) only [push_cast, simprocAttr, hS, hk, hg, hx] <;> rfl))))

          all_goals first
            | (exfalso; omega)
            | (show _ = _; rw [← hp1])
theorem end_ok (x : Run) (hv : RunV x) : OKv cx 105 [.agg (eRun x)] (.tup [ai (x.start + sumT x.legs), ai (x.micro + sumP x.legs)]) := by
  have hn := hv.n
  obtain ⟨b1, b2⟩ := hv.start
  obtain ⟨b3, b4⟩ := hv.micro
  obtain ⟨TT, hT⟩ : ∃ z, x.start + sumT x.legs = z := ⟨_, rfl⟩
  obtain ⟨PP, hP⟩ : ∃ z, x.micro + sumP x.legs = z := ⟨_, rfl⟩
  rw [hT, hP]
  refine OKat.of_body (rs := [2, 3]) Try.func105 rfl (by decide +kernel) rfl (by simp [Try.ntmps105]) ?_
  simp only [Try.ntmps105]
  repeat' first
    | apply jA | apply jB | apply jC | apply jD | apply jE | apply jF | apply jG | apply jH | apply jI | apply jJ
    | refine W.draw cx_mixed (by decide +kernel) ?_
    | ((first | (apply jK cx_ok; decide) | (apply jL cx_ok; decide; decide) | apply jM cx_ok | apply jR); (simp (disch := omega) only [push_cast, simprocAttr, b1, b2, b3, b4] <;> rfl); all_goals try ((with_reducible intro hI); try first | (cases hI; done) | (simp only [INTS, zL] at hI; try first | (exfalso; omega) | (have hT : True := hI; clear hT hI))))
    | ((first | apply jh | apply ji); (iterate 2 (try (simp (disch := omega) only [push_cast, simprocAttr, b1, b2, b3, b4] <;> rfl))))

  refine AW.loop (fun n s => ∃ (k : Nat) (T P : Int) (rest : List Leg), n = rest.length ∧ (x.legs.drop k = rest) ∧ (T + sumT rest = TT ∧ P + sumP rest = PP) ∧ (0 ≤ T ∧ T ≤ 1073741823 + 36000 * (k : Int)) ∧ (0 ≤ P ∧ P ≤ 43200000000 + 39600000000 * (k : Int)) ∧ 1 ≤ s.nx ∧ s.tm 4 = ai T ∧ s.tm 5 = ai P ∧ s.tm 13 = lLeg x.legs ∧ s.tm 14 = ai x.legs.length ∧ s.tm 15 = ai k) (x.legs.length) ⟨0, x.start, x.micro, x.legs, rfl, rfl, ⟨hT, hP⟩, ⟨b1, (by omega)⟩, ⟨b3, (by omega)⟩, ?_, ?_, ?_, ?_, ?_, ?_⟩ ?_
  iterate 6 (first | (simp (disch := omega) only [push_cast, simprocAttr, b1, b2, b3, b4] <;> first | rfl | omega) | omega)
  rintro n s ⟨k, T, P, rest, hn, hp0, hp1, hp2, hp3, hnl, hS⟩
  obtain ⟨e1, e2⟩ := hp1
  rcases rest with _ | ⟨y, rest⟩
  · have hk := drop_nil hp0
    simp only [sumT, sumP, Int.add_zero] at e1 e2
    subst e1; subst e2
    repeat' first
      | apply jA | apply jB | apply jC | apply jD | apply jE | apply jF | apply jG | apply jH | apply jI | apply jJ
      | refine W.draw cx_mixed (by decide +kernel) ?_
      | ((first | (apply jK cx_ok; decide) | (apply jL cx_ok; decide; decide) | apply jM cx_ok | apply jR); (simp (disch := omega) only [push_cast, simprocAttr, hS, hk] <;> rfl); all_goals try ((with_reducible intro hI); try first | (cases hI; done) | (simp only [INTS, zL] at hI; try first | (exfalso; omega) | (have hT : True := hI; clear hT hI))))
      | ((first | apply jh | apply ji); (iterate 2 (try (simp (disch := omega) only [push_cast, simprocAttr, hS, hk] <;> rfl))))

    all_goals (show _ = _; rfl)
  · obtain ⟨hk, hg, hd', hl', hm, hx⟩ := drop_cons hp0 eLeg []
    obtain ⟨q1, q2, q3, q4, q5, q6⟩ := leg_bd (hv.legs y hm)
    have hk40 : (k : Int) ≤ 40 := by omega
    simp only [sumT, sumP] at e1 e2
    repeat' first
      | apply jA | apply jB | apply jC | apply jD | apply jE | apply jF | apply jG | apply jH | apply jI | apply jJ
      | refine W.draw cx_mixed (by decide +kernel) ?_
      | ((first | (apply jK cx_ok; decide) | (apply jL cx_ok; decide; decide) | apply jM cx_ok | apply jR); (simp (disch := omega) only [push_cast, simprocAttr, hS, hk, hg, hx] <;> rfl); all_goals try ((with_reducible intro hI); try first | (cases hI; done) | (simp only [INTS, zL] at hI; try first | (exfalso; omega) | (have hT : True := hI; clear hT hI))))
      | ((first | apply jh | apply ji); (iterate 2 (try (simp (disch := omega) only [push_cast, simprocAttr, hS, hk, hg, hx] <;> rfl))))

    all_goals (refine ⟨rest.length, ?_, k + 1, T + y.secs, P + y.secs * y.rate, rest, rfl, hd', ⟨(by omega), (by omega)⟩, (by omega), (by omega), ?_, ?_, ?_, ?_, ?_, ?_⟩; ((simp only [zD] at *; omega)); all_goals first | (simp (disch := omega) only [push_cast, simprocAttr, hS, hk, hg, hx] <;> first | rfl | omega) | omega)
def needF : List Leg → Int → Int → Int
  | [], _, P => P
  | l :: r, F, P => needF r (F - min F l.secs) (P + min F l.secs * l.rate)
def needleP (x : Run) (t : Int) : Int × Int := if runE x = 0 then (if t < x.start ∨ x.start + sumT x.legs < t then (0, 3) else (needF x.legs (t - x.start) x.micro / 1000000, 0)) else (0, runE x)
theorem Needle_ok (x : Run) (t : Int) (hlen : x.legs.length ≤ 1099511627776) : OKv cx 66 [.agg (eRun x), ai t] (.tup [ai (needleP x t).1, ai (needleP x t).2]) := by
  unfold needleP
  have hch := CheckRun_ok x hlen
  by_cases hc : runE x = 0
  · have hv := runE_V hc
    have hend := end_ok x hv
    obtain ⟨b1, b2⟩ := hv.start
    obtain ⟨b3, b4⟩ := hv.micro
    have hn := hv.n
    have hti := hv.time
    obtain ⟨TT, hT⟩ : ∃ z, x.start + sumT x.legs = z := ⟨_, rfl⟩
    obtain ⟨PP, hP⟩ : ∃ z, x.micro + sumP x.legs = z := ⟨_, rfl⟩
    rw [hT, hP] at hend
    rw [hT] at hti ⊢
    rw [if_pos hc]
    by_cases ht : t < x.start ∨ TT < t
    · rw [if_pos ht]
      refine OKat.of_body (rs := [4, 5]) Try.func66 rfl (by decide +kernel) rfl (by simp [Try.ntmps66]) ?_
      simp only [Try.ntmps66]
      repeat' first
        | apply jA | apply jB | apply jC | apply jD | apply jE | apply jF | apply jG | apply jH | apply jI | apply jJ
        | refine W.draw cx_mixed (by decide +kernel) ?_
        | ((first | (apply jK cx_ok; decide) | (apply jL cx_ok; decide; decide) | apply jM cx_ok | (apply jN; rfl; decide) | (apply jO; rfl; decide; decide) | apply jR); (simp (disch := omega) only [push_cast, simprocAttr, hc] <;> rfl); all_goals try ((with_reducible intro hI); try first | (cases hI; done) | (simp only [INTS, zL] at hI; try first | (exfalso; omega) | (have hT : True := hI; clear hT hI))))
        | ((first | (apply jV cx_ok; decide) | (apply jW cx_ok; decide; decide)); (iterate 2 (simp (disch := omega) only [push_cast, simprocAttr, hc] <;> rfl)); (with_reducible first | exact hch | exact hend); try first | rfl | (simp (disch := omega) only [push_cast, simprocAttr, hc] <;> rfl))
        | ((first | apply jh | apply ji); (iterate 2 (try (simp (disch := omega) only [push_cast, simprocAttr, hc] <;> rfl))))

      all_goals first
        | (exfalso; omega)
        | (show _ = _; rfl)
    · rw [if_neg ht]
      simp only [not_or, Int.not_lt] at ht
      obtain ⟨t1, t2⟩ := ht
      obtain ⟨RES, hRES⟩ : ∃ z, needF x.legs (t - x.start) x.micro = z := ⟨_, rfl⟩
      rw [hRES]
      refine OKat.of_body (rs := [4, 5]) Try.func66 rfl (by decide +kernel) rfl (by simp [Try.ntmps66]) ?_
      simp only [Try.ntmps66]
      repeat' first
        | apply jA | apply jB | apply jC | apply jD | apply jE | apply jF | apply jG | apply jH | apply jI | apply jJ
        | refine W.draw cx_mixed (by decide +kernel) ?_
        | ((first | (apply jK cx_ok; decide) | (apply jL cx_ok; decide; decide) | apply jM cx_ok | (apply jN; rfl; decide) | (apply jO; rfl; decide; decide) | apply jR); (simp (disch := omega) only [push_cast, simprocAttr, hc, t1, t2] <;> rfl); all_goals try ((with_reducible intro hI); try first | (cases hI; done) | (simp only [INTS, zL] at hI; try first | (exfalso; omega) | (have hT : True := hI; clear hT hI))))
        | ((first | (apply jV cx_ok; decide) | (apply jW cx_ok; decide; decide)); (iterate 2 (simp (disch := omega) only [push_cast, simprocAttr, hc, t1, t2] <;> rfl)); (with_reducible first | exact hch | exact hend); try first | rfl | (simp (disch := omega) only [push_cast, simprocAttr, hc, t1, t2] <;> rfl))
        | ((first | apply jh | apply ji); (iterate 2 (try (simp (disch := omega) only [push_cast, simprocAttr, hc, t1, t2] <;> rfl))))

      refine AW.loop (fun n s => ∃ (k : Nat) (F P : Int) (rest : List Leg), n = rest.length ∧ (x.legs.drop k = rest) ∧ (needF rest F P = RES) ∧ (0 ≤ F ∧ F ≤ 1073741823) ∧ (0 ≤ P ∧ P ≤ 43200000000 + 39600000000 * (k : Int)) ∧ (k ≤ x.legs.length) ∧ 1 ≤ s.nx ∧ s.tm 9 = ai F ∧ s.tm 10 = ai P ∧ s.tm 40 = lLeg x.legs ∧ s.tm 41 = ai x.legs.length ∧ s.tm 42 = ai k) (x.legs.length) ⟨0, (t - x.start), x.micro, x.legs, rfl, rfl, hRES, (by omega), ⟨b3, (by omega)⟩, (Nat.zero_le _), ?_, ?_, ?_, ?_, ?_, ?_⟩ ?_
      iterate 6 (first | (simp (disch := omega) only [push_cast, simprocAttr, hc, t1, t2] <;> first | rfl | omega) | omega)
      rintro n s ⟨k, F, P, rest, hn, hp0, hp1, hp2, hp3, hp4, hnl, hS⟩
      rcases rest with _ | ⟨y, rest⟩
      · have hk := drop_nil hp0
        unfold needF at hp1
        subst hp1
        repeat' first
          | apply jA | apply jB | apply jC | apply jD | apply jE | apply jF | apply jG | apply jH | apply jI | apply jJ
          | refine W.draw cx_mixed (by decide +kernel) ?_
          | ((first | (apply jK cx_ok; decide) | (apply jL cx_ok; decide; decide) | apply jM cx_ok | (apply jN; rfl; decide) | (apply jO; rfl; decide; decide) | apply jR); (simp (disch := omega) only [push_cast, simprocAttr, hS, hk] <;> rfl); all_goals try ((with_reducible intro hI); try first | (cases hI; done) | (simp only [INTS, zL] at hI; try first | (exfalso; omega) | (have hT : True := hI; clear hT hI))))
          | ((first | apply jh | apply ji); (iterate 2 (try (simp (disch := omega) only [push_cast, simprocAttr, hS, hk] <;> rfl))))

        all_goals (show _ = _; rfl)
      · obtain ⟨hk, hg, hd', hl', hm, hx⟩ := drop_cons hp0 eLeg []
        obtain ⟨q1, q2, q3, q4, q5, q6⟩ := leg_bd (hv.legs y hm)
        have hk40 : (k : Int) ≤ 40 := by omega
        unfold needF at hp1
        obtain ⟨m1, m2⟩ := mul_bd (a := min F y.secs) (b := y.rate) (A := 36000) (B := 1100000) (by omega) (by omega) q3 q4
        obtain ⟨MN, hMN⟩ : ∃ z, min F y.secs = z := ⟨_, rfl⟩
        rw [hMN] at hp1 m1 m2
        repeat' first
          | apply jA | apply jB | apply jC | apply jD | apply jE | apply jF | apply jG | apply jH | apply jI | apply jJ
          | refine W.draw cx_mixed (by decide +kernel) ?_
          | ((first | (apply jK cx_ok; decide) | (apply jL cx_ok; decide; decide) | apply jM cx_ok | (apply jN; rfl; decide) | (apply jO; rfl; decide; decide) | apply jR); (simp (disch := omega) only [push_cast, simprocAttr, hS, hk, hg, hx, hMN] <;> rfl); all_goals try ((with_reducible intro hI); try first | (cases hI; done) | (simp only [INTS, zL] at hI; try first | (exfalso; omega) | (have hT : True := hI; clear hT hI))))
          | ((first | apply jh | apply ji); (iterate 2 (try (simp (disch := omega) only [push_cast, simprocAttr, hS, hk, hg, hx, hMN] <;> rfl))))

        all_goals (refine ⟨rest.length, ?_, k + 1, F - MN, P + MN * y.rate, rest, rfl, hd', hp1, (by omega), (by omega), (by omega), ?_, ?_, ?_, ?_, ?_, ?_⟩; ((simp only [zD] at *; omega)); all_goals first | (simp (disch := omega) only [push_cast, simprocAttr, hS, hk, hg, hx, hMN] <;> first | rfl | omega) | omega)
  · rw [if_neg hc]
    have hcF : (runE x = 0) = False := eq_false hc
    refine OKat.of_body (rs := [4, 5]) Try.func66 rfl (by decide +kernel) rfl (by simp [Try.ntmps66]) ?_
    simp only [Try.ntmps66]
    repeat' first
      | apply jA | apply jB | apply jC | apply jD | apply jE | apply jF | apply jG | apply jH | apply jI | apply jJ
      | refine W.draw cx_mixed (by decide +kernel) ?_
      | ((first | (apply jK cx_ok; decide) | (apply jL cx_ok; decide; decide) | apply jM cx_ok | (apply jN; rfl; decide) | (apply jO; rfl; decide; decide) | apply jR); (simp (disch := omega) only [push_cast, simprocAttr, hcF] <;> rfl); all_goals try ((with_reducible intro hI); try first | (cases hI; done) | (simp only [INTS, zL] at hI; try first | (exfalso; omega) | (have hT : True := hI; clear hT hI))))
      | ((first | (apply jV cx_ok; decide) | (apply jW cx_ok; decide; decide)); (iterate 2 (simp (disch := omega) only [push_cast, simprocAttr, hcF] <;> rfl)); (with_reducible first | exact hch); try first | rfl | (simp (disch := omega) only [push_cast, simprocAttr, hcF] <;> rfl))
      | ((first | apply jh | apply ji); (iterate 2 (try (simp (disch := omega) only [push_cast, simprocAttr, hcF] <;> rfl))))

    all_goals (show _ = _; rfl)
end Go.Proofs.Ks
