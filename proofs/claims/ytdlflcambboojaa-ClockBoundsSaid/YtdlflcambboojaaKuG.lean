/-
  Contracts of functions, proved by going through their code. No conditions.
-/
import Derived.Test.YtdlflcambboojaaKaa
import Derived.Test.YtdlflcambboojaaKuF
set_option linter.unusedVariables false
set_option linter.unusedSimpArgs false
set_option maxHeartbeats 8000000
set_option maxRecDepth 10000
namespace Go.Proofs.Ks
open Go Go.Pg Go.Proofs
theorem tight_facts {r : Rec} (hc : checkE r = 0) (hq : consP r [] = true) : OKv cx 62 [.agg (eRec r), .lst []] (.tup [encM (tightP r), ab true]) ∧ Dim (tightP r) (nodesR r []).length ∧ (nodesR r []).length ≤ 100 := by
  have hv := checkE_V hc
  obtain ⟨f1, f2, f3, f4, f5⟩ := links_facts (more := []) hv (by decide) nomore
  have ht := tight_is hc hq
  exact ⟨Tight_some r [] hv (by decide) nomore ht, (closure_bd f1 f3 f4 ht).1, f1⟩
theorem RSpans_ok (r : Rec) (hc : checkE r = 0) (hq : consP r [] = true) : OKv cx 63 [.agg (eRec r)] (lSpan (spansP r)) := by
  obtain ⟨c62, hd', hn⟩ := tight_facts hc hq
  have hl := nodesR_len r []
  have hns := (checkE_V hc).nstrikes
  have hsp : ∀ k : Nat, k < r.strikes.length → OKv cx 84 [encM (tightP r), ai 0, ai (3 + (k : Int))] (.agg (eSpan (spanF (nodesR r []) (linksR r []) 0 (3 + k)))) := fun k hk => by
    have hb := dst_ends hc hq (k := 3 + k) (by omega)
    have h1 := tightP_mget (r := r) (i := 3 + k) (k := 0) (by omega)
    have h2 := tightP_mget (r := r) (i := 0) (k := 3 + k) (by omega)
    have := between_ok (tightP r) (nodesR r []).length 0 (3 + k) hd' hn (by omega) (by omega) (by rw [h1]; omega)
    rw [h1, h2] at this
    have e : ((3 + k : Nat) : Int) = 3 + (k : Int) := by omega
    rw [e] at this
    exact this
  unfold spansP
  obtain ⟨SPK, hSPK⟩ : ∃ f, (fun i => spanF (nodesR r []) (linksR r []) 0 (3 + i)) = f := ⟨_, rfl⟩
  have hsp : ∀ k : Nat, k < r.strikes.length → OKv cx 84 [encM (tightP r), ai 0, ai (3 + (k : Int))] (.agg (eSpan (SPK k))) := fun k hk => by rw [← hSPK]; exact hsp k hk
  rw [hSPK]
  obtain ⟨TT, hTT⟩ : ∃ z, tightP r = z := ⟨_, rfl⟩
  rw [hTT] at hsp c62
  refine OKat.of_body (rs := [2]) Try.func63 rfl (by decide +kernel) rfl (by simp [Try.ntmps63]) ?_
  simp only [Try.ntmps63]
  repeat' first
    | apply jA | apply jB | apply jC | apply jD | apply jE | apply jF | apply jG | apply jH | apply jI
    | ((first | (apply jK cx_ok; decide) | apply jR); (simp (disch := (first | omega | (simp only [vC]; omega))) only [push_cast, simprocAttr, takeM, dropM, zK, zA, zB, zN, zQ, zR, zO, zP, zT, zS, zU, leT, zH] <;> rfl); all_goals try ((with_reducible intro hI); try first | (cases hI; done) | (simp only [INTS, zL] at hI; try first | (exfalso; omega) | (have hT : True := hI; clear hT hI))))
    | (apply jT cx_ok; decide; rfl; rfl; rfl; decide; (iterate 3 (simp (disch := (first | omega | (simp only [vC]; omega))) only [push_cast, simprocAttr, takeM, dropM, zK, zA, zB, zN, zQ, zR, zO, zP, zT, zS, zU, leT, zH] <;> rfl)); (first | (focus (simp; done)) | (intro c hc; obtain ⟨x, _, rfl⟩ := List.mem_map.1 hc; rfl)); ((first | rfl | simp (disch := omega) only [push_cast])); ((try dsimp only); (try simp only [vC]); omega); ((try dsimp only); (try simp only [vC]); omega))
    | ((apply jV cx_ok; decide); (iterate 2 (simp (disch := (first | omega | (simp only [vC]; omega))) only [push_cast, simprocAttr, takeM, dropM, zK, zA, zB, zN, zQ, zR, zO, zP, zT, zS, zU, leT, zH] <;> rfl)); (with_reducible first | exact c62); try first | rfl | (simp (disch := (first | omega | (simp only [vC]; omega))) only [push_cast, simprocAttr, takeM, dropM, zK, zA, zB, zN, zQ, zR, zO, zP, zT, zS, zU, leT, zH] <;> rfl))
    | ((first | apply jf | apply jg); (iterate 2 (try (simp (disch := (first | omega | (simp only [vC]; omega))) only [push_cast, simprocAttr, takeM, dropM, zK, zA, zB, zN, zQ, zR, zO, zP, zT, zS, zU, leT, zH] <;> rfl))))

  refine AW.adopt 5 2 23 ?_ ?_
  · (simp (disch := omega) only [push_cast, simprocAttr])
  refine AW.loop (fun n s => ∃ (k : Nat), n = r.strikes.length - k ∧ (k ≤ r.strikes.length) ∧ 2 ≤ s.nx ∧ s.tm 1 = .ptr 0 0 0 1 ∧ s.tm 3 = encM TT ∧ s.tm 5 = .ref 1 0 k ∧ s.tm 6 = ai k ∧ Pg.rowAt s.H (0) = some ({ k := 14, es := [eRec r], ty := 30 }) ∧ Pg.rowAt s.H (1) = some ({ k := 2, es := ((List.range k).map SPK).map eSpan, ty := 23, lo := k })) (r.strikes.length) ⟨0, rfl, (Nat.zero_le _), ?_, ?_, ?_, ?_, ?_, ?_, ?_⟩ ?_
  iterate 7 (first | (simp (disch := omega) only [push_cast, simprocAttr, List.range_zero, zW] <;> first | rfl | omega) | omega)
  rintro n s ⟨k, hn, hp0, hnl, hS⟩
  have hZ : (0 : Nat) ≠ s.nx ∧ s.nx ≠ (0 : Nat) ∧ (1 : Nat) ≠ s.nx ∧ s.nx ≠ (1 : Nat) := by omega
  by_cases hk : k < r.strikes.length
  · have hkI : (k : Int) < (r.strikes.length : Int) := by omega
    have c2 := hsp k hk
    have hsu : (List.range (k + 1)).map SPK = (List.range k).map SPK ++ [SPK k] := by rw [List.range_succ, List.map_append]; rfl
    repeat' first
      | apply jA | apply jB | apply jC | apply jD | apply jE | apply jF | apply jG | apply jH | apply jI
      | ((first | (apply jK cx_ok; decide) | apply jR); (simp (disch := (first | omega | (simp only [vC, List.length_range]; omega))) only [push_cast, simprocAttr, takeM, dropM, zK, zA, zB, zN, zQ, zR, zO, zP, zT, zS, zU, leT, zH, hS, hZ, hkI, zY, zX, zW, zE, zD, zC, List.length_range, isEmpty_map, zV, zM] <;> rfl); all_goals try ((with_reducible intro hI); try first | (cases hI; done) | (simp only [INTS, zL] at hI; try first | (exfalso; omega) | (have hT : True := hI; clear hT hI))))
      | (apply jT cx_ok; decide; rfl; rfl; rfl; decide; (iterate 3 (simp (disch := (first | omega | (simp only [vC, List.length_range]; omega))) only [push_cast, simprocAttr, takeM, dropM, zK, zA, zB, zN, zQ, zR, zO, zP, zT, zS, zU, leT, zH, hS, hZ, hkI, zY, zX, zW, zE, zD, zC, List.length_range, isEmpty_map, zV, zM] <;> rfl)); (first | (focus (simp; done)) | (intro c hc; obtain ⟨x, _, rfl⟩ := List.mem_map.1 hc; rfl)); ((first | rfl | simp (disch := omega) only [push_cast])); ((try dsimp only); (try simp only [vC, List.length_range]); omega); ((try dsimp only); (try simp only [vC, List.length_range]); omega))
      | ((apply jV cx_ok; decide); (iterate 2 (simp (disch := (first | omega | (simp only [vC, List.length_range]; omega))) only [push_cast, simprocAttr, takeM, dropM, zK, zA, zB, zN, zQ, zR, zO, zP, zT, zS, zU, leT, zH, hS, hZ, hkI, zY, zX, zW, zE, zD, zC, List.length_range, isEmpty_map, zV, zM] <;> rfl)); (with_reducible first | exact c2); try first | rfl | (simp (disch := (first | omega | (simp only [vC, List.length_range]; omega))) only [push_cast, simprocAttr, takeM, dropM, zK, zA, zB, zN, zQ, zR, zO, zP, zT, zS, zU, leT, zH, hS, hZ, hkI, zY, zX, zW, zE, zD, zC, List.length_range, isEmpty_map, zV, zM] <;> rfl))
      | ((first | apply jf | apply jg); (iterate 2 (try (simp (disch := (first | omega | (simp only [vC, List.length_range]; omega))) only [push_cast, simprocAttr, takeM, dropM, zK, zA, zB, zN, zQ, zR, zO, zP, zT, zS, zU, leT, zH, hS, hZ, hkI, zY, zX, zW, zE, zD, zC, List.length_range, isEmpty_map, zV, zM] <;> rfl))))

    all_goals (refine ⟨r.strikes.length - (k + 1), ?_, k + 1, rfl, (by omega), ?_, ?_, ?_, ?_, ?_, ?_, ?_⟩; (omega); all_goals first | (simp (disch := omega) only [push_cast, simprocAttr, hS, hZ, hkI, hsu, zY, zX, zW, zE, zD, zC, List.length_range, isEmpty_map, zV, zM] <;> first | rfl | omega) | omega)
  have hkI : ¬ (k : Int) < (r.strikes.length : Int) := by omega
  have hkS : k = r.strikes.length := by omega
  subst hkS
  repeat' first
    | apply jA | apply jB | apply jC | apply jD | apply jE | apply jF | apply jG | apply jH | apply jI
    | ((first | (apply jK cx_ok; decide) | apply jR); (simp (disch := (first | omega | (simp only [vC, List.length_range]; omega))) only [push_cast, simprocAttr, takeM, dropM, zK, zA, zB, zN, zQ, zR, zO, zP, zT, zS, zU, leT, zH, hS, hZ, hkI, zY, zX, zW, zE, zD, zC, List.length_range, isEmpty_map, zV, zM] <;> rfl); all_goals try ((with_reducible intro hI); try first | (cases hI; done) | (simp only [INTS, zL] at hI; try first | (exfalso; omega) | (have hT : True := hI; clear hT hI))))
    | (apply jT cx_ok; decide; rfl; rfl; rfl; decide; (iterate 3 (simp (disch := (first | omega | (simp only [vC, List.length_range]; omega))) only [push_cast, simprocAttr, takeM, dropM, zK, zA, zB, zN, zQ, zR, zO, zP, zT, zS, zU, leT, zH, hS, hZ, hkI, zY, zX, zW, zE, zD, zC, List.length_range, isEmpty_map, zV, zM] <;> rfl)); (first | (focus (simp; done)) | (intro c hc; obtain ⟨x, _, rfl⟩ := List.mem_map.1 hc; rfl)); ((first | rfl | simp (disch := omega) only [push_cast])); ((try dsimp only); (try simp only [vC, List.length_range]); omega); ((try dsimp only); (try simp only [vC, List.length_range]); omega))
    | ((first | apply jf | apply jg); (iterate 2 (try (simp (disch := (first | omega | (simp only [vC, List.length_range]; omega))) only [push_cast, simprocAttr, takeM, dropM, zK, zA, zB, zN, zQ, zR, zO, zP, zT, zS, zU, leT, zH, hS, hZ, hkI, zY, zX, zW, zE, zD, zC, List.length_range, isEmpty_map, zV, zM] <;> rfl))))

  all_goals (show _ = _; rfl)
theorem RSpanOf_ok (r : Rec) (kd : Nat) (hc : checkE r = 0) (hq : consP r [] = true) (hk : kd < (nodesR r []).length) : OKv cx 64 [.agg (eRec r), ai kd] (.agg (eSpan (spanF (nodesR r []) (linksR r []) 0 kd))) := by
  obtain ⟨c62, hd', hn⟩ := tight_facts hc hq
  have hb := dst_ends hc hq hk
  have h1 := tightP_mget (r := r) (i := kd) (k := 0) hk
  have h2 := tightP_mget (r := r) (i := 0) (k := kd) (by omega)
  have c84 : OKv cx 84 [encM (tightP r), ai 0, ai kd] (.agg (eSpan (spanF (nodesR r []) (linksR r []) 0 kd))) := by
    have := between_ok (tightP r) (nodesR r []).length 0 kd hd' hn (by omega) hk (by rw [h1]; omega)
    rw [h1, h2] at this
    exact this
  obtain ⟨S, hS0⟩ : ∃ z, spanF (nodesR r []) (linksR r []) 0 kd = z := ⟨_, rfl⟩
  obtain ⟨TT, hTT⟩ : ∃ z, tightP r = z := ⟨_, rfl⟩
  rw [hS0] at c84 ⊢
  rw [hTT] at c62 c84
  refine OKat.of_bodyM cx_ok (rs := [.cell 4 23]) Try.func64 rfl (by decide +kernel) rfl (by simp [Try.ntmps64]) ?_
  simp only [Try.ntmps64]
  repeat' first
    | apply jA | apply jB | apply jC | apply jD | apply jE | apply jF | apply jG | apply jH | apply jI
    | ((first | (apply jK cx_ok; decide) | apply jM cx_ok | apply jR); (simp (disch := omega) only [push_cast, simprocAttr] <;> rfl); all_goals try ((with_reducible intro hI); try first | (cases hI; done) | (simp only [INTS, zL] at hI; try first | (exfalso; omega) | (have hT : True := hI; clear hT hI))))
    | ((apply jV cx_ok; decide); (iterate 2 (simp (disch := omega) only [push_cast, simprocAttr] <;> rfl)); (with_reducible first | exact c62 | exact c84); try first | rfl | (simp (disch := omega) only [push_cast, simprocAttr] <;> rfl))
    | ((first | apply jl | apply jm); (iterate 2 (try (simp (disch := omega) only [push_cast, simprocAttr] <;> rfl))))

  all_goals (show _ = _; rfl)
theorem bounds_rows {r : Rec} (hc : checkE r = 0) (hq : consP r [] = true) {k : Nat} (hk : k < (nodesR r []).length) : ∃ row row0 a b, (tightP r)[k]? = some row ∧ (tightP r)[0]? = some row0 ∧ row[0]? = some a ∧ row0[k]? = some b ∧ (firstP r)[k]? = some (-a) ∧ (lastP r)[k]? = some b ∧ row.length = (nodesR r []).length ∧ row0.length = (nodesR r []).length ∧ -2000000000 ≤ a ∧ a ≤ 2000000000 := by
  have hl := nodesR_len r []
  have h0 : 0 < (nodesR r []).length := by omega
  have hb := dst_ends hc hq hk
  have hg : ∀ {l : List Int} {j : Nat}, j < l.length → l[j]? = some (l.getD j 0) := fun {l j} h => by rw [List.getD_eq_getElem?_getD, List.getElem?_eq_getElem h]; rfl
  have hr : ∀ {j : Nat}, j < (nodesR r []).length → (tightP r)[j]? = some (lengthsF (nodesR r []).length (linksR r []) (j : Int)).1 := fun {j} h => by
    have := tightP_get (r := r) h
    rw [← this, List.getD_eq_getElem?_getD, List.getElem?_eq_getElem (by rw [tightP_len]; exact h)]; rfl
  refine ⟨_, _, dst r k 0, dst r 0 k, hr hk, hr h0, hg (by rw [len_lengths hc hq]; exact h0), hg (by rw [len_lengths hc hq]; exact hk), ?_, ?_, len_lengths hc hq k, len_lengths hc hq 0, by omega, by omega⟩
  · rw [← firstP_get hk]; exact hg (by rw [firstP_len]; exact hk)
  · rw [← lastP_get r k]; exact hg (by rw [lastP_len hc hq]; exact hk)
end Go.Proofs.Ks
