/-
  Contracts of functions, proved by going through their code. No conditions.
-/
import Derived.Test.YtdlflcambboojaaVaa
import Derived.Test.YtdlflcambboojaaVaj
import Derived.Test.YtdlflcambboojaaVau
import Derived.Test.YtdlflcambboojaaVav
set_option linter.unusedVariables false
set_option linter.unusedSimpArgs false
set_option maxHeartbeats 8000000
set_option maxRecDepth 10000
namespace Go.Proofs.Ks
open Go Go.Pg Go.Proofs
theorem rowAt_eqH {H H' : Nat → Option AO} {i : Nat} (h : H' i = H i) : Pg.rowAt H' i = Pg.rowAt H i := by unfold Pg.rowAt; rw [h]
theorem drop_at {l : List Int} {k : Nat} {x : Int} {rest : List Int} (h : l.drop k = x :: rest) : l.getD k 0 = x := by
  have h0 : l[k]? = some x := by
    have := congrArg (fun m => m[0]?) h
    simpa using this
  rw [List.getD_eq_getElem?_getD, h0]; rfl
theorem drop_succ {l : List Int} {k : Nat} {x : Int} {rest : List Int} (h : l.drop k = x :: rest) : l.drop (k + 1) = rest := by
  have := congrArg (List.drop 1) h
  rw [List.drop_drop] at this
  simpa using this
theorem drop_lt {l : List Int} (hs : l.Pairwise (· < ·)) {k : Nat} {x : Int} {rest : List Int} (h : l.drop k = x :: rest) : ∀ y ∈ rest, x < y := by
  have h1 := hs.drop (i := k)
  rw [h, List.pairwise_cons] at h1
  exact h1.1
theorem drop_mem {l : List Int} {k : Nat} {rest : List Int} (h : l.drop k = rest) : ∀ y ∈ rest, y ∈ l := fun y hy => List.mem_of_mem_drop (h ▸ hy)
theorem all1_b {l n0 rb gb pb g m nx : Nat} {r : Rec} (hv : r.V) {more : List Int} (hml : more.length ≤ 8) (hmb : ∀ a ∈ more, 0 ≤ a ∧ a ≤ 43200) {J : List Lk → (Nat → Option AO) → Prop} (hJ : Yl l n0 rb gb pb g m r (marksR r more) (nodesR r more) J)
    (h1 : rb < n0) (h2 : gb < n0) (h3 : pb < n0) (h4 : g < n0) (h5 : m < n0) (hnx : n0 ≤ nx) {Q : AV → (Nat → Option AO) → Nat → Prop} (hQ : ∀ H n, J (linksR r more) H → nx ≤ n → Q (.tup []) H n) {s0 : St} (hs : MidA l n0 gb pb nx r (nodesR r more) J s0) :
    AW cx 232 tail121 (endM cx [] Q) s0 := by
  obtain ⟨t0, t2, t3, t5, t8, hSes, hlb, ⟨lw, hlw, hlo⟩, hj, hn0⟩ := hs
  obtain ⟨r1, r2, r3⟩ := hv.r.rate
  have hns4 := hv.r.nstops
  have hst := hv.r.stops
  obtain ⟨_, hk2, hnl⟩ := linksR_ok hv hml hmb
  have hat := fun (j : Nat) (x : Int) => @at_mark_ix r more j x
  have hso := marksR_sorted r more
  have hbd := fun (a : Int) => @marksR_bound r hv more hmb a
  have hndl := nodesR_len r more
  have hRA := linksR_eq r more
  obtain ⟨LA, hLA⟩ : ∃ z, linksA r (nodesR r more) = z := ⟨_, rfl⟩
  obtain ⟨RES, hRES⟩ : ∃ z, linksR r more = z := ⟨_, rfl⟩
  rw [hLA] at hlb hlo hRA hlw
  rw [hRES] at hk2 hRA hQ
  obtain ⟨PL, hPL⟩ : ∃ z, marksR r more = z := ⟨_, rfl⟩
  rw [hPL] at hJ hat hso hbd hRA hndl
  have hlen : LA.length ≤ 10000 := by have := congrArg List.length hRA; rw [List.length_append] at this; omega
  have hpl : PL.length ≤ 100 := by omega
  delta tail121
  simp only [Try.f121, Option.getD_some, dropS]
  obtain ⟨hrb0, hgb0, hpb0, ⟨ga0, gl0, hgg0⟩, hmm0⟩ := hJ.sys _ _ hj
  repeat' first
    | apply jA | apply jB | apply jC | apply jD | apply jE | apply jF | apply jG | apply jH | apply jI | apply jJ
    | refine W.draw cx_mixed (by decide +kernel) ?_
    | ((first | (apply jK cx_ok; decide) | (apply jL cx_ok; decide; decide) | apply jM cx_ok | (apply jN; rfl; decide) | (apply jO; rfl; decide; decide) | apply jR | apply jS cx_ok); (simp (disch := (first | omega | (simp only [vC, vD]; omega))) only [push_cast, simprocAttr, takeM, dropM, zK, zA, zB, zN, zQ, zR, zO, zP, zT, zS, zU, leT, zH, natNe, zI, zG, zJ, hrb0, hgb0, hpb0, hgg0, hmm0, t0, t2, t3, t5, t8, hSes, hlb, hlo, hlen] <;> rfl); all_goals try ((with_reducible intro hI); try first | (cases hI; done) | (simp only [INTS, zL] at hI; try first | (exfalso; omega) | (have hT : True := hI; clear hT hI))))
    | ((first | (apply jP; rfl; decide) | (apply jQ; rfl; decide; decide)); (simp (disch := (first | omega | (simp only [vC, vD]; omega))) only [push_cast, simprocAttr, takeM, dropM, zK, zA, zB, zN, zQ, zR, zO, zP, zT, zS, zU, leT, zH, natNe, zI, zG, zJ, hrb0, hgb0, hpb0, hgg0, hmm0, t0, t2, t3, t5, t8, hSes, hlb, hlo, hlen] <;> rfl))
    | (refine W.makeMap cx_ok (by simp only [push_cast, simprocAttr] <;> rfl) (by decide) ?_)
    | (apply jT cx_ok; decide; rfl; rfl; rfl; decide; (iterate 3 (simp (disch := (first | omega | (simp only [vC, vD]; omega))) only [push_cast, simprocAttr, takeM, dropM, zK, zA, zB, zN, zQ, zR, zO, zP, zT, zS, zU, leT, zH, natNe, zI, zG, zJ, hrb0, hgb0, hpb0, hgg0, hmm0, t0, t2, t3, t5, t8, hSes, hlb, hlo, hlen] <;> rfl)); (first | (focus (simp; done)) | (intro c hc; obtain ⟨x, _, rfl⟩ := List.mem_map.1 hc; rfl)); ((first | rfl | simp (disch := omega) only [push_cast])); ((try dsimp only); (try simp only [vC, vD]); omega); ((try dsimp only); (try simp only [vC, vD]); omega))

  refine AW.loop (fun n s => ∃ (k : Nat) (rest : List Lk), n = rest.length ∧ (LA.drop k = rest) ∧ (J (LA.take k) s.H) ∧ (k ≤ LA.length) ∧ nx + 10 ≤ s.nx ∧ s.tm 0 = .v (.func (.yield l) #[] #[]) ∧ s.tm 2 = .ptr gb 0 0 1 ∧ s.tm 3 = .ptr pb 0 0 1 ∧ s.tm 5 = .ptr nx 0 0 1 ∧ s.tm 155 = .ref (nx + 4) 0 LA.length ∧ s.tm 156 = ai LA.length ∧ s.tm 157 = ai k ∧ Pg.rowAt s.H nx = some { k := 12, es := [eSession r.s], ty := 26 } ∧ Pg.rowAt s.H (nx + 4) = some { k := 3, es := LA.map eLink, ty := 66, lo := lw }) (LA.length) ⟨0, LA, rfl, rfl, (by (try simp (disch := omega) only [push_cast, simprocAttr, natNe, zI, zG, zJ, hrb0, hgb0, hpb0, hgg0, hmm0, t0, t2, t3, t5, t8, hSes, hlb, hlo, hlen]); (repeat (refine hJ.frame _ _ _ _ ?_ (by omega))); exact hj), (Nat.zero_le _), ?_, ?_, ?_, ?_, ?_, ?_, ?_, ?_, ?_, ?_⟩ ?_
  iterate 10 (first | (simp (disch := omega) only [push_cast, simprocAttr, natNe, zI, zG, zJ, hrb0, hgb0, hpb0, hgg0, hmm0, t0, t2, t3, t5, t8, hSes, hlb, hlo, hlen] <;> first | rfl | omega) | omega)
  rintro n s ⟨k, rest, hn, hp0, hp1, hp2, hnl, hS⟩
  refine AW.fresh fun hfr => ?_
  obtain ⟨hrb, hgb, hpb, ⟨ga, gl, hgg⟩, hmm⟩ := hJ.sys _ _ hp1
  rcases rest with _ | ⟨x, rest⟩
  rotate_left
  · obtain ⟨hk, hg, hd', hl', hm, hx⟩ := drop_cons hp0 eLink []
    have hln : (LA.take k).length < 20000 := by rw [List.length_take]; omega
    repeat' first
      | apply jA | apply jB | apply jC | apply jD | apply jE | apply jF | apply jG | apply jH | apply jI | apply jJ
      | refine W.draw cx_mixed (by decide +kernel) ?_
      | ((first | (apply jK cx_ok; decide) | (apply jL cx_ok; decide; decide) | apply jM cx_ok | (apply jN; rfl; decide) | (apply jO; rfl; decide; decide) | apply jR | apply jS cx_ok); (simp (disch := (first | omega | (simp only [vC, vD]; omega))) only [push_cast, simprocAttr, takeM, dropM, zK, zA, zB, zN, zQ, zR, zO, zP, zT, zS, zU, leT, zH, natNe, zI, zG, zJ, hS, hrb, hgb, hpb, hgg, hmm, hk, hg, hx, hfr] <;> rfl); all_goals try ((with_reducible intro hI); try first | (cases hI; done) | (simp only [INTS, zL] at hI; try first | (exfalso; omega) | (have hT : True := hI; clear hT hI))))
      | ((first | (apply jP; rfl; decide) | (apply jQ; rfl; decide; decide)); (simp (disch := (first | omega | (simp only [vC, vD]; omega))) only [push_cast, simprocAttr, takeM, dropM, zK, zA, zB, zN, zQ, zR, zO, zP, zT, zS, zU, leT, zH, natNe, zI, zG, zJ, hS, hrb, hgb, hpb, hgg, hmm, hk, hg, hx, hfr] <;> rfl))
      | (refine W.makeMap cx_ok (by simp only [push_cast, simprocAttr] <;> rfl) (by decide) ?_)
      | (apply jT cx_ok; decide; rfl; rfl; rfl; decide; (iterate 3 (simp (disch := (first | omega | (simp only [vC, vD]; omega))) only [push_cast, simprocAttr, takeM, dropM, zK, zA, zB, zN, zQ, zR, zO, zP, zT, zS, zU, leT, zH, natNe, zI, zG, zJ, hS, hrb, hgb, hpb, hgg, hmm, hk, hg, hx, hfr] <;> rfl)); (first | (focus (simp; done)) | (intro c hc; obtain ⟨x, _, rfl⟩ := List.mem_map.1 hc; rfl)); ((first | rfl | simp (disch := omega) only [push_cast])); ((try dsimp only); (try simp only [vC, vD]); omega); ((try dsimp only); (try simp only [vC, vD]); omega))

    refine W.yield (by decide) (by simp (disch := omega) only [push_cast, simprocAttr, natNe, zI, zG, zJ, hS, hrb, hgb, hpb, hgg, hmm, hk, hg, hx, hfr] <;> rfl) (va := [.agg (eLink x)]) (by simp (disch := omega) only [push_cast, simprocAttr, natNe, zI, zG, zJ, hS, hrb, hgb, hpb, hgg, hmm, hk, hg, hx, hfr] <;> rfl) (hJ.y (LA.take k) _ _ x (by (try simp (disch := omega) only [push_cast, simprocAttr, natNe, zI, zG, zJ, hS, hrb, hgb, hpb, hgg, hmm, hk, hg, hx, hfr]); (repeat (refine hJ.frame _ _ _ _ ?_ (by omega))); exact hp1) (show n0 ≤ s.nx + 1 by omega) hln) ?_
    rintro _ H2 nx2 ⟨rfl, hJ2, hn2, hf2⟩
    replace hn2 : s.nx + 1 ≤ nx2 := hn2
    try simp only [List.append_assoc, yB, yA] at hJ2
    have g1 : Pg.rowAt H2 nx = some { k := 12, es := [eSession r.s], ty := 26 } := (rowAt_eqH (hf2 nx (by omega) (show nx < s.nx + 1 by omega))).trans (by simp (disch := omega) only [push_cast, simprocAttr, natNe, zI, zG, zJ, hS] <;> rfl)
    have g2 : Pg.rowAt H2 (nx + 4) = some { k := 3, es := LA.map eLink, ty := 66, lo := lw } := (rowAt_eqH (hf2 (nx + 4) (by omega) (show nx + 4 < s.nx + 1 by omega))).trans (by simp (disch := omega) only [push_cast, simprocAttr, natNe, zI, zG, zJ, hS] <;> rfl)
    repeat' first
      | apply jA | apply jB | apply jC | apply jD | apply jE | apply jF | apply jG | apply jH | apply jI | apply jJ
      | refine W.draw cx_mixed (by decide +kernel) ?_
      | ((first | (apply jK cx_ok; decide) | (apply jL cx_ok; decide; decide) | apply jM cx_ok | (apply jN; rfl; decide) | (apply jO; rfl; decide; decide) | apply jR | apply jS cx_ok); (simp (disch := (first | omega | (simp only [vC, vD]; omega))) only [push_cast, simprocAttr, takeM, dropM, zK, zA, zB, zN, zQ, zR, zO, zP, zT, zS, zU, leT, zH, natNe, zI, zG, zJ, hS, hk, hg, hx, g1, g2] <;> rfl); all_goals try ((with_reducible intro hI); try first | (cases hI; done) | (simp only [INTS, zL] at hI; try first | (exfalso; omega) | (have hT : True := hI; clear hT hI))))
      | ((first | (apply jP; rfl; decide) | (apply jQ; rfl; decide; decide)); (simp (disch := (first | omega | (simp only [vC, vD]; omega))) only [push_cast, simprocAttr, takeM, dropM, zK, zA, zB, zN, zQ, zR, zO, zP, zT, zS, zU, leT, zH, natNe, zI, zG, zJ, hS, hk, hg, hx, g1, g2] <;> rfl))
      | (refine W.makeMap cx_ok (by simp only [push_cast, simprocAttr] <;> rfl) (by decide) ?_)
      | (apply jT cx_ok; decide; rfl; rfl; rfl; decide; (iterate 3 (simp (disch := (first | omega | (simp only [vC, vD]; omega))) only [push_cast, simprocAttr, takeM, dropM, zK, zA, zB, zN, zQ, zR, zO, zP, zT, zS, zU, leT, zH, natNe, zI, zG, zJ, hS, hk, hg, hx, g1, g2] <;> rfl)); (first | (focus (simp; done)) | (intro c hc; obtain ⟨x, _, rfl⟩ := List.mem_map.1 hc; rfl)); ((first | rfl | simp (disch := omega) only [push_cast])); ((try dsimp only); (try simp only [vC, vD]); omega); ((try dsimp only); (try simp only [vC, vD]); omega))

    all_goals (refine ⟨rest.length, ?_, k + 1, rest, rfl, hd', (by rw [take_snoc hp0]; exact (by (try simp (disch := omega) only [push_cast, simprocAttr, natNe, zI, zG, zJ]); (repeat (refine hJ.frame _ _ _ _ ?_ (by omega))); exact hJ2)), (by omega), ?_, ?_, ?_, ?_, ?_, ?_, ?_, ?_, ?_, ?_⟩; ((simp only [zD] at *; omega)); all_goals first | (simp (disch := omega) only [push_cast, simprocAttr, hS, natNe, zI, zG, zJ, hk, g1, g2] <;> first | rfl | omega) | omega)
  have hk := drop_nil hp0
  have hkl : LA.take k = LA := List.take_of_length_le (List.drop_eq_nil_iff.1 hp0)
  rw [hkl] at hp1
  repeat' first
    | apply jA | apply jB | apply jC | apply jD | apply jE | apply jF | apply jG | apply jH | apply jI | apply jJ
    | refine W.draw cx_mixed (by decide +kernel) ?_
    | ((first | (apply jK cx_ok; decide) | (apply jL cx_ok; decide; decide) | apply jM cx_ok | (apply jN; rfl; decide) | (apply jO; rfl; decide; decide) | apply jR | apply jS cx_ok); (simp (disch := (first | omega | (simp only [vC, vD]; omega))) only [push_cast, simprocAttr, takeM, dropM, zK, zA, zB, zN, zQ, zR, zO, zP, zT, zS, zU, leT, zH, natNe, zI, zG, zJ, hS, hrb, hgb, hpb, hgg, hmm, hk] <;> rfl); all_goals try ((with_reducible intro hI); try first | (cases hI; done) | (simp only [INTS, zL] at hI; try first | (exfalso; omega) | (have hT : True := hI; clear hT hI))))
    | ((first | (apply jP; rfl; decide) | (apply jQ; rfl; decide; decide)); (simp (disch := (first | omega | (simp only [vC, vD]; omega))) only [push_cast, simprocAttr, takeM, dropM, zK, zA, zB, zN, zQ, zR, zO, zP, zT, zS, zU, leT, zH, natNe, zI, zG, zJ, hS, hrb, hgb, hpb, hgg, hmm, hk] <;> rfl))
    | (refine W.makeMap cx_ok (by simp only [push_cast, simprocAttr] <;> rfl) (by decide) ?_)
    | (apply jT cx_ok; decide; rfl; rfl; rfl; decide; (iterate 3 (simp (disch := (first | omega | (simp only [vC, vD]; omega))) only [push_cast, simprocAttr, takeM, dropM, zK, zA, zB, zN, zQ, zR, zO, zP, zT, zS, zU, leT, zH, natNe, zI, zG, zJ, hS, hrb, hgb, hpb, hgg, hmm, hk] <;> rfl)); (first | (focus (simp; done)) | (intro c hc; obtain ⟨x, _, rfl⟩ := List.mem_map.1 hc; rfl)); ((first | rfl | simp (disch := omega) only [push_cast])); ((try dsimp only); (try simp only [vC, vD]); omega); ((try dsimp only); (try simp only [vC, vD]); omega))

  refine AW.loop (fun n s => ∃ (k : Nat) (dn : List Lk) (rest : List Int), n = rest.length ∧ (PL.drop k = rest) ∧ (dn ++ pairsL r.s (3 + r.strikes.length + k) rest = RES) ∧ (k ≤ PL.length) ∧ (J dn s.H) ∧ nx + 10 ≤ s.nx ∧ s.tm 0 = .v (.func (.yield l) #[] #[]) ∧ s.tm 2 = .ptr gb 0 0 1 ∧ s.tm 3 = .ptr pb 0 0 1 ∧ s.tm 5 = .ptr nx 0 0 1 ∧ s.tm 166 = lInt PL ∧ s.tm 167 = ai PL.length ∧ s.tm 168 = ai k ∧ Pg.rowAt s.H nx = some { k := 12, es := [eSession r.s], ty := 26 }) (PL.length) ⟨0, LA, PL, rfl, rfl, (by rw [hRA]; rfl), (Nat.zero_le _), (by (try simp (disch := omega) only [push_cast, simprocAttr, natNe, zI, zG, zJ, hS]); (repeat (refine hJ.frame _ _ _ _ ?_ (by omega))); exact hp1), ?_, ?_, ?_, ?_, ?_, ?_, ?_, ?_, ?_⟩ ?_
  iterate 9 (first | (simp (disch := omega) only [push_cast, simprocAttr, natNe, zI, zG, zJ, hrb, hgb, hpb, hgg, hmm, hS, hk] <;> first | rfl | omega) | omega)
  rintro n1 s1 ⟨k1, dn1, rest1, hn1, hp01, hp11, hp21, hp31, hnl1, hS1⟩
  refine AW.fresh fun hfr1 => ?_
  obtain ⟨hrb1, hgb1, hpb1, ⟨ga1, gl1, hgg1⟩, hmm1⟩ := hJ.sys _ _ hp31
  rcases rest1 with _ | ⟨x, rest1⟩
  · have hk1 := drop_nil hp01
    simp only [pairsL, zZ] at hp11
    rw [hp11] at hp31
    repeat' first
      | apply jA | apply jB | apply jC | apply jD | apply jE | apply jF | apply jG | apply jH | apply jI | apply jJ
      | refine W.draw cx_mixed (by decide +kernel) ?_
      | ((first | (apply jK cx_ok; decide) | (apply jL cx_ok; decide; decide) | apply jM cx_ok | (apply jN; rfl; decide) | (apply jO; rfl; decide; decide) | apply jR | apply jS cx_ok); (simp (disch := (first | omega | (simp only [vC, vD]; omega))) only [push_cast, simprocAttr, takeM, dropM, zK, zA, zB, zN, zQ, zR, zO, zP, zT, zS, zU, leT, zH, natNe, zI, zG, zJ, hS1, hrb1, hgb1, hpb1, hgg1, hmm1, hk1] <;> rfl); all_goals try ((with_reducible intro hI); try first | (cases hI; done) | (simp only [INTS, zL] at hI; try first | (exfalso; omega) | (have hT : True := hI; clear hT hI))))
      | ((first | (apply jP; rfl; decide) | (apply jQ; rfl; decide; decide)); (simp (disch := (first | omega | (simp only [vC, vD]; omega))) only [push_cast, simprocAttr, takeM, dropM, zK, zA, zB, zN, zQ, zR, zO, zP, zT, zS, zU, leT, zH, natNe, zI, zG, zJ, hS1, hrb1, hgb1, hpb1, hgg1, hmm1, hk1] <;> rfl))
      | (refine W.makeMap cx_ok (by simp only [push_cast, simprocAttr] <;> rfl) (by decide) ?_)
      | (apply jT cx_ok; decide; rfl; rfl; rfl; decide; (iterate 3 (simp (disch := (first | omega | (simp only [vC, vD]; omega))) only [push_cast, simprocAttr, takeM, dropM, zK, zA, zB, zN, zQ, zR, zO, zP, zT, zS, zU, leT, zH, natNe, zI, zG, zJ, hS1, hrb1, hgb1, hpb1, hgg1, hmm1, hk1] <;> rfl)); (first | (focus (simp; done)) | (intro c hc; obtain ⟨x, _, rfl⟩ := List.mem_map.1 hc; rfl)); ((first | rfl | simp (disch := omega) only [push_cast])); ((try dsimp only); (try simp only [vC, vD]); omega); ((try dsimp only); (try simp only [vC, vD]); omega))

    all_goals
      ((first | apply W.retX | apply W.endX); (simp (disch := omega) only [push_cast, simprocAttr, natNe, zI, zG, zJ, hS1, hrb1, hgb1, hpb1, hgg1, hmm1, hk1] <;> rfl); exact hQ _ _ (by (try simp (disch := omega) only [push_cast, simprocAttr, natNe, zI, zG, zJ, hS1]); (repeat (refine hJ.frame _ _ _ _ ?_ (by omega))); exact hp31) (by (try (simp (disch := omega) only [push_cast, simprocAttr, natNe, zI, zG, zJ, hS1])); omega))
  · obtain ⟨hk1, hg1, hd1, hl1, hm1, hx1⟩ := drop_cons hp01 eInt []
    have hax := hat k1 x (by omega) (drop_at hp01)
    obtain ⟨bx1, bx2⟩ := hbd x hm1
    have hlt := drop_lt hso hp01
    have hrl : (PL.length : Int) - ((k1 : Int) + 1) = (rest1.length : Int) := by have := congrArg List.length hp01; simp only [zB, zD] at this; omega
    have hea : (∀ e ∈ PL.map eInt, e.length = 1) = True := eq_true fun e he => by obtain ⟨y, _, rfl⟩ := List.mem_map.1 he; rfl
    have hkl : k1 + 1 ≤ PL.length := by omega
    have hkn : ((k1 : Int) + 1).toNat = k1 + 1 := by omega
    have hk0 : (0 : Int) ≤ (k1 : Int) + 1 := by omega
    have hrm : (PL.map eInt).drop (k1 + 1) = rest1.map eInt := by rw [← List.map_drop, drop_succ hp01]
    repeat' first
      | apply jA | apply jB | apply jC | apply jD | apply jE | apply jF | apply jG | apply jH | apply jI | apply jJ
      | refine W.draw cx_mixed (by decide +kernel) ?_
      | ((first | (apply jK cx_ok; decide) | (apply jL cx_ok; decide; decide) | apply jM cx_ok | (apply jN; rfl; decide) | (apply jO; rfl; decide; decide) | apply jR | apply jS cx_ok); (simp (disch := (first | omega | (simp only [vC, vD]; omega))) only [push_cast, simprocAttr, takeM, dropM, zK, zA, zB, zN, zQ, zR, zO, zP, zT, zS, zU, leT, zH, natNe, zI, zG, zJ, hS1, hrb1, hgb1, hpb1, hgg1, hmm1, hk1, hg1, hx1, hfr1, hrl, hrm, hea, hkl, hkn, hk0] <;> rfl); all_goals try ((with_reducible intro hI); try first | (cases hI; done) | (simp only [INTS, zL] at hI; try first | (exfalso; omega) | (have hT : True := hI; clear hT hI))))
      | ((first | (apply jP; rfl; decide) | (apply jQ; rfl; decide; decide)); (simp (disch := (first | omega | (simp only [vC, vD]; omega))) only [push_cast, simprocAttr, takeM, dropM, zK, zA, zB, zN, zQ, zR, zO, zP, zT, zS, zU, leT, zH, natNe, zI, zG, zJ, hS1, hrb1, hgb1, hpb1, hgg1, hmm1, hk1, hg1, hx1, hfr1, hrl, hrm, hea, hkl, hkn, hk0] <;> rfl))
      | (refine W.makeMap cx_ok (by simp only [push_cast, simprocAttr] <;> rfl) (by decide) ?_)
      | (apply jT cx_ok; decide; rfl; rfl; rfl; decide; (iterate 3 (simp (disch := (first | omega | (simp only [vC, vD]; omega))) only [push_cast, simprocAttr, takeM, dropM, zK, zA, zB, zN, zQ, zR, zO, zP, zT, zS, zU, leT, zH, natNe, zI, zG, zJ, hS1, hrb1, hgb1, hpb1, hgg1, hmm1, hk1, hg1, hx1, hfr1, hrl, hrm, hea, hkl, hkn, hk0] <;> rfl)); (first | (focus (simp; done)) | (intro c hc; obtain ⟨x, _, rfl⟩ := List.mem_map.1 hc; rfl)); ((first | rfl | simp (disch := omega) only [push_cast])); ((try dsimp only); (try simp only [vC, vD]); omega); ((try dsimp only); (try simp only [vC, vD]); omega))

    refine AW.loop (fun n s => ∃ (j : Nat) (dn : List Lk) (ys : List Int), n = ys.length ∧ (rest1.drop j = ys) ∧ (dn ++ (pairL r.s (3 + r.strikes.length + k1) x (3 + r.strikes.length + k1 + 1 + j) ys ++ pairsL r.s (3 + r.strikes.length + k1 + 1) rest1) = RES) ∧ (J dn s.H) ∧ s1.nx + 1 ≤ s.nx ∧ s.tm 0 = .v (.func (.yield l) #[] #[]) ∧ s.tm 2 = .ptr gb 0 0 1 ∧ s.tm 3 = .ptr pb 0 0 1 ∧ s.tm 5 = .ptr nx 0 0 1 ∧ s.tm 166 = lInt PL ∧ s.tm 167 = ai PL.length ∧ s.tm 168 = ai k1 ∧ s.tm 24 = .ptr s1.nx 0 0 1 ∧ s.tm 176 = lInt rest1 ∧ s.tm 177 = ai rest1.length ∧ s.tm 178 = ai j ∧ Pg.rowAt s.H nx = some { k := 12, es := [eSession r.s], ty := 26 } ∧ Pg.rowAt s.H s1.nx = some { k := 1, es := [[ai x]], ty := 3 }) (rest1.length) ⟨0, dn1, rest1, rfl, rfl, hp11, (by (try simp (disch := omega) only [push_cast, simprocAttr, natNe, zI, zG, zJ, hS1, hrb1, hgb1, hpb1, hgg1, hmm1, hk1, hg1, hx1, hfr1, hrl, hrm, hea, hkl, hkn, hk0, zS, zT]); (repeat (refine hJ.frame _ _ _ _ ?_ (by omega))); exact hp31), ?_, ?_, ?_, ?_, ?_, ?_, ?_, ?_, ?_, ?_, ?_, ?_, ?_, ?_⟩ ?_
    iterate 14 (first | (simp (disch := omega) only [push_cast, simprocAttr, natNe, zI, zG, zJ, hS1, hrb1, hgb1, hpb1, hgg1, hmm1, hk1, hg1, hx1, hfr1, hrl, hrm, hea, hkl, hkn, hk0, zS, zT] <;> first | rfl | omega) | omega)
    rintro n2 s2 ⟨j2, dn2, ys2, hn2, hp02, hp12, hp22, hnl2, hS2⟩
    refine AW.fresh fun hfr2 => ?_
    obtain ⟨hrb2, hgb2, hpb2, ⟨ga2, gl2, hgg2⟩, hmm2⟩ := hJ.sys _ _ hp22
    rcases ys2 with _ | ⟨y, ys2⟩
    · have hk2' := drop_nil hp02
      simp only [pairL, yA] at hp12
      repeat' first
        | apply jA | apply jB | apply jC | apply jD | apply jE | apply jF | apply jG | apply jH | apply jI | apply jJ
        | refine W.draw cx_mixed (by decide +kernel) ?_
        | ((first | (apply jK cx_ok; decide) | (apply jL cx_ok; decide; decide) | apply jM cx_ok | (apply jN; rfl; decide) | (apply jO; rfl; decide; decide) | apply jR | apply jS cx_ok); (simp (disch := (first | omega | (simp only [vC, vD]; omega))) only [push_cast, simprocAttr, takeM, dropM, zK, zA, zB, zN, zQ, zR, zO, zP, zT, zS, zU, leT, zH, natNe, zI, zG, zJ, hS2, hrb2, hgb2, hpb2, hgg2, hmm2, hk2'] <;> rfl); all_goals try ((with_reducible intro hI); try first | (cases hI; done) | (simp only [INTS, zL] at hI; try first | (exfalso; omega) | (have hT : True := hI; clear hT hI))))
        | ((first | (apply jP; rfl; decide) | (apply jQ; rfl; decide; decide)); (simp (disch := (first | omega | (simp only [vC, vD]; omega))) only [push_cast, simprocAttr, takeM, dropM, zK, zA, zB, zN, zQ, zR, zO, zP, zT, zS, zU, leT, zH, natNe, zI, zG, zJ, hS2, hrb2, hgb2, hpb2, hgg2, hmm2, hk2'] <;> rfl))
        | (refine W.makeMap cx_ok (by simp only [push_cast, simprocAttr] <;> rfl) (by decide) ?_)
        | (apply jT cx_ok; decide; rfl; rfl; rfl; decide; (iterate 3 (simp (disch := (first | omega | (simp only [vC, vD]; omega))) only [push_cast, simprocAttr, takeM, dropM, zK, zA, zB, zN, zQ, zR, zO, zP, zT, zS, zU, leT, zH, natNe, zI, zG, zJ, hS2, hrb2, hgb2, hpb2, hgg2, hmm2, hk2'] <;> rfl)); (first | (focus (simp; done)) | (intro c hc; obtain ⟨x, _, rfl⟩ := List.mem_map.1 hc; rfl)); ((first | rfl | simp (disch := omega) only [push_cast])); ((try dsimp only); (try simp only [vC, vD]); omega); ((try dsimp only); (try simp only [vC, vD]); omega))

      all_goals (refine ⟨rest1.length, ?_, k1 + 1, dn2, rest1, rfl, (drop_succ hp01), hp12, (by omega), (by (try simp (disch := omega) only [push_cast, simprocAttr, natNe, zI, zG, zJ, hS2]); (repeat (refine hJ.frame _ _ _ _ ?_ (by omega))); exact hp22), ?_, ?_, ?_, ?_, ?_, ?_, ?_, ?_, ?_⟩; ((simp only [zD] at *; omega)); all_goals first | (simp (disch := omega) only [push_cast, simprocAttr, hS2, natNe, zI, zG, zJ, hk2'] <;> first | rfl | omega) | omega)
    · obtain ⟨hk2', hg2, hd2, hl2, hm2, hx2⟩ := drop_cons hp02 eInt []
      have hym : y ∈ rest1 := hm2
      have hxy := hlt y hym
      obtain ⟨by1, by2⟩ := hbd y (drop_mem (drop_succ hp01) y hym)
      have hjl : k1 + 1 + j2 < PL.length := by omega
      have hya := hat (k1 + 1 + j2) y hjl (drop_at (by rw [← List.drop_drop, drop_succ hp01]; exact hp02))
      obtain ⟨A, hA⟩ : ∃ z, 3 + r.strikes.length + k1 = z := ⟨_, rfl⟩
      obtain ⟨B, hB⟩ : ∃ z, 3 + r.strikes.length + k1 + 1 + j2 = z := ⟨_, rfl⟩
      have hax' : atP 4 x (nodesR r more) = (A : Int) := by rw [hax]; omega
      have hay : atP 4 y (nodesR r more) = (B : Int) := by rw [hya]; omega
      have hle := leastR_bound r.s x y hv.r bx1 (by omega) by2
      have z1 : (r.s.rate.hi = 0) = False := eq_false (by omega)
      have d1 := div_bound (n := (y - x) * 1000000) (d := r.s.rate.hi) (by omega) (by omega) (by omega)
      have d2 := div_bound (n := (y - x) * 1000000 + r.s.rate.lo - 1) (d := r.s.rate.lo) (by omega) (by omega) (by omega)
      have hLR : leastR r.s x y = _ := addS_sum x y r.s.stops _
      have hce := ceiling_ok ((y - x) * 1000000) r.s.rate.lo (by omega) (by omega)
      have hsh := sumHi_ok r.s.stops x y hns4 hst
      have hsl := sumLo_ok r.s.stops x y hns4 hst
      obtain ⟨Q1, hQ1⟩ : ∃ q, (y - x) * 1000000 / r.s.rate.hi = q := ⟨_, rfl⟩
      obtain ⟨Q2, hQ2⟩ : ∃ q, ((y - x) * 1000000 + r.s.rate.lo - 1) / r.s.rate.lo = q := ⟨_, rfl⟩
      obtain ⟨SH, hSH⟩ : ∃ q, sumS (·.secs.hi) x y r.s.stops 0 = q := ⟨_, rfl⟩
      obtain ⟨SL, hSL⟩ : ∃ q, sumS (·.secs.lo) x y r.s.stops 0 = q := ⟨_, rfl⟩
      rw [hQ1] at d1 hLR
      rw [hQ2] at d2 hLR hce
      rw [hSH] at hsh hLR
      rw [hSL] at hsl hLR
      dsimp only at hLR
      have hpe : pairL r.s (3 + r.strikes.length + k1) x (3 + r.strikes.length + k1 + 1 + j2) (y :: ys2) = ⟨A, B, Q2 + SH⟩ :: ⟨B, A, -(Q1 + SL)⟩ :: pairL r.s (3 + r.strikes.length + k1) x (3 + r.strikes.length + k1 + 1 + (j2 + 1)) ys2 := by
        subst hB; subst hA; simp only [pairL, hLR]; rfl
      rw [hpe] at hp12
      rw [hLR] at hle
      dsimp only at hle
      obtain ⟨e1, e2, e3, e4⟩ := hle
      have hdl : dn2.length + 2 ≤ 10000 := by have := congrArg List.length hp12; simp only [zE, zD] at this; omega
      repeat' first
        | ((first | (apply W.callr cx_ok; decide) | (apply D.callr cx_ok; decide; decide)); (iterate 2 (simp (disch := (first | omega | (simp only [vC, vD]; omega))) only [push_cast, simprocAttr, takeM, dropM, zK, zA, zB, zN, zQ, zR, zO, zP, zT, zS, zU, leT, zH, natNe, zI, zG, zJ, hS2, hrb2, hgb2, hpb2, hgg2, hmm2, hk2', hg2, hx2, hfr2, hax', hay, z1, hQ1, yD] <;> rfl)); (exact at_r (nodesR r more) _ _ (by simp (disch := (first | omega | (simp only [vC, vD]; omega))) only [push_cast, simprocAttr, takeM, dropM, zK, zA, zB, zN, zQ, zR, zO, zP, zT, zS, zU, leT, zH, natNe, zI, zG, zJ, hS2, hrb2, hgb2, hpb2, hgg2, hmm2, hk2', hg2, hx2, hfr2, hax', hay, z1, hQ1, yD] <;> rfl) (by simp (disch := (first | omega | (simp only [vC, vD]; omega))) only [push_cast, simprocAttr, takeM, dropM, zK, zA, zB, zN, zQ, zR, zO, zP, zT, zS, zU, leT, zH, natNe, zI, zG, zJ, hS2, hrb2, hgb2, hpb2, hgg2, hmm2, hk2', hg2, hx2, hfr2, hax', hay, z1, hQ1, yD] <;> rfl)))
        | apply jA | apply jB | apply jC | apply jD | apply jE | apply jF | apply jG | apply jH | apply jI | apply jJ
        | refine AW.draw (id := 44) cx_mixed [10] [] [] 0 (by decide +kernel) ?_
        | refine AW.draw (id := 45) cx_mixed [10] [] [] 0 (by decide +kernel) ?_
        | refine AW.draw (id := 46) cx_mixed [7] [] [] 0 (by decide +kernel) ?_
        | refine W.draw cx_mixed (by decide +kernel) ?_
        | ((first | (apply jK cx_ok; decide) | (apply jL cx_ok; decide; decide) | apply jM cx_ok | (apply jN; rfl; decide) | (apply jO; rfl; decide; decide) | apply jR | apply jS cx_ok); (simp (disch := (first | omega | (simp only [vC, vD]; omega))) only [push_cast, simprocAttr, takeM, dropM, zK, zA, zB, zN, zQ, zR, zO, zP, zT, zS, zU, leT, zH, natNe, zI, zG, zJ, hS2, hrb2, hgb2, hpb2, hgg2, hmm2, hk2', hg2, hx2, hfr2, hax', hay, z1, hQ1, yD] <;> rfl); all_goals try ((with_reducible intro hI); try first | (cases hI; done) | (simp only [INTS, zL] at hI; try first | (exfalso; omega) | (have hT : True := hI; clear hT hI))))
        | ((first | (apply jP; rfl; decide) | (apply jQ; rfl; decide; decide) | (apply ja cx_ok; decide) | (apply jb cx_ok; decide; decide) | (apply D.mapUpdate cx_ok; decide) | (apply jc cx_ok; decide; decide)); (simp (disch := (first | omega | (simp only [vC, vD]; omega))) only [push_cast, simprocAttr, takeM, dropM, zK, zA, zB, zN, zQ, zR, zO, zP, zT, zS, zU, leT, zH, natNe, zI, zG, zJ, hS2, hrb2, hgb2, hpb2, hgg2, hmm2, hk2', hg2, hx2, hfr2, hax', hay, z1, hQ1, yD] <;> rfl); try first | exact .inl rfl | exact .inr (by simp))
        | (refine W.makeMap cx_ok (by simp only [push_cast, simprocAttr] <;> rfl) (by decide) ?_)
        | ((apply jY cx_ok; decide; decide); (simp (disch := (first | omega | (simp only [vC, vD]; omega))) only [push_cast, simprocAttr, takeM, dropM, zK, zA, zB, zN, zQ, zR, zO, zP, zT, zS, zU, leT, zH, natNe, zI, zG, zJ, hS2, hrb2, hgb2, hpb2, hgg2, hmm2, hk2', hg2, hx2, hfr2, hax', hay, z1, hQ1, yD] <;> rfl); first | exact .inl rfl | exact .inr (by simp))
        | (apply jT cx_ok; decide; rfl; rfl; rfl; decide; (iterate 3 (simp (disch := (first | omega | (simp only [vC, vD]; omega))) only [push_cast, simprocAttr, takeM, dropM, zK, zA, zB, zN, zQ, zR, zO, zP, zT, zS, zU, leT, zH, natNe, zI, zG, zJ, hS2, hrb2, hgb2, hpb2, hgg2, hmm2, hk2', hg2, hx2, hfr2, hax', hay, z1, hQ1, yD] <;> rfl)); (first | (focus (simp; done)) | (intro c hc; obtain ⟨x, _, rfl⟩ := List.mem_map.1 hc; rfl)); ((first | rfl | simp (disch := omega) only [push_cast])); ((try dsimp only); (try simp only [vC, vD]); omega); ((try dsimp only); (try simp only [vC, vD]); omega))
        | ((first | (apply jV cx_ok; decide) | (apply jW cx_ok; decide; decide) | (apply jX cx_ok; decide; decide)); (iterate 2 (simp (disch := (first | omega | (simp only [vC, vD]; omega))) only [push_cast, simprocAttr, takeM, dropM, zK, zA, zB, zN, zQ, zR, zO, zP, zT, zS, zU, leT, zH, natNe, zI, zG, zJ, hS2, hrb2, hgb2, hpb2, hgg2, hmm2, hk2', hg2, hx2, hfr2, hax', hay, z1, hQ1, yD] <;> rfl)); (with_reducible first | exact hce | exact hsh | exact hsl); try first | rfl | (simp (disch := (first | omega | (simp only [vC, vD]; omega))) only [push_cast, simprocAttr, takeM, dropM, zK, zA, zB, zN, zQ, zR, zO, zP, zT, zS, zU, leT, zH, natNe, zI, zG, zJ, hS2, hrb2, hgb2, hpb2, hgg2, hmm2, hk2', hg2, hx2, hfr2, hax', hay, z1, hQ1, yD] <;> rfl))

      refine W.yield (by decide) (by simp (disch := omega) only [push_cast, simprocAttr, natNe, zI, zG, zJ, hS2, hrb2, hgb2, hpb2, hgg2, hmm2, hk2', hg2, hx2, hfr2, hax', hay, z1, hQ1, yD] <;> rfl) (va := [.agg (eLink ⟨A, B, Q2 + SH⟩)]) (by simp (disch := omega) only [push_cast, simprocAttr, natNe, zI, zG, zJ, hS2, hrb2, hgb2, hpb2, hgg2, hmm2, hk2', hg2, hx2, hfr2, hax', hay, z1, hQ1, yD] <;> rfl) (hJ.y (dn2) _ _ ⟨A, B, Q2 + SH⟩ (by (try simp (disch := omega) only [push_cast, simprocAttr, natNe, zI, zG, zJ, hS2, hrb2, hgb2, hpb2, hgg2, hmm2, hk2', hg2, hx2, hfr2, hax', hay, z1, hQ1, yD]); (repeat (refine hJ.frame _ _ _ _ ?_ (by omega))); exact hp22) (show n0 ≤ s2.nx + 1 by omega) (by omega)) ?_
      rintro _ H3 nx3 ⟨rfl, hJ3, hn3, hf3⟩
      replace hn3 : s2.nx + 1 ≤ nx3 := hn3
      try simp only [List.append_assoc, yB, yA] at hJ3
      have g1 : Pg.rowAt H3 nx = some { k := 12, es := [eSession r.s], ty := 26 } := (rowAt_eqH (hf3 nx (by omega) (show nx < s2.nx + 1 by omega))).trans (by simp (disch := omega) only [push_cast, simprocAttr, natNe, zI, zG, zJ, hS2, hrb2, hgb2, hpb2, hgg2, hmm2, hk2', hg2, hx2, hfr2, hax', hay, z1, hQ1, yD] <;> rfl)
      have g2 : Pg.rowAt H3 s1.nx = some { k := 1, es := [[ai x]], ty := 3 } := (rowAt_eqH (hf3 s1.nx (by omega) (show s1.nx < s2.nx + 1 by omega))).trans (by simp (disch := omega) only [push_cast, simprocAttr, natNe, zI, zG, zJ, hS2, hrb2, hgb2, hpb2, hgg2, hmm2, hk2', hg2, hx2, hfr2, hax', hay, z1, hQ1, yD] <;> rfl)
      repeat' first
        | apply jA | apply jB | apply jC | apply jD | apply jE | apply jF | apply jG | apply jH | apply jI | apply jJ
        | refine W.draw cx_mixed (by decide +kernel) ?_
        | ((first | (apply jK cx_ok; decide) | (apply jL cx_ok; decide; decide) | apply jM cx_ok | (apply jN; rfl; decide) | (apply jO; rfl; decide; decide) | apply jR | apply jS cx_ok); (simp (disch := (first | omega | (simp only [vC, vD]; omega))) only [push_cast, simprocAttr, takeM, dropM, zK, zA, zB, zN, zQ, zR, zO, zP, zT, zS, zU, leT, zH, natNe, zI, zG, zJ, hS2, hrb2, hgb2, hpb2, hgg2, hmm2, hk2', hg2, hx2, hfr2, hax', hay, z1, hQ1, yD] <;> rfl); all_goals try ((with_reducible intro hI); try first | (cases hI; done) | (simp only [INTS, zL] at hI; try first | (exfalso; omega) | (have hT : True := hI; clear hT hI))))
        | ((first | (apply jP; rfl; decide) | (apply jQ; rfl; decide; decide)); (simp (disch := (first | omega | (simp only [vC, vD]; omega))) only [push_cast, simprocAttr, takeM, dropM, zK, zA, zB, zN, zQ, zR, zO, zP, zT, zS, zU, leT, zH, natNe, zI, zG, zJ, hS2, hrb2, hgb2, hpb2, hgg2, hmm2, hk2', hg2, hx2, hfr2, hax', hay, z1, hQ1, yD] <;> rfl))
        | (refine W.makeMap cx_ok (by simp only [push_cast, simprocAttr] <;> rfl) (by decide) ?_)
        | (apply jT cx_ok; decide; rfl; rfl; rfl; decide; (iterate 3 (simp (disch := (first | omega | (simp only [vC, vD]; omega))) only [push_cast, simprocAttr, takeM, dropM, zK, zA, zB, zN, zQ, zR, zO, zP, zT, zS, zU, leT, zH, natNe, zI, zG, zJ, hS2, hrb2, hgb2, hpb2, hgg2, hmm2, hk2', hg2, hx2, hfr2, hax', hay, z1, hQ1, yD] <;> rfl)); (first | (focus (simp; done)) | (intro c hc; obtain ⟨x, _, rfl⟩ := List.mem_map.1 hc; rfl)); ((first | rfl | simp (disch := omega) only [push_cast])); ((try dsimp only); (try simp only [vC, vD]); omega); ((try dsimp only); (try simp only [vC, vD]); omega))

      refine W.yield (by decide) (by simp (disch := omega) only [push_cast, simprocAttr, natNe, zI, zG, zJ, hS2, hrb2, hgb2, hpb2, hgg2, hmm2, hk2', hg2, hx2, hfr2, hax', hay, z1, hQ1, yD] <;> rfl) (va := [.agg (eLink ⟨B, A, -(Q1 + SL)⟩)]) (by simp (disch := omega) only [push_cast, simprocAttr, natNe, zI, zG, zJ, hS2, hrb2, hgb2, hpb2, hgg2, hmm2, hk2', hg2, hx2, hfr2, hax', hay, z1, hQ1, yD] <;> rfl) (hJ.y (dn2 ++ [⟨A, B, Q2 + SH⟩]) _ _ ⟨B, A, -(Q1 + SL)⟩ (by (try simp (disch := omega) only [push_cast, simprocAttr, natNe, zI, zG, zJ, hS2, hrb2, hgb2, hpb2, hgg2, hmm2, hk2', hg2, hx2, hfr2, hax', hay, z1, hQ1, yD]); (repeat (refine hJ.frame _ _ _ _ ?_ (by omega))); exact hJ3) (show n0 ≤ nx3 by omega) (by simp only [zE, zD, zC]; omega)) ?_
      rintro _ H4 nx4 ⟨rfl, hJ4, hn4, hf4⟩
      replace hn4 : nx3 ≤ nx4 := hn4
      try simp only [List.append_assoc, yB, yA] at hJ4
      have g3 : Pg.rowAt H4 nx = some { k := 12, es := [eSession r.s], ty := 26 } := (rowAt_eqH (hf4 nx (by omega) (show nx < nx3 by omega))).trans (by simp (disch := omega) only [push_cast, simprocAttr, natNe, zI, zG, zJ, hS2, hrb2, hgb2, hpb2, hgg2, hmm2, hk2', hg2, hx2, hfr2, hax', hay, z1, hQ1, yD, g1] <;> rfl)
      have g4 : Pg.rowAt H4 s1.nx = some { k := 1, es := [[ai x]], ty := 3 } := (rowAt_eqH (hf4 s1.nx (by omega) (show s1.nx < nx3 by omega))).trans (by simp (disch := omega) only [push_cast, simprocAttr, natNe, zI, zG, zJ, hS2, hrb2, hgb2, hpb2, hgg2, hmm2, hk2', hg2, hx2, hfr2, hax', hay, z1, hQ1, yD, g2] <;> rfl)
      repeat' first
        | apply jA | apply jB | apply jC | apply jD | apply jE | apply jF | apply jG | apply jH | apply jI | apply jJ
        | refine W.draw cx_mixed (by decide +kernel) ?_
        | ((first | (apply jK cx_ok; decide) | (apply jL cx_ok; decide; decide) | apply jM cx_ok | (apply jN; rfl; decide) | (apply jO; rfl; decide; decide) | apply jR | apply jS cx_ok); (simp (disch := (first | omega | (simp only [vC, vD]; omega))) only [push_cast, simprocAttr, takeM, dropM, zK, zA, zB, zN, zQ, zR, zO, zP, zT, zS, zU, leT, zH, natNe, zI, zG, zJ, hS2, hrb2, hgb2, hpb2, hgg2, hmm2, hk2', hg2, hx2, hfr2, hax', hay, z1, hQ1, yD, g3, g4] <;> rfl); all_goals try ((with_reducible intro hI); try first | (cases hI; done) | (simp only [INTS, zL] at hI; try first | (exfalso; omega) | (have hT : True := hI; clear hT hI))))
        | ((first | (apply jP; rfl; decide) | (apply jQ; rfl; decide; decide)); (simp (disch := (first | omega | (simp only [vC, vD]; omega))) only [push_cast, simprocAttr, takeM, dropM, zK, zA, zB, zN, zQ, zR, zO, zP, zT, zS, zU, leT, zH, natNe, zI, zG, zJ, hS2, hrb2, hgb2, hpb2, hgg2, hmm2, hk2', hg2, hx2, hfr2, hax', hay, z1, hQ1, yD, g3, g4] <;> rfl))
        | (refine W.makeMap cx_ok (by simp only [push_cast, simprocAttr] <;> rfl) (by decide) ?_)
        | (apply jT cx_ok; decide; rfl; rfl; rfl; decide; (iterate 3 (simp (disch := (first | omega | (simp only [vC, vD]; omega))) only [push_cast, simprocAttr, takeM, dropM, zK, zA, zB, zN, zQ, zR, zO, zP, zT, zS, zU, leT, zH, natNe, zI, zG, zJ, hS2, hrb2, hgb2, hpb2, hgg2, hmm2, hk2', hg2, hx2, hfr2, hax', hay, z1, hQ1, yD, g3, g4] <;> rfl)); (first | (focus (simp; done)) | (intro c hc; obtain ⟨x, _, rfl⟩ := List.mem_map.1 hc; rfl)); ((first | rfl | simp (disch := omega) only [push_cast])); ((try dsimp only); (try simp only [vC, vD]); omega); ((try dsimp only); (try simp only [vC, vD]); omega))

      all_goals (refine ⟨ys2.length, ?_, j2 + 1, (dn2 ++ [⟨A, B, Q2 + SH⟩, ⟨B, A, -(Q1 + SL)⟩]), ys2, rfl, hd2, (by rw [← hp12]; simp only [List.append_assoc, yB, yA]), (by (try simp (disch := omega) only [push_cast, simprocAttr, natNe, zI, zG, zJ]); (repeat (refine hJ.frame _ _ _ _ ?_ (by omega))); exact hJ4), ?_, ?_, ?_, ?_, ?_, ?_, ?_, ?_, ?_, ?_, ?_, ?_, ?_, ?_⟩; ((simp only [zD] at *; omega)); all_goals first | (simp (disch := omega) only [push_cast, simprocAttr, hS2, natNe, zI, zG, zJ, hrb2, hgb2, hpb2, hgg2, hmm2, hk2', hg2, hx2, hfr2, hax', hay, z1, hQ1, yD, g3, g4] <;> first | rfl | omega) | omega)
end Go.Proofs.Ks

namespace Go.Proofs.Ks
open Go Go.Pg Go.Proofs
theorem all1_ok {l n0 rb gb pb g m : Nat} {r : Rec} (hv : r.V) {more : List Int} (hml : more.length ≤ 8) (hmb : ∀ a ∈ more, 0 ≤ a ∧ a ≤ 43200) {J : List Lk → (Nat → Option AO) → Prop} (hJ : Yl l n0 rb gb pb g m r (marksR r more) (nodesR r more) J)
    (h1 : rb < n0) (h2 : gb < n0) (h3 : pb < n0) (h4 : g < n0) (h5 : m < n0) {H : Nat → Option AO} {nx : Nat} (hnx : n0 ≤ nx) (hJ0 : J [] H) {Q : AV → (Nat → Option AO) → Nat → Prop} (hQ : ∀ H n, J (linksR r more) H → nx ≤ n → Q (.tup []) H n) :
    OKm cx 121 [.v (.func (.yield l) #[] #[]), .ptr rb 0 0 1, .ptr gb 0 0 1, .ptr pb 0 0 1] H nx Q :=
  all1_a hv hml hmb hJ h1 h2 h3 h4 h5 hnx hJ0 fun s hs => all1_b hv hml hmb hJ h1 h2 h3 h4 h5 hnx hQ hs
end Go.Proofs.Ks

namespace Go.Pg
open Go Go.RowKit
section
variable {C : Cx}
theorem leavesXt {S0 : Fr} {B0 : Nat} {fn : Func} {tmps : Array Value} {tm : Nat → AV} {R : Ending → World → Prop} : ∀ (bs : List (Nat × Nat)) (w : World) (H : Nat → Option AO) (σ : Sg), Inv B0 S0 w H σ → (∀ t, Rep σ w (tm t) (tmps.getD t undef)) → Marks bs H →
    (∀ w' H' σ', Inv B0 S0 w' H' σ' → (∀ t, Rep σ' w' (tm t) (tmps.getD t undef)) → Below B0 w w' → (∀ i, rowAt H' i = rowAt H i) → (∀ i, H' i = none ↔ H i = none) → (∀ i, (∀ D ds, H i ≠ some (.mp (.dfr D ds) 0 [])) → H' i = H i) → ∃ v, (results fn tmps).run C.P w' = .ok v w' ∧ R (.returned v) w') →
    LeavesInM Fence.wide 0 C.P fn tmps R (bs.map fun p => mark p.1) .returning w
  | [], w, H, σ, hi, ht, _, fin => fin w H σ hi ht (Below.refl _ _) (fun _ => rfl) (fun _ => Iff.rfl) (fun _ _ => rfl)
  | (D, id) :: bs, w, H, σ, hi, ht, hm, fin => by
    obtain ⟨hm1, hm2⟩ := hm
    have hH : H id = some (.mp (.dfr D (some [])) 0 []) := hm2 (D, id) (by simp)
    obtain ⟨g1, g2⟩ := hi.shut hH
    obtain ⟨f1, f2, f3⟩ := g2 none
    simp only [List.map_cons, List.nodup_cons] at hm1
    refine ⟨by simp, .inl ⟨D, _, rfl, run_takeDeferred g1, ?_⟩⟩
    refine leavesXt bs _ _ σ f2 (fun t => Rep.mono f1 _ _ (ht t)) ⟨hm1.2, fun p hp => ?_⟩ fun w' H' σ' h1 h2 h3 h4 h5 h6 => fin w' H' σ' h1 h2 (f3.trans h3) (fun i => ?_) (fun i => ?_) (fun i hnd => ?_)
    · have hne : p.2 ≠ id := fun e => hm1.1 (e ▸ List.mem_map_of_mem (f := (·.2)) hp)
      simp only [updH]; rw [if_neg hne]; exact hm2 p (by simp [hp])
    · rw [h4, rowAt_updM]
      split
      · rename_i e; subst e; simp [rowAt, hH]
      · rfl
    · rw [h5]
      simp only [updH]
      split
      · rename_i e; subst e; simp [hH]
      · rfl
    · have hne : i ≠ id := fun e => by subst e; exact hnd _ _ hH
      have hu : updH H id (.mp (.dfr D none) 0 []) i = H i := by simp only [updH]; rw [if_neg hne]
      rw [h6 i (fun D' ds' => by rw [hu]; exact hnd D' ds'), hu]
def endXt (C : Cx) (rs : List ResultVar) (Q : AV → (Nat → Option AO) → Nat → Prop) (e : Exit) (s : St) : Prop :=
  ∀ H', (∀ i, rowAt H' i = rowAt s.H i) → (∀ i, (∀ D ds, s.H i ≠ some (.mp (.dfr D ds) 0 [])) → H' i = s.H i) → endM C rs Q e { s with H := H' }
theorem OKm.of_bodyXt [hW : C.Wide] (hC : C.OK) {f : FuncId} {fn : Func} {c : Code} {args : List AV} {rs : List ResultVar} {H : Nat → Option AO} {nx : Nat} {Q : AV → (Nat → Option AO) → Nat → Prop} (hf : C.P.funcs[f]? = some fn) (hb : fn.body = some c) (hn : (fn.name == "runtime.NumGoroutine") = false)
    (hr : fn.results = rs.toArray) (hN : args.length ≤ fn.ntmps) (h : AWx C fn.ntmps c (endXt C rs Q) { tm := fun t => args.getD t .junk, H := H, nx := nx }) : OKm C f args H nx Q := by
  refine ⟨⟨fn, hf, hn, by rw [hb]; rfl⟩, fun S0 w0 w σ vals hE hi hnx hbel hsz hrep => ?_⟩
  refine callsIn_wide.1 (callsIn_of_wp_marks (n := 0) hf hb trivial ?_)
  have hs : Sim (S0.from σ w) w0 fn.ntmps { tmps := vals ++ Array.replicate (fn.ntmps - vals.size) undef, defers := [] } w { tm := fun t => args.getD t .junk, H := H, nx := nx } := by
    refine ⟨σ, hi.from, hnx, fun t => ?_, by simp; omega, rfl, hbel⟩
    show Rep σ w (args.getD t .junk) ((vals ++ Array.replicate (fn.ntmps - vals.size) undef).getD t undef)
    by_cases ht : t < args.length
    · rw [repL_iff] at hrep
      obtain ⟨u, hu, hru⟩ := hrep t ht
      have : (vals ++ Array.replicate (fn.ntmps - vals.size) undef).getD t undef = u := by
        rw [Array.getD_eq_getD_getElem?, Array.getElem?_append_left (by omega), hu]; rfl
      rw [this, List.getD_eq_getElem?_getD, List.getElem?_eq_getElem ht]; exact hru
    · have : args.getD t .junk = .junk := by rw [List.getD_eq_getElem?_getD, List.getElem?_eq_none (by omega)]; rfl
      rw [this]; trivial
  have h2 := h (S0.from σ w) w0 _ w rfl hE hs
  rw [hW.h] at h2
  refine wpIn_mono h2 ?_
  rintro e a' w' ⟨s', bs, ⟨σ', hσ'⟩, hm, hq⟩
  have fin : (∀ H', (∀ i, rowAt H' i = rowAt s'.H i) → (∀ i, (∀ D ds, s'.H i ≠ some (.mp (.dfr D ds) 0 [])) → H' i = s'.H i) → ∃ vs, resVs C.T { s' with H := H' } rs = some vs ∧ Q (bundle vs) H' s'.nx) →
      LeavesInM Fence.wide 0 C.P fn a'.tmps (fun e w' => ∃ v r σ' H' nx', e = .returned v ∧ Q r H' nx' ∧ Below w0.heap.size w0 w' ∧ Inv w0.heap.size S0 w' H' σ' ∧ (∀ id, nx' ≤ id → H' id = none) ∧ Le σ σ' w w' ∧ Rep σ' w' r v) a'.defers .returning w' := by
    intro hq
    rw [show a'.defers = bs.map (fun p => mark p.1) from hσ'.d]
    refine leavesXt bs w' s'.H σ' hσ'.inv hσ'.tm hm fun w2 H2 σ2 h1 h2 h3 h4 h5 h6 => ?_
    obtain ⟨vs, hvs, hq⟩ := hq H2 h4 h6
    have hs2 : SimG { (S0.from σ w) with ds := bs.map (fun p => mark p.1) } w0 fn.ntmps a' w2 { s' with H := H2 } σ2 := ⟨h1, fun id hid => (h5 id).2 (hσ'.nx id hid), h2, hσ'.N, hσ'.d, hσ'.below.trans h3⟩
    obtain ⟨v, hv, hrv⟩ := run_results_of hC hs2 hr hvs
    have hi2 : Inv w0.heap.size (S0.from σ w) w2 H2 σ2 := ⟨h1.al, h1.fresh, h1.S_lt, h1.own_lt, h1.row, h1.mp, h1.fr⟩
    obtain ⟨hi', hle⟩ := hi2.unfrom
    exact ⟨v, hv, v, _, σ2, H2, s'.nx, rfl, hq, hs2.below, hi', hs2.nx, hle, hrv⟩
  cases e with
  | normal => exact fin hq
  | ret => exact fin hq
  | exit id => exact (hq s'.H (fun _ => rfl) (fun _ _ => rfl)).elim
  | goto l => exact (hq s'.H (fun _ => rfl) (fun _ _ => rfl)).elim
  | panic c => exact (hq s'.H (fun _ => rfl) (fun _ _ => rfl)).elim
  | outgrown => exact (hq s'.H (fun _ => rfl) (fun _ _ => rfl)).elim
end
end Go.Pg
