/-
  Contracts of functions, proved by going through their code. No conditions.
-/
import Derived.Test.YtbeiiipphicdlaaGreatDoorTaq
import Derived.Test.YtbeiiipphicdlaaGreatDoorTbb
set_option linter.unusedVariables false
set_option linter.unusedSimpArgs false
set_option maxHeartbeats 8000000
set_option maxRecDepth 10000
namespace Go.Proofs.Hz
open Go Go.Pg Go.Proofs Go.Tx
attribute [local push_cast] Bool.and_false Bool.and_self Bool.and_true Bool.false_and Bool.false_eq_true Bool.not_false Bool.not_true Bool.true_and Cx.rnd List.all_append List.all_cons List.all_nil List.append_nil List.cons_append List.isEmpty_cons List.length_append List.length_cons List.length_drop List.length_nil List.length_take List.map_append List.map_cons List.map_nil List.mem_cons List.nil_append List.not_mem_nil List.take_length List.take_of_length_le Nat.add_assoc Nat.zero_add St.back TyD.isAgg and_self and_true dropM idsA idsL isEmpty_map leT natNe pureA pureL rowAt_aftJ takeM true_and
theorem aw_eight {C : Cx} {N : Nat} {c : Code} {Q : Exit → St → Prop} {tm : Nat → AV} {H : Nat → Option AO} {o : AO} {nx : Nat} (h : ∀ X, X = some o → AW C N c Q { tm := tm, H := updH H 8 o, nx := nx }) : AW C N c Q { tm := tm, H := updH H 8 o, nx := nx } := h _ rfl
def LP (L : Loop) (b : Bool) : Loop := if b = true then { L with state := .done, pending := some .ret } else L
structure JP (l D : Nat) (L : Loop) (tm : Nat → AV) (p : House × Bool) (H : Nat → Option AO) : Prop where
  res : Pg.rowAt H 0 = some ({ k := 3, es := [[.v (.slice none 0 0), .v (.slice none 0 0), .v (.slice none 0 0)]], ty := 26 })
  err : Pg.rowAt H 1 = some ({ k := 1, es := [[ai (if p.2 = true then 7 else 0)]], ty := 29 })
  out : Pg.rowAt H 2 = some ({ k := 3, es := [[.ref 3 0 p.1.rooms.length, .ref 4 0 p.1.doors.length, .ref 5 0 p.1.ways.length]], ty := 26 })
  rms : Pg.rowAt H 3 = some ({ k := 2, es := p.1.rooms.map eRoom, ty := 62, lo := p.1.rooms.length })
  drs : Pg.rowAt H 4 = some ({ k := 2, es := p.1.doors.map eDoor, ty := 38, lo := p.1.doors.length })
  wys : Pg.rowAt H 5 = some ({ k := 5, es := p.1.ways.map eWay, ty := 72, lo := p.1.ways.length })
  dfr : H 7 = some (.mp (.dfr D (some [])) 0 [])
  rcd : H 8 = some (.mp (.loop l (LP L p.2)) 0 (keepT 126 tm))
  fit : FitD p.1
theorem JP.frame {l D : Nat} {L : Loop} {tm : Nat → AV} (p : House × Bool) (H : Nat → Option AO) (id : Nat) (o : AO) (h : JP l D L tm p H) (hid : 9 ≤ id ∨ id = 6) : JP l D L tm p (updH H id o) := by
  obtain ⟨h0, h1, h2, h3, h4, h5, h7, h8, hl⟩ := h
  have e : ∀ j, j < 9 → j ≠ 6 → updH H id o j = H j := fun j hj hn => by simp only [updH]; rw [if_neg (by omega)]
  exact ⟨(rowAt_eqY (e 0 (by omega) (by omega))).trans h0, (rowAt_eqY (e 1 (by omega) (by omega))).trans h1, (rowAt_eqY (e 2 (by omega) (by omega))).trans h2, (rowAt_eqY (e 3 (by omega) (by omega))).trans h3, (rowAt_eqY (e 4 (by omega) (by omega))).trans h4, (rowAt_eqY (e 5 (by omega) (by omega))).trans h5, (e 7 (by omega) (by omega)).trans h7, (e 8 (by omega) (by omega)).trans h8, hl⟩
theorem Parse_ok (s0 : ByteArray) (hs : s0.size ≤ 1000000) : OKv cx 9 [at_ s0] (.tup [.agg (eHouse (parseF s0).1), ai (parseF s0).2]) := by
  obtain ⟨RES, hRES⟩ : ∃ z, parseF s0 = z := ⟨_, rfl⟩
  rw [hRES]
  unfold parseF parseP at hRES
  have hf3 : ∀ x, flatA (.v x) = true := fun _ => rfl
  have hf5 : ∀ x y, flatA (.tup [.v x, .v y]) = true := fun _ _ => rfl
  have hf5b : ∀ x y z, flatA (.tup [.v x, .v y, .v z]) = true := fun _ _ _ => rfl
  have hf6 : ∀ l, flatA (.lst l) = false := fun _ => rfl
  have hf7 : ∀ l x, flatA (.tup [.lst l, .v x]) = false := fun _ _ => rfl
  have hf9 : ∀ H ids x y, afterH H ids (.tup [.v x, .v y]) = H := fun _ _ _ _ => rfl
  refine OKm.toAt (Q := fun r H' _ => viewA H' r = some (.tup [.agg (eHouse RES.1), ai RES.2])) (OKm.of_bodyX cx_ok (rs := [.cell 2 26, .cell 3 29]) Tryz.func9 rfl (by decide +kernel) rfl (by simp [Tryz.ntmps9]) ?_) (fun r H nx hq => ⟨_, hq, rfl⟩)
  simp only [Tryz.ntmps9]
  refine AWx.seqS ?_
  repeat' first
    | apply AW.seq | apply AW.region | apply AW.ret | apply AW.block | apply AW.skip | apply AW.exit | apply AW.scope | apply AW.label | apply AWL.nil | apply D.nil
    | refine W.draw cx_mixed (by decide +kernel) ?_
    | ((first | (apply W.step cx_ok; decide) | (apply D.step cx_ok; decide; decide) | apply W.store cx_ok | (apply W.gS; rfl; decide) | (apply D.gS; rfl; decide; decide) | apply AW.cond); (simp (disch := (first | omega | (simp only [List.length_append, List.length_map, List.length_cons, List.length_nil, List.length_take, List.length_drop]; omega))) only [push_cast, simprocAttr] <;> rfl); all_goals try ((with_reducible intro hI); try first | (cases hI; done) | (simp only [INTS, not_true_eq_false] at hI; try first | (exfalso; omega) | (have hT : True := hI; clear hT hI))))
    | ((first | (apply W.gU; rfl; decide) | (apply D.gU; rfl; decide; decide)); (simp (disch := (first | omega | (simp only [List.length_append, List.length_map, List.length_cons, List.length_nil, List.length_take, List.length_drop]; omega))) only [push_cast, simprocAttr] <;> rfl))
    | (apply W.append cx_ok; decide; rfl; rfl; rfl; decide; (iterate 3 (simp (disch := (first | omega | (simp only [List.length_append, List.length_map, List.length_cons, List.length_nil, List.length_take, List.length_drop]; omega))) only [push_cast, simprocAttr] <;> rfl)); (first | (focus (simp; done)) | (intro c hc; obtain ⟨x, _, rfl⟩ := List.mem_map.1 hc; rfl)); ((first | rfl | simp (disch := omega) only [push_cast])); ((try dsimp only); (try simp only [List.length_map, List.length_append, List.length_cons, List.length_nil, List.length_take, List.length_drop]); omega); ((try dsimp only); (try simp only [List.length_map, List.length_append, List.length_cons, List.length_nil, List.length_take, List.length_drop]); omega))


  refine Pg.Stop.mk ?_
  refine AWx.seqS ?_
  repeat' first
    | apply AW.seq | apply AW.region | apply AW.ret | apply AW.block | apply AW.skip | apply AW.exit | apply AW.scope | apply AW.label | apply AWL.nil | apply D.nil
    | refine W.draw cx_mixed (by decide +kernel) ?_
    | ((first | (apply W.step cx_ok; decide) | (apply D.step cx_ok; decide; decide) | apply W.store cx_ok | (apply W.gS; rfl; decide) | (apply D.gS; rfl; decide; decide) | apply AW.cond); (simp (disch := (first | omega | (simp only [List.length_append, List.length_map, List.length_cons, List.length_nil, List.length_take, List.length_drop]; omega))) only [push_cast, simprocAttr] <;> rfl); all_goals try ((with_reducible intro hI); try first | (cases hI; done) | (simp only [INTS, not_true_eq_false] at hI; try first | (exfalso; omega) | (have hT : True := hI; clear hT hI))))
    | ((first | (apply W.gU; rfl; decide) | (apply D.gU; rfl; decide; decide)); (simp (disch := (first | omega | (simp only [List.length_append, List.length_map, List.length_cons, List.length_nil, List.length_take, List.length_drop]; omega))) only [push_cast, simprocAttr] <;> rfl))
    | (apply W.append cx_ok; decide; rfl; rfl; rfl; decide; (iterate 3 (simp (disch := (first | omega | (simp only [List.length_append, List.length_map, List.length_cons, List.length_nil, List.length_take, List.length_drop]; omega))) only [push_cast, simprocAttr] <;> rfl)); (first | (focus (simp; done)) | (intro c hc; obtain ⟨x, _, rfl⟩ := List.mem_map.1 hc; rfl)); ((first | rfl | simp (disch := omega) only [push_cast])); ((try dsimp only); (try simp only [List.length_map, List.length_append, List.length_cons, List.length_nil, List.length_take, List.length_drop]); omega); ((try dsimp only); (try simp only [List.length_map, List.length_append, List.length_cons, List.length_nil, List.length_take, List.length_drop]); omega))


  refine Pg.Stop.mk ?_
  refine AWx.ofk (AWk.seqS ?_)
  refine AW.adoptCell 2 0 0 2 62 (r := { k := 3, es := [[.v (.slice none 0 0), .v (.slice none 0 0), .v (.slice none 0 0)]], ty := 26 }) (by simp (disch := omega) only [push_cast, simprocAttr] <;> rfl) rfl ?_
  refine AW.adoptCell 2 0 1 2 38 (r := { k := 3, es := [[.ref 3 0 0, .v (.slice none 0 0), .v (.slice none 0 0)]], ty := 26 }) (by simp (disch := omega) only [push_cast, simprocAttr] <;> rfl) rfl ?_
  refine AW.adoptCell 2 0 2 5 72 (r := { k := 3, es := [[.ref 3 0 0, .ref 4 0 0, .v (.slice none 0 0)]], ty := 26 }) (by simp (disch := omega) only [push_cast, simprocAttr] <;> rfl) rfl ?_
  repeat' first
    | apply AW.seq | apply AW.region | apply AW.ret | apply AW.block | apply AW.skip | apply AW.exit | apply AW.scope | apply AW.label | apply AWL.nil | apply D.nil
    | refine W.draw cx_mixed (by decide +kernel) ?_
    | ((first | (apply W.step cx_ok; decide) | (apply D.step cx_ok; decide; decide) | apply W.store cx_ok | (apply W.gS; rfl; decide) | (apply D.gS; rfl; decide; decide) | apply AW.cond); (simp (disch := (first | omega | (simp only [List.length_append, List.length_map, List.length_cons, List.length_nil, List.length_take, List.length_drop]; omega))) only [push_cast, simprocAttr] <;> rfl); all_goals try ((with_reducible intro hI); try first | (cases hI; done) | (simp only [INTS, not_true_eq_false] at hI; try first | (exfalso; omega) | (have hT : True := hI; clear hT hI))))
    | ((first | (apply W.gU; rfl; decide) | (apply D.gU; rfl; decide; decide)); (simp (disch := (first | omega | (simp only [List.length_append, List.length_map, List.length_cons, List.length_nil, List.length_take, List.length_drop]; omega))) only [push_cast, simprocAttr] <;> rfl))
    | (apply W.append cx_ok; decide; rfl; rfl; rfl; decide; (iterate 3 (simp (disch := (first | omega | (simp only [List.length_append, List.length_map, List.length_cons, List.length_nil, List.length_take, List.length_drop]; omega))) only [push_cast, simprocAttr] <;> rfl)); (first | (focus (simp; done)) | (intro c hc; obtain ⟨x, _, rfl⟩ := List.mem_map.1 hc; rfl)); ((first | rfl | simp (disch := omega) only [push_cast])); ((try dsimp only); (try simp only [List.length_map, List.length_append, List.length_cons, List.length_nil, List.length_take, List.length_drop]); omega); ((try dsimp only); (try simp only [List.length_map, List.length_append, List.length_cons, List.length_nil, List.length_take, List.length_drop]); omega))


  refine W.callm cx_ok (by decide) (f := 28) (caps := []) (by simp (disch := omega) only [push_cast, simprocAttr] <;> rfl) (by simp (disch := omega) only [push_cast, simprocAttr] <;> exact Lines_m s0 _ _) ?_
  rintro r H1 nx1 ⟨rfl, rfl, rfl⟩
  repeat' first
    | apply AW.seq | apply AW.region | apply AW.ret | apply AW.block | apply AW.skip | apply AW.exit | apply AW.scope | apply AW.label | apply AWL.nil | apply D.nil
    | refine W.draw cx_mixed (by decide +kernel) ?_
    | ((first | (apply W.step cx_ok; decide) | (apply D.step cx_ok; decide; decide) | apply W.store cx_ok | (apply W.gS; rfl; decide) | (apply D.gS; rfl; decide; decide) | apply AW.cond); (simp (disch := (first | omega | (simp only [List.length_append, List.length_map, List.length_cons, List.length_nil, List.length_take, List.length_drop]; omega))) only [push_cast, simprocAttr] <;> rfl); all_goals try ((with_reducible intro hI); try first | (cases hI; done) | (simp only [INTS, not_true_eq_false] at hI; try first | (exfalso; omega) | (have hT : True := hI; clear hT hI))))
    | ((first | (apply W.gU; rfl; decide) | (apply D.gU; rfl; decide; decide)); (simp (disch := (first | omega | (simp only [List.length_append, List.length_map, List.length_cons, List.length_nil, List.length_take, List.length_drop]; omega))) only [push_cast, simprocAttr] <;> rfl))
    | (apply W.append cx_ok; decide; rfl; rfl; rfl; decide; (iterate 3 (simp (disch := (first | omega | (simp only [List.length_append, List.length_map, List.length_cons, List.length_nil, List.length_take, List.length_drop]; omega))) only [push_cast, simprocAttr] <;> rfl)); (first | (focus (simp; done)) | (intro c hc; obtain ⟨x, _, rfl⟩ := List.mem_map.1 hc; rfl)); ((first | rfl | simp (disch := omega) only [push_cast])); ((try dsimp only); (try simp only [List.length_map, List.length_append, List.length_cons, List.length_nil, List.length_take, List.length_drop]); omega); ((try dsimp only); (try simp only [List.length_map, List.length_append, List.length_cons, List.length_nil, List.length_take, List.length_drop]); omega))


  refine Pg.Stop.mk ?_
  refine awk_genY (fun t => t.tm 0 = at_ s0 ∧ t.tm 2 = .ptr 0 0 0 1 ∧ t.tm 3 = .ptr 1 0 0 1 ∧ t.tm 4 = .ptr 2 0 0 1 ∧ t.tm 14 = .clo 54 [.ptr 6 0 0 1] ∧ t.nx = 7 ∧ Pg.rowAt t.H 0 = some ({ k := 3, es := [[.v (.slice none 0 0), .v (.slice none 0 0), .v (.slice none 0 0)]], ty := 26 }) ∧ Pg.rowAt t.H 1 = some ({ k := 1, es := [[ai 0]], ty := 29 }) ∧
      Pg.rowAt t.H 2 = some ({ k := 3, es := [[.ref 3 0 0, .ref 4 0 0, .ref 5 0 0]], ty := 26 }) ∧ Pg.rowAt t.H 3 = some ({ k := 2, es := [], ty := 62 }) ∧ Pg.rowAt t.H 4 = some ({ k := 2, es := [], ty := 38 }) ∧ Pg.rowAt t.H 5 = some ({ k := 5, es := [], ty := 72 }) ∧ Pg.rowAt t.H 6 = some (strR s0)) ⟨?_, ?_, ?_, ?_, ?_, ?_, ?_, ?_, ?_, ?_, ?_, ?_, ?_⟩ ?_
  iterate 13 (simp (disch := omega) only [push_cast, simprocAttr] <;> rfl)
  rintro t ⟨ht0, ht2, ht3, ht4, ht14, htnx, b0, b1, b2, b3, b4, b5, b6⟩
  refine AWk.range (f := 54) (caps := [.ptr 6 0 0 1]) ht14 fun Dn l fn => ?_
  rw [htnx]
  refine OKm.mono (Lines1_ok s0 1000000 (by omega) l 9 6 (by decide) (c := cntH) (f := stepT) (J := fun p H => JP l Dn ?L t.tm p H ∧ cntH p.1 ≤ 1000000) ?hJ _ _ (Nat.le_refl _) (hNone, false) (by show 0 + _ ≤ _; omega) rfl ?hJ0 ?hrow) ?post
  case hJ0 =>
    refine ⟨⟨?_, ?_, ?_, ?_, ?_, ?_, rfl, ?_, by simp [FitD, hNone]⟩, Nat.zero_le _⟩
    · simp only [rowAt_updM]; simpa using b0
    · simp only [rowAt_updM]; simpa using b1
    · simp only [rowAt_updM]; simpa [hNone] using b2
    · simp only [rowAt_updM]; simpa [hNone] using b3
    · simp only [rowAt_updM]; simpa [hNone] using b4
    · simp only [rowAt_updM]; simpa [hNone] using b5
    · exact (if_pos rfl : (if (8 : Nat) = 7 + 1 then _ else _) = _)
  case hrow => simp only [rowAt_updM]; simpa using b6
  case hJ =>
    refine ⟨fun p G i o hp hi => ⟨JP.frame p G i o hp.1 hi, hp.2⟩, stepT_cnt, fun p G m x hp2 hJc hm hx hcM => ?_⟩
    obtain ⟨hh, bb⟩ := p
    simp only at hp2
    subst hp2
    obtain ⟨⟨h0, h1, h2, h3, h4, h5, hdf, hrc, hfd⟩, hcn⟩ := hJc
    simp only [LP, Bool.false_eq_true, if_false] at h0 h1 h2 h3 h4 h5 hrc hfd hcn hcM
    have hfd2 := stepT_fit (x := x) hfd hx
    have hcM0 : cntH hh + 1 ≤ 1000000 := hcM
    unfold cntH at hcn hcM
    have hcn2 : cntH (stepT hh x).1 ≤ 1000000 := Nat.le_trans (stepT_cnt1 hh x) hcM0
    refine YOK.of_body (id := 8) (args := [at_ x]) hrc rfl rfl (by intro p hp; have : p = 15 := (by simpa using hp); subst this; decide) ?_
    show AW (cx.rnd l) 126 _ _ { tm := upd (cutT 126 t.tm) 15 (at_ x), H := G, nx := m }
    have hc2 : cutT 126 t.tm 2 = .ptr 0 0 0 1 := by simp [cutT, ht2]
    have hc3 : cutT 126 t.tm 3 = .ptr 1 0 0 1 := by simp [cutT, ht3]
    have hc4 : cutT 126 t.tm 4 = .ptr 2 0 0 1 := by simp [cutT, ht4]
    refine AW.fresh fun hfrG0 => ?_
    have hfrG : ∀ id, m ≤ id → G id = none := hfrG0
    have g0 : ((0 : Nat) = m) = False := eq_false (by omega)
    have gg0 : (m = (0 : Nat)) = False := eq_false (by omega)
    have g1 : ((1 : Nat) = m) = False := eq_false (by omega)
    have gg1 : (m = (1 : Nat)) = False := eq_false (by omega)
    have g2 : ((2 : Nat) = m) = False := eq_false (by omega)
    have gg2 : (m = (2 : Nat)) = False := eq_false (by omega)
    have g3 : ((3 : Nat) = m) = False := eq_false (by omega)
    have gg3 : (m = (3 : Nat)) = False := eq_false (by omega)
    have g4 : ((4 : Nat) = m) = False := eq_false (by omega)
    have gg4 : (m = (4 : Nat)) = False := eq_false (by omega)
    have g5 : ((5 : Nat) = m) = False := eq_false (by omega)
    have gg5 : (m = (5 : Nat)) = False := eq_false (by omega)
    have g6 : ((6 : Nat) = m) = False := eq_false (by omega)
    have gg6 : (m = (6 : Nat)) = False := eq_false (by omega)
    have g7 : ((7 : Nat) = m) = False := eq_false (by omega)
    have gg7 : (m = (7 : Nat)) = False := eq_false (by omega)
    have g8 : ((8 : Nat) = m) = False := eq_false (by omega)
    have gg8 : (m = (8 : Nat)) = False := eq_false (by omega)
    have hbs := bare_size x
    have c1 : OKv (cx.rnd l) 30 [at_ x, at_ (ByteArray.mk #[10])] (at_ (bareB x)) := trim_ok x (by omega)
    have c2 : OKv (cx.rnd l) 29 [at_ (bareB x), at_ (ByteArray.mk #[32])] (.lst ((Tx.wordsB 32 (bareB x)).map eStr)) := split_ok (bareB x) (by omega)
    have hcount := wordsB_count 32 (bareB x)
    have hsz : ∀ w ∈ Tx.wordsB 32 (bareB x), w.size ≤ 1000000 := fun w hw => Nat.le_trans (Tx.wordsB_size hw) (by omega)
    have hne : Tx.wordsB 32 (bareB x) ≠ [] := by
      rw [wordsB_eq]; intro e; exact wordsF_ne 32 (bl (bareB x)) (List.map_eq_nil_iff.1 e)
    repeat' first
      | apply AW.seq | apply AW.region | apply AW.ret | apply AW.block | apply AW.skip | apply AW.exit | apply AW.scope | apply AW.label | apply AWL.nil | apply D.nil
      | refine W.draw (rnd_mixedY l) (by decide +kernel) ?_
      | ((first | (apply W.step (rnd_okY l); decide) | (apply D.step (rnd_okY l); decide; decide) | apply W.store (rnd_okY l) | (apply W.gS; rfl; decide) | (apply D.gS; rfl; decide; decide) | apply AW.cond); (simp (disch := (first | omega | (simp only [List.length_append, List.length_map, List.length_cons, List.length_nil, List.length_take, List.length_drop, List.length_nil]; omega))) only [push_cast, simprocAttr, hc2, hc3, hc4, h0, h1, h2, h3, h4, h5, hrc, hdf, hfrG, g0, g1, g2, g3, g4, g5, g6, g7, g8, gg0, gg1, gg2, gg3, gg4, gg5, gg6, gg7, gg8, hf3, hf6] <;> rfl); all_goals try ((with_reducible intro hI); try first | (cases hI; done) | (simp only [INTS, not_true_eq_false] at hI; try first | (exfalso; omega) | (have hT : True := hI; clear hT hI))))
      | ((first | (apply W.gU; rfl; decide) | (apply D.gU; rfl; decide; decide)); (simp (disch := (first | omega | (simp only [List.length_append, List.length_map, List.length_cons, List.length_nil, List.length_take, List.length_drop, List.length_nil]; omega))) only [push_cast, simprocAttr, hc2, hc3, hc4, h0, h1, h2, h3, h4, h5, hrc, hdf, hfrG, g0, g1, g2, g3, g4, g5, g6, g7, g8, gg0, gg1, gg2, gg3, gg4, gg5, gg6, gg7, gg8, hf3, hf6] <;> rfl))
      | (apply W.append (rnd_okY l); decide; rfl; rfl; rfl; decide; (iterate 3 (simp (disch := (first | omega | (simp only [List.length_append, List.length_map, List.length_cons, List.length_nil, List.length_take, List.length_drop, List.length_nil]; omega))) only [push_cast, simprocAttr, hc2, hc3, hc4, h0, h1, h2, h3, h4, h5, hrc, hdf, hfrG, g0, g1, g2, g3, g4, g5, g6, g7, g8, gg0, gg1, gg2, gg3, gg4, gg5, gg6, gg7, gg8, hf3, hf6] <;> rfl)); (first | (focus (simp; done)) | (intro c hc; obtain ⟨x, _, rfl⟩ := List.mem_map.1 hc; rfl)); ((first | rfl | simp (disch := omega) only [push_cast])); ((try dsimp only); (try simp only [List.length_map, List.length_append, List.length_cons, List.length_nil, List.length_take, List.length_drop, List.length_nil]); omega); ((try dsimp only); (try simp only [List.length_map, List.length_append, List.length_cons, List.length_nil, List.length_take, List.length_drop, List.length_nil]); omega))

    refine ⟨?_, ?_⟩
    · (simp (disch := omega) only [push_cast, simprocAttr, hc2, hc3, hc4, h0, h1, h2, h3, h4, h5, hrc, hdf, hfrG, g0, g1, g2, g3, g4, g5, g6, g7, g8, gg0, gg1, gg2, gg3, gg4, gg5, gg6, gg7, gg8, hf3, hf6])
    refine aw_eight fun X8 hX8 => ?_
    obtain ⟨WW, hWW⟩ : ∃ z, Tx.wordsB 32 (bareB x) = z := ⟨_, rfl⟩
    rw [hWW] at c2 hcount hsz hne
    rcases WW with _ | ⟨a, ws⟩
    · exact absurd rfl hne
    have hl : ws.length ≤ 1048576 := by simp only [List.length_cons] at hcount; omega
    have hsw : ∀ w ∈ ws, w.size ≤ 1000000 := fun w hw => hsz w (by simp [hw])
    have i0 : ((0 : Int) < (ws.length : Int) + 1) = True := eq_true (by omega)
    have i1 : (0 < ws.length + 1) = True := eq_true (by omega)
    have i2 : ((0 : Int) < ((ws.length + 1 : Nat) : Int)) = True := eq_true (by omega)
    have i3 : ((1 : Int) ≤ (ws.length : Int) + 1) = True := eq_true (by omega)
    have i4 : (1 ≤ ws.length + 1) = True := eq_true (by omega)
    have hsl : 1 ≤ ws.length + 1 ∧ ws.length + 1 ≤ (List.map eStr ws).length + 1 ∧ ∀ (e : List AV), e ∈ eStr a :: List.map eStr ws → e.length = 1 := ⟨by omega, by rw [List.length_map]; exact Nat.le_refl _, fun e he => by
      rcases List.mem_cons.1 he with he | he
      · rw [he]; rfl
      · obtain ⟨z, _, rfl⟩ := List.mem_map.1 he; rfl⟩
    have hg0 : ∀ x y : List UInt8, x = y → (x == y) = true := fun x y e => by rw [beq_iff_eq]; exact e
    have hg1 : ∀ x y : List UInt8, ¬ x = y → (x == y) = false := fun x y e => by rw [beq_eq_false_iff_ne]; exact e
    by_cases hR : bl a = bl sRoom
    · have t1 : (a.data.toList == (ByteArray.mk #[114, 111, 111, 109]).data.toList) = true := hg0 _ _ hR
      have t2 : (a.data.toList == (ByteArray.mk #[100, 111, 111, 114]).data.toList) = false := hg1 _ _ (fun e => by have h1 : bl sRoom = bl sDoor := hR.symm.trans e; revert h1; decide)
      have t3 : (a.data.toList == (ByteArray.mk #[119, 97, 121]).data.toList) = false := hg1 _ _ (fun e => by have h1 : bl sRoom = bl sWay := hR.symm.trans e; revert h1; decide)
      by_cases h3' : ws.length = 2
      · obtain ⟨b, c, rfl⟩ : ∃ b c, ws = [b, c] := by
          match ws, h3' with
          | [b, c], _ => exact ⟨b, c, rfl⟩
        have c3 : OKv (cx.rnd l) 31 [at_ c] (ai (numI c)) := number_ok c (Nat.le_trans (hsw c (by simp)) (by omega))
        have hS0 : stepT hh x = (⟨hh.rooms ++ [⟨b, numI c⟩], hh.doors, hh.ways⟩, false) := by
          unfold stepT; rw [hWW, wAt0, if_pos ⟨hR, rfl⟩]; rfl
        rw [hS0] at hfd2 hcn2
        generalize numI c = V at *
        repeat' first
          | ((apply D.buildL (rnd_okY l); decide; decide); (iterate 3 (simp (disch := (first | omega | (simp only [List.length_append, List.length_map, List.length_cons, List.length_nil, List.length_take, List.length_drop, List.length_nil]; omega))) only [push_cast, simprocAttr, hc2, hc3, hc4, h0, h1, h2, h3, h4, h5, hrc, hdf, hfrG, g0, g1, g2, g3, g4, g5, g6, g7, g8, gg0, gg1, gg2, gg3, gg4, gg5, gg6, gg7, gg8, hf3, hf6, hX8, t1, i0, i1, i2, i3, i4, List.getD_cons_zero, List.getD_cons_succ, Int.toNat_zero, Int.toNat_one, List.drop_one, List.tail_cons, pur, ite_true] <;> rfl)); exact Nat.zero_le _)
          | apply AW.seq | apply AW.region | apply AW.ret | apply AW.block | apply AW.skip | apply AW.exit | apply AW.scope | apply AW.label | apply AWL.nil | apply D.nil
          | refine AW.draw (id := 7) (rnd_mixedY l) [11, 13] [10, 12] [3, 2] 0 (by decide +kernel) ?_
          | refine W.draw (rnd_mixedY l) (by decide +kernel) ?_
          | ((first | (apply W.step (rnd_okY l); decide) | (apply D.step (rnd_okY l); decide; decide) | apply W.store (rnd_okY l) | (apply W.gS; rfl; decide) | (apply D.gS; rfl; decide; decide) | apply AW.cond); (simp (disch := (first | omega | (simp only [List.length_append, List.length_map, List.length_cons, List.length_nil, List.length_take, List.length_drop, List.length_nil]; omega))) only [push_cast, simprocAttr, hc2, hc3, hc4, h0, h1, h2, h3, h4, h5, hrc, hdf, hfrG, g0, g1, g2, g3, g4, g5, g6, g7, g8, gg0, gg1, gg2, gg3, gg4, gg5, gg6, gg7, gg8, hf3, hf6, hX8, t1, i0, i1, i2, i3, i4, List.getD_cons_zero, List.getD_cons_succ, Int.toNat_zero, Int.toNat_one, List.drop_one, List.tail_cons] <;> rfl); all_goals try ((with_reducible intro hI); try first | (cases hI; done) | (simp only [INTS, not_true_eq_false] at hI; try first | (exfalso; omega) | (have hT : True := hI; clear hT hI))))
          | ((first | (apply W.gU; rfl; decide) | (apply D.gU; rfl; decide; decide) | (apply D.store (rnd_okY l); decide) | (apply D.stept (rnd_okY l); decide; decide) | (apply D.stepm (rnd_okY l); decide; decide)); (simp (disch := (first | omega | (simp only [List.length_append, List.length_map, List.length_cons, List.length_nil, List.length_take, List.length_drop, List.length_nil]; omega))) only [push_cast, simprocAttr, hc2, hc3, hc4, h0, h1, h2, h3, h4, h5, hrc, hdf, hfrG, g0, g1, g2, g3, g4, g5, g6, g7, g8, gg0, gg1, gg2, gg3, gg4, gg5, gg6, gg7, gg8, hf3, hf6, hX8, t1, i0, i1, i2, i3, i4, List.getD_cons_zero, List.getD_cons_succ, Int.toNat_zero, Int.toNat_one, List.drop_one, List.tail_cons] <;> rfl); try first | exact .inl rfl | exact .inr (by simp))
          | ((apply D.alloct (rnd_okY l); decide; decide); (simp (disch := (first | omega | (simp only [List.length_append, List.length_map, List.length_cons, List.length_nil, List.length_take, List.length_drop, List.length_nil]; omega))) only [push_cast, simprocAttr, hc2, hc3, hc4, h0, h1, h2, h3, h4, h5, hrc, hdf, hfrG, g0, g1, g2, g3, g4, g5, g6, g7, g8, gg0, gg1, gg2, gg3, gg4, gg5, gg6, gg7, gg8, hf3, hf6, hX8, t1, i0, i1, i2, i3, i4, List.getD_cons_zero, List.getD_cons_succ, Int.toNat_zero, Int.toNat_one, List.drop_one, List.tail_cons] <;> rfl); first | exact .inl rfl | exact .inr (by simp))
          | (apply W.append (rnd_okY l); decide; rfl; rfl; rfl; decide; (iterate 3 (simp (disch := (first | omega | (simp only [List.length_append, List.length_map, List.length_cons, List.length_nil, List.length_take, List.length_drop, List.length_nil]; omega))) only [push_cast, simprocAttr, hc2, hc3, hc4, h0, h1, h2, h3, h4, h5, hrc, hdf, hfrG, g0, g1, g2, g3, g4, g5, g6, g7, g8, gg0, gg1, gg2, gg3, gg4, gg5, gg6, gg7, gg8, hf3, hf6, hX8, t1, i0, i1, i2, i3, i4, List.getD_cons_zero, List.getD_cons_succ, Int.toNat_zero, Int.toNat_one, List.drop_one, List.tail_cons] <;> rfl)); (first | (focus (simp; done)) | (intro c hc; obtain ⟨x, _, rfl⟩ := List.mem_map.1 hc; rfl)); ((first | rfl | simp (disch := omega) only [push_cast])); ((try dsimp only); (try simp only [List.length_map, List.length_append, List.length_cons, List.length_nil, List.length_take, List.length_drop, List.length_nil]); omega); ((try dsimp only); (try simp only [List.length_map, List.length_append, List.length_cons, List.length_nil, List.length_take, List.length_drop, List.length_nil]); omega))
          | (apply D.append (rnd_okY l); decide; decide; rfl; rfl; rfl; decide; (iterate 3 (simp (disch := (first | omega | (simp only [List.length_append, List.length_map, List.length_cons, List.length_nil, List.length_take, List.length_drop, List.length_nil]; omega))) only [push_cast, simprocAttr, hc2, hc3, hc4, h0, h1, h2, h3, h4, h5, hrc, hdf, hfrG, g0, g1, g2, g3, g4, g5, g6, g7, g8, gg0, gg1, gg2, gg3, gg4, gg5, gg6, gg7, gg8, hf3, hf6, hX8, t1, i0, i1, i2, i3, i4, List.getD_cons_zero, List.getD_cons_succ, Int.toNat_zero, Int.toNat_one, List.drop_one, List.tail_cons] <;> rfl)); (first | (focus (simp; done)) | (intro c hc; obtain ⟨x, _, rfl⟩ := List.mem_map.1 hc; rfl)); ((first | rfl | (focus (simp (disch := omega) only [push_cast]; done)))); ((try dsimp only); (try simp only [List.length_map, List.length_append, List.length_cons, List.length_nil, List.length_take, List.length_drop, List.length_nil]); omega); ((try dsimp only); (try simp only [List.length_map, List.length_append, List.length_cons, List.length_nil, List.length_take, List.length_drop, List.length_nil]); omega); first | exact .inl rfl | exact .inr (by simp))
          | ((first | (apply W.callv (rnd_okY l); decide) | (apply D.callv (rnd_okY l); decide; decide) | (apply D.callvt (rnd_okY l); decide; decide)); (iterate 2 (simp (disch := (first | omega | (simp only [List.length_append, List.length_map, List.length_cons, List.length_nil, List.length_take, List.length_drop, List.length_nil]; omega))) only [push_cast, simprocAttr, hc2, hc3, hc4, h0, h1, h2, h3, h4, h5, hrc, hdf, hfrG, g0, g1, g2, g3, g4, g5, g6, g7, g8, gg0, gg1, gg2, gg3, gg4, gg5, gg6, gg7, gg8, hf3, hf6, hX8, t1, i0, i1, i2, i3, i4, List.getD_cons_zero, List.getD_cons_succ, Int.toNat_zero, Int.toNat_one, List.drop_one, List.tail_cons] <;> rfl)); (with_reducible first | exact c1 | exact c2 | exact c3); try first | rfl | (simp (disch := (first | omega | (simp only [List.length_append, List.length_map, List.length_cons, List.length_nil, List.length_take, List.length_drop, List.length_nil]; omega))) only [push_cast, simprocAttr, hc2, hc3, hc4, h0, h1, h2, h3, h4, h5, hrc, hdf, hfrG, g0, g1, g2, g3, g4, g5, g6, g7, g8, gg0, gg1, gg2, gg3, gg4, gg5, gg6, gg7, gg8, hf3, hf6, hX8, t1, i0, i1, i2, i3, i4, List.getD_cons_zero, List.getD_cons_succ, Int.toNat_zero, Int.toNat_one, List.drop_one, List.tail_cons] <;> rfl))

        all_goals
          ((try simp only [thenQ, blockQ, loopQ, scopeQ, if_true, reduceIte])
           refine ⟨?_, ?_⟩
           · (simp (disch := omega) only [push_cast, simprocAttr, hc2, hc3, hc4, h0, h1, h2, h3, h4, h5, hrc, hdf, hfrG, g0, g1, g2, g3, g4, g5, g6, g7, g8, gg0, gg1, gg2, gg3, gg4, gg5, gg6, gg7, gg8, hf3, hf6, hX8, t1, i0, i1, i2, i3, i4, List.getD_cons_zero, List.getD_cons_succ, Int.toNat_zero, Int.toNat_one, List.drop_one, List.tail_cons] <;> rfl)
           rw [hS0]
           refine ⟨rfl, ⟨⟨?_, ?_, ?_, ?_, ?_, ?_, ?_, ?_, hfd2⟩, hcn2⟩, ?_, fun i h1 h2 => ?_⟩
           all_goals first
             | (simp (disch := omega) only [push_cast, simprocAttr, hc2, hc3, hc4, h0, h1, h2, h3, h4, h5, hrc, hdf, hfrG, g0, g1, g2, g3, g4, g5, g6, g7, g8, gg0, gg1, gg2, gg3, gg4, gg5, gg6, gg7, gg8, hf3, hf6, hX8, t1, i0, i1, i2, i3, i4, List.getD_cons_zero, List.getD_cons_succ, Int.toNat_zero, Int.toNat_one, List.drop_one, List.tail_cons] <;> first | rfl | omega)
             | omega
             | (have q0 : (i = 0) = False := eq_false (by omega)
                have q1 : (i = 1) = False := eq_false (by omega)
                have q2 : (i = 2) = False := eq_false (by omega)
                have q3 : (i = 3) = False := eq_false (by omega)
                have q4 : (i = 4) = False := eq_false (by omega)
                have q5 : (i = 5) = False := eq_false (by omega)
                have q8 : (i = 8) = False := eq_false (by omega)
                (simp (disch := omega) only [push_cast, simprocAttr, hc2, hc3, hc4, h0, h1, h2, h3, h4, h5, hrc, hdf, hfrG, g0, g1, g2, g3, g4, g5, g6, g7, g8, gg0, gg1, gg2, gg3, gg4, gg5, gg6, gg7, gg8, hf3, hf6, hX8, t1, i0, i1, i2, i3, i4, List.getD_cons_zero, List.getD_cons_succ, Int.toNat_zero, Int.toNat_one, List.drop_one, List.tail_cons, q0, q1, q2, q3, q4, q5, q8] <;> first | rfl | omega)))
      have n1 : ((ws.length : Int) + 1 == 3) = false := by rw [beq_eq_false_iff_ne]; omega
      have n2 : (((ws.length + 1 : Nat) : Int) == 3) = false := by rw [beq_eq_false_iff_ne]; omega
      have n3 : ((ws.length : Int) + 1 = 3) = False := eq_false (by omega)
      have hS0 : stepT hh x = (hh, true) := by
        unfold stepT
        rw [hWW, wAt0, if_neg (fun e => h3' (by have := e.2; simp only [List.length_cons] at this; omega)), if_neg (fun e => by have h1 : bl sRoom = bl sDoor := hR.symm.trans e; revert h1; decide), if_neg (fun e => by have h1 : bl sRoom = bl sWay := hR.symm.trans e.1; revert h1; decide)]
      rw [hS0] at hfd2 hcn2
      repeat' first
        | apply AW.seq | apply AW.region | apply AW.ret | apply AW.block | apply AW.skip | apply AW.exit | apply AW.scope | apply AW.label | apply AWL.nil | apply D.nil
        | refine W.draw (rnd_mixedY l) (by decide +kernel) ?_
        | ((first | (apply W.step (rnd_okY l); decide) | (apply D.step (rnd_okY l); decide; decide) | apply W.store (rnd_okY l) | (apply W.gS; rfl; decide) | (apply D.gS; rfl; decide; decide) | apply AW.cond); (simp (disch := (first | omega | (simp only [List.length_append, List.length_map, List.length_cons, List.length_nil, List.length_take, List.length_drop, List.length_nil]; omega))) only [push_cast, simprocAttr, hc2, hc3, hc4, h0, h1, h2, h3, h4, h5, hrc, hdf, hfrG, g0, g1, g2, g3, g4, g5, g6, g7, g8, gg0, gg1, gg2, gg3, gg4, gg5, gg6, gg7, gg8, hf3, hf6, hX8, t1, t2, t3, n1, n2, n3, i0, i1, i2, i3, i4, List.getD_cons_zero, List.getD_cons_succ, Int.toNat_zero, Int.toNat_one, List.drop_one, List.tail_cons] <;> rfl); all_goals try ((with_reducible intro hI); try first | (cases hI; done) | (simp only [INTS, not_true_eq_false] at hI; try first | (exfalso; omega) | (have hT : True := hI; clear hT hI))))
        | ((first | (apply W.gU; rfl; decide) | (apply D.gU; rfl; decide; decide)); (simp (disch := (first | omega | (simp only [List.length_append, List.length_map, List.length_cons, List.length_nil, List.length_take, List.length_drop, List.length_nil]; omega))) only [push_cast, simprocAttr, hc2, hc3, hc4, h0, h1, h2, h3, h4, h5, hrc, hdf, hfrG, g0, g1, g2, g3, g4, g5, g6, g7, g8, gg0, gg1, gg2, gg3, gg4, gg5, gg6, gg7, gg8, hf3, hf6, hX8, t1, t2, t3, n1, n2, n3, i0, i1, i2, i3, i4, List.getD_cons_zero, List.getD_cons_succ, Int.toNat_zero, Int.toNat_one, List.drop_one, List.tail_cons] <;> rfl))
        | (apply W.append (rnd_okY l); decide; rfl; rfl; rfl; decide; (iterate 3 (simp (disch := (first | omega | (simp only [List.length_append, List.length_map, List.length_cons, List.length_nil, List.length_take, List.length_drop, List.length_nil]; omega))) only [push_cast, simprocAttr, hc2, hc3, hc4, h0, h1, h2, h3, h4, h5, hrc, hdf, hfrG, g0, g1, g2, g3, g4, g5, g6, g7, g8, gg0, gg1, gg2, gg3, gg4, gg5, gg6, gg7, gg8, hf3, hf6, hX8, t1, t2, t3, n1, n2, n3, i0, i1, i2, i3, i4, List.getD_cons_zero, List.getD_cons_succ, Int.toNat_zero, Int.toNat_one, List.drop_one, List.tail_cons] <;> rfl)); (first | (focus (simp; done)) | (intro c hc; obtain ⟨x, _, rfl⟩ := List.mem_map.1 hc; rfl)); ((first | rfl | simp (disch := omega) only [push_cast])); ((try dsimp only); (try simp only [List.length_map, List.length_append, List.length_cons, List.length_nil, List.length_take, List.length_drop, List.length_nil]); omega); ((try dsimp only); (try simp only [List.length_map, List.length_append, List.length_cons, List.length_nil, List.length_take, List.length_drop, List.length_nil]); omega))
        | ((first | (apply W.callv (rnd_okY l); decide) | (apply D.callv (rnd_okY l); decide; decide)); (iterate 2 (simp (disch := (first | omega | (simp only [List.length_append, List.length_map, List.length_cons, List.length_nil, List.length_take, List.length_drop, List.length_nil]; omega))) only [push_cast, simprocAttr, hc2, hc3, hc4, h0, h1, h2, h3, h4, h5, hrc, hdf, hfrG, g0, g1, g2, g3, g4, g5, g6, g7, g8, gg0, gg1, gg2, gg3, gg4, gg5, gg6, gg7, gg8, hf3, hf6, hX8, t1, t2, t3, n1, n2, n3, i0, i1, i2, i3, i4, List.getD_cons_zero, List.getD_cons_succ, Int.toNat_zero, Int.toNat_one, List.drop_one, List.tail_cons] <;> rfl)); (with_reducible first | exact c1 | exact c2); try first | rfl | (simp (disch := (first | omega | (simp only [List.length_append, List.length_map, List.length_cons, List.length_nil, List.length_take, List.length_drop, List.length_nil]; omega))) only [push_cast, simprocAttr, hc2, hc3, hc4, h0, h1, h2, h3, h4, h5, hrc, hdf, hfrG, g0, g1, g2, g3, g4, g5, g6, g7, g8, gg0, gg1, gg2, gg3, gg4, gg5, gg6, gg7, gg8, hf3, hf6, hX8, t1, t2, t3, n1, n2, n3, i0, i1, i2, i3, i4, List.getD_cons_zero, List.getD_cons_succ, Int.toNat_zero, Int.toNat_one, List.drop_one, List.tail_cons] <;> rfl))

      all_goals
        ((try simp only [thenQ, blockQ, loopQ, scopeQ, if_true, reduceIte])
         refine ⟨?_, ?_⟩
         · (simp (disch := omega) only [push_cast, simprocAttr, hc2, hc3, hc4, h0, h1, h2, h3, h4, h5, hrc, hdf, hfrG, g0, g1, g2, g3, g4, g5, g6, g7, g8, gg0, gg1, gg2, gg3, gg4, gg5, gg6, gg7, gg8, hf3, hf6, hX8, t1, t2, t3, n1, n2, n3, i0, i1, i2, i3, i4, List.getD_cons_zero, List.getD_cons_succ, Int.toNat_zero, Int.toNat_one, List.drop_one, List.tail_cons] <;> rfl)
         rw [hS0]
         refine ⟨rfl, ⟨⟨?_, ?_, ?_, ?_, ?_, ?_, ?_, ?_, hfd2⟩, hcn2⟩, ?_, fun i h1 h2 => ?_⟩
         all_goals first
           | (simp (disch := omega) only [push_cast, simprocAttr, hc2, hc3, hc4, h0, h1, h2, h3, h4, h5, hrc, hdf, hfrG, g0, g1, g2, g3, g4, g5, g6, g7, g8, gg0, gg1, gg2, gg3, gg4, gg5, gg6, gg7, gg8, hf3, hf6, hX8, t1, t2, t3, n1, n2, n3, i0, i1, i2, i3, i4, List.getD_cons_zero, List.getD_cons_succ, Int.toNat_zero, Int.toNat_one, List.drop_one, List.tail_cons] <;> first | rfl | omega)
           | omega
           | (have q0 : (i = 0) = False := eq_false (by omega)
              have q1 : (i = 1) = False := eq_false (by omega)
              have q2 : (i = 2) = False := eq_false (by omega)
              have q3 : (i = 3) = False := eq_false (by omega)
              have q4 : (i = 4) = False := eq_false (by omega)
              have q5 : (i = 5) = False := eq_false (by omega)
              have q8 : (i = 8) = False := eq_false (by omega)
              (simp (disch := omega) only [push_cast, simprocAttr, hc2, hc3, hc4, h0, h1, h2, h3, h4, h5, hrc, hdf, hfrG, g0, g1, g2, g3, g4, g5, g6, g7, g8, gg0, gg1, gg2, gg3, gg4, gg5, gg6, gg7, gg8, hf3, hf6, hX8, t1, t2, t3, n1, n2, n3, i0, i1, i2, i3, i4, List.getD_cons_zero, List.getD_cons_succ, Int.toNat_zero, Int.toNat_one, List.drop_one, List.tail_cons, q0, q1, q2, q3, q4, q5, q8] <;> first | rfl | omega)))
    have t1 : (a.data.toList == (ByteArray.mk #[114, 111, 111, 109]).data.toList) = false := hg1 _ _ hR
    by_cases hD : bl a = bl sDoor
    · have t2 : (a.data.toList == (ByteArray.mk #[100, 111, 111, 114]).data.toList) = true := hg0 _ _ hD
      obtain ⟨DD, hDD⟩ : ∃ z, doorI ws false ⟨[], []⟩ = z := ⟨_, rfl⟩
      have hS0 : stepT hh x = (⟨hh.rooms, hh.doors ++ [DD], hh.ways⟩, false) := by
        unfold stepT
        rw [hWW, wAt0, if_neg (fun e => hR e.1), if_pos hD, List.drop_one, List.tail_cons, hDD]
      rw [hS0] at hfd2 hcn2
      repeat' first
        | apply AW.seq | apply AW.region | apply AW.ret | apply AW.block | apply AW.skip | apply AW.exit | apply AW.scope | apply AW.label | apply AWL.nil | apply D.nil
        | refine W.draw (rnd_mixedY l) (by decide +kernel) ?_
        | ((first | (apply W.step (rnd_okY l); decide) | (apply D.step (rnd_okY l); decide; decide) | apply W.store (rnd_okY l) | (apply W.gS; rfl; decide) | (apply D.gS; rfl; decide; decide) | apply AW.cond); (simp (disch := (first | omega | (simp only [List.length_append, List.length_map, List.length_cons, List.length_nil, List.length_take, List.length_drop, List.length_nil]; omega))) only [push_cast, simprocAttr, hc2, hc3, hc4, h0, h1, h2, h3, h4, h5, hrc, hdf, hfrG, g0, g1, g2, g3, g4, g5, g6, g7, g8, gg0, gg1, gg2, gg3, gg4, gg5, gg6, gg7, gg8, hf3, hf6, hX8, t1, t2, i0, i1, i2, i3, i4, List.getD_cons_zero, List.getD_cons_succ, Int.toNat_zero, Int.toNat_one, List.drop_one, List.tail_cons] <;> rfl); all_goals try ((with_reducible intro hI); try first | (cases hI; done) | (simp only [INTS, not_true_eq_false] at hI; try first | (exfalso; omega) | (have hT : True := hI; clear hT hI))))
        | ((apply W.step (rnd_okY l); decide); (simp (disch := (first | omega | (simp only [List.length_append, List.length_map, List.length_cons, List.length_nil, List.length_take, List.length_drop, List.length_nil]; omega))) only [push_cast, simprocAttr, hc2, hc3, hc4, h0, h1, h2, h3, h4, h5, hrc, hdf, hfrG, g0, g1, g2, g3, g4, g5, g6, g7, g8, gg0, gg1, gg2, gg3, gg4, gg5, gg6, gg7, gg8, hf3, hf6, hX8, t1, t2, i0, i1, i2, i3, i4, List.getD_cons_zero, List.getD_cons_succ, Int.toNat_zero, Int.toNat_one, List.drop_one, List.tail_cons]); (rw [if_pos hsl]; rfl))
        | ((first | (apply W.gU; rfl; decide) | (apply D.gU; rfl; decide; decide)); (simp (disch := (first | omega | (simp only [List.length_append, List.length_map, List.length_cons, List.length_nil, List.length_take, List.length_drop, List.length_nil]; omega))) only [push_cast, simprocAttr, hc2, hc3, hc4, h0, h1, h2, h3, h4, h5, hrc, hdf, hfrG, g0, g1, g2, g3, g4, g5, g6, g7, g8, gg0, gg1, gg2, gg3, gg4, gg5, gg6, gg7, gg8, hf3, hf6, hX8, t1, t2, i0, i1, i2, i3, i4, List.getD_cons_zero, List.getD_cons_succ, Int.toNat_zero, Int.toNat_one, List.drop_one, List.tail_cons] <;> rfl))
        | (apply W.append (rnd_okY l); decide; rfl; rfl; rfl; decide; (iterate 3 (simp (disch := (first | omega | (simp only [List.length_append, List.length_map, List.length_cons, List.length_nil, List.length_take, List.length_drop, List.length_nil]; omega))) only [push_cast, simprocAttr, hc2, hc3, hc4, h0, h1, h2, h3, h4, h5, hrc, hdf, hfrG, g0, g1, g2, g3, g4, g5, g6, g7, g8, gg0, gg1, gg2, gg3, gg4, gg5, gg6, gg7, gg8, hf3, hf6, hX8, t1, t2, i0, i1, i2, i3, i4, List.getD_cons_zero, List.getD_cons_succ, Int.toNat_zero, Int.toNat_one, List.drop_one, List.tail_cons] <;> rfl)); (first | (focus (simp; done)) | (intro c hc; obtain ⟨x, _, rfl⟩ := List.mem_map.1 hc; rfl)); ((first | rfl | simp (disch := omega) only [push_cast])); ((try dsimp only); (try simp only [List.length_map, List.length_append, List.length_cons, List.length_nil, List.length_take, List.length_drop, List.length_nil]); omega); ((try dsimp only); (try simp only [List.length_map, List.length_append, List.length_cons, List.length_nil, List.length_take, List.length_drop, List.length_nil]); omega))
        | ((first | (apply W.callv (rnd_okY l); decide) | (apply D.callv (rnd_okY l); decide; decide)); (iterate 2 (simp (disch := (first | omega | (simp only [List.length_append, List.length_map, List.length_cons, List.length_nil, List.length_take, List.length_drop, List.length_nil]; omega))) only [push_cast, simprocAttr, hc2, hc3, hc4, h0, h1, h2, h3, h4, h5, hrc, hdf, hfrG, g0, g1, g2, g3, g4, g5, g6, g7, g8, gg0, gg1, gg2, gg3, gg4, gg5, gg6, gg7, gg8, hf3, hf6, hX8, t1, t2, i0, i1, i2, i3, i4, List.getD_cons_zero, List.getD_cons_succ, Int.toNat_zero, Int.toNat_one, List.drop_one, List.tail_cons] <;> rfl)); (with_reducible first | exact c1 | exact c2); try first | rfl | (simp (disch := (first | omega | (simp only [List.length_append, List.length_map, List.length_cons, List.length_nil, List.length_take, List.length_drop, List.length_nil]; omega))) only [push_cast, simprocAttr, hc2, hc3, hc4, h0, h1, h2, h3, h4, h5, hrc, hdf, hfrG, g0, g1, g2, g3, g4, g5, g6, g7, g8, gg0, gg1, gg2, gg3, gg4, gg5, gg6, gg7, gg8, hf3, hf6, hX8, t1, t2, i0, i1, i2, i3, i4, List.getD_cons_zero, List.getD_cons_succ, Int.toNat_zero, Int.toNat_one, List.drop_one, List.tail_cons] <;> rfl))


      refine AW.adoptCell m 0 0 2 51 (r := { k := 2, es := [[.v (.slice none 0 0), .v (.slice none 0 0)]], ty := 38 }) (by simp (disch := omega) only [push_cast, simprocAttr, hc2, hc3, hc4, h0, h1, h2, h3, h4, h5, hrc, hdf, hfrG, g0, g1, g2, g3, g4, g5, g6, g7, g8, gg0, gg1, gg2, gg3, gg4, gg5, gg6, gg7, gg8, hf3, hf6, hX8] <;> rfl) rfl ?_
      refine AW.adoptCell m 0 1 2 51 (r := { k := 2, es := [[.ref (m + 1) 0 0, .v (.slice none 0 0)]], ty := 38 }) (by simp (disch := omega) only [push_cast, simprocAttr, hc2, hc3, hc4, h0, h1, h2, h3, h4, h5, hrc, hdf, hfrG, g0, g1, g2, g3, g4, g5, g6, g7, g8, gg0, gg1, gg2, gg3, gg4, gg5, gg6, gg7, gg8, hf3, hf6, hX8] <;> rfl) rfl ?_
      refine AW.loop (fun n s => ∃ (k : Nat) (b : Bool) (A B : List Span) (rest : List ByteArray), n = rest.length ∧ (ws.drop k = rest) ∧ (doorI rest b ⟨A, B⟩ = DD) ∧ (A.length + B.length ≤ k) ∧ (k ≤ ws.length) ∧ (∀ i, (i = 6 ∨ 9 ≤ i) → i < m → s.H i = G i) ∧ m + 3 ≤ s.nx ∧ s.tm 2 = .ptr 0 0 0 1 ∧ s.tm 3 = .ptr 1 0 0 1 ∧ s.tm 4 = .ptr 2 0 0 1 ∧ s.tm 7 = .ptr m 0 0 1 ∧ s.tm 8 = .ptr m 0 (if b = true then 1 else 0) 1 ∧ s.tm 51 = .lst (ws.map eStr) ∧ s.tm 52 = ai ws.length ∧ s.tm 53 = ai k ∧ Pg.rowAt s.H (m) = some ({ k := 2, es := [[.ref (m + 1) 0 A.length, .ref (m + 2) 0 B.length]], ty := 38 }) ∧ Pg.rowAt s.H (m + 1) = some ({ k := 2, es := A.map eSpan, ty := 51, lo := A.length }) ∧ Pg.rowAt s.H (m + 2) = some ({ k := 2, es := B.map eSpan, ty := 51, lo := B.length }) ∧ Pg.rowAt s.H 0 = some ({ k := 3, es := [[.v (.slice none 0 0), .v (.slice none 0 0), .v (.slice none 0 0)]], ty := 26 }) ∧ Pg.rowAt s.H 1 = some ({ k := 1, es := [[ai 0]], ty := 29 }) ∧ Pg.rowAt s.H 2 = some ({ k := 3, es := [[.ref 3 0 hh.rooms.length, .ref 4 0 hh.doors.length, .ref 5 0 hh.ways.length]], ty := 26 }) ∧ Pg.rowAt s.H 3 = some ({ k := 2, es := hh.rooms.map eRoom, ty := 62, lo := hh.rooms.length }) ∧ Pg.rowAt s.H 4 = some ({ k := 2, es := hh.doors.map eDoor, ty := 38, lo := hh.doors.length }) ∧ Pg.rowAt s.H 5 = some ({ k := 5, es := hh.ways.map eWay, ty := 72, lo := hh.ways.length }) ∧ s.H 7 = some (.mp (.dfr Dn (some [])) 0 []) ∧ s.H 8 = X8) (ws.length) ⟨0, false, [], [], ws, rfl, rfl, hDD, (Nat.zero_le _), (Nat.zero_le _), (fun i h1 h2 => by have em : (i = m) = False := eq_false (by omega); have em1 : (i = m + 1) = False := eq_false (by omega); have em2 : (i = m + 2) = False := eq_false (by omega); have e8 : (i = 8) = False := eq_false (by omega); simp (disch := omega) only [push_cast, simprocAttr, hc2, hc3, hc4, h0, h1, h2, h3, h4, h5, hrc, hdf, hfrG, g0, g1, g2, g3, g4, g5, g6, g7, g8, gg0, gg1, gg2, gg3, gg4, gg5, gg6, gg7, gg8, hf3, hf6, hX8, em, em1, em2, e8]), ?_, ?_, ?_, ?_, ?_, ?_, ?_, ?_, ?_, ?_, ?_, ?_, ?_, ?_, ?_, ?_, ?_, ?_, ?_, ?_⟩ ?_
      iterate 20 (first | (simp (disch := omega) only [push_cast, simprocAttr, hc2, hc3, hc4, h0, h1, h2, h3, h4, h5, hrc, hdf, hfrG, g0, g1, g2, g3, g4, g5, g6, g7, g8, gg0, gg1, gg2, gg3, gg4, gg5, gg6, gg7, gg8, hf3, hf6, hX8] <;> first | rfl | omega) | omega)
      rintro n1 s1 ⟨k1, b1, A1, B1, rest1, hn1, hp01, hp11, hp21, hp31, hp41, hnl1, hS1⟩
      have hZ1 : (m : Nat) ≠ s1.nx ∧ s1.nx ≠ (m : Nat) ∧ (m + 1 : Nat) ≠ s1.nx ∧ s1.nx ≠ (m + 1 : Nat) ∧ (m + 2 : Nat) ≠ s1.nx ∧ s1.nx ≠ (m + 2 : Nat) := by omega
      refine AW.fresh fun hfr1 => ?_
      have hqN : ((0 : Nat) = s1.nx) = False ∧ (s1.nx = (0 : Nat)) = False ∧ ((1 : Nat) = s1.nx) = False ∧ (s1.nx = (1 : Nat)) = False ∧ ((2 : Nat) = s1.nx) = False ∧ (s1.nx = (2 : Nat)) = False ∧ ((3 : Nat) = s1.nx) = False ∧ (s1.nx = (3 : Nat)) = False ∧ ((4 : Nat) = s1.nx) = False ∧ (s1.nx = (4 : Nat)) = False ∧ ((5 : Nat) = s1.nx) = False ∧ (s1.nx = (5 : Nat)) = False ∧ ((6 : Nat) = s1.nx) = False ∧ (s1.nx = (6 : Nat)) = False ∧ ((7 : Nat) = s1.nx) = False ∧ (s1.nx = (7 : Nat)) = False ∧ ((8 : Nat) = s1.nx) = False ∧ (s1.nx = (8 : Nat)) = False ∧ ((m : Nat) = s1.nx) = False ∧ (s1.nx = (m : Nat)) = False ∧ ((m + 1 : Nat) = s1.nx) = False ∧ (s1.nx = (m + 1 : Nat)) = False ∧ ((m + 2 : Nat) = s1.nx) = False ∧ (s1.nx = (m + 2 : Nat)) = False := by refine ⟨?_, ?_, ?_, ?_, ?_, ?_, ?_, ?_, ?_, ?_, ?_, ?_, ?_, ?_, ?_, ?_, ?_, ?_, ?_, ?_, ?_, ?_, ?_, ?_⟩ <;> exact eq_false (by omega)
      rcases rest1 with _ | ⟨y, rest1⟩
      rotate_left
      · obtain ⟨hkk, hgg, hd', hl', hm', hxx⟩ := drop_cons hp01 eStr []
        unfold doorI at hp11
        by_cases hzz : bl y = bl sShut
        · rw [if_pos hzz] at hp11
          have hz : (y.data.toList == (ByteArray.mk #[115, 104, 117, 116]).data.toList) = true := hg0 _ _ hzz
          repeat' first
            | apply AW.seq | apply AW.region | apply AW.ret | apply AW.block | apply AW.skip | apply AW.exit | apply AW.scope | apply AW.label | apply AWL.nil | apply D.nil
            | refine W.draw (rnd_mixedY l) (by decide +kernel) ?_
            | ((first | (apply W.step (rnd_okY l); decide) | (apply D.step (rnd_okY l); decide; decide) | apply W.store (rnd_okY l) | (apply W.gS; rfl; decide) | (apply D.gS; rfl; decide; decide) | apply AW.cond); (simp (disch := (first | omega | (simp only [List.length_append, List.length_map, List.length_cons, List.length_nil, List.length_take, List.length_drop, List.length_nil]; omega))) only [push_cast, simprocAttr, hc2, hc3, hc4, h0, h1, h2, h3, h4, h5, hrc, hdf, hfrG, g0, g1, g2, g3, g4, g5, g6, g7, g8, gg0, gg1, gg2, gg3, gg4, gg5, gg6, gg7, gg8, hf3, hf6, hS1, hZ1, hfr1, hX8, hqN, hkk, hgg, hxx, hf5, hf9, hz] <;> rfl); all_goals try ((with_reducible intro hI); try first | (cases hI; done) | (simp only [INTS, not_true_eq_false] at hI; try first | (exfalso; omega) | (have hT : True := hI; clear hT hI))))
            | ((first | (apply W.gU; rfl; decide) | (apply D.gU; rfl; decide; decide)); (simp (disch := (first | omega | (simp only [List.length_append, List.length_map, List.length_cons, List.length_nil, List.length_take, List.length_drop, List.length_nil]; omega))) only [push_cast, simprocAttr, hc2, hc3, hc4, h0, h1, h2, h3, h4, h5, hrc, hdf, hfrG, g0, g1, g2, g3, g4, g5, g6, g7, g8, gg0, gg1, gg2, gg3, gg4, gg5, gg6, gg7, gg8, hf3, hf6, hS1, hZ1, hfr1, hX8, hqN, hkk, hgg, hxx, hf5, hf9, hz] <;> rfl))
            | (apply W.append (rnd_okY l); decide; rfl; rfl; rfl; decide; (iterate 3 (simp (disch := (first | omega | (simp only [List.length_append, List.length_map, List.length_cons, List.length_nil, List.length_take, List.length_drop, List.length_nil]; omega))) only [push_cast, simprocAttr, hc2, hc3, hc4, h0, h1, h2, h3, h4, h5, hrc, hdf, hfrG, g0, g1, g2, g3, g4, g5, g6, g7, g8, gg0, gg1, gg2, gg3, gg4, gg5, gg6, gg7, gg8, hf3, hf6, hS1, hZ1, hfr1, hX8, hqN, hkk, hgg, hxx, hf5, hf9, hz] <;> rfl)); (first | (focus (simp; done)) | (intro c hc; obtain ⟨x, _, rfl⟩ := List.mem_map.1 hc; rfl)); ((first | rfl | simp (disch := omega) only [push_cast])); ((try dsimp only); (try simp only [List.length_map, List.length_append, List.length_cons, List.length_nil, List.length_take, List.length_drop, List.length_nil]); omega); ((try dsimp only); (try simp only [List.length_map, List.length_append, List.length_cons, List.length_nil, List.length_take, List.length_drop, List.length_nil]); omega))


          all_goals (refine ⟨rest1.length, ?_, k1 + 1, true, A1, B1, rest1, rfl, hd', hp11, (by omega), (by omega), (fun i h1 h2 => by have em : (i = m) = False := eq_false (by omega); have em1 : (i = m + 1) = False := eq_false (by omega); have em2 : (i = m + 2) = False := eq_false (by omega); have e8 : (i = 8) = False := eq_false (by omega); simp (disch := omega) only [push_cast, simprocAttr, hc2, hc3, hc4, h0, h1, h2, h3, h4, h5, hrc, hdf, hfrG, g0, g1, g2, g3, g4, g5, g6, g7, g8, gg0, gg1, gg2, gg3, gg4, gg5, gg6, gg7, gg8, hf3, hf6, hS1, hZ1, hfr1, hX8, hqN, hkk, hgg, hxx, hf5, hf9, hz, em, em1, em2, e8]; exact hp41 i h1 h2), ?_, ?_, ?_, ?_, ?_, ?_, ?_, ?_, ?_, ?_, ?_, ?_, ?_, ?_, ?_, ?_, ?_, ?_, ?_, ?_⟩; ((simp only [List.length_cons] at hn1; omega)); all_goals first | (simp (disch := omega) only [push_cast, simprocAttr, hS1, hZ1, hc2, hc3, hc4, h0, h1, h2, h3, h4, h5, hrc, hdf, hfrG, g0, g1, g2, g3, g4, g5, g6, g7, g8, gg0, gg1, gg2, gg3, gg4, gg5, gg6, gg7, gg8, hf3, hf6, hfr1, hX8, hqN, hkk, hgg, hxx, hf5, hf9, hz] <;> first | rfl | omega) | omega)
        have hz : (y.data.toList == (ByteArray.mk #[115, 104, 117, 116]).data.toList) = false := hg1 _ _ hzz
        rw [if_neg hzz] at hp11
        have hys := hsw y hm'
        have c9 : OKv (cx.rnd l) 32 [at_ y] (.agg (eSpan (spanI y))) := span_ok y (by omega)
        generalize spanI y = sp at *
        cases b1 with
        | false =>
          rw [if_neg Bool.false_ne_true] at hp11
          simp only [Bool.false_eq_true, if_false] at hS1
          repeat' first
            | ((apply D.buildL (rnd_okY l); decide; decide); (iterate 3 (simp (disch := (first | omega | (simp only [List.length_append, List.length_map, List.length_cons, List.length_nil, List.length_take, List.length_drop, List.length_nil]; omega))) only [push_cast, simprocAttr, hc2, hc3, hc4, h0, h1, h2, h3, h4, h5, hrc, hdf, hfrG, g0, g1, g2, g3, g4, g5, g6, g7, g8, gg0, gg1, gg2, gg3, gg4, gg5, gg6, gg7, gg8, hf3, hf6, hS1, hZ1, hfr1, hX8, hqN, hkk, hgg, hxx, hf5, hf9, hz, pur, ite_true] <;> rfl)); exact Nat.zero_le _)
            | apply AW.seq | apply AW.region | apply AW.ret | apply AW.block | apply AW.skip | apply AW.exit | apply AW.scope | apply AW.label | apply AWL.nil | apply D.nil
            | refine AW.draw (id := 16) (rnd_mixedY l) [7, 9] [0, 6, 8] [m + 1, m] 0 (by decide +kernel) ?_
            | refine W.draw (rnd_mixedY l) (by decide +kernel) ?_
            | ((first | (apply W.step (rnd_okY l); decide) | (apply D.step (rnd_okY l); decide; decide) | apply W.store (rnd_okY l) | (apply W.gS; rfl; decide) | (apply D.gS; rfl; decide; decide) | apply AW.cond); (simp (disch := (first | omega | (simp only [List.length_append, List.length_map, List.length_cons, List.length_nil, List.length_take, List.length_drop, List.length_nil]; omega))) only [push_cast, simprocAttr, hc2, hc3, hc4, h0, h1, h2, h3, h4, h5, hrc, hdf, hfrG, g0, g1, g2, g3, g4, g5, g6, g7, g8, gg0, gg1, gg2, gg3, gg4, gg5, gg6, gg7, gg8, hf3, hf6, hS1, hZ1, hfr1, hX8, hqN, hkk, hgg, hxx, hf5, hf9, hz] <;> rfl); all_goals try ((with_reducible intro hI); try first | (cases hI; done) | (simp only [INTS, not_true_eq_false] at hI; try first | (exfalso; omega) | (have hT : True := hI; clear hT hI))))
            | ((first | (apply W.gU; rfl; decide) | (apply D.gU; rfl; decide; decide) | (apply D.store (rnd_okY l); decide) | (apply D.stept (rnd_okY l); decide; decide) | (apply D.stepm (rnd_okY l); decide; decide)); (simp (disch := (first | omega | (simp only [List.length_append, List.length_map, List.length_cons, List.length_nil, List.length_take, List.length_drop, List.length_nil]; omega))) only [push_cast, simprocAttr, hc2, hc3, hc4, h0, h1, h2, h3, h4, h5, hrc, hdf, hfrG, g0, g1, g2, g3, g4, g5, g6, g7, g8, gg0, gg1, gg2, gg3, gg4, gg5, gg6, gg7, gg8, hf3, hf6, hS1, hZ1, hfr1, hX8, hqN, hkk, hgg, hxx, hf5, hf9, hz] <;> rfl); try first | exact .inl rfl | exact .inr (by simp))
            | ((apply D.alloct (rnd_okY l); decide; decide); (simp (disch := (first | omega | (simp only [List.length_append, List.length_map, List.length_cons, List.length_nil, List.length_take, List.length_drop, List.length_nil]; omega))) only [push_cast, simprocAttr, hc2, hc3, hc4, h0, h1, h2, h3, h4, h5, hrc, hdf, hfrG, g0, g1, g2, g3, g4, g5, g6, g7, g8, gg0, gg1, gg2, gg3, gg4, gg5, gg6, gg7, gg8, hf3, hf6, hS1, hZ1, hfr1, hX8, hqN, hkk, hgg, hxx, hf5, hf9, hz] <;> rfl); first | exact .inl rfl | exact .inr (by simp))
            | (apply W.append (rnd_okY l); decide; rfl; rfl; rfl; decide; (iterate 3 (simp (disch := (first | omega | (simp only [List.length_append, List.length_map, List.length_cons, List.length_nil, List.length_take, List.length_drop, List.length_nil]; omega))) only [push_cast, simprocAttr, hc2, hc3, hc4, h0, h1, h2, h3, h4, h5, hrc, hdf, hfrG, g0, g1, g2, g3, g4, g5, g6, g7, g8, gg0, gg1, gg2, gg3, gg4, gg5, gg6, gg7, gg8, hf3, hf6, hS1, hZ1, hfr1, hX8, hqN, hkk, hgg, hxx, hf5, hf9, hz] <;> rfl)); (first | (focus (simp; done)) | (intro c hc; obtain ⟨x, _, rfl⟩ := List.mem_map.1 hc; rfl)); ((first | rfl | simp (disch := omega) only [push_cast])); ((try dsimp only); (try simp only [List.length_map, List.length_append, List.length_cons, List.length_nil, List.length_take, List.length_drop, List.length_nil]); omega); ((try dsimp only); (try simp only [List.length_map, List.length_append, List.length_cons, List.length_nil, List.length_take, List.length_drop, List.length_nil]); omega))
            | (apply D.append (rnd_okY l); decide; decide; rfl; rfl; rfl; decide; (iterate 3 (simp (disch := (first | omega | (simp only [List.length_append, List.length_map, List.length_cons, List.length_nil, List.length_take, List.length_drop, List.length_nil]; omega))) only [push_cast, simprocAttr, hc2, hc3, hc4, h0, h1, h2, h3, h4, h5, hrc, hdf, hfrG, g0, g1, g2, g3, g4, g5, g6, g7, g8, gg0, gg1, gg2, gg3, gg4, gg5, gg6, gg7, gg8, hf3, hf6, hS1, hZ1, hfr1, hX8, hqN, hkk, hgg, hxx, hf5, hf9, hz] <;> rfl)); (first | (focus (simp; done)) | (intro c hc; obtain ⟨x, _, rfl⟩ := List.mem_map.1 hc; rfl)); ((first | rfl | (focus (simp (disch := omega) only [push_cast]; done)))); ((try dsimp only); (try simp only [List.length_map, List.length_append, List.length_cons, List.length_nil, List.length_take, List.length_drop, List.length_nil]); omega); ((try dsimp only); (try simp only [List.length_map, List.length_append, List.length_cons, List.length_nil, List.length_take, List.length_drop, List.length_nil]); omega); first | exact .inl rfl | exact .inr (by simp))
            | ((first | (apply W.callv (rnd_okY l); decide) | (apply D.callv (rnd_okY l); decide; decide) | (apply D.callvt (rnd_okY l); decide; decide)); (iterate 2 (simp (disch := (first | omega | (simp only [List.length_append, List.length_map, List.length_cons, List.length_nil, List.length_take, List.length_drop, List.length_nil]; omega))) only [push_cast, simprocAttr, hc2, hc3, hc4, h0, h1, h2, h3, h4, h5, hrc, hdf, hfrG, g0, g1, g2, g3, g4, g5, g6, g7, g8, gg0, gg1, gg2, gg3, gg4, gg5, gg6, gg7, gg8, hf3, hf6, hS1, hZ1, hfr1, hX8, hqN, hkk, hgg, hxx, hf5, hf9, hz] <;> rfl)); (with_reducible first | exact c9); try first | rfl | (simp (disch := (first | omega | (simp only [List.length_append, List.length_map, List.length_cons, List.length_nil, List.length_take, List.length_drop, List.length_nil]; omega))) only [push_cast, simprocAttr, hc2, hc3, hc4, h0, h1, h2, h3, h4, h5, hrc, hdf, hfrG, g0, g1, g2, g3, g4, g5, g6, g7, g8, gg0, gg1, gg2, gg3, gg4, gg5, gg6, gg7, gg8, hf3, hf6, hS1, hZ1, hfr1, hX8, hqN, hkk, hgg, hxx, hf5, hf9, hz] <;> rfl))


          all_goals (refine ⟨rest1.length, ?_, k1 + 1, false, (A1 ++ [sp]), B1, rest1, rfl, hd', hp11, (by rw [List.length_append, List.length_singleton]; omega), (by omega), (fun i h1 h2 => by have em : (i = m) = False := eq_false (by omega); have em1 : (i = m + 1) = False := eq_false (by omega); have em2 : (i = m + 2) = False := eq_false (by omega); have e8 : (i = 8) = False := eq_false (by omega); simp (disch := omega) only [push_cast, simprocAttr, hc2, hc3, hc4, h0, h1, h2, h3, h4, h5, hrc, hdf, hfrG, g0, g1, g2, g3, g4, g5, g6, g7, g8, gg0, gg1, gg2, gg3, gg4, gg5, gg6, gg7, gg8, hf3, hf6, hS1, hZ1, hfr1, hX8, hqN, hkk, hgg, hxx, hf5, hf9, hz, em, em1, em2, e8]; exact hp41 i h1 h2), ?_, ?_, ?_, ?_, ?_, ?_, ?_, ?_, ?_, ?_, ?_, ?_, ?_, ?_, ?_, ?_, ?_, ?_, ?_, ?_⟩; ((simp only [List.length_cons] at hn1; omega)); all_goals first | (simp (disch := omega) only [push_cast, simprocAttr, hS1, hZ1, hc2, hc3, hc4, h0, h1, h2, h3, h4, h5, hrc, hdf, hfrG, g0, g1, g2, g3, g4, g5, g6, g7, g8, gg0, gg1, gg2, gg3, gg4, gg5, gg6, gg7, gg8, hf3, hf6, hfr1, hX8, hqN, hkk, hgg, hxx, hf5, hf9, hz] <;> first | rfl | omega) | omega)
        | true =>
          rw [if_pos rfl] at hp11
          simp only [if_true] at hS1
          repeat' first
            | ((apply D.buildL (rnd_okY l); decide; decide); (iterate 3 (simp (disch := (first | omega | (simp only [List.length_append, List.length_map, List.length_cons, List.length_nil, List.length_take, List.length_drop, List.length_nil]; omega))) only [push_cast, simprocAttr, hc2, hc3, hc4, h0, h1, h2, h3, h4, h5, hrc, hdf, hfrG, g0, g1, g2, g3, g4, g5, g6, g7, g8, gg0, gg1, gg2, gg3, gg4, gg5, gg6, gg7, gg8, hf3, hf6, hS1, hZ1, hfr1, hX8, hqN, hkk, hgg, hxx, hf5, hf9, hz, pur, ite_true] <;> rfl)); exact Nat.zero_le _)
            | apply AW.seq | apply AW.region | apply AW.ret | apply AW.block | apply AW.skip | apply AW.exit | apply AW.scope | apply AW.label | apply AWL.nil | apply D.nil
            | refine AW.draw (id := 16) (rnd_mixedY l) [7, 9] [0, 6, 8] [m + 2, m] 0 (by decide +kernel) ?_
            | refine W.draw (rnd_mixedY l) (by decide +kernel) ?_
            | ((first | (apply W.step (rnd_okY l); decide) | (apply D.step (rnd_okY l); decide; decide) | apply W.store (rnd_okY l) | (apply W.gS; rfl; decide) | (apply D.gS; rfl; decide; decide) | apply AW.cond); (simp (disch := (first | omega | (simp only [List.length_append, List.length_map, List.length_cons, List.length_nil, List.length_take, List.length_drop, List.length_nil]; omega))) only [push_cast, simprocAttr, hc2, hc3, hc4, h0, h1, h2, h3, h4, h5, hrc, hdf, hfrG, g0, g1, g2, g3, g4, g5, g6, g7, g8, gg0, gg1, gg2, gg3, gg4, gg5, gg6, gg7, gg8, hf3, hf6, hS1, hZ1, hfr1, hX8, hqN, hkk, hgg, hxx, hf5, hf9, hz] <;> rfl); all_goals try ((with_reducible intro hI); try first | (cases hI; done) | (simp only [INTS, not_true_eq_false] at hI; try first | (exfalso; omega) | (have hT : True := hI; clear hT hI))))
            | ((first | (apply W.gU; rfl; decide) | (apply D.gU; rfl; decide; decide) | (apply D.store (rnd_okY l); decide) | (apply D.stept (rnd_okY l); decide; decide) | (apply D.stepm (rnd_okY l); decide; decide)); (simp (disch := (first | omega | (simp only [List.length_append, List.length_map, List.length_cons, List.length_nil, List.length_take, List.length_drop, List.length_nil]; omega))) only [push_cast, simprocAttr, hc2, hc3, hc4, h0, h1, h2, h3, h4, h5, hrc, hdf, hfrG, g0, g1, g2, g3, g4, g5, g6, g7, g8, gg0, gg1, gg2, gg3, gg4, gg5, gg6, gg7, gg8, hf3, hf6, hS1, hZ1, hfr1, hX8, hqN, hkk, hgg, hxx, hf5, hf9, hz] <;> rfl); try first | exact .inl rfl | exact .inr (by simp))
            | ((apply D.alloct (rnd_okY l); decide; decide); (simp (disch := (first | omega | (simp only [List.length_append, List.length_map, List.length_cons, List.length_nil, List.length_take, List.length_drop, List.length_nil]; omega))) only [push_cast, simprocAttr, hc2, hc3, hc4, h0, h1, h2, h3, h4, h5, hrc, hdf, hfrG, g0, g1, g2, g3, g4, g5, g6, g7, g8, gg0, gg1, gg2, gg3, gg4, gg5, gg6, gg7, gg8, hf3, hf6, hS1, hZ1, hfr1, hX8, hqN, hkk, hgg, hxx, hf5, hf9, hz] <;> rfl); first | exact .inl rfl | exact .inr (by simp))
            | (apply W.append (rnd_okY l); decide; rfl; rfl; rfl; decide; (iterate 3 (simp (disch := (first | omega | (simp only [List.length_append, List.length_map, List.length_cons, List.length_nil, List.length_take, List.length_drop, List.length_nil]; omega))) only [push_cast, simprocAttr, hc2, hc3, hc4, h0, h1, h2, h3, h4, h5, hrc, hdf, hfrG, g0, g1, g2, g3, g4, g5, g6, g7, g8, gg0, gg1, gg2, gg3, gg4, gg5, gg6, gg7, gg8, hf3, hf6, hS1, hZ1, hfr1, hX8, hqN, hkk, hgg, hxx, hf5, hf9, hz] <;> rfl)); (first | (focus (simp; done)) | (intro c hc; obtain ⟨x, _, rfl⟩ := List.mem_map.1 hc; rfl)); ((first | rfl | simp (disch := omega) only [push_cast])); ((try dsimp only); (try simp only [List.length_map, List.length_append, List.length_cons, List.length_nil, List.length_take, List.length_drop, List.length_nil]); omega); ((try dsimp only); (try simp only [List.length_map, List.length_append, List.length_cons, List.length_nil, List.length_take, List.length_drop, List.length_nil]); omega))
            | (apply D.append (rnd_okY l); decide; decide; rfl; rfl; rfl; decide; (iterate 3 (simp (disch := (first | omega | (simp only [List.length_append, List.length_map, List.length_cons, List.length_nil, List.length_take, List.length_drop, List.length_nil]; omega))) only [push_cast, simprocAttr, hc2, hc3, hc4, h0, h1, h2, h3, h4, h5, hrc, hdf, hfrG, g0, g1, g2, g3, g4, g5, g6, g7, g8, gg0, gg1, gg2, gg3, gg4, gg5, gg6, gg7, gg8, hf3, hf6, hS1, hZ1, hfr1, hX8, hqN, hkk, hgg, hxx, hf5, hf9, hz] <;> rfl)); (first | (focus (simp; done)) | (intro c hc; obtain ⟨x, _, rfl⟩ := List.mem_map.1 hc; rfl)); ((first | rfl | (focus (simp (disch := omega) only [push_cast]; done)))); ((try dsimp only); (try simp only [List.length_map, List.length_append, List.length_cons, List.length_nil, List.length_take, List.length_drop, List.length_nil]); omega); ((try dsimp only); (try simp only [List.length_map, List.length_append, List.length_cons, List.length_nil, List.length_take, List.length_drop, List.length_nil]); omega); first | exact .inl rfl | exact .inr (by simp))
            | ((first | (apply W.callv (rnd_okY l); decide) | (apply D.callv (rnd_okY l); decide; decide) | (apply D.callvt (rnd_okY l); decide; decide)); (iterate 2 (simp (disch := (first | omega | (simp only [List.length_append, List.length_map, List.length_cons, List.length_nil, List.length_take, List.length_drop, List.length_nil]; omega))) only [push_cast, simprocAttr, hc2, hc3, hc4, h0, h1, h2, h3, h4, h5, hrc, hdf, hfrG, g0, g1, g2, g3, g4, g5, g6, g7, g8, gg0, gg1, gg2, gg3, gg4, gg5, gg6, gg7, gg8, hf3, hf6, hS1, hZ1, hfr1, hX8, hqN, hkk, hgg, hxx, hf5, hf9, hz] <;> rfl)); (with_reducible first | exact c9); try first | rfl | (simp (disch := (first | omega | (simp only [List.length_append, List.length_map, List.length_cons, List.length_nil, List.length_take, List.length_drop, List.length_nil]; omega))) only [push_cast, simprocAttr, hc2, hc3, hc4, h0, h1, h2, h3, h4, h5, hrc, hdf, hfrG, g0, g1, g2, g3, g4, g5, g6, g7, g8, gg0, gg1, gg2, gg3, gg4, gg5, gg6, gg7, gg8, hf3, hf6, hS1, hZ1, hfr1, hX8, hqN, hkk, hgg, hxx, hf5, hf9, hz] <;> rfl))


          all_goals (refine ⟨rest1.length, ?_, k1 + 1, true, A1, (B1 ++ [sp]), rest1, rfl, hd', hp11, (by rw [List.length_append, List.length_singleton]; omega), (by omega), (fun i h1 h2 => by have em : (i = m) = False := eq_false (by omega); have em1 : (i = m + 1) = False := eq_false (by omega); have em2 : (i = m + 2) = False := eq_false (by omega); have e8 : (i = 8) = False := eq_false (by omega); simp (disch := omega) only [push_cast, simprocAttr, hc2, hc3, hc4, h0, h1, h2, h3, h4, h5, hrc, hdf, hfrG, g0, g1, g2, g3, g4, g5, g6, g7, g8, gg0, gg1, gg2, gg3, gg4, gg5, gg6, gg7, gg8, hf3, hf6, hS1, hZ1, hfr1, hX8, hqN, hkk, hgg, hxx, hf5, hf9, hz, em, em1, em2, e8]; exact hp41 i h1 h2), ?_, ?_, ?_, ?_, ?_, ?_, ?_, ?_, ?_, ?_, ?_, ?_, ?_, ?_, ?_, ?_, ?_, ?_, ?_, ?_⟩; ((simp only [List.length_cons] at hn1; omega)); all_goals first | (simp (disch := omega) only [push_cast, simprocAttr, hS1, hZ1, hc2, hc3, hc4, h0, h1, h2, h3, h4, h5, hrc, hdf, hfrG, g0, g1, g2, g3, g4, g5, g6, g7, g8, gg0, gg1, gg2, gg3, gg4, gg5, gg6, gg7, gg8, hf3, hf6, hfr1, hX8, hqN, hkk, hgg, hxx, hf5, hf9, hz] <;> first | rfl | omega) | omega)
      have hkk := drop_nil hp01
      have hAB : (⟨A1, B1⟩ : Door) = DD := hp11
      subst hAB
      refine AW.settleD m (A := A1) (B := B1) (by simp only [hS1]) (by simp only [hS1]) (by simp only [hS1]) fun H3 hm3 hk3 => ?_
      have f0 : Pg.rowAt H3 0 = some ({ k := 3, es := [[.v (.slice none 0 0), .v (.slice none 0 0), .v (.slice none 0 0)]], ty := 26 }) := (rowAt_eqY (hk3 0 (by omega) (by omega) (by omega))).trans (by simp only [hS1])
      have f1 : Pg.rowAt H3 1 = some ({ k := 1, es := [[ai 0]], ty := 29 }) := (rowAt_eqY (hk3 1 (by omega) (by omega) (by omega))).trans (by simp only [hS1])
      have f2 : Pg.rowAt H3 2 = some ({ k := 3, es := [[.ref 3 0 hh.rooms.length, .ref 4 0 hh.doors.length, .ref 5 0 hh.ways.length]], ty := 26 }) := (rowAt_eqY (hk3 2 (by omega) (by omega) (by omega))).trans (by simp only [hS1])
      have f3 : Pg.rowAt H3 3 = some ({ k := 2, es := hh.rooms.map eRoom, ty := 62, lo := hh.rooms.length }) := (rowAt_eqY (hk3 3 (by omega) (by omega) (by omega))).trans (by simp only [hS1])
      have f4 : Pg.rowAt H3 4 = some ({ k := 2, es := hh.doors.map eDoor, ty := 38, lo := hh.doors.length }) := (rowAt_eqY (hk3 4 (by omega) (by omega) (by omega))).trans (by simp only [hS1])
      have f5 : Pg.rowAt H3 5 = some ({ k := 5, es := hh.ways.map eWay, ty := 72, lo := hh.ways.length }) := (rowAt_eqY (hk3 5 (by omega) (by omega) (by omega))).trans (by simp only [hS1])
      have f7 : H3 7 = some (.mp (.dfr Dn (some [])) 0 []) := (hk3 7 (by omega) (by omega) (by omega)).trans (by simp only [hS1])
      have f8 : H3 8 = X8 := (hk3 8 (by omega) (by omega) (by omega)).trans (by simp only [hS1])
      have f9 : ∀ i, (i = 6 ∨ 9 ≤ i) → i < m → H3 i = G i := fun i h1 h2 => (hk3 i (by omega) (by omega) (by omega)).trans (hp41 i h1 h2)
      have f10 : ∀ i, s1.nx ≤ i → H3 i = none := fun i h1 => (hk3 i (by omega) (by omega) (by omega)).trans (hfr1 i h1)
      repeat' first
        | apply AW.seq | apply AW.region | apply AW.ret | apply AW.block | apply AW.skip | apply AW.exit | apply AW.scope | apply AW.label | apply AWL.nil | apply D.nil
        | refine W.draw (rnd_mixedY l) (by decide +kernel) ?_
        | ((first | (apply W.step (rnd_okY l); decide) | (apply D.step (rnd_okY l); decide; decide) | apply W.store (rnd_okY l) | (apply W.gS; rfl; decide) | (apply D.gS; rfl; decide; decide) | apply AW.cond); (simp (disch := (first | omega | (simp only [List.length_append, List.length_map, List.length_cons, List.length_nil, List.length_take, List.length_drop, List.length_nil]; omega))) only [push_cast, simprocAttr, hc2, hc3, hc4, h0, h1, h2, h3, h4, h5, hrc, hdf, hfrG, g0, g1, g2, g3, g4, g5, g6, g7, g8, gg0, gg1, gg2, gg3, gg4, gg5, gg6, gg7, gg8, hf3, hf6, hS1, hX8, hqN, hkk, hm3, f0, f1, f2, f3, f4, f5, f7, f8, f9, f10] <;> rfl); all_goals try ((with_reducible intro hI); try first | (cases hI; done) | (simp only [INTS, not_true_eq_false] at hI; try first | (exfalso; omega) | (have hT : True := hI; clear hT hI))))
        | ((first | (apply W.gU; rfl; decide) | (apply D.gU; rfl; decide; decide)); (simp (disch := (first | omega | (simp only [List.length_append, List.length_map, List.length_cons, List.length_nil, List.length_take, List.length_drop, List.length_nil]; omega))) only [push_cast, simprocAttr, hc2, hc3, hc4, h0, h1, h2, h3, h4, h5, hrc, hdf, hfrG, g0, g1, g2, g3, g4, g5, g6, g7, g8, gg0, gg1, gg2, gg3, gg4, gg5, gg6, gg7, gg8, hf3, hf6, hS1, hX8, hqN, hkk, hm3, f0, f1, f2, f3, f4, f5, f7, f8, f9, f10] <;> rfl))
        | (apply W.append (rnd_okY l); decide; rfl; rfl; rfl; decide; (iterate 3 (simp (disch := (first | omega | (simp only [List.length_append, List.length_map, List.length_cons, List.length_nil, List.length_take, List.length_drop, List.length_nil]; omega))) only [push_cast, simprocAttr, hc2, hc3, hc4, h0, h1, h2, h3, h4, h5, hrc, hdf, hfrG, g0, g1, g2, g3, g4, g5, g6, g7, g8, gg0, gg1, gg2, gg3, gg4, gg5, gg6, gg7, gg8, hf3, hf6, hS1, hX8, hqN, hkk, hm3, f0, f1, f2, f3, f4, f5, f7, f8, f9, f10] <;> rfl)); (first | (focus (simp; done)) | (intro c hc; obtain ⟨x, _, rfl⟩ := List.mem_map.1 hc; rfl)); ((first | rfl | simp (disch := omega) only [push_cast])); ((try dsimp only); (try simp only [List.length_map, List.length_append, List.length_cons, List.length_nil, List.length_take, List.length_drop, List.length_nil]); omega); ((try dsimp only); (try simp only [List.length_map, List.length_append, List.length_cons, List.length_nil, List.length_take, List.length_drop, List.length_nil]); omega))

      all_goals
        ((try simp only [thenQ, blockQ, loopQ, scopeQ, if_true, reduceIte])
         refine ⟨?_, ?_⟩
         · (simp (disch := omega) only [push_cast, simprocAttr, hc2, hc3, hc4, h0, h1, h2, h3, h4, h5, hrc, hdf, hfrG, g0, g1, g2, g3, g4, g5, g6, g7, g8, gg0, gg1, gg2, gg3, gg4, gg5, gg6, gg7, gg8, hf3, hf6, hS1, hX8, hqN, hkk, hm3, f0, f1, f2, f3, f4, f5, f7, f8, f9, f10] <;> rfl)
         rw [hS0]
         refine ⟨rfl, ⟨⟨?_, ?_, ?_, ?_, ?_, ?_, ?_, ?_, hfd2⟩, hcn2⟩, ?_, fun i h1 h2 => ?_⟩
         all_goals first
           | (simp (disch := omega) only [push_cast, simprocAttr, hc2, hc3, hc4, h0, h1, h2, h3, h4, h5, hrc, hdf, hfrG, g0, g1, g2, g3, g4, g5, g6, g7, g8, gg0, gg1, gg2, gg3, gg4, gg5, gg6, gg7, gg8, hf3, hf6, hS1, hX8, hqN, hkk, hm3, f0, f1, f2, f3, f4, f5, f7, f8, f9, f10] <;> first | rfl | omega)
           | omega
           | (have q0 : (i = 0) = False := eq_false (by omega)
              have q1 : (i = 1) = False := eq_false (by omega)
              have q2 : (i = 2) = False := eq_false (by omega)
              have q3 : (i = 3) = False := eq_false (by omega)
              have q4 : (i = 4) = False := eq_false (by omega)
              have q5 : (i = 5) = False := eq_false (by omega)
              have q8 : (i = 8) = False := eq_false (by omega)
              (simp (disch := omega) only [push_cast, simprocAttr, hc2, hc3, hc4, h0, h1, h2, h3, h4, h5, hrc, hdf, hfrG, g0, g1, g2, g3, g4, g5, g6, g7, g8, gg0, gg1, gg2, gg3, gg4, gg5, gg6, gg7, gg8, hf3, hf6, hS1, hX8, hqN, hkk, hm3, f0, f1, f2, f3, f4, f5, f7, f8, f9, f10, q0, q1, q2, q3, q4, q5, q8] <;> first | rfl | omega)))
    have t2 : (a.data.toList == (ByteArray.mk #[100, 111, 111, 114]).data.toList) = false := hg1 _ _ hD
    by_cases hW : bl a = bl sWay
    rotate_left
    · have t3 : (a.data.toList == (ByteArray.mk #[119, 97, 121]).data.toList) = false := hg1 _ _ hW
      have hS0 : stepT hh x = (hh, true) := by
        unfold stepT
        rw [hWW, wAt0, if_neg (fun e => hR e.1), if_neg hD, if_neg (fun e => hW e.1)]
      rw [hS0] at hfd2 hcn2
      repeat' first
        | apply AW.seq | apply AW.region | apply AW.ret | apply AW.block | apply AW.skip | apply AW.exit | apply AW.scope | apply AW.label | apply AWL.nil | apply D.nil
        | refine W.draw (rnd_mixedY l) (by decide +kernel) ?_
        | ((first | (apply W.step (rnd_okY l); decide) | (apply D.step (rnd_okY l); decide; decide) | apply W.store (rnd_okY l) | (apply W.gS; rfl; decide) | (apply D.gS; rfl; decide; decide) | apply AW.cond); (simp (disch := (first | omega | (simp only [List.length_append, List.length_map, List.length_cons, List.length_nil, List.length_take, List.length_drop, List.length_nil]; omega))) only [push_cast, simprocAttr, hc2, hc3, hc4, h0, h1, h2, h3, h4, h5, hrc, hdf, hfrG, g0, g1, g2, g3, g4, g5, g6, g7, g8, gg0, gg1, gg2, gg3, gg4, gg5, gg6, gg7, gg8, hf3, hf6, hX8, t1, t2, t3, i0, i1, i2, i3, i4, List.getD_cons_zero, List.getD_cons_succ, Int.toNat_zero, Int.toNat_one, List.drop_one, List.tail_cons] <;> rfl); all_goals try ((with_reducible intro hI); try first | (cases hI; done) | (simp only [INTS, not_true_eq_false] at hI; try first | (exfalso; omega) | (have hT : True := hI; clear hT hI))))
        | ((first | (apply W.gU; rfl; decide) | (apply D.gU; rfl; decide; decide)); (simp (disch := (first | omega | (simp only [List.length_append, List.length_map, List.length_cons, List.length_nil, List.length_take, List.length_drop, List.length_nil]; omega))) only [push_cast, simprocAttr, hc2, hc3, hc4, h0, h1, h2, h3, h4, h5, hrc, hdf, hfrG, g0, g1, g2, g3, g4, g5, g6, g7, g8, gg0, gg1, gg2, gg3, gg4, gg5, gg6, gg7, gg8, hf3, hf6, hX8, t1, t2, t3, i0, i1, i2, i3, i4, List.getD_cons_zero, List.getD_cons_succ, Int.toNat_zero, Int.toNat_one, List.drop_one, List.tail_cons] <;> rfl))
        | (apply W.append (rnd_okY l); decide; rfl; rfl; rfl; decide; (iterate 3 (simp (disch := (first | omega | (simp only [List.length_append, List.length_map, List.length_cons, List.length_nil, List.length_take, List.length_drop, List.length_nil]; omega))) only [push_cast, simprocAttr, hc2, hc3, hc4, h0, h1, h2, h3, h4, h5, hrc, hdf, hfrG, g0, g1, g2, g3, g4, g5, g6, g7, g8, gg0, gg1, gg2, gg3, gg4, gg5, gg6, gg7, gg8, hf3, hf6, hX8, t1, t2, t3, i0, i1, i2, i3, i4, List.getD_cons_zero, List.getD_cons_succ, Int.toNat_zero, Int.toNat_one, List.drop_one, List.tail_cons] <;> rfl)); (first | (focus (simp; done)) | (intro c hc; obtain ⟨x, _, rfl⟩ := List.mem_map.1 hc; rfl)); ((first | rfl | simp (disch := omega) only [push_cast])); ((try dsimp only); (try simp only [List.length_map, List.length_append, List.length_cons, List.length_nil, List.length_take, List.length_drop, List.length_nil]); omega); ((try dsimp only); (try simp only [List.length_map, List.length_append, List.length_cons, List.length_nil, List.length_take, List.length_drop, List.length_nil]); omega))
        | ((first | (apply W.callv (rnd_okY l); decide) | (apply D.callv (rnd_okY l); decide; decide)); (iterate 2 (simp (disch := (first | omega | (simp only [List.length_append, List.length_map, List.length_cons, List.length_nil, List.length_take, List.length_drop, List.length_nil]; omega))) only [push_cast, simprocAttr, hc2, hc3, hc4, h0, h1, h2, h3, h4, h5, hrc, hdf, hfrG, g0, g1, g2, g3, g4, g5, g6, g7, g8, gg0, gg1, gg2, gg3, gg4, gg5, gg6, gg7, gg8, hf3, hf6, hX8, t1, t2, t3, i0, i1, i2, i3, i4, List.getD_cons_zero, List.getD_cons_succ, Int.toNat_zero, Int.toNat_one, List.drop_one, List.tail_cons] <;> rfl)); (with_reducible first | exact c1 | exact c2); try first | rfl | (simp (disch := (first | omega | (simp only [List.length_append, List.length_map, List.length_cons, List.length_nil, List.length_take, List.length_drop, List.length_nil]; omega))) only [push_cast, simprocAttr, hc2, hc3, hc4, h0, h1, h2, h3, h4, h5, hrc, hdf, hfrG, g0, g1, g2, g3, g4, g5, g6, g7, g8, gg0, gg1, gg2, gg3, gg4, gg5, gg6, gg7, gg8, hf3, hf6, hX8, t1, t2, t3, i0, i1, i2, i3, i4, List.getD_cons_zero, List.getD_cons_succ, Int.toNat_zero, Int.toNat_one, List.drop_one, List.tail_cons] <;> rfl))

      all_goals
        ((try simp only [thenQ, blockQ, loopQ, scopeQ, if_true, reduceIte])
         refine ⟨?_, ?_⟩
         · (simp (disch := omega) only [push_cast, simprocAttr, hc2, hc3, hc4, h0, h1, h2, h3, h4, h5, hrc, hdf, hfrG, g0, g1, g2, g3, g4, g5, g6, g7, g8, gg0, gg1, gg2, gg3, gg4, gg5, gg6, gg7, gg8, hf3, hf6, hX8, t1, t2, t3, i0, i1, i2, i3, i4, List.getD_cons_zero, List.getD_cons_succ, Int.toNat_zero, Int.toNat_one, List.drop_one, List.tail_cons] <;> rfl)
         rw [hS0]
         refine ⟨rfl, ⟨⟨?_, ?_, ?_, ?_, ?_, ?_, ?_, ?_, hfd2⟩, hcn2⟩, ?_, fun i h1 h2 => ?_⟩
         all_goals first
           | (simp (disch := omega) only [push_cast, simprocAttr, hc2, hc3, hc4, h0, h1, h2, h3, h4, h5, hrc, hdf, hfrG, g0, g1, g2, g3, g4, g5, g6, g7, g8, gg0, gg1, gg2, gg3, gg4, gg5, gg6, gg7, gg8, hf3, hf6, hX8, t1, t2, t3, i0, i1, i2, i3, i4, List.getD_cons_zero, List.getD_cons_succ, Int.toNat_zero, Int.toNat_one, List.drop_one, List.tail_cons] <;> first | rfl | omega)
           | omega
           | (have q0 : (i = 0) = False := eq_false (by omega)
              have q1 : (i = 1) = False := eq_false (by omega)
              have q2 : (i = 2) = False := eq_false (by omega)
              have q3 : (i = 3) = False := eq_false (by omega)
              have q4 : (i = 4) = False := eq_false (by omega)
              have q5 : (i = 5) = False := eq_false (by omega)
              have q8 : (i = 8) = False := eq_false (by omega)
              (simp (disch := omega) only [push_cast, simprocAttr, hc2, hc3, hc4, h0, h1, h2, h3, h4, h5, hrc, hdf, hfrG, g0, g1, g2, g3, g4, g5, g6, g7, g8, gg0, gg1, gg2, gg3, gg4, gg5, gg6, gg7, gg8, hf3, hf6, hX8, t1, t2, t3, i0, i1, i2, i3, i4, List.getD_cons_zero, List.getD_cons_succ, Int.toNat_zero, Int.toNat_one, List.drop_one, List.tail_cons, q0, q1, q2, q3, q4, q5, q8] <;> first | rfl | omega)))
    have t3 : (a.data.toList == (ByteArray.mk #[119, 97, 121]).data.toList) = true := hg0 _ _ hW
    by_cases h5' : ws.length = 5
    rotate_left
    · have n1 : ((ws.length : Int) + 1 == 6) = false := by rw [beq_eq_false_iff_ne]; omega
      have n2 : (((ws.length + 1 : Nat) : Int) == 6) = false := by rw [beq_eq_false_iff_ne]; omega
      have n3 : ((ws.length : Int) + 1 = 6) = False := eq_false (by omega)
      have hS0 : stepT hh x = (hh, true) := by
        unfold stepT
        rw [hWW, wAt0, if_neg (fun e => hR e.1), if_neg hD, if_neg (fun e => h5' (by have := e.2; simp only [List.length_cons] at this; omega))]
      rw [hS0] at hfd2 hcn2
      repeat' first
        | apply AW.seq | apply AW.region | apply AW.ret | apply AW.block | apply AW.skip | apply AW.exit | apply AW.scope | apply AW.label | apply AWL.nil | apply D.nil
        | refine W.draw (rnd_mixedY l) (by decide +kernel) ?_
        | ((first | (apply W.step (rnd_okY l); decide) | (apply D.step (rnd_okY l); decide; decide) | apply W.store (rnd_okY l) | (apply W.gS; rfl; decide) | (apply D.gS; rfl; decide; decide) | apply AW.cond); (simp (disch := (first | omega | (simp only [List.length_append, List.length_map, List.length_cons, List.length_nil, List.length_take, List.length_drop, List.length_nil]; omega))) only [push_cast, simprocAttr, hc2, hc3, hc4, h0, h1, h2, h3, h4, h5, hrc, hdf, hfrG, g0, g1, g2, g3, g4, g5, g6, g7, g8, gg0, gg1, gg2, gg3, gg4, gg5, gg6, gg7, gg8, hf3, hf6, hX8, t1, t2, t3, n1, n2, n3, i0, i1, i2, i3, i4, List.getD_cons_zero, List.getD_cons_succ, Int.toNat_zero, Int.toNat_one, List.drop_one, List.tail_cons] <;> rfl); all_goals try ((with_reducible intro hI); try first | (cases hI; done) | (simp only [INTS, not_true_eq_false] at hI; try first | (exfalso; omega) | (have hT : True := hI; clear hT hI))))
        | ((first | (apply W.gU; rfl; decide) | (apply D.gU; rfl; decide; decide)); (simp (disch := (first | omega | (simp only [List.length_append, List.length_map, List.length_cons, List.length_nil, List.length_take, List.length_drop, List.length_nil]; omega))) only [push_cast, simprocAttr, hc2, hc3, hc4, h0, h1, h2, h3, h4, h5, hrc, hdf, hfrG, g0, g1, g2, g3, g4, g5, g6, g7, g8, gg0, gg1, gg2, gg3, gg4, gg5, gg6, gg7, gg8, hf3, hf6, hX8, t1, t2, t3, n1, n2, n3, i0, i1, i2, i3, i4, List.getD_cons_zero, List.getD_cons_succ, Int.toNat_zero, Int.toNat_one, List.drop_one, List.tail_cons] <;> rfl))
        | (apply W.append (rnd_okY l); decide; rfl; rfl; rfl; decide; (iterate 3 (simp (disch := (first | omega | (simp only [List.length_append, List.length_map, List.length_cons, List.length_nil, List.length_take, List.length_drop, List.length_nil]; omega))) only [push_cast, simprocAttr, hc2, hc3, hc4, h0, h1, h2, h3, h4, h5, hrc, hdf, hfrG, g0, g1, g2, g3, g4, g5, g6, g7, g8, gg0, gg1, gg2, gg3, gg4, gg5, gg6, gg7, gg8, hf3, hf6, hX8, t1, t2, t3, n1, n2, n3, i0, i1, i2, i3, i4, List.getD_cons_zero, List.getD_cons_succ, Int.toNat_zero, Int.toNat_one, List.drop_one, List.tail_cons] <;> rfl)); (first | (focus (simp; done)) | (intro c hc; obtain ⟨x, _, rfl⟩ := List.mem_map.1 hc; rfl)); ((first | rfl | simp (disch := omega) only [push_cast])); ((try dsimp only); (try simp only [List.length_map, List.length_append, List.length_cons, List.length_nil, List.length_take, List.length_drop, List.length_nil]); omega); ((try dsimp only); (try simp only [List.length_map, List.length_append, List.length_cons, List.length_nil, List.length_take, List.length_drop, List.length_nil]); omega))
        | ((first | (apply W.callv (rnd_okY l); decide) | (apply D.callv (rnd_okY l); decide; decide)); (iterate 2 (simp (disch := (first | omega | (simp only [List.length_append, List.length_map, List.length_cons, List.length_nil, List.length_take, List.length_drop, List.length_nil]; omega))) only [push_cast, simprocAttr, hc2, hc3, hc4, h0, h1, h2, h3, h4, h5, hrc, hdf, hfrG, g0, g1, g2, g3, g4, g5, g6, g7, g8, gg0, gg1, gg2, gg3, gg4, gg5, gg6, gg7, gg8, hf3, hf6, hX8, t1, t2, t3, n1, n2, n3, i0, i1, i2, i3, i4, List.getD_cons_zero, List.getD_cons_succ, Int.toNat_zero, Int.toNat_one, List.drop_one, List.tail_cons] <;> rfl)); (with_reducible first | exact c1 | exact c2); try first | rfl | (simp (disch := (first | omega | (simp only [List.length_append, List.length_map, List.length_cons, List.length_nil, List.length_take, List.length_drop, List.length_nil]; omega))) only [push_cast, simprocAttr, hc2, hc3, hc4, h0, h1, h2, h3, h4, h5, hrc, hdf, hfrG, g0, g1, g2, g3, g4, g5, g6, g7, g8, gg0, gg1, gg2, gg3, gg4, gg5, gg6, gg7, gg8, hf3, hf6, hX8, t1, t2, t3, n1, n2, n3, i0, i1, i2, i3, i4, List.getD_cons_zero, List.getD_cons_succ, Int.toNat_zero, Int.toNat_one, List.drop_one, List.tail_cons] <;> rfl))

      all_goals
        ((try simp only [thenQ, blockQ, loopQ, scopeQ, if_true, reduceIte])
         refine ⟨?_, ?_⟩
         · (simp (disch := omega) only [push_cast, simprocAttr, hc2, hc3, hc4, h0, h1, h2, h3, h4, h5, hrc, hdf, hfrG, g0, g1, g2, g3, g4, g5, g6, g7, g8, gg0, gg1, gg2, gg3, gg4, gg5, gg6, gg7, gg8, hf3, hf6, hX8, t1, t2, t3, n1, n2, n3, i0, i1, i2, i3, i4, List.getD_cons_zero, List.getD_cons_succ, Int.toNat_zero, Int.toNat_one, List.drop_one, List.tail_cons] <;> rfl)
         rw [hS0]
         refine ⟨rfl, ⟨⟨?_, ?_, ?_, ?_, ?_, ?_, ?_, ?_, hfd2⟩, hcn2⟩, ?_, fun i h1 h2 => ?_⟩
         all_goals first
           | (simp (disch := omega) only [push_cast, simprocAttr, hc2, hc3, hc4, h0, h1, h2, h3, h4, h5, hrc, hdf, hfrG, g0, g1, g2, g3, g4, g5, g6, g7, g8, gg0, gg1, gg2, gg3, gg4, gg5, gg6, gg7, gg8, hf3, hf6, hX8, t1, t2, t3, n1, n2, n3, i0, i1, i2, i3, i4, List.getD_cons_zero, List.getD_cons_succ, Int.toNat_zero, Int.toNat_one, List.drop_one, List.tail_cons] <;> first | rfl | omega)
           | omega
           | (have q0 : (i = 0) = False := eq_false (by omega)
              have q1 : (i = 1) = False := eq_false (by omega)
              have q2 : (i = 2) = False := eq_false (by omega)
              have q3 : (i = 3) = False := eq_false (by omega)
              have q4 : (i = 4) = False := eq_false (by omega)
              have q5 : (i = 5) = False := eq_false (by omega)
              have q8 : (i = 8) = False := eq_false (by omega)
              (simp (disch := omega) only [push_cast, simprocAttr, hc2, hc3, hc4, h0, h1, h2, h3, h4, h5, hrc, hdf, hfrG, g0, g1, g2, g3, g4, g5, g6, g7, g8, gg0, gg1, gg2, gg3, gg4, gg5, gg6, gg7, gg8, hf3, hf6, hX8, t1, t2, t3, n1, n2, n3, i0, i1, i2, i3, i4, List.getD_cons_zero, List.getD_cons_succ, Int.toNat_zero, Int.toNat_one, List.drop_one, List.tail_cons, q0, q1, q2, q3, q4, q5, q8] <;> first | rfl | omega)))
    obtain ⟨n1, n2, n3, n4, n5, rfl⟩ : ∃ n1 n2 n3 n4 n5, ws = [n1, n2, n3, n4, n5] := by
      match ws, h5' with
      | [n1, n2, n3, n4, n5], _ => exact ⟨n1, n2, n3, n4, n5, rfl⟩
    have c3 : OKv (cx.rnd l) 31 [at_ n1] (ai (numI n1)) := number_ok n1 (Nat.le_trans (hsw n1 (by simp)) (by omega))
    have c4 : OKv (cx.rnd l) 31 [at_ n2] (ai (numI n2)) := number_ok n2 (Nat.le_trans (hsw n2 (by simp)) (by omega))
    have c5 : OKv (cx.rnd l) 31 [at_ n3] (ai (numI n3)) := number_ok n3 (Nat.le_trans (hsw n3 (by simp)) (by omega))
    have c6 : OKv (cx.rnd l) 31 [at_ n4] (ai (numI n4)) := number_ok n4 (Nat.le_trans (hsw n4 (by simp)) (by omega))
    have c7 : OKv (cx.rnd l) 31 [at_ n5] (ai (numI n5)) := number_ok n5 (Nat.le_trans (hsw n5 (by simp)) (by omega))
    have hS0 : stepT hh x = (⟨hh.rooms, hh.doors, hh.ways ++ [⟨numI n1, numI n2, numI n3, numI n4, numI n5⟩]⟩, false) := by
      unfold stepT
      rw [hWW, wAt0, if_neg (fun e => hR e.1), if_neg hD, if_pos ⟨hW, rfl⟩]; rfl
    rw [hS0] at hfd2 hcn2
    repeat' first
      | ((apply D.buildL (rnd_okY l); decide; decide); (iterate 3 (simp (disch := (first | omega | (simp only [List.length_append, List.length_map, List.length_cons, List.length_nil, List.length_take, List.length_drop, List.length_nil]; omega))) only [push_cast, simprocAttr, hc2, hc3, hc4, h0, h1, h2, h3, h4, h5, hrc, hdf, hfrG, g0, g1, g2, g3, g4, g5, g6, g7, g8, gg0, gg1, gg2, gg3, gg4, gg5, gg6, gg7, gg8, hf3, hf6, hX8, t1, t2, t3, i0, i1, i2, i3, i4, List.getD_cons_zero, List.getD_cons_succ, Int.toNat_zero, Int.toNat_one, List.drop_one, List.tail_cons, pur, ite_true] <;> rfl)); exact Nat.zero_le _)
      | apply AW.seq | apply AW.region | apply AW.ret | apply AW.block | apply AW.skip | apply AW.exit | apply AW.scope | apply AW.label | apply AWL.nil | apply D.nil
      | refine AW.draw (id := 20) (rnd_mixedY l) [24, 26] [23, 25] [5, 2] 0 (by decide +kernel) ?_
      | refine W.draw (rnd_mixedY l) (by decide +kernel) ?_
      | ((first | (apply W.step (rnd_okY l); decide) | (apply D.step (rnd_okY l); decide; decide) | apply W.store (rnd_okY l) | (apply W.gS; rfl; decide) | (apply D.gS; rfl; decide; decide) | apply AW.cond); (simp (disch := (first | omega | (simp only [List.length_append, List.length_map, List.length_cons, List.length_nil, List.length_take, List.length_drop, List.length_nil]; omega))) only [push_cast, simprocAttr, hc2, hc3, hc4, h0, h1, h2, h3, h4, h5, hrc, hdf, hfrG, g0, g1, g2, g3, g4, g5, g6, g7, g8, gg0, gg1, gg2, gg3, gg4, gg5, gg6, gg7, gg8, hf3, hf6, hX8, t1, t2, t3, i0, i1, i2, i3, i4, List.getD_cons_zero, List.getD_cons_succ, Int.toNat_zero, Int.toNat_one, List.drop_one, List.tail_cons] <;> rfl); all_goals try ((with_reducible intro hI); try first | (cases hI; done) | (simp only [INTS, not_true_eq_false] at hI; try first | (exfalso; omega) | (have hT : True := hI; clear hT hI))))
      | ((first | (apply W.gU; rfl; decide) | (apply D.gU; rfl; decide; decide) | (apply D.store (rnd_okY l); decide) | (apply D.stept (rnd_okY l); decide; decide) | (apply D.stepm (rnd_okY l); decide; decide)); (simp (disch := (first | omega | (simp only [List.length_append, List.length_map, List.length_cons, List.length_nil, List.length_take, List.length_drop, List.length_nil]; omega))) only [push_cast, simprocAttr, hc2, hc3, hc4, h0, h1, h2, h3, h4, h5, hrc, hdf, hfrG, g0, g1, g2, g3, g4, g5, g6, g7, g8, gg0, gg1, gg2, gg3, gg4, gg5, gg6, gg7, gg8, hf3, hf6, hX8, t1, t2, t3, i0, i1, i2, i3, i4, List.getD_cons_zero, List.getD_cons_succ, Int.toNat_zero, Int.toNat_one, List.drop_one, List.tail_cons] <;> rfl); try first | exact .inl rfl | exact .inr (by simp))
      | ((apply D.alloct (rnd_okY l); decide; decide); (simp (disch := (first | omega | (simp only [List.length_append, List.length_map, List.length_cons, List.length_nil, List.length_take, List.length_drop, List.length_nil]; omega))) only [push_cast, simprocAttr, hc2, hc3, hc4, h0, h1, h2, h3, h4, h5, hrc, hdf, hfrG, g0, g1, g2, g3, g4, g5, g6, g7, g8, gg0, gg1, gg2, gg3, gg4, gg5, gg6, gg7, gg8, hf3, hf6, hX8, t1, t2, t3, i0, i1, i2, i3, i4, List.getD_cons_zero, List.getD_cons_succ, Int.toNat_zero, Int.toNat_one, List.drop_one, List.tail_cons] <;> rfl); first | exact .inl rfl | exact .inr (by simp))
      | (apply W.append (rnd_okY l); decide; rfl; rfl; rfl; decide; (iterate 3 (simp (disch := (first | omega | (simp only [List.length_append, List.length_map, List.length_cons, List.length_nil, List.length_take, List.length_drop, List.length_nil]; omega))) only [push_cast, simprocAttr, hc2, hc3, hc4, h0, h1, h2, h3, h4, h5, hrc, hdf, hfrG, g0, g1, g2, g3, g4, g5, g6, g7, g8, gg0, gg1, gg2, gg3, gg4, gg5, gg6, gg7, gg8, hf3, hf6, hX8, t1, t2, t3, i0, i1, i2, i3, i4, List.getD_cons_zero, List.getD_cons_succ, Int.toNat_zero, Int.toNat_one, List.drop_one, List.tail_cons] <;> rfl)); (first | (focus (simp; done)) | (intro c hc; obtain ⟨x, _, rfl⟩ := List.mem_map.1 hc; rfl)); ((first | rfl | simp (disch := omega) only [push_cast])); ((try dsimp only); (try simp only [List.length_map, List.length_append, List.length_cons, List.length_nil, List.length_take, List.length_drop, List.length_nil]); omega); ((try dsimp only); (try simp only [List.length_map, List.length_append, List.length_cons, List.length_nil, List.length_take, List.length_drop, List.length_nil]); omega))
      | (apply D.append (rnd_okY l); decide; decide; rfl; rfl; rfl; decide; (iterate 3 (simp (disch := (first | omega | (simp only [List.length_append, List.length_map, List.length_cons, List.length_nil, List.length_take, List.length_drop, List.length_nil]; omega))) only [push_cast, simprocAttr, hc2, hc3, hc4, h0, h1, h2, h3, h4, h5, hrc, hdf, hfrG, g0, g1, g2, g3, g4, g5, g6, g7, g8, gg0, gg1, gg2, gg3, gg4, gg5, gg6, gg7, gg8, hf3, hf6, hX8, t1, t2, t3, i0, i1, i2, i3, i4, List.getD_cons_zero, List.getD_cons_succ, Int.toNat_zero, Int.toNat_one, List.drop_one, List.tail_cons] <;> rfl)); (first | (focus (simp; done)) | (intro c hc; obtain ⟨x, _, rfl⟩ := List.mem_map.1 hc; rfl)); ((first | rfl | (focus (simp (disch := omega) only [push_cast]; done)))); ((try dsimp only); (try simp only [List.length_map, List.length_append, List.length_cons, List.length_nil, List.length_take, List.length_drop, List.length_nil]); omega); ((try dsimp only); (try simp only [List.length_map, List.length_append, List.length_cons, List.length_nil, List.length_take, List.length_drop, List.length_nil]); omega); first | exact .inl rfl | exact .inr (by simp))
      | ((first | (apply W.callv (rnd_okY l); decide) | (apply D.callv (rnd_okY l); decide; decide) | (apply D.callvt (rnd_okY l); decide; decide)); (iterate 2 (simp (disch := (first | omega | (simp only [List.length_append, List.length_map, List.length_cons, List.length_nil, List.length_take, List.length_drop, List.length_nil]; omega))) only [push_cast, simprocAttr, hc2, hc3, hc4, h0, h1, h2, h3, h4, h5, hrc, hdf, hfrG, g0, g1, g2, g3, g4, g5, g6, g7, g8, gg0, gg1, gg2, gg3, gg4, gg5, gg6, gg7, gg8, hf3, hf6, hX8, t1, t2, t3, i0, i1, i2, i3, i4, List.getD_cons_zero, List.getD_cons_succ, Int.toNat_zero, Int.toNat_one, List.drop_one, List.tail_cons] <;> rfl)); (with_reducible first | exact c1 | exact c2 | exact c3 | exact c4 | exact c5 | exact c6 | exact c7); try first | rfl | (simp (disch := (first | omega | (simp only [List.length_append, List.length_map, List.length_cons, List.length_nil, List.length_take, List.length_drop, List.length_nil]; omega))) only [push_cast, simprocAttr, hc2, hc3, hc4, h0, h1, h2, h3, h4, h5, hrc, hdf, hfrG, g0, g1, g2, g3, g4, g5, g6, g7, g8, gg0, gg1, gg2, gg3, gg4, gg5, gg6, gg7, gg8, hf3, hf6, hX8, t1, t2, t3, i0, i1, i2, i3, i4, List.getD_cons_zero, List.getD_cons_succ, Int.toNat_zero, Int.toNat_one, List.drop_one, List.tail_cons] <;> rfl))

    all_goals
      ((try simp only [thenQ, blockQ, loopQ, scopeQ, if_true, reduceIte])
       refine ⟨?_, ?_⟩
       · (simp (disch := omega) only [push_cast, simprocAttr, hc2, hc3, hc4, h0, h1, h2, h3, h4, h5, hrc, hdf, hfrG, g0, g1, g2, g3, g4, g5, g6, g7, g8, gg0, gg1, gg2, gg3, gg4, gg5, gg6, gg7, gg8, hf3, hf6, hX8, t1, t2, t3, i0, i1, i2, i3, i4, List.getD_cons_zero, List.getD_cons_succ, Int.toNat_zero, Int.toNat_one, List.drop_one, List.tail_cons] <;> rfl)
       rw [hS0]
       refine ⟨rfl, ⟨⟨?_, ?_, ?_, ?_, ?_, ?_, ?_, ?_, hfd2⟩, hcn2⟩, ?_, fun i h1 h2 => ?_⟩
       all_goals first
         | (simp (disch := omega) only [push_cast, simprocAttr, hc2, hc3, hc4, h0, h1, h2, h3, h4, h5, hrc, hdf, hfrG, g0, g1, g2, g3, g4, g5, g6, g7, g8, gg0, gg1, gg2, gg3, gg4, gg5, gg6, gg7, gg8, hf3, hf6, hX8, t1, t2, t3, i0, i1, i2, i3, i4, List.getD_cons_zero, List.getD_cons_succ, Int.toNat_zero, Int.toNat_one, List.drop_one, List.tail_cons] <;> first | rfl | omega)
         | omega
         | (have q0 : (i = 0) = False := eq_false (by omega)
            have q1 : (i = 1) = False := eq_false (by omega)
            have q2 : (i = 2) = False := eq_false (by omega)
            have q3 : (i = 3) = False := eq_false (by omega)
            have q4 : (i = 4) = False := eq_false (by omega)
            have q5 : (i = 5) = False := eq_false (by omega)
            have q8 : (i = 8) = False := eq_false (by omega)
            (simp (disch := omega) only [push_cast, simprocAttr, hc2, hc3, hc4, h0, h1, h2, h3, h4, h5, hrc, hdf, hfrG, g0, g1, g2, g3, g4, g5, g6, g7, g8, gg0, gg1, gg2, gg3, gg4, gg5, gg6, gg7, gg8, hf3, hf6, hX8, t1, t2, t3, i0, i1, i2, i3, i4, List.getD_cons_zero, List.getD_cons_succ, Int.toNat_zero, Int.toNat_one, List.drop_one, List.tail_cons, q0, q1, q2, q3, q4, q5, q8] <;> first | rfl | omega)))
  case post =>
    generalize linesF stepT s0.size s0 (hNone, false) = PP at hRES ⊢
    clear b0 b1 b2 b3 b4 b5 b6
    rintro r G m ⟨⟨⟨h0, h1, h2, h3, h4, h5, hdf, hrc, hfd⟩, hcn⟩, hm⟩
    obtain ⟨O, bb⟩ := PP
    simp only at h1 h2 h3 h4 h5 hRES hfd hcn
    have cP := Print_ok O (hfd.fit (by omega))
    refine ⟨_, hrc, ?_, ?_⟩
    · unfold LP; split <;> simp
    cases bb with
    | true =>
      rw [if_neg (by simp)] at hRES
      subst hRES
      simp only [if_true] at h1
      show _ ∧ _
      refine ⟨?_, ?_⟩
      · (simp (disch := omega) only [push_cast, simprocAttr, h0, h1, h2, h3, h4, h5, hdf, ht0, ht2, ht3, ht4, hf3, hf6, hf5, hf9, pure_doors] <;> rfl)
      intro H2 hH2
      have r0 : Pg.rowAt H2 0 = some ({ k := 3, es := [[.v (.slice none 0 0), .v (.slice none 0 0), .v (.slice none 0 0)]], ty := 26 }) := (hH2 0).trans (by simp (disch := omega) only [push_cast, simprocAttr, h0, h1, h2, h3, h4, h5, hdf, ht0, ht2, ht3, ht4, hf3, hf6, hf5, hf9, pure_doors] <;> rfl)
      have r1 : Pg.rowAt H2 1 = some ({ k := 1, es := [[ai 7]], ty := 29 }) := (hH2 1).trans (by simp (disch := omega) only [push_cast, simprocAttr, h0, h1, h2, h3, h4, h5, hdf, ht0, ht2, ht3, ht4, hf3, hf6, hf5, hf9, pure_doors] <;> rfl)
      apply W.retX (vs := [.agg [.v (.slice none 0 0), .v (.slice none 0 0), .v (.slice none 0 0)], ai 7])
      · (simp (disch := omega) only [push_cast, simprocAttr, h0, h1, h2, h3, h4, h5, hdf, ht0, ht2, ht3, ht4, hf3, hf6, hf5, hf9, pure_doors, r0, r1] <;> rfl)
      · (simp (disch := omega) only [push_cast, simprocAttr, h0, h1, h2, h3, h4, h5, hdf, ht0, ht2, ht3, ht4, hf3, hf6, hf5, hf9, pure_doors, r0, r1] <;> rfl)
    | false =>
      simp only [Bool.false_eq_true, if_false] at h1
      show AW cx 126 _ _ _
      unfold printB at cP
      unfold cntH at hcn
      by_cases hE : (Check O).1 = 0
      rotate_left
      · rw [if_pos hE] at cP
        have n1 : ((Check O).1 = 0) = False := eq_false hE
        have n2 : ((Check O).1 == 0) = false := by rw [beq_eq_false_iff_ne]; exact hE
        have n3 : ((Check O).1 != 0) = true := by rw [bne_iff_ne]; exact hE
        rw [if_neg (fun h => hE h.2.1)] at hRES
        subst hRES
        generalize (Check O).1 = E at *
        repeat' first
          | apply AW.seq | apply AW.region | apply AW.ret | apply AW.block | apply AW.skip | apply AW.exit | apply AW.scope | apply AW.label | apply AWL.nil | apply D.nil
          | refine W.draw cx_mixed (by decide +kernel) ?_
          | ((first | (apply W.step cx_ok; decide) | (apply D.step cx_ok; decide; decide) | apply W.store cx_ok | (apply W.gS; rfl; decide) | (apply D.gS; rfl; decide; decide) | apply AW.cond); (simp (disch := (first | omega | (simp only [List.length_append, List.length_map, List.length_cons, List.length_nil, List.length_take, List.length_drop, List.length_nil]; omega))) only [push_cast, simprocAttr, h0, h1, h2, h3, h4, h5, hdf, ht0, ht2, ht3, ht4, hf3, hf6, hf5, hf9, pure_doors, n1, n2, n3] <;> rfl); all_goals try ((with_reducible intro hI); try first | (cases hI; done) | (simp only [INTS, not_true_eq_false] at hI; try first | (exfalso; omega) | (have hT : True := hI; clear hT hI))))
          | ((first | (apply W.gU; rfl; decide) | (apply D.gU; rfl; decide; decide)); (simp (disch := (first | omega | (simp only [List.length_append, List.length_map, List.length_cons, List.length_nil, List.length_take, List.length_drop, List.length_nil]; omega))) only [push_cast, simprocAttr, h0, h1, h2, h3, h4, h5, hdf, ht0, ht2, ht3, ht4, hf3, hf6, hf5, hf9, pure_doors, n1, n2, n3] <;> rfl))
          | (apply W.append cx_ok; decide; rfl; rfl; rfl; decide; (iterate 3 (simp (disch := (first | omega | (simp only [List.length_append, List.length_map, List.length_cons, List.length_nil, List.length_take, List.length_drop, List.length_nil]; omega))) only [push_cast, simprocAttr, h0, h1, h2, h3, h4, h5, hdf, ht0, ht2, ht3, ht4, hf3, hf6, hf5, hf9, pure_doors, n1, n2, n3] <;> rfl)); (first | (focus (simp; done)) | (intro c hc; obtain ⟨x, _, rfl⟩ := List.mem_map.1 hc; rfl)); ((first | rfl | simp (disch := omega) only [push_cast])); ((try dsimp only); (try simp only [List.length_map, List.length_append, List.length_cons, List.length_nil, List.length_take, List.length_drop, List.length_nil]); omega); ((try dsimp only); (try simp only [List.length_map, List.length_append, List.length_cons, List.length_nil, List.length_take, List.length_drop, List.length_nil]); omega))
          | ((first | (apply W.callv cx_ok; decide) | (apply D.callv cx_ok; decide; decide)); (iterate 2 (simp (disch := (first | omega | (simp only [List.length_append, List.length_map, List.length_cons, List.length_nil, List.length_take, List.length_drop, List.length_nil]; omega))) only [push_cast, simprocAttr, h0, h1, h2, h3, h4, h5, hdf, ht0, ht2, ht3, ht4, hf3, hf6, hf5, hf9, pure_doors, n1, n2, n3] <;> rfl)); (with_reducible first | exact cP); try first | rfl | (simp (disch := (first | omega | (simp only [List.length_append, List.length_map, List.length_cons, List.length_nil, List.length_take, List.length_drop, List.length_nil]; omega))) only [push_cast, simprocAttr, h0, h1, h2, h3, h4, h5, hdf, ht0, ht2, ht3, ht4, hf3, hf6, hf5, hf9, pure_doors, n1, n2, n3] <;> rfl))

        all_goals
          (show _ ∧ _
           refine ⟨?_, ?_⟩
           · (simp (disch := omega) only [push_cast, simprocAttr, h0, h1, h2, h3, h4, h5, hdf, ht0, ht2, ht3, ht4, hf3, hf6, hf5, hf9, pure_doors] <;> rfl)
           intro H2 hH2
           have r0 : Pg.rowAt H2 0 = some ({ k := 3, es := [[.v (.slice none 0 0), .v (.slice none 0 0), .v (.slice none 0 0)]], ty := 26 }) := (hH2 0).trans (by simp (disch := omega) only [push_cast, simprocAttr, h0, h1, h2, h3, h4, h5, hdf, ht0, ht2, ht3, ht4, hf3, hf6, hf5, hf9, pure_doors] <;> rfl)
           have r1 : Pg.rowAt H2 1 = some ({ k := 1, es := [[ai 7]], ty := 29 }) := (hH2 1).trans (by simp (disch := omega) only [push_cast, simprocAttr, h0, h1, h2, h3, h4, h5, hdf, ht0, ht2, ht3, ht4, hf3, hf6, hf5, hf9, pure_doors] <;> rfl)
           apply W.retX (vs := [.agg [.v (.slice none 0 0), .v (.slice none 0 0), .v (.slice none 0 0)], ai 7])
           · (simp (disch := omega) only [push_cast, simprocAttr, h0, h1, h2, h3, h4, h5, hdf, ht0, ht2, ht3, ht4, hf3, hf6, hf5, hf9, pure_doors, r0, r1] <;> rfl)
           · (simp (disch := omega) only [push_cast, simprocAttr, h0, h1, h2, h3, h4, h5, hdf, ht0, ht2, ht3, ht4, hf3, hf6, hf5, hf9, pure_doors, r0, r1] <;> rfl))
      rw [if_neg (by simp [hE])] at cP
      by_cases ht : textB O = s0
      rotate_left
      · have hT : ((textB O).data.toList == s0.data.toList) = false := by rw [beq_eq_false_iff_ne]; intro h; exact ht (bl_inj h)
        rw [if_neg (fun h => ht h.2.2)] at hRES
        subst hRES
        generalize textB O = TT at *
        repeat' first
          | apply AW.seq | apply AW.region | apply AW.ret | apply AW.block | apply AW.skip | apply AW.exit | apply AW.scope | apply AW.label | apply AWL.nil | apply D.nil
          | refine W.draw cx_mixed (by decide +kernel) ?_
          | ((first | (apply W.step cx_ok; decide) | (apply D.step cx_ok; decide; decide) | apply W.store cx_ok | (apply W.gS; rfl; decide) | (apply D.gS; rfl; decide; decide) | apply AW.cond); (simp (disch := (first | omega | (simp only [List.length_append, List.length_map, List.length_cons, List.length_nil, List.length_take, List.length_drop, List.length_nil]; omega))) only [push_cast, simprocAttr, h0, h1, h2, h3, h4, h5, hdf, ht0, ht2, ht3, ht4, hf3, hf6, hf5, hf9, pure_doors, hT] <;> rfl); all_goals try ((with_reducible intro hI); try first | (cases hI; done) | (simp only [INTS, not_true_eq_false] at hI; try first | (exfalso; omega) | (have hT : True := hI; clear hT hI))))
          | ((first | (apply W.gU; rfl; decide) | (apply D.gU; rfl; decide; decide)); (simp (disch := (first | omega | (simp only [List.length_append, List.length_map, List.length_cons, List.length_nil, List.length_take, List.length_drop, List.length_nil]; omega))) only [push_cast, simprocAttr, h0, h1, h2, h3, h4, h5, hdf, ht0, ht2, ht3, ht4, hf3, hf6, hf5, hf9, pure_doors, hT] <;> rfl))
          | (apply W.append cx_ok; decide; rfl; rfl; rfl; decide; (iterate 3 (simp (disch := (first | omega | (simp only [List.length_append, List.length_map, List.length_cons, List.length_nil, List.length_take, List.length_drop, List.length_nil]; omega))) only [push_cast, simprocAttr, h0, h1, h2, h3, h4, h5, hdf, ht0, ht2, ht3, ht4, hf3, hf6, hf5, hf9, pure_doors, hT] <;> rfl)); (first | (focus (simp; done)) | (intro c hc; obtain ⟨x, _, rfl⟩ := List.mem_map.1 hc; rfl)); ((first | rfl | simp (disch := omega) only [push_cast])); ((try dsimp only); (try simp only [List.length_map, List.length_append, List.length_cons, List.length_nil, List.length_take, List.length_drop, List.length_nil]); omega); ((try dsimp only); (try simp only [List.length_map, List.length_append, List.length_cons, List.length_nil, List.length_take, List.length_drop, List.length_nil]); omega))
          | ((first | (apply W.callv cx_ok; decide) | (apply D.callv cx_ok; decide; decide)); (iterate 2 (simp (disch := (first | omega | (simp only [List.length_append, List.length_map, List.length_cons, List.length_nil, List.length_take, List.length_drop, List.length_nil]; omega))) only [push_cast, simprocAttr, h0, h1, h2, h3, h4, h5, hdf, ht0, ht2, ht3, ht4, hf3, hf6, hf5, hf9, pure_doors, hT] <;> rfl)); (with_reducible first | exact cP); try first | rfl | (simp (disch := (first | omega | (simp only [List.length_append, List.length_map, List.length_cons, List.length_nil, List.length_take, List.length_drop, List.length_nil]; omega))) only [push_cast, simprocAttr, h0, h1, h2, h3, h4, h5, hdf, ht0, ht2, ht3, ht4, hf3, hf6, hf5, hf9, pure_doors, hT] <;> rfl))

        all_goals
          (show _ ∧ _
           refine ⟨?_, ?_⟩
           · (simp (disch := omega) only [push_cast, simprocAttr, h0, h1, h2, h3, h4, h5, hdf, ht0, ht2, ht3, ht4, hf3, hf6, hf5, hf9, pure_doors] <;> rfl)
           intro H2 hH2
           have r0 : Pg.rowAt H2 0 = some ({ k := 3, es := [[.v (.slice none 0 0), .v (.slice none 0 0), .v (.slice none 0 0)]], ty := 26 }) := (hH2 0).trans (by simp (disch := omega) only [push_cast, simprocAttr, h0, h1, h2, h3, h4, h5, hdf, ht0, ht2, ht3, ht4, hf3, hf6, hf5, hf9, pure_doors] <;> rfl)
           have r1 : Pg.rowAt H2 1 = some ({ k := 1, es := [[ai 7]], ty := 29 }) := (hH2 1).trans (by simp (disch := omega) only [push_cast, simprocAttr, h0, h1, h2, h3, h4, h5, hdf, ht0, ht2, ht3, ht4, hf3, hf6, hf5, hf9, pure_doors] <;> rfl)
           apply W.retX (vs := [.agg [.v (.slice none 0 0), .v (.slice none 0 0), .v (.slice none 0 0)], ai 7])
           · (simp (disch := omega) only [push_cast, simprocAttr, h0, h1, h2, h3, h4, h5, hdf, ht0, ht2, ht3, ht4, hf3, hf6, hf5, hf9, pure_doors, r0, r1] <;> rfl)
           · (simp (disch := omega) only [push_cast, simprocAttr, h0, h1, h2, h3, h4, h5, hdf, ht0, ht2, ht3, ht4, hf3, hf6, hf5, hf9, pure_doors, r0, r1] <;> rfl))
      have hT : ((textB O).data.toList == s0.data.toList) = true := by rw [ht, beq_iff_eq]
      rw [if_pos ⟨rfl, hE, ht⟩] at hRES
      subst hRES
      clear ht
      generalize textB O = TT at *
      repeat' first
        | apply AW.seq | apply AW.region | apply AW.ret | apply AW.block | apply AW.skip | apply AW.exit | apply AW.scope | apply AW.label | apply AWL.nil | apply D.nil
        | refine W.draw cx_mixed (by decide +kernel) ?_
        | ((first | (apply W.step cx_ok; decide) | (apply D.step cx_ok; decide; decide) | apply W.store cx_ok | (apply W.gS; rfl; decide) | (apply D.gS; rfl; decide; decide) | apply AW.cond); (simp (disch := (first | omega | (simp only [List.length_append, List.length_map, List.length_cons, List.length_nil, List.length_take, List.length_drop, List.length_nil]; omega))) only [push_cast, simprocAttr, h0, h1, h2, h3, h4, h5, hdf, ht0, ht2, ht3, ht4, hf3, hf6, hf5, hf9, pure_doors, hT] <;> rfl); all_goals try ((with_reducible intro hI); try first | (cases hI; done) | (simp only [INTS, not_true_eq_false] at hI; try first | (exfalso; omega) | (have hT : True := hI; clear hT hI))))
        | ((first | (apply W.gU; rfl; decide) | (apply D.gU; rfl; decide; decide)); (simp (disch := (first | omega | (simp only [List.length_append, List.length_map, List.length_cons, List.length_nil, List.length_take, List.length_drop, List.length_nil]; omega))) only [push_cast, simprocAttr, h0, h1, h2, h3, h4, h5, hdf, ht0, ht2, ht3, ht4, hf3, hf6, hf5, hf9, pure_doors, hT] <;> rfl))
        | (apply W.append cx_ok; decide; rfl; rfl; rfl; decide; (iterate 3 (simp (disch := (first | omega | (simp only [List.length_append, List.length_map, List.length_cons, List.length_nil, List.length_take, List.length_drop, List.length_nil]; omega))) only [push_cast, simprocAttr, h0, h1, h2, h3, h4, h5, hdf, ht0, ht2, ht3, ht4, hf3, hf6, hf5, hf9, pure_doors, hT] <;> rfl)); (first | (focus (simp; done)) | (intro c hc; obtain ⟨x, _, rfl⟩ := List.mem_map.1 hc; rfl)); ((first | rfl | simp (disch := omega) only [push_cast])); ((try dsimp only); (try simp only [List.length_map, List.length_append, List.length_cons, List.length_nil, List.length_take, List.length_drop, List.length_nil]); omega); ((try dsimp only); (try simp only [List.length_map, List.length_append, List.length_cons, List.length_nil, List.length_take, List.length_drop, List.length_nil]); omega))
        | ((first | (apply W.callv cx_ok; decide) | (apply D.callv cx_ok; decide; decide)); (iterate 2 (simp (disch := (first | omega | (simp only [List.length_append, List.length_map, List.length_cons, List.length_nil, List.length_take, List.length_drop, List.length_nil]; omega))) only [push_cast, simprocAttr, h0, h1, h2, h3, h4, h5, hdf, ht0, ht2, ht3, ht4, hf3, hf6, hf5, hf9, pure_doors, hT] <;> rfl)); (with_reducible first | exact cP); try first | rfl | (simp (disch := (first | omega | (simp only [List.length_append, List.length_map, List.length_cons, List.length_nil, List.length_take, List.length_drop, List.length_nil]; omega))) only [push_cast, simprocAttr, h0, h1, h2, h3, h4, h5, hdf, ht0, ht2, ht3, ht4, hf3, hf6, hf5, hf9, pure_doors, hT] <;> rfl))

      all_goals
        (show _ ∧ _
         refine ⟨?_, ?_⟩
         · (simp (disch := omega) only [push_cast, simprocAttr, h0, h1, h2, h3, h4, h5, hdf, ht0, ht2, ht3, ht4, hf3, hf6, hf5, hf9, pure_doors] <;> rfl)
         intro H2 hH2
         have r0 : Pg.rowAt H2 0 = some ({ k := 3, es := [[.ref 3 0 O.rooms.length, .ref 4 0 O.doors.length, .ref 5 0 O.ways.length]], ty := 26 }) := (hH2 0).trans (by simp (disch := omega) only [push_cast, simprocAttr, h0, h1, h2, h3, h4, h5, hdf, ht0, ht2, ht3, ht4, hf3, hf6, hf5, hf9, pure_doors] <;> rfl)
         have r1 : Pg.rowAt H2 1 = some ({ k := 1, es := [[ai 0]], ty := 29 }) := (hH2 1).trans (by simp (disch := omega) only [push_cast, simprocAttr, h0, h1, h2, h3, h4, h5, hdf, ht0, ht2, ht3, ht4, hf3, hf6, hf5, hf9, pure_doors] <;> rfl)
         have r3 : Pg.rowAt H2 3 = some ({ k := 2, es := O.rooms.map eRoom, ty := 62, lo := O.rooms.length }) := (hH2 3).trans (by simp (disch := omega) only [push_cast, simprocAttr, h0, h1, h2, h3, h4, h5, hdf, ht0, ht2, ht3, ht4, hf3, hf6, hf5, hf9, pure_doors] <;> rfl)
         have r4 : Pg.rowAt H2 4 = some ({ k := 2, es := O.doors.map eDoor, ty := 38, lo := O.doors.length }) := (hH2 4).trans (by simp (disch := omega) only [push_cast, simprocAttr, h0, h1, h2, h3, h4, h5, hdf, ht0, ht2, ht3, ht4, hf3, hf6, hf5, hf9, pure_doors] <;> rfl)
         have r5 : Pg.rowAt H2 5 = some ({ k := 5, es := O.ways.map eWay, ty := 72, lo := O.ways.length }) := (hH2 5).trans (by simp (disch := omega) only [push_cast, simprocAttr, h0, h1, h2, h3, h4, h5, hdf, ht0, ht2, ht3, ht4, hf3, hf6, hf5, hf9, pure_doors] <;> rfl)
         apply W.retX (vs := [.agg [.ref 3 0 O.rooms.length, .ref 4 0 O.doors.length, .ref 5 0 O.ways.length], ai 0])
         · (simp (disch := omega) only [push_cast, simprocAttr, h0, h1, h2, h3, h4, h5, hdf, ht0, ht2, ht3, ht4, hf3, hf6, hf5, hf9, pure_doors, r0, r1, r3, r4, r5] <;> rfl)
         · (simp (disch := omega) only [push_cast, simprocAttr, h0, h1, h2, h3, h4, h5, hdf, ht0, ht2, ht3, ht4, hf3, hf6, hf5, hf9, pure_doors, r0, r1, r3, r4, r5] <;> rfl))
end Go.Proofs.Hz
