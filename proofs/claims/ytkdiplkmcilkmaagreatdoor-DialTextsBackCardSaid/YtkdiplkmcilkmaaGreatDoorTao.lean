/-
  Contracts of functions, proved by going through their code. No conditions.
-/
import Derived.Test.YtkdiplkmcilkmaaGreatDoorTan
set_option linter.unusedVariables false
set_option linter.unusedSimpArgs false
set_option maxHeartbeats 8000000
set_option maxRecDepth 10000
namespace Go.Proofs.Dz
open Go Go.Pg Go.Proofs Go.Proofs.Ds
theorem rnd_ok (l : Nat) : (cx.rnd l).OK := ⟨cx_ok.T, cx_ok.eqT, cx_ok.E⟩
theorem rnd_mixed (l : Nat) : (cx.rnd l).P.follows .mixedOrders = true := cx_mixed
theorem awk_gen {C : Cx} {N : Nat} {y z : Code} {Q : Exit → St → Prop} {s : St} (G : St → Prop) (hG : G s) (h : ∀ t, G t → AWk C N y z Q t) : AWk C N y z Q s := h s hG
structure JD (l D : Nat) (L : Loop) (tm : Nat → AV) (p : List Span) (H : Nat → Option AO) : Prop where
  b : Pg.rowAt H 0 = some { k := 1, es := [[.ref 1 0 p.length]], ty := 105 }
  out : Pg.rowAt H 1 = some { k := 2, es := p.map eSpan, ty := 112, lo := p.length }
  dfr : H 2 = some (.mp (.dfr D (some [])) 0 [])
  rcd : H 3 = some (.mp (.loop l L) 0 (keepT 13 tm))
theorem JD.frame {l D : Nat} {L : Loop} {tm : Nat → AV} (p : List Span) (H : Nat → Option AO) (id : Nat) (o : AO) (h : JD l D L tm p H) (hid : 4 ≤ id) : JD l D L tm p (updH H id o) := by
  obtain ⟨h0, h1, h2, h3⟩ := h
  have e : ∀ j, j < 4 → updH H id o j = H j := fun j hj => by simp only [updH]; rw [if_neg (by omega)]
  exact ⟨(rowAt_eqH (e 0 (by omega))).trans h0, (rowAt_eqH (e 1 (by omega))).trans h1, (e 2 (by omega)).trans h2, (e 3 (by omega)).trans h3⟩
abbrev rowP (A : List Arc) : Row := { k := 2, es := (piecesL A).map eSpan, ty := 112, lo := (piecesL A).length }
theorem AppendSeq_m (A : List Arc) (hv : ∀ x ∈ A, validA x = true) (hA : A.length ≤ 1000000) (hP : (piecesL A).length ≤ 2000000) : OKm cx 124 [.v (.slice none 0 0), .clo 106 [.iptr [lArc A] 0]] (fun _ => none) 0 (NewR (rowP A)) := by
  refine OKm.of_bodyX cx_ok (rs := [.tmp 4]) Tryz.func124 rfl (by decide +kernel) rfl (by simp [Tryz.ntmps124]) ?_
  simp only [Tryz.ntmps124]
  refine AWx.seqS ?_
  repeat' first
    | apply AW.seq | apply AW.region | apply AW.ret | apply AW.block | apply AW.skip | apply AW.exit | apply AW.scope | apply AW.label | apply AWL.nil
    | ((first | (apply W.step cx_ok; decide) | apply W.store cx_ok | apply AW.cond); (simp (disch := (first | omega | (simp only [List.length_append, List.length_map, List.length_cons, List.length_nil, List.length_take, List.length_drop]; omega))) only [push_cast, simprocAttr, takeM, dropM, List.take_length, List.length_take, List.length_drop, List.all_append, List.all_cons, List.all_nil, Bool.and_true, Bool.and_self, and_self, and_true, true_and, leT, List.take_of_length_le, pureL, pureA, natNe, List.mem_cons, List.not_mem_nil, TyD.isAgg, Nat.add_assoc, isEmpty_map, List.isEmpty_cons, Bool.false_eq_true, List.map_append, List.map_cons, List.map_nil, List.length_append, List.length_cons, List.length_nil, Nat.zero_add] <;> rfl); all_goals try ((with_reducible intro hI); try first | (cases hI; done) | (simp only [INTS, not_true_eq_false] at hI; try first | (exfalso; omega) | (have hT : True := hI; clear hT hI))))
    | (apply W.append cx_ok; decide; rfl; rfl; rfl; decide; (iterate 3 (simp (disch := (first | omega | (simp only [List.length_append, List.length_map, List.length_cons, List.length_nil, List.length_take, List.length_drop]; omega))) only [push_cast, simprocAttr, takeM, dropM, List.take_length, List.length_take, List.length_drop, List.all_append, List.all_cons, List.all_nil, Bool.and_true, Bool.and_self, and_self, and_true, true_and, leT, List.take_of_length_le, pureL, pureA, natNe, List.mem_cons, List.not_mem_nil, TyD.isAgg, Nat.add_assoc, isEmpty_map, List.isEmpty_cons, Bool.false_eq_true, List.map_append, List.map_cons, List.map_nil, List.length_append, List.length_cons, List.length_nil, Nat.zero_add] <;> rfl)); (first | (focus (simp; done)) | (intro c hc; obtain ⟨x, _, rfl⟩ := List.mem_map.1 hc; rfl)); ((first | rfl | simp (disch := omega) only [push_cast])); ((try dsimp only); (try simp only [List.length_map, List.length_append, List.length_cons, List.length_nil, List.length_take, List.length_drop]); omega); ((try dsimp only); (try simp only [List.length_map, List.length_append, List.length_cons, List.length_nil, List.length_take, List.length_drop]); omega))


  refine Pg.Stop.mk ?_
  refine AWx.ofk (AWk.seqS ?_)
  refine AW.adoptCell 0 0 0 2 112 (r := { k := 1, es := [[.v (.slice none 0 0)]], ty := 105 }) (by simp (disch := omega) only [push_cast, simprocAttr, natNe, List.mem_cons, List.not_mem_nil, TyD.isAgg, Nat.add_assoc, isEmpty_map, List.isEmpty_cons, Bool.false_eq_true, List.map_append, List.map_cons, List.map_nil, List.length_append, List.length_cons, List.length_nil, Nat.zero_add] <;> rfl) rfl ?_
  repeat' first
    | apply AW.seq | apply AW.region | apply AW.ret | apply AW.block | apply AW.skip | apply AW.exit | apply AW.scope | apply AW.label | apply AWL.nil
    | ((first | (apply W.step cx_ok; decide) | apply W.store cx_ok | apply AW.cond); (simp (disch := (first | omega | (simp only [List.length_append, List.length_map, List.length_cons, List.length_nil, List.length_take, List.length_drop]; omega))) only [push_cast, simprocAttr, takeM, dropM, List.take_length, List.length_take, List.length_drop, List.all_append, List.all_cons, List.all_nil, Bool.and_true, Bool.and_self, and_self, and_true, true_and, leT, List.take_of_length_le, pureL, pureA, natNe, List.mem_cons, List.not_mem_nil, TyD.isAgg, Nat.add_assoc, isEmpty_map, List.isEmpty_cons, Bool.false_eq_true, List.map_append, List.map_cons, List.map_nil, List.length_append, List.length_cons, List.length_nil, Nat.zero_add] <;> rfl); all_goals try ((with_reducible intro hI); try first | (cases hI; done) | (simp only [INTS, not_true_eq_false] at hI; try first | (exfalso; omega) | (have hT : True := hI; clear hT hI))))
    | (apply W.append cx_ok; decide; rfl; rfl; rfl; decide; (iterate 3 (simp (disch := (first | omega | (simp only [List.length_append, List.length_map, List.length_cons, List.length_nil, List.length_take, List.length_drop]; omega))) only [push_cast, simprocAttr, takeM, dropM, List.take_length, List.length_take, List.length_drop, List.all_append, List.all_cons, List.all_nil, Bool.and_true, Bool.and_self, and_self, and_true, true_and, leT, List.take_of_length_le, pureL, pureA, natNe, List.mem_cons, List.not_mem_nil, TyD.isAgg, Nat.add_assoc, isEmpty_map, List.isEmpty_cons, Bool.false_eq_true, List.map_append, List.map_cons, List.map_nil, List.length_append, List.length_cons, List.length_nil, Nat.zero_add] <;> rfl)); (first | (focus (simp; done)) | (intro c hc; obtain ⟨x, _, rfl⟩ := List.mem_map.1 hc; rfl)); ((first | rfl | simp (disch := omega) only [push_cast])); ((try dsimp only); (try simp only [List.length_map, List.length_append, List.length_cons, List.length_nil, List.length_take, List.length_drop]); omega); ((try dsimp only); (try simp only [List.length_map, List.length_append, List.length_cons, List.length_nil, List.length_take, List.length_drop]); omega))


  refine Pg.Stop.mk ?_
  refine awk_gen (fun t => t.tm 2 = .ptr 0 0 0 1 ∧ t.tm 6 = .clo 106 [.iptr [lArc A] 0] ∧ t.nx = 2 ∧ Pg.rowAt t.H 0 = some { k := 1, es := [[.ref 1 0 0]], ty := 105 } ∧ Pg.rowAt t.H 1 = some { k := 2, es := [], ty := 112 }) ⟨?_, ?_, ?_, ?_, ?_⟩ ?_
  iterate 5 (simp (disch := omega) only [push_cast, simprocAttr, natNe, List.mem_cons, List.not_mem_nil, TyD.isAgg, Nat.add_assoc, isEmpty_map, List.isEmpty_cons, Bool.false_eq_true, List.map_append, List.map_cons, List.map_nil, List.length_append, List.length_cons, List.length_nil, Nat.zero_add] <;> rfl)
  rintro t ⟨ht2, ht6, htnx, h0, h1⟩
  refine AWk.range (f := 106) (caps := [.iptr [lArc A] 0]) ht6 fun Dn l fn => ?_
  rw [htnx]
  refine OKm.mono (pieces1_ok A hv hA l 4 (piecesL A).length (J := JD l Dn ?L t.tm) ?hJ _ _ (Nat.le_refl _) ?hJ0 (Nat.le_refl _)) ?post
  case hJ0 =>
    refine ⟨?_, ?_, rfl, ?_⟩
    · simp only [rowAt_updM]; simpa using h0
    · simp only [rowAt_updM]; simpa using h1
    · exact (if_pos rfl : (if (3 : Nat) = 2 + 1 then _ else _) = _)
  case hJ =>
    refine ⟨fun p G id o hp hid => JD.frame p G id o hp hid, fun p G m x hJ hm hx0 hx1 hx2 hlen => ?_⟩
    obtain ⟨b0, out, hdf, hrc⟩ := hJ
    have hpl : p.length < 2000000 := by omega
    refine YOK.of_body (id := 3) (args := [.agg (eSpan x)]) hrc rfl rfl (by intro p hp; have : p = 7 := (by simpa using hp); subst this; decide) ?_
    show AW (cx.rnd l) 13 _ _ { tm := upd (cutT 13 t.tm) 7 (.agg (eSpan x)), H := G, nx := m }
    have hc2 : cutT 13 t.tm 2 = .ptr 0 0 0 1 := by simp [cutT, ht2]
    refine AW.fresh fun hfrG0 => ?_
    have hfrG : ∀ id, m ≤ id → G id = none := hfrG0
    repeat' first
      | apply AW.seq | apply AW.region | apply AW.ret | apply AW.block | apply AW.skip | apply AW.exit | apply AW.scope | apply AW.label | apply AWL.nil
      | refine W.draw (rnd_mixed l) (by decide +kernel) ?_
      | ((first | (apply W.step (rnd_ok l); decide) | (apply D.step (rnd_ok l); decide; decide) | apply W.store (rnd_ok l) | apply AW.cond); (simp (disch := (first | omega | (simp only [List.length_append, List.length_map, List.length_cons, List.length_nil, List.length_take, List.length_drop, List.length_nil]; omega))) only [push_cast, simprocAttr, takeM, dropM, List.take_length, List.length_take, List.length_drop, List.all_append, List.all_cons, List.all_nil, Bool.and_true, Bool.and_self, and_self, and_true, true_and, leT, List.take_of_length_le, pureL, pureA, Cx.rnd, hc2, b0, out, hrc, hdf, hfrG, natNe, List.mem_cons, List.not_mem_nil, TyD.isAgg, Nat.add_assoc, isEmpty_map, List.isEmpty_cons, Bool.false_eq_true, List.map_append, List.map_cons, List.map_nil, List.length_append, List.length_cons, List.length_nil, Nat.zero_add] <;> rfl); all_goals try ((with_reducible intro hI); try first | (cases hI; done) | (simp only [INTS, not_true_eq_false] at hI; try first | (exfalso; omega) | (have hT : True := hI; clear hT hI))))
      | (apply W.append (rnd_ok l); decide; rfl; rfl; rfl; decide; (iterate 3 (simp (disch := (first | omega | (simp only [List.length_append, List.length_map, List.length_cons, List.length_nil, List.length_take, List.length_drop, List.length_nil]; omega))) only [push_cast, simprocAttr, takeM, dropM, List.take_length, List.length_take, List.length_drop, List.all_append, List.all_cons, List.all_nil, Bool.and_true, Bool.and_self, and_self, and_true, true_and, leT, List.take_of_length_le, pureL, pureA, Cx.rnd, hc2, b0, out, hrc, hdf, hfrG, natNe, List.mem_cons, List.not_mem_nil, TyD.isAgg, Nat.add_assoc, isEmpty_map, List.isEmpty_cons, Bool.false_eq_true, List.map_append, List.map_cons, List.map_nil, List.length_append, List.length_cons, List.length_nil, Nat.zero_add] <;> rfl)); (first | (focus (simp; done)) | (intro c hc; obtain ⟨x, _, rfl⟩ := List.mem_map.1 hc; rfl)); ((first | rfl | simp (disch := omega) only [push_cast])); ((try dsimp only); (try simp only [List.length_map, List.length_append, List.length_cons, List.length_nil, List.length_take, List.length_drop, List.length_nil]); omega); ((try dsimp only); (try simp only [List.length_map, List.length_append, List.length_cons, List.length_nil, List.length_take, List.length_drop, List.length_nil]); omega))


    refine ⟨?_, ?_⟩
    · (simp (disch := omega) only [push_cast, simprocAttr, Cx.rnd, hc2, b0, out, hrc, hdf, hfrG, natNe, List.mem_cons, List.not_mem_nil, TyD.isAgg, Nat.add_assoc, isEmpty_map, List.isEmpty_cons, Bool.false_eq_true, List.map_append, List.map_cons, List.map_nil, List.length_append, List.length_cons, List.length_nil, Nat.zero_add])
    repeat' first
      | apply AW.seq | apply AW.region | apply AW.ret | apply AW.block | apply AW.skip | apply AW.exit | apply AW.scope | apply AW.label | apply AWL.nil
      | refine W.draw (rnd_mixed l) (by decide +kernel) ?_
      | ((first | (apply W.step (rnd_ok l); decide) | (apply D.step (rnd_ok l); decide; decide) | apply W.store (rnd_ok l) | apply AW.cond); (simp (disch := (first | omega | (simp only [List.length_append, List.length_map, List.length_cons, List.length_nil, List.length_take, List.length_drop, List.length_nil]; omega))) only [push_cast, simprocAttr, takeM, dropM, List.take_length, List.length_take, List.length_drop, List.all_append, List.all_cons, List.all_nil, Bool.and_true, Bool.and_self, and_self, and_true, true_and, leT, List.take_of_length_le, pureL, pureA, Cx.rnd, hc2, b0, out, hrc, hdf, hfrG, natNe, List.mem_cons, List.not_mem_nil, TyD.isAgg, Nat.add_assoc, isEmpty_map, List.isEmpty_cons, Bool.false_eq_true, List.map_append, List.map_cons, List.map_nil, List.length_append, List.length_cons, List.length_nil, Nat.zero_add] <;> rfl); all_goals try ((with_reducible intro hI); try first | (cases hI; done) | (simp only [INTS, not_true_eq_false] at hI; try first | (exfalso; omega) | (have hT : True := hI; clear hT hI))))
      | (apply W.append (rnd_ok l); decide; rfl; rfl; rfl; decide; (iterate 3 (simp (disch := (first | omega | (simp only [List.length_append, List.length_map, List.length_cons, List.length_nil, List.length_take, List.length_drop, List.length_nil]; omega))) only [push_cast, simprocAttr, takeM, dropM, List.take_length, List.length_take, List.length_drop, List.all_append, List.all_cons, List.all_nil, Bool.and_true, Bool.and_self, and_self, and_true, true_and, leT, List.take_of_length_le, pureL, pureA, Cx.rnd, hc2, b0, out, hrc, hdf, hfrG, natNe, List.mem_cons, List.not_mem_nil, TyD.isAgg, Nat.add_assoc, isEmpty_map, List.isEmpty_cons, Bool.false_eq_true, List.map_append, List.map_cons, List.map_nil, List.length_append, List.length_cons, List.length_nil, Nat.zero_add] <;> rfl)); (first | (focus (simp; done)) | (intro c hc; obtain ⟨x, _, rfl⟩ := List.mem_map.1 hc; rfl)); ((first | rfl | simp (disch := omega) only [push_cast])); ((try dsimp only); (try simp only [List.length_map, List.length_append, List.length_cons, List.length_nil, List.length_take, List.length_drop, List.length_nil]); omega); ((try dsimp only); (try simp only [List.length_map, List.length_append, List.length_cons, List.length_nil, List.length_take, List.length_drop, List.length_nil]); omega))


    all_goals
      (refine ⟨?_, rfl, ⟨?_, ?_, ?_, ?_⟩, ?_, fun i h1 h2 => ?_⟩
       all_goals first
         | (simp (disch := omega) only [push_cast, simprocAttr, Cx.rnd, hc2, b0, out, hrc, hdf, hfrG, natNe, List.mem_cons, List.not_mem_nil, TyD.isAgg, Nat.add_assoc, isEmpty_map, List.isEmpty_cons, Bool.false_eq_true, List.map_append, List.map_cons, List.map_nil, List.length_append, List.length_cons, List.length_nil, Nat.zero_add] <;> first | rfl | omega)
         | omega)
  case post =>
    rintro r G m ⟨⟨b0, out, hdf, hrc⟩, hm⟩
    obtain ⟨RES, hRES⟩ : ∃ z, piecesL A = z := ⟨_, rfl⟩
    rw [hRES] at b0 out hP
    refine ⟨_, hrc, by simp, ?_⟩
    show AW cx 13 _ _ _
    repeat' first
      | apply AW.seq | apply AW.region | apply AW.ret | apply AW.block | apply AW.skip | apply AW.exit | apply AW.scope | apply AW.label | apply AWL.nil
      | ((first | (apply W.step cx_ok; decide) | apply W.store cx_ok | apply AW.cond); (simp (disch := (first | omega | (simp only [List.length_append, List.length_map, List.length_cons, List.length_nil, List.length_take, List.length_drop]; omega))) only [push_cast, simprocAttr, takeM, dropM, List.take_length, List.length_take, List.length_drop, List.all_append, List.all_cons, List.all_nil, Bool.and_true, Bool.and_self, and_self, and_true, true_and, leT, List.take_of_length_le, pureL, pureA, b0, out, hdf, ht2, natNe, List.mem_cons, List.not_mem_nil, TyD.isAgg, Nat.add_assoc, isEmpty_map, List.isEmpty_cons, Bool.false_eq_true, List.map_append, List.map_cons, List.map_nil, List.length_append, List.length_cons, List.length_nil, Nat.zero_add] <;> rfl); all_goals try ((with_reducible intro hI); try first | (cases hI; done) | (simp only [INTS, not_true_eq_false] at hI; try first | (exfalso; omega) | (have hT : True := hI; clear hT hI))))
      | (apply W.append cx_ok; decide; rfl; rfl; rfl; decide; (iterate 3 (simp (disch := (first | omega | (simp only [List.length_append, List.length_map, List.length_cons, List.length_nil, List.length_take, List.length_drop]; omega))) only [push_cast, simprocAttr, takeM, dropM, List.take_length, List.length_take, List.length_drop, List.all_append, List.all_cons, List.all_nil, Bool.and_true, Bool.and_self, and_self, and_true, true_and, leT, List.take_of_length_le, pureL, pureA, b0, out, hdf, ht2, natNe, List.mem_cons, List.not_mem_nil, TyD.isAgg, Nat.add_assoc, isEmpty_map, List.isEmpty_cons, Bool.false_eq_true, List.map_append, List.map_cons, List.map_nil, List.length_append, List.length_cons, List.length_nil, Nat.zero_add] <;> rfl)); (first | (focus (simp; done)) | (intro c hc; obtain ⟨x, _, rfl⟩ := List.mem_map.1 hc; rfl)); ((first | rfl | simp (disch := omega) only [push_cast])); ((try dsimp only); (try simp only [List.length_map, List.length_append, List.length_cons, List.length_nil, List.length_take, List.length_drop]); omega); ((try dsimp only); (try simp only [List.length_map, List.length_append, List.length_cons, List.length_nil, List.length_take, List.length_drop]); omega))


    all_goals
      (refine ⟨?_, ?_⟩
       · (simp (disch := omega) only [push_cast, simprocAttr, b0, out, hdf, ht2, natNe, List.mem_cons, List.not_mem_nil, TyD.isAgg, Nat.add_assoc, isEmpty_map, List.isEmpty_cons, Bool.false_eq_true, List.map_append, List.map_cons, List.map_nil, List.length_append, List.length_cons, List.length_nil, Nat.zero_add] <;> rfl)
       intro H2 hH2
       have h3 : Pg.rowAt H2 1 = some { k := 2, es := RES.map eSpan, ty := 112, lo := RES.length } := (hH2 1).trans (by simp (disch := omega) only [push_cast, simprocAttr, b0, out, hdf, ht2, natNe, List.mem_cons, List.not_mem_nil, TyD.isAgg, Nat.add_assoc, isEmpty_map, List.isEmpty_cons, Bool.false_eq_true, List.map_append, List.map_cons, List.map_nil, List.length_append, List.length_cons, List.length_nil, Nat.zero_add] <;> rfl)
       apply W.retX (vs := [.ref 1 0 RES.length])
       · (simp (disch := omega) only [push_cast, simprocAttr, b0, out, hdf, ht2, natNe, List.mem_cons, List.not_mem_nil, TyD.isAgg, Nat.add_assoc, isEmpty_map, List.isEmpty_cons, Bool.false_eq_true, List.map_append, List.map_cons, List.map_nil, List.length_append, List.length_cons, List.length_nil, Nat.zero_add, h3] <;> rfl)
       · show NewR (rowP A) (.ref 1 0 RES.length) _ _
         unfold rowP
         rw [hRES]
         rcases RES with _ | ⟨y, RES⟩
         · exact .inr ⟨rfl, rfl, rfl, .inr ⟨1, rfl, h3⟩⟩
         · refine .inl ⟨1, { k := 2, es := (y :: RES).map eSpan, ty := 112, lo := (y :: RES).length }, by simp, h3, rfl, fun e he c hc => ?_, by simp, rfl⟩
           obtain ⟨z, _, rfl⟩ := List.mem_map.1 he
           simp at hc
           rcases hc with rfl | rfl <;> exact ⟨_, rfl⟩)
end Go.Proofs.Dz
