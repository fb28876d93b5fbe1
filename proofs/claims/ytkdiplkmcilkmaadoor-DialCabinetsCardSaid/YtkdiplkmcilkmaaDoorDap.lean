/-
  Contracts of functions, proved by going through their code. No conditions.
-/
import Derived.Test.YtkdiplkmcilkmaaDoorDao
set_option linter.unusedVariables false
set_option linter.unusedSimpArgs false
set_option maxHeartbeats 8000000
set_option maxRecDepth 10000
namespace Go.Proofs.Ds
open Go Go.Pg Go.Proofs
structure Yl (l n0 M : Nat) (J : List Span → (Nat → Option AO) → Prop) : Prop where
  frame : ∀ p H id o, J p H → n0 ≤ id → J p (updH H id o)
  y : ∀ p H nx (x : Span), J p H → n0 ≤ nx → 0 ≤ x.lo → x.lo ≤ x.hi → x.hi ≤ 43199 → p.length < M →
    YOK cx l [.agg (eSpan x)] H nx (fun b H' nx' => b = true ∧ J (p ++ [x]) H' ∧ nx ≤ nx' ∧ ∀ id, n0 ≤ id → id < nx → H' id = H id)
theorem piecesL_cons (x : Arc) (l : List Arc) : piecesL (x :: l) = piecesF x ++ piecesL l := by unfold piecesL; rw [List.flatMap_cons]
theorem pieces_ok (A : List Arc) : OKv cx 123 [lArc A] (.clo 131 [.iptr [lArc A] 0]) := by
  refine OKat.of_body (rs := [2]) Tryd.func123 rfl (by decide +kernel) rfl (by simp [Tryd.ntmps123]) ?_
  simp only [Tryd.ntmps123]
  repeat' first
    | apply AW.seq | apply AW.region | apply AW.ret | apply AW.block | apply AW.skip | apply AW.exit | apply AW.scope | apply AW.label | apply AWL.nil
    | ((first | (apply W.step cx_ok; decide) | apply AW.cond); (simp (disch := omega) only [push_cast, simprocAttr] <;> rfl); all_goals try ((with_reducible intro hI); try first | (cases hI; done) | (simp only [INTS, not_true_eq_false] at hI; try first | (exfalso; omega) | (have hT : True := hI; clear hT hI))))
    | ((first | apply W.ret1 | apply W.end1); (iterate 2 (try (simp (disch := omega) only [push_cast, simprocAttr] <;> rfl))))

  all_goals (show _ = _; rfl)
theorem pieces1_ok (A : List Arc) (hv : ∀ x ∈ A, validA x = true) (hA : A.length ≤ 1000000) (l n0 M : Nat) {J : List Span → (Nat → Option AO) → Prop} (hJ : Yl l n0 M J) (H : Nat → Option AO) (nx : Nat) (hnx : n0 ≤ nx) (hJ0 : J [] H) (hM : (piecesL A).length ≤ M) :
    OKm cx 131 [.v (.func (.yield l) #[] #[]), .iptr [lArc A] 0] H nx (fun _ H' nx' => J (piecesL A) H' ∧ n0 ≤ nx') := by
  obtain ⟨RES, hRES⟩ : ∃ z, piecesL A = z := ⟨_, rfl⟩
  rw [hRES] at hM ⊢
  refine OKm.of_body cx_ok (rs := []) Tryd.func131 rfl (by decide +kernel) rfl (by simp [Tryd.ntmps131]) ?_
  simp only [Tryd.ntmps131]
  repeat' first
    | apply AW.seq | apply AW.region | apply AW.ret | apply AW.block | apply AW.skip | apply AW.exit | apply AW.scope | apply AW.label | apply AWL.nil
    | ((first | (apply W.step cx_ok; decide) | apply W.store cx_ok | (apply W.gS; rfl; decide) | apply AW.cond); (simp (disch := omega) only [push_cast, simprocAttr] <;> rfl); all_goals try ((with_reducible intro hI); try first | (cases hI; done) | (simp only [INTS, not_true_eq_false] at hI; try first | (exfalso; omega) | (have hT : True := hI; clear hT hI))))
    | ((first | apply W.retC | apply W.endC' | apply W.retM | apply W.endM' | apply W.ret1 | apply W.end1 | apply W.ret2 | apply W.end2 | apply W.ret3 | apply W.end3 | apply W.ret0 | apply W.end0); (iterate 2 (try (simp (disch := omega) only [push_cast, simprocAttr] <;> rfl))))
  refine AW.loop (fun n s => ∃ (k : Nat) (p : List Span) (rest : List Arc), n = rest.length ∧ (A.drop k = rest) ∧ (p ++ piecesL rest = RES) ∧ (J p s.H) ∧ n0 ≤ s.nx ∧ s.tm 0 = .v (.func (.yield l) #[] #[]) ∧ s.tm 1 = .iptr [lArc A] 0 ∧ s.tm 6 = lArc A ∧ s.tm 7 = ai A.length ∧ s.tm 8 = ai k) (A.length) ⟨0, [], A, rfl, rfl, (by rw [hRES]; rfl), (by (try simp (disch := omega) only [push_cast, simprocAttr]); (repeat (refine hJ.frame _ _ _ _ ?_ (by omega))); exact hJ0), ?_, ?_, ?_, ?_, ?_, ?_⟩ ?_
  iterate 6 (first | (simp (disch := omega) only [push_cast, simprocAttr] <;> first | rfl | omega) | omega)
  rintro n1 s1 ⟨k1, p1, rest1, hn1, hp01, hp11, hp21, hnl1, hS1⟩
  rcases rest1 with _ | ⟨x, rest1⟩
  · have hk := drop_nil hp01
    have hq : p1 = RES := by rw [← hp11]; simp [piecesL]
    repeat' first
      | apply AW.seq | apply AW.region | apply AW.ret | apply AW.block | apply AW.skip | apply AW.exit | apply AW.scope | apply AW.label | apply AWL.nil
      | ((first | (apply W.step cx_ok; decide) | apply W.store cx_ok | (apply W.gS; rfl; decide) | apply AW.cond); (simp (disch := omega) only [push_cast, simprocAttr, hS1, hk, natNe, List.mem_cons, List.not_mem_nil, TyD.isAgg, Nat.add_assoc, Bool.false_eq_true] <;> rfl); all_goals try ((with_reducible intro hI); try first | (cases hI; done) | (simp only [INTS, not_true_eq_false] at hI; try first | (exfalso; omega) | (have hT : True := hI; clear hT hI))))
      | ((first | apply W.retC | apply W.endC' | apply W.retM | apply W.endM' | apply W.ret1 | apply W.end1 | apply W.ret2 | apply W.end2 | apply W.ret3 | apply W.end3 | apply W.ret0 | apply W.end0); (iterate 2 (try (simp (disch := omega) only [push_cast, simprocAttr, hS1, hk, natNe, List.mem_cons, List.not_mem_nil, TyD.isAgg, Nat.add_assoc, Bool.false_eq_true] <;> rfl))))
    all_goals
      ((try simp only [thenQ, blockQ, loopQ, scopeQ, if_true, reduceIte])
       first | apply W.retX (vs := []) | apply W.endX (vs := [])
       · rfl
       refine ⟨?_, ?_⟩
       · rw [← hq]; exact hp21
       · exact hnl1)
  · obtain ⟨hk, hg, hd', hl', hm', hx⟩ := drop_cons hp01 eArc []
    obtain ⟨v1, v2, v3, v4, v5⟩ := validA_iff.1 (hv x hm')
    rw [piecesL_cons, ← List.append_assoc] at hp11
    have hle : (p1 ++ piecesF x).length ≤ M := by
      have := congrArg List.length hp11
      rw [List.length_append] at this
      omega
    by_cases he : x.from_ + x.len < 43200
    · have hpf : piecesF x = [⟨x.from_, x.from_ + x.len⟩] := by unfold piecesF; rw [if_pos he]
      rw [hpf] at hp11 hle
      rw [List.length_append, List.length_singleton] at hle
      repeat' first
        | apply AW.seq | apply AW.region | apply AW.ret | apply AW.block | apply AW.skip | apply AW.exit | apply AW.scope | apply AW.label | apply AWL.nil
        | ((first | (apply W.step cx_ok; decide) | apply W.store cx_ok | (apply W.gS; rfl; decide) | apply AW.cond); (simp (disch := omega) only [push_cast, simprocAttr, hS1, hk, hg, hx, he, natNe, List.mem_cons, List.not_mem_nil, TyD.isAgg, Nat.add_assoc, Bool.false_eq_true] <;> rfl); all_goals try ((with_reducible intro hI); try first | (cases hI; done) | (simp only [INTS, not_true_eq_false] at hI; try first | (exfalso; omega) | (have hT : True := hI; clear hT hI))))
        | ((first | apply W.retC | apply W.endC' | apply W.retM | apply W.endM' | apply W.ret1 | apply W.end1 | apply W.ret2 | apply W.end2 | apply W.ret3 | apply W.end3 | apply W.ret0 | apply W.end0); (iterate 2 (try (simp (disch := omega) only [push_cast, simprocAttr, hS1, hk, hg, hx, he, natNe, List.mem_cons, List.not_mem_nil, TyD.isAgg, Nat.add_assoc, Bool.false_eq_true] <;> rfl))))
      refine W.yield (by decide) (by simp (disch := omega) only [push_cast, simprocAttr, hS1, hk, hg, hx, he, natNe, List.mem_cons, List.not_mem_nil, TyD.isAgg, Nat.add_assoc, Bool.false_eq_true] <;> rfl) (va := [.agg (eSpan ⟨x.from_, x.from_ + x.len⟩)]) (by simp (disch := omega) only [push_cast, simprocAttr, hS1, hk, hg, hx, he, natNe, List.mem_cons, List.not_mem_nil, TyD.isAgg, Nat.add_assoc, Bool.false_eq_true] <;> rfl) (hJ.y p1 _ _ ⟨x.from_, x.from_ + x.len⟩ (by (try simp (disch := omega) only [push_cast, simprocAttr]); (repeat (refine hJ.frame _ _ _ _ ?_ (by omega))); exact hp21) (show n0 ≤ s1.nx + 1 by omega) (by dsimp only; omega) (by dsimp only; omega) (by dsimp only; omega) (by omega)) ?_
      rintro b H2 nx2 ⟨rfl, hJ2, hn2q, hfr⟩
      have hn3 : s1.nx + 1 ≤ nx2 := hn2q
      repeat' first
        | apply AW.seq | apply AW.region | apply AW.ret | apply AW.block | apply AW.skip | apply AW.exit | apply AW.scope | apply AW.label | apply AWL.nil
        | ((first | (apply W.step cx_ok; decide) | apply W.store cx_ok | (apply W.gS; rfl; decide) | apply AW.cond); (simp (disch := omega) only [push_cast, simprocAttr, hS1, hk, hg, hx, he, natNe, List.mem_cons, List.not_mem_nil, TyD.isAgg, Nat.add_assoc, Bool.false_eq_true] <;> rfl); all_goals try ((with_reducible intro hI); try first | (cases hI; done) | (simp only [INTS, not_true_eq_false] at hI; try first | (exfalso; omega) | (have hT : True := hI; clear hT hI))))
        | ((first | apply W.retC | apply W.endC' | apply W.retM | apply W.endM' | apply W.ret1 | apply W.end1 | apply W.ret2 | apply W.end2 | apply W.ret3 | apply W.end3 | apply W.ret0 | apply W.end0); (iterate 2 (try (simp (disch := omega) only [push_cast, simprocAttr, hS1, hk, hg, hx, he, natNe, List.mem_cons, List.not_mem_nil, TyD.isAgg, Nat.add_assoc, Bool.false_eq_true] <;> rfl))))
      all_goals
        (refine ⟨rest1.length, ?_, k1 + 1, p1 ++ [⟨x.from_, x.from_ + x.len⟩], rest1, rfl, hd', hp11, (by (try simp (disch := omega) only [push_cast, simprocAttr]); (repeat (refine hJ.frame _ _ _ _ ?_ (by omega))); exact hJ2), ?_, ?_, ?_, ?_, ?_, ?_⟩; ((simp only [List.length_cons] at *; omega)); all_goals first | (simp (disch := omega) only [push_cast, simprocAttr, hS1, hk, hg, hx, he, natNe, List.mem_cons, List.not_mem_nil, TyD.isAgg, Nat.add_assoc, Bool.false_eq_true] <;> first | rfl | omega) | omega)
    · have hpf : piecesF x = [⟨x.from_, 43199⟩, ⟨0, x.from_ + x.len - 43200⟩] := by unfold piecesF; rw [if_neg he]
      rw [hpf] at hp11 hle
      rw [List.length_append] at hle
      simp only [List.length_cons, List.length_nil] at hle
      repeat' first
        | apply AW.seq | apply AW.region | apply AW.ret | apply AW.block | apply AW.skip | apply AW.exit | apply AW.scope | apply AW.label | apply AWL.nil
        | ((first | (apply W.step cx_ok; decide) | apply W.store cx_ok | (apply W.gS; rfl; decide) | apply AW.cond); (simp (disch := omega) only [push_cast, simprocAttr, hS1, hk, hg, hx, he, natNe, List.mem_cons, List.not_mem_nil, TyD.isAgg, Nat.add_assoc, Bool.false_eq_true] <;> rfl); all_goals try ((with_reducible intro hI); try first | (cases hI; done) | (simp only [INTS, not_true_eq_false] at hI; try first | (exfalso; omega) | (have hT : True := hI; clear hT hI))))
        | ((first | apply W.retC | apply W.endC' | apply W.retM | apply W.endM' | apply W.ret1 | apply W.end1 | apply W.ret2 | apply W.end2 | apply W.ret3 | apply W.end3 | apply W.ret0 | apply W.end0); (iterate 2 (try (simp (disch := omega) only [push_cast, simprocAttr, hS1, hk, hg, hx, he, natNe, List.mem_cons, List.not_mem_nil, TyD.isAgg, Nat.add_assoc, Bool.false_eq_true] <;> rfl))))
      refine W.yield (by decide) (by simp (disch := omega) only [push_cast, simprocAttr, hS1, hk, hg, hx, he, natNe, List.mem_cons, List.not_mem_nil, TyD.isAgg, Nat.add_assoc, Bool.false_eq_true] <;> rfl) (va := [.agg (eSpan ⟨x.from_, 43199⟩)]) (by simp (disch := omega) only [push_cast, simprocAttr, hS1, hk, hg, hx, he, natNe, List.mem_cons, List.not_mem_nil, TyD.isAgg, Nat.add_assoc, Bool.false_eq_true] <;> rfl) (hJ.y p1 _ _ ⟨x.from_, 43199⟩ (by (try simp (disch := omega) only [push_cast, simprocAttr]); (repeat (refine hJ.frame _ _ _ _ ?_ (by omega))); exact hp21) (show n0 ≤ s1.nx + 1 by omega) (by dsimp only; omega) (by dsimp only; omega) (by dsimp only; omega) (by omega)) ?_
      rintro b H2 nx2 ⟨rfl, hJ2, hn2q, hfr⟩
      have hn3 : s1.nx + 1 ≤ nx2 := hn2q
      repeat' first
        | apply AW.seq | apply AW.region | apply AW.ret | apply AW.block | apply AW.skip | apply AW.exit | apply AW.scope | apply AW.label | apply AWL.nil
        | ((first | (apply W.step cx_ok; decide) | apply W.store cx_ok | (apply W.gS; rfl; decide) | apply AW.cond); (simp (disch := omega) only [push_cast, simprocAttr, hS1, hk, hg, hx, he, natNe, List.mem_cons, List.not_mem_nil, TyD.isAgg, Nat.add_assoc, Bool.false_eq_true] <;> rfl); all_goals try ((with_reducible intro hI); try first | (cases hI; done) | (simp only [INTS, not_true_eq_false] at hI; try first | (exfalso; omega) | (have hT : True := hI; clear hT hI))))
        | ((first | apply W.retC | apply W.endC' | apply W.retM | apply W.endM' | apply W.ret1 | apply W.end1 | apply W.ret2 | apply W.end2 | apply W.ret3 | apply W.end3 | apply W.ret0 | apply W.end0); (iterate 2 (try (simp (disch := omega) only [push_cast, simprocAttr, hS1, hk, hg, hx, he, natNe, List.mem_cons, List.not_mem_nil, TyD.isAgg, Nat.add_assoc, Bool.false_eq_true] <;> rfl))))
      refine W.yield (by decide) (by simp (disch := omega) only [push_cast, simprocAttr, hS1, hk, hg, hx, he, natNe, List.mem_cons, List.not_mem_nil, TyD.isAgg, Nat.add_assoc, Bool.false_eq_true] <;> rfl) (va := [.agg (eSpan ⟨0, x.from_ + x.len - 43200⟩)]) (by simp (disch := omega) only [push_cast, simprocAttr, hS1, hk, hg, hx, he, natNe, List.mem_cons, List.not_mem_nil, TyD.isAgg, Nat.add_assoc, Bool.false_eq_true] <;> rfl) (hJ.y (p1 ++ [⟨x.from_, 43199⟩]) _ _ ⟨0, x.from_ + x.len - 43200⟩ (by (try simp (disch := omega) only [push_cast, simprocAttr]); (repeat (refine hJ.frame _ _ _ _ ?_ (by omega))); exact hJ2) (show n0 ≤ nx2 by omega) (by dsimp only; omega) (by dsimp only; omega) (by dsimp only; omega) (by rw [List.length_append, List.length_singleton]; omega)) ?_
      rintro b H3 nx3 ⟨rfl, hJ3, hn3q, hfr3⟩
      have hn4 : nx2 ≤ nx3 := hn3q
      have hJ4 : J (p1 ++ [⟨x.from_, 43199⟩, ⟨0, x.from_ + x.len - 43200⟩]) H3 := by rw [List.append_assoc] at hJ3; exact hJ3
      repeat' first
        | apply AW.seq | apply AW.region | apply AW.ret | apply AW.block | apply AW.skip | apply AW.exit | apply AW.scope | apply AW.label | apply AWL.nil
        | ((first | (apply W.step cx_ok; decide) | apply W.store cx_ok | (apply W.gS; rfl; decide) | apply AW.cond); (simp (disch := omega) only [push_cast, simprocAttr, hS1, hk, hg, hx, he, natNe, List.mem_cons, List.not_mem_nil, TyD.isAgg, Nat.add_assoc, Bool.false_eq_true] <;> rfl); all_goals try ((with_reducible intro hI); try first | (cases hI; done) | (simp only [INTS, not_true_eq_false] at hI; try first | (exfalso; omega) | (have hT : True := hI; clear hT hI))))
        | ((first | apply W.retC | apply W.endC' | apply W.retM | apply W.endM' | apply W.ret1 | apply W.end1 | apply W.ret2 | apply W.end2 | apply W.ret3 | apply W.end3 | apply W.ret0 | apply W.end0); (iterate 2 (try (simp (disch := omega) only [push_cast, simprocAttr, hS1, hk, hg, hx, he, natNe, List.mem_cons, List.not_mem_nil, TyD.isAgg, Nat.add_assoc, Bool.false_eq_true] <;> rfl))))
      all_goals
        (refine ⟨rest1.length, ?_, k1 + 1, p1 ++ [⟨x.from_, 43199⟩, ⟨0, x.from_ + x.len - 43200⟩], rest1, rfl, hd', hp11, (by (try simp (disch := omega) only [push_cast, simprocAttr]); (repeat (refine hJ.frame _ _ _ _ ?_ (by omega))); exact hJ4), ?_, ?_, ?_, ?_, ?_, ?_⟩; ((simp only [List.length_cons] at *; omega)); all_goals first | (simp (disch := omega) only [push_cast, simprocAttr, hS1, hk, hg, hx, he, natNe, List.mem_cons, List.not_mem_nil, TyD.isAgg, Nat.add_assoc, Bool.false_eq_true] <;> first | rfl | omega) | omega)
end Go.Proofs.Ds

namespace Go.Pg
open Go Go.RowKit
section
variable {C : Cx} {N : Nat} {Q : Exit → St → Prop} {s : St} {ops : Array Oper} {rest : List Oper} {o : Oper}
def NewR (row : Row) (r : AV) (H : Nat → Option AO) (nx : Nat) : Prop :=
  NewRow (· = row) r H nx ∨ (row.es = [] ∧ row.lo = 0 ∧ row.fro = false ∧ (r = .v (.slice none 0 0) ∨ ∃ i, r = .ref i 0 0 ∧ rowAt H i = some row))
end
section
variable {C : Cx} {N : Nat} {Q : Exit → St → Prop} {s : St} {ops : Array Oper} {rest : List Oper} {ty : TypeId} {ps : String} {af : Array Edge} {d : Nat}
variable {H0 : Nat → Option AO} {b : Nat} {tg mk av : List Nat} {Fin : St → Prop} {i : Nat}
end
end Go.Pg

namespace Go.Proofs.Ds
open Go Go.Pg Go.Proofs
theorem rnd_ok (l : Nat) : (cx.rnd l).OK := ⟨cx_ok.T, cx_ok.eqT, cx_ok.E⟩
theorem rnd_mixed (l : Nat) : (cx.rnd l).P.follows .mixedOrders = true := cx_mixed
theorem awk_gen {C : Cx} {N : Nat} {y z : Code} {Q : Exit → St → Prop} {s : St} (G : St → Prop) (hG : G s) (h : ∀ t, G t → AWk C N y z Q t) : AWk C N y z Q s := h s hG
structure JD (l D : Nat) (L : Loop) (tm : Nat → AV) (p : List Span) (H : Nat → Option AO) : Prop where
  b : Pg.rowAt H 0 = some { k := 1, es := [[.ref 1 0 p.length]], ty := 107 }
  out : Pg.rowAt H 1 = some { k := 2, es := p.map eSpan, ty := 113, lo := p.length }
  dfr : H 2 = some (.mp (.dfr D (some [])) 0 [])
  rcd : H 3 = some (.mp (.loop l L) 0 (keepT 13 tm))
theorem JD.frame {l D : Nat} {L : Loop} {tm : Nat → AV} (p : List Span) (H : Nat → Option AO) (id : Nat) (o : AO) (h : JD l D L tm p H) (hid : 4 ≤ id) : JD l D L tm p (updH H id o) := by
  obtain ⟨h0, h1, h2, h3⟩ := h
  have e : ∀ j, j < 4 → updH H id o j = H j := fun j hj => by simp only [updH]; rw [if_neg (by omega)]
  exact ⟨(rowAt_eqH (e 0 (by omega))).trans h0, (rowAt_eqH (e 1 (by omega))).trans h1, (e 2 (by omega)).trans h2, (e 3 (by omega)).trans h3⟩
abbrev rowP (A : List Arc) : Row := { k := 2, es := (piecesL A).map eSpan, ty := 113, lo := (piecesL A).length }
theorem AppendSeq_m (A : List Arc) (hv : ∀ x ∈ A, validA x = true) (hA : A.length ≤ 1000000) (hP : (piecesL A).length ≤ 2000000) : OKm cx 135 [.v (.slice none 0 0), .clo 131 [.iptr [lArc A] 0]] (fun _ => none) 0 (NewR (rowP A)) := by
  refine OKm.of_bodyX cx_ok (rs := [.tmp 4]) Tryd.func135 rfl (by decide +kernel) rfl (by simp [Tryd.ntmps135]) ?_
  simp only [Tryd.ntmps135]
  refine AWx.seqS ?_
  repeat' first
    | apply AW.seq | apply AW.region | apply AW.ret | apply AW.block | apply AW.skip | apply AW.exit | apply AW.scope | apply AW.label | apply AWL.nil
    | ((first | (apply W.step cx_ok; decide) | apply W.store cx_ok | apply AW.cond); (simp (disch := (first | omega | (simp only [List.length_append, List.length_map, List.length_cons, List.length_nil, List.length_take, List.length_drop]; omega))) only [push_cast, simprocAttr, takeM, dropM, List.take_length, List.length_take, List.length_drop, List.all_append, List.all_cons, List.all_nil, Bool.and_true, Bool.and_self, and_self, and_true, true_and, leT, List.take_of_length_le, pureL, pureA, natNe, List.mem_cons, List.not_mem_nil, TyD.isAgg, Nat.add_assoc, isEmpty_map, List.isEmpty_cons, Bool.false_eq_true, List.map_append, List.map_cons, List.map_nil, List.length_append, List.length_cons, List.length_nil, Nat.zero_add] <;> rfl); all_goals try ((with_reducible intro hI); try first | (cases hI; done) | (simp only [INTS, not_true_eq_false] at hI; try first | (exfalso; omega) | (have hT : True := hI; clear hT hI))))
    | (apply W.append cx_ok; decide; rfl; rfl; rfl; decide; (iterate 3 (simp (disch := (first | omega | (simp only [List.length_append, List.length_map, List.length_cons, List.length_nil, List.length_take, List.length_drop]; omega))) only [push_cast, simprocAttr, takeM, dropM, List.take_length, List.length_take, List.length_drop, List.all_append, List.all_cons, List.all_nil, Bool.and_true, Bool.and_self, and_self, and_true, true_and, leT, List.take_of_length_le, pureL, pureA, natNe, List.mem_cons, List.not_mem_nil, TyD.isAgg, Nat.add_assoc, isEmpty_map, List.isEmpty_cons, Bool.false_eq_true, List.map_append, List.map_cons, List.map_nil, List.length_append, List.length_cons, List.length_nil, Nat.zero_add] <;> rfl)); (first | (focus (simp; done)) | (intro c hc; obtain ⟨x, _, rfl⟩ := List.mem_map.1 hc; rfl)); ((first | rfl | simp (disch := omega) only [push_cast])); ((try dsimp only); (try simp only [List.length_map, List.length_append, List.length_cons, List.length_nil, List.length_take, List.length_drop]); omega); ((try dsimp only); (try simp only [List.length_map, List.length_append, List.length_cons, List.length_nil, List.length_take, List.length_drop]); omega))


  refine Pg.Stop.mk ?_
  refine AWx.ofk (AWk.seqS ?_)
  refine AW.adoptCell 0 0 0 2 113 (r := { k := 1, es := [[.v (.slice none 0 0)]], ty := 107 }) (by simp (disch := omega) only [push_cast, simprocAttr, natNe, List.mem_cons, List.not_mem_nil, TyD.isAgg, Nat.add_assoc, isEmpty_map, List.isEmpty_cons, Bool.false_eq_true, List.map_append, List.map_cons, List.map_nil, List.length_append, List.length_cons, List.length_nil, Nat.zero_add] <;> rfl) rfl ?_
  repeat' first
    | apply AW.seq | apply AW.region | apply AW.ret | apply AW.block | apply AW.skip | apply AW.exit | apply AW.scope | apply AW.label | apply AWL.nil
    | ((first | (apply W.step cx_ok; decide) | apply W.store cx_ok | apply AW.cond); (simp (disch := (first | omega | (simp only [List.length_append, List.length_map, List.length_cons, List.length_nil, List.length_take, List.length_drop]; omega))) only [push_cast, simprocAttr, takeM, dropM, List.take_length, List.length_take, List.length_drop, List.all_append, List.all_cons, List.all_nil, Bool.and_true, Bool.and_self, and_self, and_true, true_and, leT, List.take_of_length_le, pureL, pureA, natNe, List.mem_cons, List.not_mem_nil, TyD.isAgg, Nat.add_assoc, isEmpty_map, List.isEmpty_cons, Bool.false_eq_true, List.map_append, List.map_cons, List.map_nil, List.length_append, List.length_cons, List.length_nil, Nat.zero_add] <;> rfl); all_goals try ((with_reducible intro hI); try first | (cases hI; done) | (simp only [INTS, not_true_eq_false] at hI; try first | (exfalso; omega) | (have hT : True := hI; clear hT hI))))
    | (apply W.append cx_ok; decide; rfl; rfl; rfl; decide; (iterate 3 (simp (disch := (first | omega | (simp only [List.length_append, List.length_map, List.length_cons, List.length_nil, List.length_take, List.length_drop]; omega))) only [push_cast, simprocAttr, takeM, dropM, List.take_length, List.length_take, List.length_drop, List.all_append, List.all_cons, List.all_nil, Bool.and_true, Bool.and_self, and_self, and_true, true_and, leT, List.take_of_length_le, pureL, pureA, natNe, List.mem_cons, List.not_mem_nil, TyD.isAgg, Nat.add_assoc, isEmpty_map, List.isEmpty_cons, Bool.false_eq_true, List.map_append, List.map_cons, List.map_nil, List.length_append, List.length_cons, List.length_nil, Nat.zero_add] <;> rfl)); (first | (focus (simp; done)) | (intro c hc; obtain ⟨x, _, rfl⟩ := List.mem_map.1 hc; rfl)); ((first | rfl | simp (disch := omega) only [push_cast])); ((try dsimp only); (try simp only [List.length_map, List.length_append, List.length_cons, List.length_nil, List.length_take, List.length_drop]); omega); ((try dsimp only); (try simp only [List.length_map, List.length_append, List.length_cons, List.length_nil, List.length_take, List.length_drop]); omega))


  refine Pg.Stop.mk ?_
  refine awk_gen (fun t => t.tm 2 = .ptr 0 0 0 1 ∧ t.tm 6 = .clo 131 [.iptr [lArc A] 0] ∧ t.nx = 2 ∧ Pg.rowAt t.H 0 = some { k := 1, es := [[.ref 1 0 0]], ty := 107 } ∧ Pg.rowAt t.H 1 = some { k := 2, es := [], ty := 113 }) ⟨?_, ?_, ?_, ?_, ?_⟩ ?_
  iterate 5 (simp (disch := omega) only [push_cast, simprocAttr, natNe, List.mem_cons, List.not_mem_nil, TyD.isAgg, Nat.add_assoc, isEmpty_map, List.isEmpty_cons, Bool.false_eq_true, List.map_append, List.map_cons, List.map_nil, List.length_append, List.length_cons, List.length_nil, Nat.zero_add] <;> rfl)
  rintro t ⟨ht2, ht6, htnx, h0, h1⟩
  refine AWk.range (f := 131) (caps := [.iptr [lArc A] 0]) ht6 fun Dn l fn => ?_
  rw [htnx]
  refine OKm.mono (pieces1_ok A hv hA l 4 (piecesL A).length (J := JD l Dn ?L t.tm) ?hJ _ _ (Nat.le_refl _) ?hJ0 (Nat.le_refl _)) ?post
  case hJ0 =>
    refine ⟨?_, ?_, rfl, ?_⟩
    · simp only [rowAt_updM]; simpa using h0
    · simp only [rowAt_updM]; simpa using h1
    · exact (if_pos rfl : (if (3 : Nat) = 2 + 1 then _ else _) = _)
  case hJ =>
    refine ⟨fun p G id o hp hid => JD.frame p G id o hp hid, fun p G m x hJ hm hx0 hx1 hx2 hlen => ?_⟩
    obtain ⟨b0, out, hdf, hrc⟩ := hJ
    have hpl : p.length < 2000000 := by omega
    refine YOK.of_body (id := 3) (args := [.agg (eSpan x)]) hrc rfl rfl (by intro p hp; have : p = 7 := (by simpa using hp); subst this; decide) ?_
    show AW (cx.rnd l) 13 _ _ { tm := upd (cutT 13 t.tm) 7 (.agg (eSpan x)), H := G, nx := m }
    have hc2 : cutT 13 t.tm 2 = .ptr 0 0 0 1 := by simp [cutT, ht2]
    refine AW.fresh fun hfrG0 => ?_
    have hfrG : ∀ id, m ≤ id → G id = none := hfrG0
    repeat' first
      | apply AW.seq | apply AW.region | apply AW.ret | apply AW.block | apply AW.skip | apply AW.exit | apply AW.scope | apply AW.label | apply AWL.nil
      | refine W.draw (rnd_mixed l) (by decide +kernel) ?_
      | ((first | (apply W.step (rnd_ok l); decide) | (apply D.step (rnd_ok l); decide; decide) | apply W.store (rnd_ok l) | apply AW.cond); (simp (disch := (first | omega | (simp only [List.length_append, List.length_map, List.length_cons, List.length_nil, List.length_take, List.length_drop, List.length_nil]; omega))) only [push_cast, simprocAttr, takeM, dropM, List.take_length, List.length_take, List.length_drop, List.all_append, List.all_cons, List.all_nil, Bool.and_true, Bool.and_self, and_self, and_true, true_and, leT, List.take_of_length_le, pureL, pureA, Cx.rnd, hc2, b0, out, hrc, hdf, hfrG, natNe, List.mem_cons, List.not_mem_nil, TyD.isAgg, Nat.add_assoc, isEmpty_map, List.isEmpty_cons, Bool.false_eq_true, List.map_append, List.map_cons, List.map_nil, List.length_append, List.length_cons, List.length_nil, Nat.zero_add] <;> rfl); all_goals try ((with_reducible intro hI); try first | (cases hI; done) | (simp only [INTS, not_true_eq_false] at hI; try first | (exfalso; omega) | (have hT : True := hI; clear hT hI))))
      | (apply W.append (rnd_ok l); decide; rfl; rfl; rfl; decide; (iterate 3 (simp (disch := (first | omega | (simp only [List.length_append, List.length_map, List.length_cons, List.length_nil, List.length_take, List.length_drop, List.length_nil]; omega))) only [push_cast, simprocAttr, takeM, dropM, List.take_length, List.length_take, List.length_drop, List.all_append, List.all_cons, List.all_nil, Bool.and_true, Bool.and_self, and_self, and_true, true_and, leT, List.take_of_length_le, pureL, pureA, Cx.rnd, hc2, b0, out, hrc, hdf, hfrG, natNe, List.mem_cons, List.not_mem_nil, TyD.isAgg, Nat.add_assoc, isEmpty_map, List.isEmpty_cons, Bool.false_eq_true, List.map_append, List.map_cons, List.map_nil, List.length_append, List.length_cons, List.length_nil, Nat.zero_add] <;> rfl)); (first | (focus (simp; done)) | (intro c hc; obtain ⟨x, _, rfl⟩ := List.mem_map.1 hc; rfl)); ((first | rfl | simp (disch := omega) only [push_cast])); ((try dsimp only); (try simp only [List.length_map, List.length_append, List.length_cons, List.length_nil, List.length_take, List.length_drop, List.length_nil]); omega); ((try dsimp only); (try simp only [List.length_map, List.length_append, List.length_cons, List.length_nil, List.length_take, List.length_drop, List.length_nil]); omega))


    refine ⟨?_, ?_⟩
    · (simp (disch := omega) only [push_cast, simprocAttr, Cx.rnd, hc2, b0, out, hrc, hdf, hfrG, natNe, List.mem_cons, List.not_mem_nil, TyD.isAgg, Nat.add_assoc, isEmpty_map, List.isEmpty_cons, Bool.false_eq_true, List.map_append, List.map_cons, List.map_nil, List.length_append, List.length_cons, List.length_nil, Nat.zero_add])
    repeat' first
      | apply AW.seq | apply AW.region | apply AW.ret | apply AW.block | apply AW.skip | apply AW.exit | apply AW.scope | apply AW.label | apply AWL.nil
      | refine W.draw (rnd_mixed l) (by decide +kernel) ?_
      | ((first | (apply W.step (rnd_ok l); decide) | (apply D.step (rnd_ok l); decide; decide) | apply W.store (rnd_ok l) | apply AW.cond); (simp (disch := (first | omega | (simp only [List.length_append, List.length_map, List.length_cons, List.length_nil, List.length_take, List.length_drop, List.length_nil]; omega))) only [push_cast, simprocAttr, takeM, dropM, List.take_length, List.length_take, List.length_drop, List.all_append, List.all_cons, List.all_nil, Bool.and_true, Bool.and_self, and_self, and_true, true_and, leT, List.take_of_length_le, pureL, pureA, Cx.rnd, hc2, b0, out, hrc, hdf, hfrG, natNe, List.mem_cons, List.not_mem_nil, TyD.isAgg, Nat.add_assoc, isEmpty_map, List.isEmpty_cons, Bool.false_eq_true, List.map_append, List.map_cons, List.map_nil, List.length_append, List.length_cons, List.length_nil, Nat.zero_add] <;> rfl); all_goals try ((with_reducible intro hI); try first | (cases hI; done) | (simp only [INTS, not_true_eq_false] at hI; try first | (exfalso; omega) | (have hT : True := hI; clear hT hI))))
      | (apply W.append (rnd_ok l); decide; rfl; rfl; rfl; decide; (iterate 3 (simp (disch := (first | omega | (simp only [List.length_append, List.length_map, List.length_cons, List.length_nil, List.length_take, List.length_drop, List.length_nil]; omega))) only [push_cast, simprocAttr, takeM, dropM, List.take_length, List.length_take, List.length_drop, List.all_append, List.all_cons, List.all_nil, Bool.and_true, Bool.and_self, and_self, and_true, true_and, leT, List.take_of_length_le, pureL, pureA, Cx.rnd, hc2, b0, out, hrc, hdf, hfrG, natNe, List.mem_cons, List.not_mem_nil, TyD.isAgg, Nat.add_assoc, isEmpty_map, List.isEmpty_cons, Bool.false_eq_true, List.map_append, List.map_cons, List.map_nil, List.length_append, List.length_cons, List.length_nil, Nat.zero_add] <;> rfl)); (first | (focus (simp; done)) | (intro c hc; obtain ⟨x, _, rfl⟩ := List.mem_map.1 hc; rfl)); ((first | rfl | simp (disch := omega) only [push_cast])); ((try dsimp only); (try simp only [List.length_map, List.length_append, List.length_cons, List.length_nil, List.length_take, List.length_drop, List.length_nil]); omega); ((try dsimp only); (try simp only [List.length_map, List.length_append, List.length_cons, List.length_nil, List.length_take, List.length_drop, List.length_nil]); omega))


    all_goals
      (refine ⟨?_, rfl, ⟨?_, ?_, ?_, ?_⟩, ?_, fun i h1 h2 => ?_⟩
       all_goals first
         | (simp (disch := omega) only [push_cast, simprocAttr, Cx.rnd, hc2, b0, out, hrc, hdf, hfrG, natNe, List.mem_cons, List.not_mem_nil, TyD.isAgg, Nat.add_assoc, isEmpty_map, List.isEmpty_cons, Bool.false_eq_true, List.map_append, List.map_cons, List.map_nil, List.length_append, List.length_cons, List.length_nil, Nat.zero_add] <;> first | rfl | omega)
         | omega)
  case post =>
    rintro r G m ⟨⟨b0, out, hdf, hrc⟩, hm⟩
    obtain ⟨RES, hRES⟩ : ∃ z, piecesL A = z := ⟨_, rfl⟩
    rw [hRES] at b0 out hP
    refine ⟨_, hrc, by simp, ?_⟩
    show AW cx 13 _ _ _
    repeat' first
      | apply AW.seq | apply AW.region | apply AW.ret | apply AW.block | apply AW.skip | apply AW.exit | apply AW.scope | apply AW.label | apply AWL.nil
      | ((first | (apply W.step cx_ok; decide) | apply W.store cx_ok | apply AW.cond); (simp (disch := (first | omega | (simp only [List.length_append, List.length_map, List.length_cons, List.length_nil, List.length_take, List.length_drop]; omega))) only [push_cast, simprocAttr, takeM, dropM, List.take_length, List.length_take, List.length_drop, List.all_append, List.all_cons, List.all_nil, Bool.and_true, Bool.and_self, and_self, and_true, true_and, leT, List.take_of_length_le, pureL, pureA, b0, out, hdf, ht2, natNe, List.mem_cons, List.not_mem_nil, TyD.isAgg, Nat.add_assoc, isEmpty_map, List.isEmpty_cons, Bool.false_eq_true, List.map_append, List.map_cons, List.map_nil, List.length_append, List.length_cons, List.length_nil, Nat.zero_add] <;> rfl); all_goals try ((with_reducible intro hI); try first | (cases hI; done) | (simp only [INTS, not_true_eq_false] at hI; try first | (exfalso; omega) | (have hT : True := hI; clear hT hI))))
      | (apply W.append cx_ok; decide; rfl; rfl; rfl; decide; (iterate 3 (simp (disch := (first | omega | (simp only [List.length_append, List.length_map, List.length_cons, List.length_nil, List.length_take, List.length_drop]; omega))) only [push_cast, simprocAttr, takeM, dropM, List.take_length, List.length_take, List.length_drop, List.all_append, List.all_cons, List.all_nil, Bool.and_true, Bool.and_self, and_self, and_true, true_and, leT, List.take_of_length_le, pureL, pureA, b0, out, hdf, ht2, natNe, List.mem_cons, List.not_mem_nil, TyD.isAgg, Nat.add_assoc, isEmpty_map, List.isEmpty_cons, Bool.false_eq_true, List.map_append, List.map_cons, List.map_nil, List.length_append, List.length_cons, List.length_nil, Nat.zero_add] <;> rfl)); (first | (focus (simp; done)) | (intro c hc; obtain ⟨x, _, rfl⟩ := List.mem_map.1 hc; rfl)); ((first | rfl | simp (disch := omega) only [push_cast])); ((try dsimp only); (try simp only [List.length_map, List.length_append, List.length_cons, List.length_nil, List.length_take, List.length_drop]); omega); ((try dsimp only); (try simp only [List.length_map, List.length_append, List.length_cons, List.length_nil, List.length_take, List.length_drop]); omega))


    all_goals
      (refine ⟨?_, ?_⟩
       · (simp (disch := omega) only [push_cast, simprocAttr, b0, out, hdf, ht2, natNe, List.mem_cons, List.not_mem_nil, TyD.isAgg, Nat.add_assoc, isEmpty_map, List.isEmpty_cons, Bool.false_eq_true, List.map_append, List.map_cons, List.map_nil, List.length_append, List.length_cons, List.length_nil, Nat.zero_add] <;> rfl)
       intro H2 hH2
       have h3 : Pg.rowAt H2 1 = some { k := 2, es := RES.map eSpan, ty := 113, lo := RES.length } := (hH2 1).trans (by simp (disch := omega) only [push_cast, simprocAttr, b0, out, hdf, ht2, natNe, List.mem_cons, List.not_mem_nil, TyD.isAgg, Nat.add_assoc, isEmpty_map, List.isEmpty_cons, Bool.false_eq_true, List.map_append, List.map_cons, List.map_nil, List.length_append, List.length_cons, List.length_nil, Nat.zero_add] <;> rfl)
       apply W.retX (vs := [.ref 1 0 RES.length])
       · (simp (disch := omega) only [push_cast, simprocAttr, b0, out, hdf, ht2, natNe, List.mem_cons, List.not_mem_nil, TyD.isAgg, Nat.add_assoc, isEmpty_map, List.isEmpty_cons, Bool.false_eq_true, List.map_append, List.map_cons, List.map_nil, List.length_append, List.length_cons, List.length_nil, Nat.zero_add, h3] <;> rfl)
       · show NewR (rowP A) (.ref 1 0 RES.length) _ _
         unfold rowP
         rw [hRES]
         rcases RES with _ | ⟨y, RES⟩
         · exact .inr ⟨rfl, rfl, rfl, .inr ⟨1, rfl, h3⟩⟩
         · refine .inl ⟨1, { k := 2, es := (y :: RES).map eSpan, ty := 113, lo := (y :: RES).length }, by simp, h3, rfl, fun e he c hc => ?_, by simp, rfl⟩
           obtain ⟨z, _, rfl⟩ := List.mem_map.1 he
           simp at hc
           rcases hc with rfl | rfl <;> exact ⟨_, rfl⟩)
end Go.Proofs.Ds
