/-
  Contracts of functions, proved by going through their code. No conditions.
-/
import Derived.Tactics2
import Derived.Test.YtmcchoalekmklaaGreatZak
import Derived.Test.YtmcchoalekmklaaGreatZax
import Derived.Test.YtmcchoalekmklaaGreatZay
set_option linter.unusedVariables false
set_option linter.unusedSimpArgs false
set_option maxHeartbeats 8000000
set_option maxRecDepth 10000
namespace Go.Proofs.Ds
open Go Go.Pg Go.Proofs Go.Proofs.Yt
attribute [local push_cast] Bool.false_eq_true List.mem_cons List.not_mem_nil Nat.add_assoc TyD.isAgg natNe
structure Yl (l n0 M : Nat) (J : List Span → (Nat → Option AO) → Prop) : Prop where
  frame : ∀ p H id o, J p H → n0 ≤ id → J p (updH H id o)
  y : ∀ p H nx (x : Span), J p H → n0 ≤ nx → 0 ≤ x.lo → x.lo ≤ x.hi → x.hi ≤ 43199 → p.length < M →
    YOK cx l [.agg (eSpan x)] H nx (fun b H' nx' => b = true ∧ J (p ++ [x]) H' ∧ nx ≤ nx' ∧ ∀ id, n0 ≤ id → id < nx → H' id = H id)
theorem piecesL_cons (x : Arc) (l : List Arc) : piecesL (x :: l) = piecesF x ++ piecesL l := by unfold piecesL; rw [List.flatMap_cons]
theorem pieces_ok (A : List Arc) : OKv cx 78 [lArc A] (.clo 93 [.iptr [lArc A] 0]) := by
  refine OKat.of_body (rs := [2]) Tryz.func78 rfl (by decide +kernel) rfl (by simp [Tryz.ntmps78]) ?_
  simp only [Tryz.ntmps78]
  repeat' first
    | apply jA | apply jB | apply jC | apply jI
    | ((apply jK kO; decide); (simp (disch := omega) only [push_cast, simprocAttr] <;> rfl))
    | ((apply W.ret1); (iterate 2 (try (simp (disch := omega) only [push_cast, simprocAttr] <;> rfl))))

  all_goals (show _ = _; rfl)
theorem pieces1_ok (A : List Arc) (hv : ∀ x ∈ A, validA x = true) (hA : A.length ≤ 1000000) (l n0 M : Nat) {J : List Span → (Nat → Option AO) → Prop} (hJ : Yl l n0 M J) (H : Nat → Option AO) (nx : Nat) (hnx : n0 ≤ nx) (hJ0 : J [] H) (hM : (piecesL A).length ≤ M) :
    OKm cx 93 [.v (.func (.yield l) #[] #[]), .iptr [lArc A] 0] H nx (fun _ H' nx' => J (piecesL A) H' ∧ n0 ≤ nx') := by
  obtain ⟨RES, hRES⟩ : ∃ z, piecesL A = z := ⟨_, rfl⟩
  rw [hRES] at hM ⊢
  refine OKm.of_body kO (rs := []) Tryz.func93 rfl (by decide +kernel) rfl (by simp [Tryz.ntmps93]) ?_
  simp only [Tryz.ntmps93]
  repeat' first
    | apply jA | apply jB | apply jD | apply jI
    | ((apply jK kO; decide); (simp (disch := omega) only [push_cast, simprocAttr] <;> rfl))
  refine AW.loop (fun n s => ∃ (k : Nat) (p : List Span) (rest : List Arc), n = rest.length ∧ (A.drop k = rest) ∧ (p ++ piecesL rest = RES) ∧ (J p s.H) ∧ n0 ≤ s.nx ∧ s.tm 0 = .v (.func (.yield l) #[] #[]) ∧ s.tm 1 = .iptr [lArc A] 0 ∧ s.tm 6 = lArc A ∧ s.tm 7 = ai A.length ∧ s.tm 8 = ai k) (A.length) ⟨0, [], A, rfl, rfl, (by rw [hRES]; rfl), (by (try simp (disch := omega) only [push_cast, simprocAttr]); (repeat (refine hJ.frame _ _ _ _ ?_ (by omega))); exact hJ0), ?_, ?_, ?_, ?_, ?_, ?_⟩ ?_
  iterate 6 (first | (simp (disch := omega) only [push_cast, simprocAttr] <;> first | rfl | omega) | omega)
  rintro n1 s1 ⟨k1, p1, rest1, hn1, hp01, hp11, hp21, hnl1, hS1⟩
  rcases rest1 with _ | ⟨x, rest1⟩
  · have hk := drop_nil hp01
    have hq : p1 = RES := by rw [← hp11]; simp [piecesL]
    repeat' first
      | apply jA | apply jB | apply jF | apply jI
      | ((first | (apply jK kO; decide) | apply jR); (simp (disch := omega) only [push_cast, simprocAttr, hS1, hk] <;> rfl); all_goals try ((with_reducible intro hI); try first | (cases hI; done) | (simp only [INTS, zL] at hI; try first | (exfalso; omega) | (have hT : True := hI; clear hT hI))))
    all_goals
      ((try simp only [thenQ, blockQ, loopQ, scopeQ, if_true, reduceIte])
       first | apply W.retX (vs := []) | apply W.endX (vs := [])
       · rfl
       refine ⟨?_, ?_⟩
       · rw [← hq]; exact hp21
       · exact hnl1)
  · obtain ⟨hk, hg, hd', hl', hm', hx⟩ := drop_cons hp01 eArc []
    obtain ⟨v1, v2, v3, v4, v5⟩ := validA_iff.1 (hv x hm')
    rw [piecesL_cons, ← List.append_assoc] at hp11
    have hle : (p1 ++ piecesF x).length ≤ M := by
      have := congrArg List.length hp11
      rw [List.length_append] at this
      omega
    by_cases he : x.from_ + x.len < 43200
    · have hpf : piecesF x = [⟨x.from_, x.from_ + x.len⟩] := by unfold piecesF; rw [if_pos he]
      rw [hpf] at hp11 hle
      rw [List.length_append, List.length_singleton] at hle
      repeat' first
        | apply jA | apply jB | apply jD | apply jE | apply jI
        | ((first | (apply jK kO; decide) | apply jM kO | apply jR); (simp (disch := omega) only [push_cast, simprocAttr, hS1, hk, hg, hx, he] <;> rfl); all_goals try ((with_reducible intro hI); try first | (cases hI; done) | (simp only [INTS, zL] at hI; try first | (exfalso; omega) | (have hT : True := hI; clear hT hI))))
      refine W.yield (by decide) (by simp (disch := omega) only [push_cast, simprocAttr, hS1, hk, hg, hx, he] <;> rfl) (va := [.agg (eSpan ⟨x.from_, x.from_ + x.len⟩)]) (by simp (disch := omega) only [push_cast, simprocAttr, hS1, hk, hg, hx, he] <;> rfl) (hJ.y p1 _ _ ⟨x.from_, x.from_ + x.len⟩ (by (try simp (disch := omega) only [push_cast, simprocAttr]); (repeat (refine hJ.frame _ _ _ _ ?_ (by omega))); exact hp21) (show n0 ≤ s1.nx + 1 by omega) (by dsimp only; omega) (by dsimp only; omega) (by dsimp only; omega) (by omega)) ?_
      rintro b H2 nx2 ⟨rfl, hJ2, hn2q, hfr⟩
      have hn3 : s1.nx + 1 ≤ nx2 := hn2q
      repeat' first
        | apply jB | apply jE | apply jF | apply jI
        | ((first | (apply jK kO; decide) | apply jR); (simp (disch := omega) only [push_cast, simprocAttr, hS1, hk, hg, hx, he] <;> rfl); all_goals try ((with_reducible intro hI); try first | (cases hI; done) | (simp only [INTS, zL] at hI; try first | (exfalso; omega) | (have hT : True := hI; clear hT hI))))
      all_goals
        (refine ⟨rest1.length, ?_, k1 + 1, p1 ++ [⟨x.from_, x.from_ + x.len⟩], rest1, rfl, hd', hp11, (by (try simp (disch := omega) only [push_cast, simprocAttr]); (repeat (refine hJ.frame _ _ _ _ ?_ (by omega))); exact hJ2), ?_, ?_, ?_, ?_, ?_, ?_⟩; ((simp only [List.length_cons] at *; omega)); all_goals first | (simp (disch := omega) only [push_cast, simprocAttr, hS1, hk, hg, hx, he] <;> first | rfl | omega) | omega)
    · have hpf : piecesF x = [⟨x.from_, 43199⟩, ⟨0, x.from_ + x.len - 43200⟩] := by unfold piecesF; rw [if_neg he]
      rw [hpf] at hp11 hle
      rw [List.length_append] at hle
      simp only [List.length_cons, List.length_nil] at hle
      repeat' first
        | apply jA | apply jB | apply jD | apply jE | apply jI
        | ((first | (apply jK kO; decide) | apply jM kO | apply jR); (simp (disch := omega) only [push_cast, simprocAttr, hS1, hk, hg, hx, he] <;> rfl); all_goals try ((with_reducible intro hI); try first | (cases hI; done) | (simp only [INTS, zL] at hI; try first | (exfalso; omega) | (have hT : True := hI; clear hT hI))))
      refine W.yield (by decide) (by simp (disch := omega) only [push_cast, simprocAttr, hS1, hk, hg, hx, he] <;> rfl) (va := [.agg (eSpan ⟨x.from_, 43199⟩)]) (by simp (disch := omega) only [push_cast, simprocAttr, hS1, hk, hg, hx, he] <;> rfl) (hJ.y p1 _ _ ⟨x.from_, 43199⟩ (by (try simp (disch := omega) only [push_cast, simprocAttr]); (repeat (refine hJ.frame _ _ _ _ ?_ (by omega))); exact hp21) (show n0 ≤ s1.nx + 1 by omega) (by dsimp only; omega) (by dsimp only; omega) (by dsimp only; omega) (by omega)) ?_
      rintro b H2 nx2 ⟨rfl, hJ2, hn2q, hfr⟩
      have hn3 : s1.nx + 1 ≤ nx2 := hn2q
      repeat' first
        | ((first | (apply jK kO; decide) | (apply jN; rfl; decide)); (simp (disch := omega) only [push_cast, simprocAttr, hS1, hk, hg, hx, he] <;> rfl); all_goals try ((with_reducible intro hI); try first | (cases hI; done) | (simp only [INTS, zL] at hI; try first | (exfalso; omega) | (have hT : True := hI; clear hT hI))))
      refine W.yield (by decide) (by simp (disch := omega) only [push_cast, simprocAttr, hS1, hk, hg, hx, he] <;> rfl) (va := [.agg (eSpan ⟨0, x.from_ + x.len - 43200⟩)]) (by simp (disch := omega) only [push_cast, simprocAttr, hS1, hk, hg, hx, he] <;> rfl) (hJ.y (p1 ++ [⟨x.from_, 43199⟩]) _ _ ⟨0, x.from_ + x.len - 43200⟩ (by (try simp (disch := omega) only [push_cast, simprocAttr]); (repeat (refine hJ.frame _ _ _ _ ?_ (by omega))); exact hJ2) (show n0 ≤ nx2 by omega) (by dsimp only; omega) (by dsimp only; omega) (by dsimp only; omega) (by rw [List.length_append, List.length_singleton]; omega)) ?_
      rintro b H3 nx3 ⟨rfl, hJ3, hn3q, hfr3⟩
      have hn4 : nx2 ≤ nx3 := hn3q
      have hJ4 : J (p1 ++ [⟨x.from_, 43199⟩, ⟨0, x.from_ + x.len - 43200⟩]) H3 := by rw [List.append_assoc] at hJ3; exact hJ3
      repeat' first
        | apply jB | apply jE | apply jI
        | ((first | (apply jK kO; decide) | (apply jN; rfl; decide) | apply jR); (simp (disch := omega) only [push_cast, simprocAttr, hS1, hk, hg, hx, he] <;> rfl); all_goals try ((with_reducible intro hI); try first | (cases hI; done) | (simp only [INTS, zL] at hI; try first | (exfalso; omega) | (have hT : True := hI; clear hT hI))))
      all_goals
        (refine ⟨rest1.length, ?_, k1 + 1, p1 ++ [⟨x.from_, 43199⟩, ⟨0, x.from_ + x.len - 43200⟩], rest1, rfl, hd', hp11, (by (try simp (disch := omega) only [push_cast, simprocAttr]); (repeat (refine hJ.frame _ _ _ _ ?_ (by omega))); exact hJ4), ?_, ?_, ?_, ?_, ?_, ?_⟩; ((simp only [List.length_cons] at *; omega)); all_goals first | (simp (disch := omega) only [push_cast, simprocAttr, hS1, hk, hg, hx, he] <;> first | rfl | omega) | omega)
end Go.Proofs.Ds

namespace Go.Proofs.Ds
open Go Go.Pg Go.Proofs Go.Proofs.Yt
attribute [local push_cast] Bool.and_self Bool.and_true Bool.false_eq_true List.all_append List.all_cons List.all_nil List.isEmpty_cons List.length_append List.length_cons List.length_drop List.length_nil List.length_take List.map_append List.map_cons List.map_nil List.mem_cons List.not_mem_nil List.take_length List.take_of_length_le Nat.add_assoc Nat.zero_add TyD.isAgg and_self and_true dropM isEmpty_map leT natNe pureA pureL takeM true_and
theorem rnd_ok (l : Nat) : (cx.rnd l).OK := ⟨kO.T, kO.eqT, kO.E⟩
theorem rnd_mixed (l : Nat) : (cx.rnd l).P.follows .mixedOrders = true := cx_mixed
theorem awk_gen {C : Cx} {N : Nat} {y z : Code} {Q : Exit → St → Prop} {s : St} (G : St → Prop) (hG : G s) (h : ∀ t, G t → AWk C N y z Q t) : AWk C N y z Q s := h s hG
structure JD (l D : Nat) (L : Loop) (tm : Nat → AV) (p : List Span) (H : Nat → Option AO) : Prop where
  b : Pg.rowAt H 0 = some { k := 1, es := [[.ref 1 0 p.length]], ty := 71 }
  out : Pg.rowAt H 1 = some { k := 2, es := p.map eSpan, ty := 29, lo := p.length }
  dfr : H 2 = some (.mp (.dfr D (some [])) 0 [])
  rcd : H 3 = some (.mp (.loop l L) 0 (keepT 13 tm))
theorem JD.frame {l D : Nat} {L : Loop} {tm : Nat → AV} (p : List Span) (H : Nat → Option AO) (id : Nat) (o : AO) (h : JD l D L tm p H) (hid : 4 ≤ id) : JD l D L tm p (updH H id o) := by
  obtain ⟨h0, h1, h2, h3⟩ := h
  have e : ∀ j, j < 4 → updH H id o j = H j := fun j hj => by simp only [updH]; rw [if_neg (by omega)]
  exact ⟨(rowAt_eqH (e 0 (by omega))).trans h0, (rowAt_eqH (e 1 (by omega))).trans h1, (e 2 (by omega)).trans h2, (e 3 (by omega)).trans h3⟩
abbrev rowP (A : List Arc) : Row := { k := 2, es := (piecesL A).map eSpan, ty := 29, lo := (piecesL A).length }
theorem AppendSeq_m (A : List Arc) (hv : ∀ x ∈ A, validA x = true) (hA : A.length ≤ 1000000) (hP : (piecesL A).length ≤ 2000000) : OKm cx 96 [.v (.slice none 0 0), .clo 93 [.iptr [lArc A] 0]] (fun _ => none) 0 (NewR (rowP A)) := by
  refine OKm.of_bodyX kO (rs := [.tmp 4]) Tryz.func96 rfl (by decide +kernel) rfl (by simp [Tryz.ntmps96]) ?_
  simp only [Tryz.ntmps96]
  refine AWx.seqS ?_
  repeat' first
    | apply jB | apply jI
    | ((apply jK kO; decide); (simp (disch := (first | omega | (simp only [vC]; omega))) only [push_cast, simprocAttr] <;> rfl))


  refine Pg.Stop.mk ?_
  refine AWx.ofk (AWk.seqS ?_)
  refine AW.adoptCell 0 0 0 2 29 (r := { k := 1, es := [[.v (.slice none 0 0)]], ty := 71 }) (by simp (disch := omega) only [push_cast, simprocAttr] <;> rfl) rfl ?_
  repeat' first
    | apply jB | apply jI
    | ((apply jK kO; decide); (simp (disch := (first | omega | (simp only [vC]; omega))) only [push_cast, simprocAttr] <;> rfl))


  refine Pg.Stop.mk ?_
  refine awk_gen (fun t => t.tm 2 = .ptr 0 0 0 1 ∧ t.tm 6 = .clo 93 [.iptr [lArc A] 0] ∧ t.nx = 2 ∧ Pg.rowAt t.H 0 = some { k := 1, es := [[.ref 1 0 0]], ty := 71 } ∧ Pg.rowAt t.H 1 = some { k := 2, es := [], ty := 29 }) ⟨?_, ?_, ?_, ?_, ?_⟩ ?_
  iterate 5 (simp (disch := omega) only [push_cast, simprocAttr] <;> rfl)
  rintro t ⟨ht2, ht6, htnx, h0, h1⟩
  refine AWk.range (f := 93) (caps := [.iptr [lArc A] 0]) ht6 fun Dn l fn => ?_
  rw [htnx]
  refine OKm.mono (pieces1_ok A hv hA l 4 (piecesL A).length (J := JD l Dn ?L t.tm) ?hJ _ _ (Nat.le_refl _) ?hJ0 (Nat.le_refl _)) ?post
  case hJ0 =>
    refine ⟨?_, ?_, rfl, ?_⟩
    · simp only [rowAt_updM]; simpa using h0
    · simp only [rowAt_updM]; simpa using h1
    · exact (if_pos rfl : (if (3 : Nat) = 2 + 1 then _ else _) = _)
  case hJ =>
    refine ⟨fun p G id o hp hid => JD.frame p G id o hp hid, fun p G m x hJ hm hx0 hx1 hx2 hlen => ?_⟩
    obtain ⟨b0, out, hdf, hrc⟩ := hJ
    have hpl : p.length < 2000000 := by omega
    refine YOK.of_body (id := 3) (args := [.agg (eSpan x)]) hrc rfl rfl (by intro p hp; have : p = 7 := (by simpa using hp); subst this; decide) ?_
    show AW (cx.rnd l) 13 _ _ { tm := upd (cutT 13 t.tm) 7 (.agg (eSpan x)), H := G, nx := m }
    have hc2 : cutT 13 t.tm 2 = .ptr 0 0 0 1 := by simp [cutT, ht2]
    refine AW.fresh fun hfrG0 => ?_
    have hfrG : ∀ id, m ≤ id → G id = none := hfrG0
    repeat' first
      | apply jB | apply jI
      | ((first | (apply jK (rnd_ok l); decide) | apply jM (rnd_ok l)); (simp (disch := (first | omega | (simp only [vC]; omega))) only [push_cast, simprocAttr, Cx.rnd, hc2, b0, out, hrc, hdf, hfrG] <;> rfl))


    refine ⟨?_, ?_⟩
    · (simp (disch := omega) only [push_cast, simprocAttr, Cx.rnd, hc2, b0, out, hrc, hdf, hfrG])
    repeat' first
      | apply jB | apply jD | apply jI
      | ((first | (apply jK (rnd_ok l); decide) | apply jM (rnd_ok l)); (simp (disch := (first | omega | (simp only [vC]; omega))) only [push_cast, simprocAttr, Cx.rnd, hc2, b0, out, hrc, hdf, hfrG] <;> rfl))
      | (apply jT (rnd_ok l); decide; rfl; rfl; rfl; decide; (iterate 3 (simp (disch := (first | omega | (simp only [vC]; omega))) only [push_cast, simprocAttr, Cx.rnd, hc2, b0, out, hrc, hdf, hfrG] <;> rfl)); (first | (focus (simp; done)) | (intro c hc; obtain ⟨x, _, rfl⟩ := List.mem_map.1 hc; rfl)); ((first | rfl | simp (disch := omega) only [push_cast])); ((try dsimp only); (try simp only [vC]); omega); ((try dsimp only); (try simp only [vC]); omega))


    all_goals
      (refine ⟨?_, rfl, ⟨?_, ?_, ?_, ?_⟩, ?_, fun i h1 h2 => ?_⟩
       all_goals first
         | (simp (disch := omega) only [push_cast, simprocAttr, Cx.rnd, hc2, b0, out, hrc, hdf, hfrG] <;> first | rfl | omega)
         | omega)
  case post =>
    rintro r G m ⟨⟨b0, out, hdf, hrc⟩, hm⟩
    obtain ⟨RES, hRES⟩ : ∃ z, piecesL A = z := ⟨_, rfl⟩
    rw [hRES] at b0 out hP
    refine ⟨_, hrc, by simp, ?_⟩
    show AW cx 13 _ _ _
    repeat' first
      | apply jA | apply jB | apply jC | apply jI
      | ((apply jK kO; decide); (simp (disch := (first | omega | (simp only [vC]; omega))) only [push_cast, simprocAttr, b0, out, hdf, ht2] <;> rfl))


    all_goals
      (refine ⟨?_, ?_⟩
       · (simp (disch := omega) only [push_cast, simprocAttr, b0, out, hdf, ht2] <;> rfl)
       intro H2 hH2
       have h3 : Pg.rowAt H2 1 = some { k := 2, es := RES.map eSpan, ty := 29, lo := RES.length } := (hH2 1).trans (by simp (disch := omega) only [push_cast, simprocAttr, b0, out, hdf, ht2] <;> rfl)
       apply W.retX (vs := [.ref 1 0 RES.length])
       · (simp (disch := omega) only [push_cast, simprocAttr, b0, out, hdf, ht2, h3] <;> rfl)
       · show NewR (rowP A) (.ref 1 0 RES.length) _ _
         unfold rowP
         rw [hRES]
         rcases RES with _ | ⟨y, RES⟩
         · exact .inr ⟨rfl, rfl, rfl, .inr ⟨1, rfl, h3⟩⟩
         · refine .inl ⟨1, { k := 2, es := (y :: RES).map eSpan, ty := 29, lo := (y :: RES).length }, by simp, h3, rfl, fun e he c hc => ?_, by simp, rfl⟩
           obtain ⟨z, _, rfl⟩ := List.mem_map.1 he
           simp at hc
           rcases hc with rfl | rfl <;> exact ⟨_, rfl⟩)
end Go.Proofs.Ds

namespace Go.Proofs.Ds
open Go Go.Pg Go.Proofs Go.Proofs.Yt
attribute [local push_cast] Bool.and_self Bool.and_true Bool.false_eq_true List.all_append List.all_cons List.all_nil List.isEmpty_cons List.length_append List.length_cons List.length_drop List.length_nil List.length_take List.map_append List.map_cons List.map_nil List.mem_cons List.not_mem_nil List.take_length List.take_of_length_le Nat.add_assoc Nat.zero_add TyD.isAgg and_self and_true dropM isEmpty_map leT natNe pureA pureL takeM true_and
def jo (O rest : List Span) : List Span := if O = [] then joinS rest else O.take (O.length - 1) ++ joinC (O.getD (O.length - 1) default) rest
theorem jo_nil (O : List Span) : jo O [] = O := by
  unfold jo
  split
  · rename_i h; subst h; rfl
  · rename_i h
    have hp : O.length - 1 < O.length := by have := List.length_pos_iff.2 h; omega
    rw [joinC, List.getD_eq_getElem?_getD, List.getElem?_eq_getElem hp, Option.getD_some]
    have e : O.take (O.length - 1) ++ [O[O.length - 1]] = O.take (O.length - 1 + 1) := by rw [List.take_succ_eq_append_getElem hp]
    rw [e, List.take_of_length_le (by omega)]
theorem jo_first (s : Span) (rest : List Span) : jo [s] rest = jo [] (s :: rest) := by
  unfold jo
  rw [if_neg (by simp), if_pos rfl]; rfl
theorem jo_grow {O : List Span} {s : Span} {rest : List Span} (h : O ≠ []) (e : s.lo ≤ (O.getD (O.length - 1) default).hi + 1) : jo (O.set (O.length - 1) ⟨(O.getD (O.length - 1) default).lo, max (O.getD (O.length - 1) default).hi s.hi⟩) rest = jo O (s :: rest) := by
  have hp : O.length - 1 < O.length := by have := List.length_pos_iff.2 h; omega
  unfold jo
  rw [if_neg (by intro he; have := congrArg List.length he; simp at this; exact h this), if_neg h, List.length_set, List.take_set_of_le (by omega), joinC, if_pos e]
  congr 2
  rw [List.getD_eq_getElem?_getD, List.getElem?_set_self (by omega)]; rfl
theorem jo_push {O : List Span} {s : Span} {rest : List Span} (h : O ≠ []) (e : ¬ s.lo ≤ (O.getD (O.length - 1) default).hi + 1) : jo (O ++ [s]) rest = jo O (s :: rest) := by
  have hp : O.length - 1 < O.length := by have := List.length_pos_iff.2 h; omega
  have hO := jo_nil O
  unfold jo at hO ⊢
  rw [if_neg h, joinC] at hO
  rw [if_neg (by simp), if_neg h, joinC, if_neg e, List.length_append, List.length_singleton, Nat.add_sub_cancel, List.take_left, show (O ++ [s]).getD O.length default = s by simp [List.getD_eq_getElem?_getD]]
  conv => lhs; rw [← hO]
  rw [List.append_assoc]; rfl
theorem spans_ok (A : List Arc) (hv : ∀ x ∈ A, validA x = true) (hP : (piecesL A).length ≤ 1000000)
    (hsf : OKat cx 77 [.clo 93 [.iptr [lArc A] 0], .clo 79 []] (fun r => ∃ m : List Span, r = lSpan m ∧ m.Perm (piecesL A) ∧ m.Pairwise (fun s t => s.lo ≤ t.lo))) : OKv cx 67 [lArc A] (lSpan (spansS A)) := by
  have c1 := pieces_ok A
  refine OKat.of_body (rs := [2]) Tryz.func67 rfl (by decide +kernel) rfl (by simp [Tryz.ntmps67]) ?_
  simp only [Tryz.ntmps67]
  repeat' first
    | apply jA | apply jB | apply jI
    | ((apply jK kO; decide); (simp (disch := (first | omega | (simp only [vC]; omega))) only [push_cast, simprocAttr] <;> rfl))
    | ((apply jV kO; decide); (iterate 2 (simp (disch := (first | omega | (simp only [vC]; omega))) only [push_cast, simprocAttr] <;> rfl)); (with_reducible exact c1); try first | rfl | (simp (disch := (first | omega | (simp only [vC]; omega))) only [push_cast, simprocAttr] <;> rfl))

  refine W.call kO (by decide) (f := 77) (caps := []) (by simp (disch := omega) only [push_cast, simprocAttr] <;> rfl) (by simp (disch := omega) only [push_cast, simprocAttr] <;> rfl) hsf ?_
  rintro _ ⟨m, rfl, hp, hs⟩
  rw [← joined_eq hv hp hs]
  have hml : m.length ≤ 1000000 := by rw [hp.length_eq]; exact hP
  have hmi : ∀ s ∈ m, s.lo ≤ s.hi ∧ 0 ≤ s.lo ∧ s.hi ≤ 43199 := fun s h => piecesL_ok hv s (hp.subset h)
  clear hp hs hsf hP c1
  obtain ⟨RES, hRES⟩ : ∃ z, joinS m = z := ⟨_, rfl⟩
  rw [hRES]
  repeat' first
    | apply jA | apply jB | apply jD | apply jI
    | ((apply jK kO; decide); (simp (disch := (first | omega | (simp only [vC]; omega))) only [push_cast, simprocAttr, flatA, idsL, idsA] <;> rfl))

  refine AW.adopt 4 2 29 ?_ ?_
  · (simp (disch := omega) only [push_cast, simprocAttr] <;> rfl)
  refine AW.loop (fun n s => ∃ (k : Nat) (O : List Span) (rest : List Span), n = rest.length ∧ (m.drop k = rest) ∧ (jo O rest = RES) ∧ (O.length ≤ k) ∧ (k ≤ m.length) ∧ (∀ s ∈ O, 0 ≤ s.lo ∧ s.lo ≤ s.hi ∧ s.hi ≤ 43199) ∧ 1 ≤ s.nx ∧ s.tm 4 = .ref 0 0 O.length ∧ s.tm 11 = lSpan m ∧ s.tm 12 = ai m.length ∧ s.tm 13 = ai k ∧ Pg.rowAt s.H (0) = some ({ k := 2, es := O.map eSpan, ty := 29, lo := O.length })) (m.length) ⟨0, [], m, rfl, rfl, hRES, (Nat.zero_le _), (Nat.zero_le _), (fun s h => by cases h), ?_, ?_, ?_, ?_, ?_, ?_⟩ ?_
  iterate 6 (first | (simp (disch := omega) only [push_cast, simprocAttr] <;> first | rfl | omega) | omega)
  rintro n1 s1 ⟨k1, O1, rest1, hn1, hp01, hp11, hp21, hp31, hp41, hnl1, hS1⟩
  have hZ1 : (0 : Nat) ≠ s1.nx ∧ s1.nx ≠ (0 : Nat) := by omega
  rcases rest1 with _ | ⟨x, rest1⟩
  · have hk := drop_nil hp01
    rw [jo_nil] at hp11
    subst hp11
    repeat' first
      | apply jA | apply jB | apply jC | apply jF | apply jI
      | ((first | (apply jK kO; decide) | apply jR); (simp (disch := (first | omega | (simp only [vC]; omega))) only [push_cast, simprocAttr, hS1, hZ1, hk] <;> rfl); all_goals try ((with_reducible intro hI); try first | (cases hI; done) | (simp only [INTS, zL] at hI; try first | (exfalso; omega) | (have hT : True := hI; clear hT hI))))
      | ((apply W.ret1); (iterate 2 (try (simp (disch := (first | omega | (simp only [vC]; omega))) only [push_cast, simprocAttr, hS1, hZ1, hk] <;> rfl))))

    all_goals (show _ = _; rfl)
  obtain ⟨hk, hg, hd', hl', hm', hx⟩ := drop_cons hp01 eSpan []
  have hxi := hmi x hm'
  by_cases hz : O1 = []
  · subst hz
    repeat' first
      | apply jA | apply jB | apply jD | apply jE | apply jI | apply jJ
      | refine W.draw cx_mixed (by decide +kernel) ?_
      | ((first | (apply jK kO; decide) | (apply jL kO; decide; decide) | apply jM kO | (apply jO; rfl; decide; decide) | apply jR); (simp (disch := (first | omega | (simp only [vC]; omega))) only [push_cast, simprocAttr, hS1, hZ1, hk, hg, hx, Int.lt_irrefl, Bool.true_and, Bool.false_and, Bool.and_false, Bool.not_true, Bool.not_false] <;> rfl); all_goals try ((with_reducible intro hI); try first | (cases hI; done) | (simp only [INTS, zL] at hI; try first | (exfalso; omega) | (have hT : True := hI; clear hT hI))))
      | (apply jT kO; decide; rfl; rfl; rfl; decide; (iterate 3 (simp (disch := (first | omega | (simp only [vC]; omega))) only [push_cast, simprocAttr, hS1, hZ1, hk, hg, hx, Int.lt_irrefl, Bool.true_and, Bool.false_and, Bool.and_false, Bool.not_true, Bool.not_false] <;> rfl)); (first | (focus (simp; done)) | (intro c hc; obtain ⟨x, _, rfl⟩ := List.mem_map.1 hc; rfl)); ((first | rfl | simp (disch := omega) only [push_cast])); ((try dsimp only); (try simp only [vC]); omega); ((try dsimp only); (try simp only [vC]); omega))

    all_goals (refine ⟨rest1.length, ?_, k1 + 1, [x], rest1, rfl, hd', (by rw [jo_first]; exact hp11), (by simp), (by omega), (fun s h => by simp at h; subst h; omega), ?_, ?_, ?_, ?_, ?_, ?_⟩; ((simp only [List.length_cons] at *; omega)); all_goals first | (simp (disch := omega) only [push_cast, simprocAttr, hS1, hZ1, hk, hg, hx] <;> first | rfl | omega) | omega)
  have hpos : 0 < O1.length := List.length_pos_iff.2 hz
  obtain ⟨c, hc⟩ : ∃ c, O1[O1.length - 1]? = some c := ⟨_, List.getElem?_eq_getElem (by omega)⟩
  have hcd : O1.getD (O1.length - 1) default = c := by rw [List.getD_eq_getElem?_getD, hc]; rfl
  have hci := hp41 c (List.mem_of_getElem? hc)
  have gx : (O1.map eSpan)[O1.length - 1]? = some (eSpan c) := by rw [List.getElem?_map, hc]; rfl
  have gd : (O1.map eSpan).getD (O1.length - 1) [] = eSpan c := by rw [List.getD_eq_getElem?_getD, gx]; rfl
  have z0 : (0 : Int) < (O1.length : Int) := by omega
  have z1 : (0 : Int) ≤ (O1.length : Int) - 1 := by omega
  have z2 : (O1.length : Int) - 1 < (O1.length : Int) := by omega
  have z3 : ((O1.length : Int) - 1).toNat = O1.length - 1 := by omega
  have z4 : O1.length - 1 < O1.length := by omega
  by_cases hq : x.lo ≤ c.hi + 1
  · have hset : (O1.map eSpan).set (O1.length - 1) [ai c.lo, ai (max c.hi x.hi)] = (O1.set (O1.length - 1) ⟨c.lo, max c.hi x.hi⟩).map eSpan := by rw [List.map_set]
    have hj := jo_grow (rest := rest1) hz (by rw [hcd]; exact hq)
    rw [hcd, hp11] at hj
    have hin : ∀ s ∈ O1.set (O1.length - 1) ⟨c.lo, max c.hi x.hi⟩, 0 ≤ s.lo ∧ s.lo ≤ s.hi ∧ s.hi ≤ 43199 := fun s h => by
      rcases List.mem_or_eq_of_mem_set h with h | rfl
      · exact hp41 s h
      · dsimp only; omega
    obtain ⟨SM, hSM⟩ : ∃ z, O1.set (O1.length - 1) ⟨c.lo, max c.hi x.hi⟩ = z := ⟨_, rfl⟩
    have hsl : SM.length = O1.length := by rw [← hSM, List.length_set]
    rw [hSM] at hset hj hin
    repeat' first
      | apply jA | apply jB | apply jD | apply jE | apply jF | apply jI | apply jJ
      | refine AW.draw (id := 8) cx_mixed [14] [] [0] 0 (by decide +kernel) ?_
      | refine W.draw cx_mixed (by decide +kernel) ?_
      | ((first | (apply jK kO; decide) | (apply jL kO; decide; decide) | apply jM kO | (apply jO; rfl; decide; decide) | apply jR); (simp (disch := (first | omega | (simp only [vC]; omega))) only [push_cast, simprocAttr, hS1, hZ1, hk, hg, hx, hq, hset, hsl, z0, z1, z2, z3, z4, gx, gd, Bool.true_and, Bool.false_and, Bool.and_false, Bool.not_true, Bool.not_false] <;> rfl); all_goals try ((with_reducible intro hI); try first | (cases hI; done) | (simp only [INTS, zL] at hI; try first | (exfalso; omega) | (have hT : True := hI; clear hT hI))))
      | ((apply D.store kO; decide); (simp (disch := (first | omega | (simp only [vC]; omega))) only [push_cast, simprocAttr, hS1, hZ1, hk, hg, hx, hq, hset, hsl, z0, z1, z2, z3, z4, gx, gd, Bool.true_and, Bool.false_and, Bool.and_false, Bool.not_true, Bool.not_false] <;> rfl); try first | exact .inl rfl | exact .inr (by simp))

    all_goals (refine ⟨rest1.length, ?_, k1 + 1, SM, rest1, rfl, hd', hj, (by omega), (by omega), hin, ?_, ?_, ?_, ?_, ?_, ?_⟩; ((simp only [List.length_cons] at *; omega)); all_goals first | (simp (disch := omega) only [push_cast, simprocAttr, hS1, hZ1, hk, hg, hx, hset, hsl, z0, z1, z2, z3, z4, gx, gd] <;> first | rfl | omega) | omega)
  · have hj := jo_push (rest := rest1) hz (by rw [hcd]; exact hq)
    rw [hp11] at hj
    repeat' first
      | apply jA | apply jB | apply jD | apply jE | apply jI | apply jJ
      | refine W.draw cx_mixed (by decide +kernel) ?_
      | ((first | (apply jK kO; decide) | (apply jL kO; decide; decide) | apply jM kO | (apply jO; rfl; decide; decide) | apply jR); (simp (disch := (first | omega | (simp only [vC]; omega))) only [push_cast, simprocAttr, hS1, hZ1, hk, hg, hx, hq, z0, z1, z2, z3, z4, gx, gd, Bool.true_and, Bool.false_and, Bool.and_false, Bool.not_true, Bool.not_false] <;> rfl); all_goals try ((with_reducible intro hI); try first | (cases hI; done) | (simp only [INTS, zL] at hI; try first | (exfalso; omega) | (have hT : True := hI; clear hT hI))))
      | (apply jT kO; decide; rfl; rfl; rfl; decide; (iterate 3 (simp (disch := (first | omega | (simp only [vC]; omega))) only [push_cast, simprocAttr, hS1, hZ1, hk, hg, hx, hq, z0, z1, z2, z3, z4, gx, gd, Bool.true_and, Bool.false_and, Bool.and_false, Bool.not_true, Bool.not_false] <;> rfl)); (first | (focus (simp; done)) | (intro c hc; obtain ⟨x, _, rfl⟩ := List.mem_map.1 hc; rfl)); ((first | rfl | simp (disch := omega) only [push_cast])); ((try dsimp only); (try simp only [vC]); omega); ((try dsimp only); (try simp only [vC]); omega))

    all_goals (refine ⟨rest1.length, ?_, k1 + 1, (O1 ++ [x]), rest1, rfl, hd', hj, (by rw [List.length_append, List.length_singleton]; omega), (by omega), (fun s h => (List.mem_append.1 h).elim (hp41 s) (fun h => by simp at h; subst h; omega)), ?_, ?_, ?_, ?_, ?_, ?_⟩; ((simp only [List.length_cons] at *; omega)); all_goals first | (simp (disch := omega) only [push_cast, simprocAttr, hS1, hZ1, hk, hg, hx, z0, z1, z2, z3, z4, gx, gd] <;> first | rfl | omega) | omega)
end Go.Proofs.Ds

namespace Go.Proofs.Ds
open Go Go.Pg Go.Proofs Go.Proofs.Yt
attribute [local push_cast] Bool.false_eq_true List.mem_cons List.not_mem_nil Nat.add_assoc TyD.isAgg natNe
theorem Collect_m (A : List Arc) (hv : ∀ x ∈ A, validA x = true) (hA : A.length ≤ 1000000) (hP : (piecesL A).length ≤ 2000000) : OKm cx 91 [.clo 93 [.iptr [lArc A] 0]] (fun _ => none) 0 (NewR (rowP A)) := by
  refine OKm.of_body kO (rs := [.tmp 2]) Tryz.func91 rfl (by decide +kernel) rfl (by simp [Tryz.ntmps91]) ?_
  simp only [Tryz.ntmps91]
  repeat' first
    | apply jA | apply jB | apply jI
    | ((apply jK kO; decide); (simp (disch := omega) only [push_cast, simprocAttr] <;> rfl))


  refine W.callm kO (by decide) (f := 96) (caps := []) (by simp (disch := omega) only [push_cast, simprocAttr] <;> rfl) (by simp (disch := omega) only [push_cast, simprocAttr] <;> exact AppendSeq_m A hv hA hP) ?_
  rintro r H1 nx1 hN
  repeat' first
    | apply jC | apply jI
    | ((apply jK kO; decide); (simp (disch := omega) only [push_cast, simprocAttr] <;> rfl))


  all_goals
    (apply W.retX (vs := [r])
     · (simp (disch := omega) only [push_cast, simprocAttr] <;> rfl)
     · exact hN)
structure SpanB where
  sp : Span
  ok : 0 ≤ sp.lo ∧ sp.lo ≤ 43199 ∧ 0 ≤ sp.hi ∧ sp.hi ≤ 43199
instance : Inhabited SpanB := ⟨⟨⟨0, 0⟩, by decide⟩⟩
def encS (x : SpanB) : List Value := [.int .i64 x.sp.lo, .int .i64 x.sp.hi]
def leS (x y : SpanB) : Prop := x.sp.lo ≤ y.sp.lo
theorem view_list {α : Type} (f : α → List AV) {H : Nat → Option AO} {id k lw : Nat} {ty : TypeId} {l : List α} (hp : (l.map f).all pureL = true) (hlw : lw ≤ l.length) (h : Pg.rowAt H id = some { k := k, es := l.map f, ty := ty, lo := lw }) : viewA H (.ref id 0 l.length) = some (.lst (l.map f)) := by
  rw [view_ref, h]
  dsimp only
  rw [if_pos ⟨by omega, by simp, hp⟩, List.drop_zero, List.take_of_length_le (by simp)]
theorem encS_row (l : List SpanB) : (l.map fun x => (encS x).map AV.v) = (l.map SpanB.sp).map eSpan := by rw [List.map_map]; rfl
theorem toB : ∀ (l : List Span), (∀ s ∈ l, 0 ≤ s.lo ∧ s.lo ≤ 43199 ∧ 0 ≤ s.hi ∧ s.hi ≤ 43199) → ∃ m : List SpanB, m.map SpanB.sp = l
  | [], _ => ⟨[], rfl⟩
  | s :: l, h => by
    obtain ⟨m, hm⟩ := toB l fun t ht => h t (by simp [ht])
    exact ⟨⟨s, h s (by simp)⟩ :: m, by rw [List.map_cons, hm]⟩
theorem SortedFunc_ok (hS : SortKC Tryz.prog 92 79 encS 2 leS) (h0 : SortKC0 Tryz.prog 92) (A : List Arc) (hv : ∀ x ∈ A, validA x = true) (hA : A.length ≤ 1000000) (hP : (piecesL A).length ≤ 2000000) :
    OKat cx 77 [.clo 93 [.iptr [lArc A] 0], .clo 79 []] (fun r => ∃ m : List Span, r = lSpan m ∧ m.Perm (piecesL A) ∧ m.Pairwise (fun s t => s.lo ≤ t.lo)) := by
  refine OKm.toAt (Q := fun v H _ => ∃ m : List Span, viewA H v = some (lSpan m) ∧ m.Perm (piecesL A) ∧ m.Pairwise (fun s t => s.lo ≤ t.lo)) ?_ (fun r H nx hq => by
    obtain ⟨m, h1, h2, h3⟩ := hq
    exact ⟨_, h1, m, rfl, h2, h3⟩)
  have hent : Go.Pg.Enters Tryz.prog 92 := ⟨_, Tryz.func92, by decide +kernel, rfl⟩
  have hC := Collect_m A hv hA hP
  refine OKm.of_body kO (rs := [.tmp 4]) Tryz.func77 rfl (by decide +kernel) rfl (by simp [Tryz.ntmps77]) ?_
  simp only [Tryz.ntmps77]
  repeat' first
    | apply jA | apply jB | apply jI
    | ((apply jK kO; decide); (simp (disch := omega) only [push_cast, simprocAttr] <;> rfl))


  refine W.callm kO (by decide) (f := 91) (caps := []) (by simp (disch := omega) only [push_cast, simprocAttr] <;> rfl) (by simp (disch := omega) only [push_cast, simprocAttr] <;> exact hC) ?_
  rintro r H1 nx1 hN
  rcases hN with ⟨i, row1, hr, hrow, hfro, hflat, hne, hq⟩ | ⟨he, hl, hfro, hr⟩
  · subst hq
    obtain ⟨l, hl⟩ := toB (piecesL A) fun s hs => by have := piecesL_ok hv s hs; omega
    have hlen0 : (l.map SpanB.sp).length = l.length := List.length_map _
    have hrow2 : Pg.rowAt H1 i = some (rowK encS 2 29 l.length l) := by
      rw [hrow]
      unfold rowK
      rw [encS_row, hl, ← hlen0, hl]
    have hr2 : r = .ref i 0 l.length := by
      rw [hr, ← hlen0, hl]
      simp [rowP]
    have hln : l ≠ [] := fun e => hne (by subst e; simp [rowP, ← hl])
    have hlm : l.length ≤ 2000000 := by rw [← hlen0, hl]; exact hP
    have hso := fun nx => OKm.sortK (C := cx) (nx := nx) hent hS (fun _ => rfl) (fun x v hv => by simp [encS] at hv; rcases hv with rfl | rfl <;> rfl) hln (by omega) hrow2
    subst hr2
    repeat' first
      | apply jA | apply jB | apply jI
      | ((apply jK kO; decide); (simp (disch := omega) only [push_cast, simprocAttr] <;> rfl))


    refine W.callm kO (by decide) (f := 92) (caps := []) (by simp (disch := omega) only [push_cast, simprocAttr] <;> rfl) (by simp (disch := omega) only [push_cast, simprocAttr] <;> exact hso _) ?_
    rintro _ H2 nx2 ⟨rfl, rfl, m, hmp, hms, rfl⟩
    repeat' first
      | apply jA | apply jB | apply jC | apply jI
      | ((apply jK kO; decide); (simp (disch := omega) only [push_cast, simprocAttr] <;> rfl))


    all_goals
      (apply W.retX (vs := [.ref i 0 l.length])
       · (simp (disch := omega) only [push_cast, simprocAttr] <;> rfl)
       · refine ⟨m.map SpanB.sp, ?_, by rw [← hl]; exact hmp.map _, by rw [List.pairwise_map]; exact hms⟩
         have hlen : l.length = (m.map SpanB.sp).length := by rw [List.length_map, hmp.length_eq]
         show viewA _ (.ref i 0 l.length) = _
         rw [hlen]
         exact view_list eSpan (pure_spans _) (Nat.le_refl _) (k := 2) (ty := 29) (by
           simp only [St.put, putH, rowAt_upd, if_true]
           unfold rowK
           rw [encS_row]))
  · have hp0 : piecesL A = [] := by simpa [rowP] using he
    have hx : r = .v (.slice none 0 0) ∨ ∃ i, r = .ref i 0 0 ∧ Pg.rowAt H1 i = some (rowP A) := hr
    have hso := fun nx => OKm.sortK0 (C := cx) (g := 79) (x := r) (H := H1) (nx := nx) hent h0 (hx.imp id fun ⟨i, h, _⟩ => ⟨i, h⟩)
    repeat' first
      | apply jA | apply jB | apply jI
      | ((apply jK kO; decide); (simp (disch := omega) only [push_cast, simprocAttr] <;> rfl))


    refine W.callm kO (by decide) (f := 92) (caps := []) (by simp (disch := omega) only [push_cast, simprocAttr] <;> rfl) (by simp (disch := omega) only [push_cast, simprocAttr] <;> exact hso _) ?_
    rintro _ H2 nx2 ⟨rfl, rfl, rfl⟩
    repeat' first
      | apply jA | apply jB | apply jC | apply jI
      | ((apply jK kO; decide); (simp (disch := omega) only [push_cast, simprocAttr] <;> rfl))


    all_goals
      (apply W.retX (vs := [r])
       · (simp (disch := omega) only [push_cast, simprocAttr] <;> rfl)
       · refine ⟨[], ?_, by rw [hp0], List.Pairwise.nil⟩
         rcases hx with rfl | ⟨i, rfl, hrw⟩
         · rfl
         · exact view_list eSpan (l := []) rfl (Nat.le_refl _) (k := 2) (ty := 29) (lw := 0) (hrw.trans (by simp [rowP, hp0])))
end Go.Proofs.Ds

namespace Go.Proofs.Ds
open Go Go.Pg Go.Proofs Go.Proofs.Yt Go.RowKit Go.Sort Go.Lib
def cfS (x y : SpanB) : Int := x.sp.lo - y.sp.lo
theorem ltS (x y : SpanB) : ltOf cfS x y = decide (x.sp.lo < y.sp.lo) := by
  unfold ltOf cfS
  rw [Bool.eq_iff_iff]
  simp only [decide_eq_true_eq]
  omega
theorem swoS : SWO (ltOf cfS) where
  irrefl x := by rw [ltS]; simp
  trans x y z h1 h2 := by rw [ltS] at *; simp at *; omega
  ntrans x y z h1 h2 := by rw [ltS] at *; simp at *; omega
set_option maxHeartbeats 1000000 in
theorem cmp124 (x y : SpanB) (W : World) : Calls Tryz.prog 79 #[.agg #[.int .i64 x.sp.lo, .int .i64 x.sp.hi], .agg #[.int .i64 y.sp.lo, .int .i64 y.sp.hi]] W fun e w' => e = .returned (.int .i64 (cfS x y)) ∧ ∃ q os', w' = Go.Sort.grow (W.drewN q) os' := by
  have hw : IntKind.wrap .i64 (x.sp.lo - y.sp.lo) = cfS x y := by
    have := x.ok
    have := y.ok
    unfold cfS
    exact wrapN (by omega)
  generalize cfS x y = r at hw ⊢
  go_enter Tryz.func79, Tryz.ntmps79
  go_wp2
  go_ret
  exact ⟨by simp [hw], 0, _, by rw [alloc_eq_grow, alloc_eq_grow, Go.Sort.grow_grow]; rfl⟩
theorem agg113 (w : World) : (isAgg 29).run Tryz.prog w = .ok true w := Tryz.isAgg29 w
theorem size113 (w : World) : (Go.sizeOf 29).run Tryz.prog w = .ok 2 w := Tryz.sizeOf29 w
theorem sort130 : SortKC Tryz.prog 92 79 encS 2 leS := by
  intro blk cap zs w hH hblk hsz
  have eg : ∀ args w, (callFunc 79 args).run Tryz.prog w = .ok (.enter 79 args) w := enters_of Tryz.func79 (by kernel_rfl) rfl
  have h := AnyQ.slices_SortFunc Tryz.sortF 2 agg113 size113 encS (fun _ => rfl) (fun x v hv => by simp [encS] at hv; rcases hv with rfl | rfl <;> rfl) cfS swoS 79 #[] blk 0 cap zs.toArray w eg
    (fun _ _ _ _ x y => cmp124 x y _) hH hblk (by simpa using hsz)
  rw [show zs.toArray.size = zs.length by simp] at h
  refine h.mono ?_
  rintro e w' ⟨he, d', n, os, hp, hs, hw⟩
  obtain ⟨h1, h2, h3⟩ := hp
  have h1' : d'.size = zs.length := by rw [h1]; simp
  refine ⟨he, d'.toList, n, os, ?_, ?_, by rw [hw]; rfl⟩
  · have e1 : d'.extract 0 zs.length = d' := by rw [← h1']; exact Array.extract_size
    have e2 : zs.toArray.extract 0 zs.length = zs.toArray := by
      have : zs.length = zs.toArray.size := by simp
      rw [this]; exact Array.extract_size
    rw [e1, e2] at h3
    exact h3
  · rw [List.pairwise_iff_getElem]
    intro i j hi hj hij
    have hi' : i < d'.size := by simpa using hi
    have hj' : j < d'.size := by simpa using hj
    have hq := hs i j (Nat.zero_le _) hij (by omega)
    rw [getElem!_pos d' j hj', getElem!_pos d' i hi', ltS] at hq
    simp only [decide_eq_false_iff_not] at hq
    unfold leS
    simp only [Array.getElem_toList]
    omega
end Go.Proofs.Ds
