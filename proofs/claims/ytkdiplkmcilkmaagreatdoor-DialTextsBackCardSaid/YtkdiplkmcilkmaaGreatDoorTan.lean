/-
  Contracts of functions, proved by going through their code. No conditions.
-/
import Derived.Sort.Grow
import Derived.Lib.SlicesCompact
import Derived.Test.YtkdiplkmcilkmaaGreatDoorTak
import Derived.Test.YtkdiplkmcilkmaaGreatDoorTam
set_option linter.unusedVariables false
set_option linter.unusedSimpArgs false
namespace Go.Pg
open Go Go.RowKit
section
variable {C : Cx} {N : Nat} {Q : Exit → St → Prop} {s : St} {ops : Array Oper} {rest : List Oper} {ty : TypeId} {ps : String} {af : Array Edge} {d : Nat}
theorem run_equalIn_slice {P : Program} (w : World) (n : Nat) (t e : TypeId) (A : Option Addr) (k cap : Nat) (h : P.underlying t = some (.slice e)) : (Op.equalIn (n + 1) t (.slice A k cap) (.slice none 0 0)).run P w = .ok A.isNone w := by
  cases A <;> simp only [Op.equalIn, Sem.run_bind, run_underlying h, Result.andThen_ok, Sem.run_pure, Option.isNone]
theorem W.eqNil (hC : C.OK) (hN : d < N) {t t2 e : TypeId} {x y : Operand} {T : Ty} (hT : C.T t = some T) (hd : T.d = .slice e) {es : List (List AV)} (hx : s.ev x = .lst es) (hy : s.ev y = .v (.slice none 0 0))
    (k : ∀ b : Bool, (b = true → es = []) → AWL C N ops Q rest (s.put d (.v (.bool b)) none)) : AWL C N ops Q (⟨some d, .binOp .eql t x y t2, ty, ps, af, none⟩ :: rest) s := by
  rintro S0 w0 a w hE ⟨σ, hσ⟩
  have h1 := hσ.ev x
  have h2 := hσ.ev y
  rw [hx] at h1
  rw [hy] at h2
  simp only [Rep] at h1 h2
  obtain ⟨A, cap, kk, hu, g1, g2, g3, g4⟩ := h1
  have hun := (hC.T t _ hT).slice hd
  have hrun : (execOp a.eval ⟨some d, .binOp .eql t x y t2, ty, ps, af, none⟩).run C.P w = .ok (.value (.bool A.isNone)) w := by
    simp only [execOp, hu, h2, Sem.run_bind, run_eqGuard_v .eql t x y (.slice A es.length cap) (.slice none 0 0) (by simp) (by simp), Result.andThen_ok]
    have hq := run_equalIn_slice (P := C.P) w 9999 t e A es.length cap hun
    simp only [binOp, Op.equal, Op.maxDepth, Sem.run_bind, hq, Result.andThen_ok, Sem.run_pure]
  refine wpListIn_plain rfl fun K hK => Oper.wpIn_of_wp C.hF (fun c e => by cases e) ?_
  simp only [Oper.wp, Oper.upon, hrun]
  have hnil : A.isNone = true → es = [] := fun hA => by
    by_cases he : es = []
    · exact he
    · obtain ⟨b, o, hb, _⟩ := g4 he
      rw [hb] at hA; cases hA
  have hs' := hσ.put hN (s' := s.put d (.v (.bool A.isNone)) none) (r := .v (.bool A.isNone)) (v := .bool A.isNone) hσ.inv hσ.nx (Le.refl _ _ fun _ _ ho => hσ.inv.al_of_own ho) (Below.refl _ _) rfl rfl
  exact hK _ _ (k _ hnil S0 w0 _ w hE ⟨σ, hs'⟩)
end
end Go.Pg

namespace Go.Pg
open Go Go.RowKit
mutual
def mvA (n : Nat) : AV → AV
  | .ref id off m => .ref (n + id) off m
  | .ptr id i j t => .ptr (n + id) i j t
  | .map id => .map (n + id)
  | .agg cs => .agg (mvL n cs)
  | .tup cs => .tup (mvL n cs)
  | .clo f cs => .clo f (mvL n cs)
  | .bnd f cs => .bnd f (mvL n cs)
  | x => x
def mvL (n : Nat) : List AV → List AV
  | [] => []
  | c :: cs => mvA n c :: mvL n cs
end
theorem mvL_map (n : Nat) : ∀ cs : List AV, mvL n cs = cs.map (mvA n)
  | [] => rfl
  | c :: cs => by rw [mvL, mvL_map n cs, List.map_cons]
theorem mvL_len (n : Nat) (cs : List AV) : (mvL n cs).length = cs.length := by rw [mvL_map, List.length_map]
theorem mvA_cell (n : Nat) (c : AV) : (mvA n c).cell = c.cell := by cases c <;> simp only [mvA] <;> rfl
def sgM (B n : Nat) (σ σ' : Sg) : Sg where
  S := σ'.S
  own := fun b => if b < B then σ.own b else (σ'.own b).map (n + ·)
  ext := fun b => if b < B then σ.ext b else σ'.ext b
  al := fun i => if i < n then σ.al i else σ'.al (i - n)
  cur := fun i => if i < n then σ.cur i else σ'.cur (i - n)
  len := fun i => if i < n then σ.len i else σ'.len (i - n)
  k := fun i => if i < n then σ.k i else σ'.k (i - n)
  cap := fun b => if b < B then σ.cap b else σ'.cap b
section
variable {B0 : Nat} {S0 S1 : Fr} {w w' : World} {H H' : Nat → Option AO} {σ σ' : Sg} {n : Nat}
theorem Inv.cur_own (hi : Inv B0 S0 w H σ) {id b : Nat} (h : σ.cur id = some b) : σ.own b = some id := by
  cases ho : H id with
  | none => rw [(hi.fresh id ho).1] at h; cases h
  | some o =>
    cases o with
    | row r => exact ((hi.row id r ho).cur b h).1
    | mp kt et es =>
      obtain ⟨b2, _, _, a1, a2, _⟩ := (hi.mp id kt et es ho).cur
      rw [a1] at h; cases h; exact a2
mutual
theorem Rep.shift (hi : Inv w.heap.size S1 w' H' σ') : ∀ (c : AV) (u : Value), Rep σ' w' c u → Rep (sgM w.heap.size n σ σ') w' (mvA n c) u
  | .junk, _, _ => trivial
  | .v _, _, h => h
  | .agg cs, u, h => by
    simp only [mvA, Rep] at h ⊢
    obtain ⟨arr, rfl, h1, h2, h3⟩ := h
    refine ⟨arr, rfl, by rw [mvL_len]; exact h1, fun c hc => ?_, RepL.shift hi cs _ h3⟩
    rw [mvL_map] at hc
    obtain ⟨d, hd, rfl⟩ := List.mem_map.1 hc
    rw [mvA_cell]; exact h2 d hd
  | .tup cs, u, h => by
    simp only [mvA, Rep] at h ⊢
    obtain ⟨arr, rfl, h1, h3⟩ := h
    exact ⟨arr, rfl, by rw [mvL_len]; exact h1, RepL.shift hi cs _ h3⟩
  | .clo f cs, u, h => by
    simp only [mvA, Rep] at h ⊢
    obtain ⟨arr, rfl, h1, h3⟩ := h
    exact ⟨arr, rfl, by rw [mvL_len]; exact h1, RepL.shift hi cs _ h3⟩
  | .bnd f cs, u, h => by
    simp only [mvA, Rep] at h ⊢
    obtain ⟨arr, rfl, h1, h3⟩ := h
    exact ⟨arr, rfl, by rw [mvL_len]; exact h1, RepL.shift hi cs _ h3⟩
  | .lst es, u, h => by simp only [mvA, Rep] at h ⊢; exact h
  | .iptr e j, u, h => by simp only [mvA, Rep] at h ⊢; exact h
  | .lmap sh ks vs, u, h => by simp only [mvA, Rep] at h ⊢; exact h
  | .ref id off m, u, h => by
    simp only [mvA, Rep] at h ⊢
    obtain ⟨h0, A, cap, rfl, h1, h2, h3, h4⟩ := h
    have hlt : ¬ n + id < n := by omega
    refine ⟨by simp only [sgM]; rw [if_neg hlt, Nat.add_sub_cancel_left]; exact h0, A, cap, rfl, h1, h2, fun hm => ?_, fun h5 h6 => ?_⟩
    · obtain ⟨b, rfl, g1, g2⟩ := h3 hm
      have hb := (hi.own_lt b id g1).1
      have hbn : ¬ b < w.heap.size := by omega
      refine ⟨b, by simp only [sgM]; rw [if_neg hlt, Nat.add_sub_cancel_left], by simp only [sgM]; rw [if_neg hbn, g1]; rfl, by simp only [sgM]; rw [if_neg hbn]; exact g2⟩
    · simp only [sgM] at h6 ⊢
      rw [if_neg hlt, Nat.add_sub_cancel_left] at h6 ⊢
      rcases h4 h5 h6 with h | ⟨b, g1, g2, g3⟩
      · exact .inl h
      · have hb := (hi.own_lt b id (hi.cur_own g1)).1
        exact .inr ⟨b, g1, g2, by rw [if_neg (by omega)]; exact g3⟩
  | .ptr id i j tag, u, h => by
    simp only [mvA, Rep] at h ⊢
    obtain ⟨b, rfl, g1, g2, g3⟩ := h
    have hb := (hi.own_lt b id g1).1
    have hbn : ¬ b < w.heap.size := by omega
    refine ⟨b, by simp only [sgM]; rw [if_neg (by omega), Nat.add_sub_cancel_left], by simp only [sgM]; rw [if_neg hbn, g1]; rfl, g2, by simp only [sgM]; rw [if_neg hbn]; exact g3⟩
  | .map id, u, h => by
    simp only [mvA, Rep] at h ⊢
    obtain ⟨b, rfl, g1⟩ := h
    have hb := (hi.own_lt b id g1).1
    exact ⟨b, rfl, by simp only [sgM]; rw [if_neg (by omega), g1]; rfl⟩
theorem RepL.shift (hi : Inv w.heap.size S1 w' H' σ') : ∀ (cs : List AV) (f : Nat → Option Value), RepL σ' w' cs f → RepL (sgM w.heap.size n σ σ') w' (mvL n cs) f
  | [], _, _ => trivial
  | c :: cs, f, h => by
    simp only [mvL, RepL] at h ⊢
    obtain ⟨⟨u, hu, hr⟩, ht⟩ := h
    exact ⟨⟨u, hu, Rep.shift hi c u hr⟩, RepL.shift hi cs _ ht⟩
end
end
section
variable {C : Cx} {N : Nat} {Q : Exit → St → Prop} {s : St} {ops : Array Oper} {rest : List Oper} {o : Oper}
end
section
variable {C : Cx} {N : Nat} {Q : Exit → St → Prop} {s : St} {ops : Array Oper} {rest : List Oper} {ty : TypeId} {ps : String} {af : Array Edge} {d : Nat}
end
end Go.Pg

set_option maxHeartbeats 8000000
set_option maxRecDepth 10000
namespace Go.Proofs.Dz
open Go Go.Pg Go.Proofs Go.Proofs.Ds
def idxG (p : Arc → Bool) : Nat → List Arc → Int
  | _, [] => -1
  | k, x :: l => if p x = true then (k : Int) else idxG p (k + 1) l
theorem idxG_ge (p : Arc → Bool) : ∀ (l : List Arc) (k : Nat), (0 ≤ idxG p k l ↔ l.any p = true) ∧ (idxG p k l = -1 ∨ (k : Int) ≤ idxG p k l)
  | [], k => by simp [idxG]
  | x :: l, k => by
    have ih := idxG_ge p l (k + 1)
    unfold idxG
    by_cases h : p x = true
    · rw [if_pos h]
      refine ⟨?_, .inr (Int.le_refl _)⟩
      simp [h]
    · rw [if_neg h, List.any_cons, Bool.eq_false_iff.2 h, Bool.false_or]
      exact ⟨ih.1, ih.2.imp id (fun h => by omega)⟩
theorem indexA_ok (l : List Arc) (f : FuncId) (p : Arc → Bool) (hl : l.length ≤ 1099511627776) (hp : ∀ x ∈ l, OKv cx f [.agg (eArc x)] (ab (p x))) : OKv cx 84 [lArc l, .clo f []] (ai (idxG p 0 l)) := by
  obtain ⟨R, hR⟩ : ∃ z, idxG p 0 l = z := ⟨_, rfl⟩
  rw [hR]
  refine OKat.of_body (rs := [4]) Tryz.func84 rfl (by decide +kernel) rfl (by simp [Tryz.ntmps84]) ?_
  simp only [Tryz.ntmps84]
  repeat' first
    | apply AW.seq | apply AW.region | apply AW.ret | apply AW.block | apply AW.skip | apply AW.exit | apply AW.scope | apply AW.label | apply AWL.nil
    | ((first | (apply W.step cx_ok; decide) | apply W.store cx_ok | apply AW.cond); (simp (disch := omega) only [push_cast, simprocAttr] <;> rfl); all_goals try ((with_reducible intro hI); try first | (cases hI; done) | (simp only [INTS, not_true_eq_false] at hI; try first | (exfalso; omega) | (have hT : True := hI; clear hT hI))))
    | ((first | apply W.ret1 | apply W.end1); (iterate 2 (try (simp (disch := omega) only [push_cast, simprocAttr] <;> rfl))))

  refine AW.loop (fun n s => ∃ (k : Nat) (rest : List Arc), n = rest.length ∧ (l.drop k = rest) ∧ (idxG p k rest = R) ∧ s.tm 0 = lArc l ∧ s.tm 1 = .clo f [] ∧ s.tm 7 = lArc l ∧ s.tm 8 = ai l.length ∧ s.tm 9 = ai k) (l.length) ⟨0, l, rfl, rfl, hR, ?_, ?_, ?_, ?_, ?_⟩ ?_
  iterate 5 (first | (simp (disch := omega) only [push_cast, simprocAttr] <;> first | rfl | omega) | omega)
  rintro n s ⟨k, rest, hn, hp0, hp1, hS⟩
  rcases rest with _ | ⟨x, rest⟩
  · have hk := drop_nil hp0
    unfold idxG at hp1
    subst hp1
    repeat' first
      | apply AW.seq | apply AW.region | apply AW.ret | apply AW.block | apply AW.skip | apply AW.exit | apply AW.scope | apply AW.label | apply AWL.nil
      | ((first | (apply W.step cx_ok; decide) | apply W.store cx_ok | apply AW.cond); (simp (disch := omega) only [push_cast, simprocAttr, hS, hk] <;> rfl); all_goals try ((with_reducible intro hI); try first | (cases hI; done) | (simp only [INTS, not_true_eq_false] at hI; try first | (exfalso; omega) | (have hT : True := hI; clear hT hI))))
      | ((first | apply W.ret1 | apply W.end1); (iterate 2 (try (simp (disch := omega) only [push_cast, simprocAttr, hS, hk] <;> rfl))))

    all_goals (show _ = _; rfl)
  · obtain ⟨hk, hg, hd', hl', hm', hx⟩ := drop_cons hp0 eArc []
    have hc := hp x hm'
    unfold idxG at hp1
    cases hq : p x with
    | true =>
      rw [hq, if_pos rfl] at hp1
      rw [hq] at hc
      subst hp1
      repeat' first
        | apply AW.seq | apply AW.region | apply AW.ret | apply AW.block | apply AW.skip | apply AW.exit | apply AW.scope | apply AW.label | apply AWL.nil
        | ((first | (apply W.step cx_ok; decide) | apply W.store cx_ok | apply AW.cond); (simp (disch := omega) only [push_cast, simprocAttr, hS, hk, hg, hx, natNe, List.mem_cons, List.not_mem_nil, TyD.isAgg, Nat.add_assoc] <;> rfl); all_goals try ((with_reducible intro hI); try first | (cases hI; done) | (simp only [INTS, not_true_eq_false] at hI; try first | (exfalso; omega) | (have hT : True := hI; clear hT hI))))
        | ((apply W.callv cx_ok; decide); (iterate 2 (simp (disch := omega) only [push_cast, simprocAttr, hS, hk, hg, hx, natNe, List.mem_cons, List.not_mem_nil, TyD.isAgg, Nat.add_assoc] <;> rfl)); (with_reducible first | exact hc); try first | rfl | (simp (disch := omega) only [push_cast, simprocAttr, hS, hk, hg, hx, natNe, List.mem_cons, List.not_mem_nil, TyD.isAgg, Nat.add_assoc] <;> rfl))
        | ((first | apply W.ret1 | apply W.end1); (iterate 2 (try (simp (disch := omega) only [push_cast, simprocAttr, hS, hk, hg, hx, natNe, List.mem_cons, List.not_mem_nil, TyD.isAgg, Nat.add_assoc] <;> rfl))))

      all_goals (show _ = _; rfl)
    | false =>
      rw [hq, if_neg (by decide)] at hp1
      rw [hq] at hc
      repeat' first
        | apply AW.seq | apply AW.region | apply AW.ret | apply AW.block | apply AW.skip | apply AW.exit | apply AW.scope | apply AW.label | apply AWL.nil
        | ((first | (apply W.step cx_ok; decide) | apply W.store cx_ok | apply AW.cond); (simp (disch := omega) only [push_cast, simprocAttr, hS, hk, hg, hx, natNe, List.mem_cons, List.not_mem_nil, TyD.isAgg, Nat.add_assoc] <;> rfl); all_goals try ((with_reducible intro hI); try first | (cases hI; done) | (simp only [INTS, not_true_eq_false] at hI; try first | (exfalso; omega) | (have hT : True := hI; clear hT hI))))
        | ((apply W.callv cx_ok; decide); (iterate 2 (simp (disch := omega) only [push_cast, simprocAttr, hS, hk, hg, hx, natNe, List.mem_cons, List.not_mem_nil, TyD.isAgg, Nat.add_assoc] <;> rfl)); (with_reducible first | exact hc); try first | rfl | (simp (disch := omega) only [push_cast, simprocAttr, hS, hk, hg, hx, natNe, List.mem_cons, List.not_mem_nil, TyD.isAgg, Nat.add_assoc] <;> rfl))
        | ((first | apply W.ret1 | apply W.end1); (iterate 2 (try (simp (disch := omega) only [push_cast, simprocAttr, hS, hk, hg, hx, natNe, List.mem_cons, List.not_mem_nil, TyD.isAgg, Nat.add_assoc] <;> rfl))))

      all_goals (refine ⟨rest.length, ?_, k + 1, rest, rfl, hd', hp1, ?_, ?_, ?_, ?_, ?_⟩; ((simp only [List.length_cons] at *; omega)); all_goals first | (simp (disch := omega) only [push_cast, simprocAttr, hS, hk, hg, hx, natNe, List.mem_cons, List.not_mem_nil, TyD.isAgg, Nat.add_assoc] <;> first | rfl | omega) | omega)
theorem accept1_ok (x : Arc) : OKv cx 85 [.agg (eArc x)] (ab (!validA x)) := by
  have c1 := ValidArc_ok x
  refine OKat.of_body (rs := [2]) Tryz.func85 rfl (by decide +kernel) rfl (by simp [Tryz.ntmps85]) ?_
  simp only [Tryz.ntmps85]
  repeat' first
    | apply AW.seq | apply AW.region | apply AW.ret | apply AW.block | apply AW.skip | apply AW.exit | apply AW.scope | apply AW.label | apply AWL.nil
    | ((first | (apply W.step cx_ok; decide) | apply AW.cond); (simp (disch := omega) only [push_cast, simprocAttr] <;> rfl); all_goals try ((with_reducible intro hI); try first | (cases hI; done) | (simp only [INTS, not_true_eq_false] at hI; try first | (exfalso; omega) | (have hT : True := hI; clear hT hI))))
    | ((apply W.callv cx_ok; decide); (iterate 2 (simp (disch := omega) only [push_cast, simprocAttr] <;> rfl)); (with_reducible first | exact c1); try first | rfl | (simp (disch := omega) only [push_cast, simprocAttr] <;> rfl))
    | ((first | apply W.ret1 | apply W.end1); (iterate 2 (try (simp (disch := omega) only [push_cast, simprocAttr] <;> rfl))))

  all_goals (show _ = _; rfl)
def checkL (l : List Arc) : Int := if 200 < l.length then 2 else if l.all validA = true then 0 else 1
theorem acceptable_ok (l : List Arc) (hl : l.length ≤ 1099511627776) : OKv cx 64 [lArc l] (ai (checkL l)) := by
  have c1 := indexA_ok l 85 (fun x => !validA x) hl fun x _ => accept1_ok x
  unfold checkL
  by_cases h : 200 < l.length
  · have hI : (200 : Int) < (l.length : Int) := by omega
    rw [if_pos h]
    refine OKat.of_body (rs := [2]) Tryz.func64 rfl (by decide +kernel) rfl (by simp [Tryz.ntmps64]) ?_
    simp only [Tryz.ntmps64]
    repeat' first
      | apply AW.seq | apply AW.region | apply AW.ret | apply AW.block | apply AW.skip | apply AW.exit | apply AW.scope | apply AW.label | apply AWL.nil
      | ((first | (apply W.step cx_ok; decide) | apply AW.cond); (simp (disch := omega) only [push_cast, simprocAttr, hI] <;> rfl); all_goals try ((with_reducible intro hI); try first | (cases hI; done) | (simp only [INTS, not_true_eq_false] at hI; try first | (exfalso; omega) | (have hT : True := hI; clear hT hI))))
      | ((first | apply W.ret1 | apply W.end1); (iterate 2 (try (simp (disch := omega) only [push_cast, simprocAttr, hI] <;> rfl))))

    all_goals (show _ = _; rfl)
  · have hI : ¬ (200 : Int) < (l.length : Int) := by omega
    rw [if_neg h]
    obtain ⟨g1, g2⟩ := idxG_ge (fun x => !validA x) l 0
    obtain ⟨R, hR⟩ : ∃ z, idxG (fun x => !validA x) 0 l = z := ⟨_, rfl⟩
    rw [hR] at c1 g1 g2
    have hall : (l.any fun x => !validA x) = !l.all validA := by rw [List.not_all_eq_any_not]
    rw [hall] at g1
    by_cases hq : 0 ≤ R
    · have ha : l.all validA = false := by simpa using g1.1 hq
      rw [ha, if_neg (by decide)]
      refine OKat.of_body (rs := [2]) Tryz.func64 rfl (by decide +kernel) rfl (by simp [Tryz.ntmps64]) ?_
      simp only [Tryz.ntmps64]
      repeat' first
        | apply AW.seq | apply AW.region | apply AW.ret | apply AW.block | apply AW.skip | apply AW.exit | apply AW.scope | apply AW.label | apply AWL.nil
        | ((first | (apply W.step cx_ok; decide) | apply AW.cond); (simp (disch := omega) only [push_cast, simprocAttr, hI, hq] <;> rfl); all_goals try ((with_reducible intro hI); try first | (cases hI; done) | (simp only [INTS, not_true_eq_false] at hI; try first | (exfalso; omega) | (have hT : True := hI; clear hT hI))))
        | ((apply W.callv cx_ok; decide); (iterate 2 (simp (disch := omega) only [push_cast, simprocAttr, hI, hq] <;> rfl)); (with_reducible first | exact c1); try first | rfl | (simp (disch := omega) only [push_cast, simprocAttr, hI, hq] <;> rfl))
        | ((first | apply W.ret1 | apply W.end1); (iterate 2 (try (simp (disch := omega) only [push_cast, simprocAttr, hI, hq] <;> rfl))))

      all_goals (show _ = _; rfl)
    · have ha : l.all validA = true := by
        cases hv : l.all validA with
        | true => rfl
        | false => rw [hv] at g1; exact absurd (g1.2 rfl) hq
      rw [ha, if_pos rfl]
      refine OKat.of_body (rs := [2]) Tryz.func64 rfl (by decide +kernel) rfl (by simp [Tryz.ntmps64]) ?_
      simp only [Tryz.ntmps64]
      repeat' first
        | apply AW.seq | apply AW.region | apply AW.ret | apply AW.block | apply AW.skip | apply AW.exit | apply AW.scope | apply AW.label | apply AWL.nil
        | ((first | (apply W.step cx_ok; decide) | apply AW.cond); (simp (disch := omega) only [push_cast, simprocAttr, hI, hq] <;> rfl); all_goals try ((with_reducible intro hI); try first | (cases hI; done) | (simp only [INTS, not_true_eq_false] at hI; try first | (exfalso; omega) | (have hT : True := hI; clear hT hI))))
        | ((apply W.callv cx_ok; decide); (iterate 2 (simp (disch := omega) only [push_cast, simprocAttr, hI, hq] <;> rfl)); (with_reducible first | exact c1); try first | rfl | (simp (disch := omega) only [push_cast, simprocAttr, hI, hq] <;> rfl))
        | ((first | apply W.ret1 | apply W.end1); (iterate 2 (try (simp (disch := omega) only [push_cast, simprocAttr, hI, hq] <;> rfl))))

      all_goals (show _ = _; rfl)
theorem SameArcs_same (a : List Arc) (ha : a.length ≤ 1099511627776) : OKv cx 12 [lArc a, lArc a] (ab true) := by
  refine OKat.of_body (rs := [4]) Tryz.func12 rfl (by decide +kernel) rfl (by simp [Tryz.ntmps12]) ?_
  simp only [Tryz.ntmps12]
  repeat' first
    | apply AW.seq | apply AW.region | apply AW.ret | apply AW.block | apply AW.skip | apply AW.exit | apply AW.scope | apply AW.label | apply AWL.nil | apply D.nil
    | refine W.draw cx_mixed (by decide +kernel) ?_
    | ((first | (apply W.step cx_ok; decide) | (apply D.step cx_ok; decide; decide) | apply AW.cond); (simp (disch := omega) only [push_cast, simprocAttr] <;> rfl); all_goals try ((with_reducible intro hI); try first | (cases hI; done) | (simp only [INTS, not_true_eq_false] at hI; try first | (exfalso; omega) | (have hT : True := hI; clear hT hI))))
    | ((first | apply W.ret1 | apply W.end1); (iterate 2 (try (simp (disch := omega) only [push_cast, simprocAttr] <;> rfl))))

  refine AW.loop (fun n s => ∃ (k : Nat) (rest : List Arc), n = rest.length ∧ (a.drop k = rest) ∧ s.tm 0 = lArc a ∧ s.tm 1 = lArc a ∧ s.tm 5 = ai k) (a.length) ⟨0, a, rfl, rfl, ?_, ?_, ?_⟩ ?_
  iterate 3 (first | (simp (disch := omega) only [push_cast, simprocAttr] <;> first | rfl | omega) | omega)
  rintro n s ⟨k, rest, hn, hp0, hS⟩
  rcases rest with _ | ⟨x, rest⟩
  · have hk := drop_nil hp0
    repeat' first
      | apply AW.seq | apply AW.region | apply AW.ret | apply AW.block | apply AW.skip | apply AW.exit | apply AW.scope | apply AW.label | apply AWL.nil | apply D.nil
      | refine W.draw cx_mixed (by decide +kernel) ?_
      | ((first | (apply W.step cx_ok; decide) | (apply D.step cx_ok; decide; decide) | apply AW.cond); (simp (disch := omega) only [push_cast, simprocAttr, hS, hk] <;> rfl); all_goals try ((with_reducible intro hI); try first | (cases hI; done) | (simp only [INTS, not_true_eq_false] at hI; try first | (exfalso; omega) | (have hT : True := hI; clear hT hI))))
      | ((first | apply W.ret1 | apply W.end1); (iterate 2 (try (simp (disch := omega) only [push_cast, simprocAttr, hS, hk] <;> rfl))))

    all_goals (show _ = _; rfl)
  · obtain ⟨hk, hg, hd', hl', hm', hx⟩ := drop_cons hp0 eArc []
    repeat' first
      | apply AW.seq | apply AW.region | apply AW.ret | apply AW.block | apply AW.skip | apply AW.exit | apply AW.scope | apply AW.label | apply AWL.nil | apply D.nil
      | refine W.draw cx_mixed (by decide +kernel) ?_
      | ((first | (apply W.step cx_ok; decide) | (apply D.step cx_ok; decide; decide) | apply AW.cond); (simp (disch := omega) only [push_cast, simprocAttr, hS, hk, hg, hx, beq_self_eq_true, Bool.and_self, Bool.and_true, Bool.true_and, Bool.false_and, Bool.and_false, Bool.not_true, Bool.not_false, Bool.false_eq_true] <;> rfl); all_goals try ((with_reducible intro hI); try first | (cases hI; done) | (simp only [INTS, not_true_eq_false] at hI; try first | (exfalso; omega) | (have hT : True := hI; clear hT hI))))
      | ((first | apply W.ret1 | apply W.end1); (iterate 2 (try (simp (disch := omega) only [push_cast, simprocAttr, hS, hk, hg, hx, beq_self_eq_true, Bool.and_self, Bool.and_true, Bool.true_and, Bool.false_and, Bool.and_false, Bool.not_true, Bool.not_false, Bool.false_eq_true] <;> rfl))))

    all_goals (refine ⟨rest.length, ?_, k + 1, rest, rfl, hd', ?_, ?_, ?_⟩; ((simp only [List.length_cons] at *; omega)); all_goals first | (simp (disch := omega) only [push_cast, simprocAttr, hS, hk, hg, hx] <;> first | rfl | omega) | omega)
end Go.Proofs.Dz

namespace Go.Proofs.Dz
open Go Go.Pg Go.Proofs Go.Proofs.Ds
theorem viewLL_ints (H : Nat → Option AO) (l : List Int) : viewLL H (l.map eInt) = some (l.map eInt) := viewLL_map H eInt (fun _ => rfl) l
theorem pure_ints (l : List Int) : (l.map eInt).all pureL = true := pure_map (fun _ => rfl) l
theorem idsLL_ints (l : List Int) : idsLL (l.map eInt) = [] := idsLL_map eInt (fun _ => rfl) l
theorem all_ints (l : List Int) : (∀ c ∈ l.map eInt, c.length = 1) = True := eq_true fun c hc => by obtain ⟨x, _, rfl⟩ := List.mem_map.1 hc; rfl
theorem viewLL_arcs (H : Nat → Option AO) (l : List Arc) : viewLL H (l.map eArc) = some (l.map eArc) := viewLL_map H eArc (fun _ => rfl) l
theorem pure_arcs (l : List Arc) : (l.map eArc).all pureL = true := pure_map (fun _ => rfl) l
theorem idsLL_arcs (l : List Arc) : idsLL (l.map eArc) = [] := idsLL_map eArc (fun _ => rfl) l
theorem all_arcs (l : List Arc) : (∀ c ∈ l.map eArc, c.length = 2) = True := eq_true fun c hc => by obtain ⟨x, _, rfl⟩ := List.mem_map.1 hc; rfl
theorem viewLL_spans (H : Nat → Option AO) (l : List Span) : viewLL H (l.map eSpan) = some (l.map eSpan) := viewLL_map H eSpan (fun _ => rfl) l
theorem pure_spans (l : List Span) : (l.map eSpan).all pureL = true := pure_map (fun _ => rfl) l
theorem idsLL_spans (l : List Span) : idsLL (l.map eSpan) = [] := idsLL_map eSpan (fun _ => rfl) l
theorem all_spans (l : List Span) : (∀ c ∈ l.map eSpan, c.length = 2) = True := eq_true fun c hc => by obtain ⟨x, _, rfl⟩ := List.mem_map.1 hc; rfl
theorem viewLL_keys (H : Nat → Option AO) (l : List Key) : viewLL H (l.map eKey) = some (l.map eKey) := viewLL_map H eKey (fun _ => rfl) l
theorem pure_keys (l : List Key) : (l.map eKey).all pureL = true := pure_map (fun _ => rfl) l
theorem idsLL_keys (l : List Key) : idsLL (l.map eKey) = [] := idsLL_map eKey (fun _ => rfl) l
theorem all_keys (l : List Key) : (∀ c ∈ l.map eKey, c.length = 3) = True := eq_true fun c hc => by obtain ⟨x, _, rfl⟩ := List.mem_map.1 hc; rfl
theorem viewLL_marks (H : Nat → Option AO) (l : List Mark) : viewLL H (l.map eMark) = some (l.map eMark) := viewLL_map H eMark (fun _ => rfl) l
theorem pure_marks (l : List Mark) : (l.map eMark).all pureL = true := pure_map (fun _ => rfl) l
theorem idsLL_marks (l : List Mark) : idsLL (l.map eMark) = [] := idsLL_map eMark (fun _ => rfl) l
theorem all_marks (l : List Mark) : (∀ c ∈ l.map eMark, c.length = 5) = True := eq_true fun c hc => by obtain ⟨x, _, rfl⟩ := List.mem_map.1 hc; rfl
theorem viewLL_pairs (H : Nat → Option AO) (l : List (Int × Int)) : viewLL H (l.map ePair) = some (l.map ePair) := viewLL_map H ePair (fun _ => rfl) l
theorem pure_pairs (l : List (Int × Int)) : (l.map ePair).all pureL = true := pure_map (fun _ => rfl) l
theorem idsLL_pairs (l : List (Int × Int)) : idsLL (l.map ePair) = [] := idsLL_map ePair (fun _ => rfl) l
theorem all_pairs (l : List (Int × Int)) : (∀ c ∈ l.map ePair, c.length = 2) = True := eq_true fun c hc => by obtain ⟨x, _, rfl⟩ := List.mem_map.1 hc; rfl
theorem takeM {α β : Type} (f : α → β) (l : List α) (k : Nat) : (l.map f).take k = (l.take k).map f := List.map_take.symm
theorem dropM {α β : Type} (f : α → β) (l : List α) (k : Nat) : (l.map f).drop k = (l.drop k).map f := List.map_drop.symm
theorem getD_eInt (l : List Int) (k : Nat) (h : k < l.length) : (l.map eInt).getD k [] = [ai (l.getD k 0)] := getD_map eInt l k [] 0 h
theorem get_eInt (l : List Int) (k : Nat) (h : k < l.length) : (l.map eInt)[k]? = some [ai (l.getD k 0)] := get_map eInt l k 0 h
theorem rowAt_frzG (H : Nat → Option AO) (ids : List Nat) (j : Nat) : Pg.rowAt (frz' H ids) j = if j ∈ ids then (Pg.rowAt H j).map (fun r => { r with fro := true }) else Pg.rowAt H j := by
  unfold frz' frz Pg.rowAt
  cases ids with
  | nil => simp
  | cons i ids =>
    simp only [List.isEmpty_cons, Bool.false_eq_true, if_false]
    by_cases h : j ∈ i :: ids
    · simp only [h, if_true]
      cases hh : H j with
      | none => rfl
      | some o => cases o <;> rfl
    · simp only [h, if_false]
theorem isEmpty_map {α β : Type} (f : α → β) (l : List α) : (l.map f).isEmpty = l.isEmpty := by cases l <;> rfl
theorem lo_len {α : Type} (l : List α) : (if l.isEmpty = true then 0 else l.length) = l.length := by cases l <;> rfl
theorem lo_gen {α : Type} (l : List α) (a b : Nat) (h : l.length = 0 → a = b) : (if l.isEmpty = true then a else b) = b := by
  split
  · rename_i he; exact h (by rw [List.isEmpty_iff.1 he]; rfl)
  · rfl
theorem leT {a b : Nat} (h : a ≤ b) : (a ≤ b) = True := eq_true h
theorem maxNx (a : Nat) : max a (a + 1) = a + 1 := by omega
attribute [push_cast] all_ints viewLL_ints pure_ints idsLL_ints all_arcs viewLL_arcs pure_arcs idsLL_arcs all_spans viewLL_spans pure_spans idsLL_spans all_keys viewLL_keys pure_keys idsLL_keys all_marks viewLL_marks pure_marks idsLL_marks all_pairs viewLL_pairs pure_pairs idsLL_pairs maxNx get_eInt getD_eInt isEmpty_map lo_len lo_gen rowAt_frzG List.map_set List.length_set List.drop_zero Nat.zero_le List.mem_cons List.not_mem_nil or_false or_self Nat.add_assoc List.length_append List.map_append List.append_assoc List.isEmpty_cons List.isEmpty_nil List.map_cons List.map_nil List.length_cons List.length_nil List.nil_append List.cons_append
theorem rowAt_eqH {H H' : Nat → Option AO} {i : Nat} (h : H' i = H i) : Pg.rowAt H' i = Pg.rowAt H i := by unfold Pg.rowAt; rw [h]
end Go.Proofs.Dz

namespace Go.Proofs.Dz
open Go Go.Pg Go.Proofs Go.Proofs.Ds
structure Yl (l n0 M : Nat) (J : List Span → (Nat → Option AO) → Prop) : Prop where
  frame : ∀ p H id o, J p H → n0 ≤ id → J p (updH H id o)
  y : ∀ p H nx (x : Span), J p H → n0 ≤ nx → 0 ≤ x.lo → x.lo ≤ x.hi → x.hi ≤ 43199 → p.length < M →
    YOK cx l [.agg (eSpan x)] H nx (fun b H' nx' => b = true ∧ J (p ++ [x]) H' ∧ nx ≤ nx' ∧ ∀ id, n0 ≤ id → id < nx → H' id = H id)
theorem piecesL_cons (x : Arc) (l : List Arc) : piecesL (x :: l) = piecesF x ++ piecesL l := by unfold piecesL; rw [List.flatMap_cons]
theorem pieces_ok (A : List Arc) : OKv cx 87 [lArc A] (.clo 106 [.iptr [lArc A] 0]) := by
  refine OKat.of_body (rs := [2]) Tryz.func87 rfl (by decide +kernel) rfl (by simp [Tryz.ntmps87]) ?_
  simp only [Tryz.ntmps87]
  repeat' first
    | apply AW.seq | apply AW.region | apply AW.ret | apply AW.block | apply AW.skip | apply AW.exit | apply AW.scope | apply AW.label | apply AWL.nil
    | ((first | (apply W.step cx_ok; decide) | apply AW.cond); (simp (disch := omega) only [push_cast, simprocAttr] <;> rfl); all_goals try ((with_reducible intro hI); try first | (cases hI; done) | (simp only [INTS, not_true_eq_false] at hI; try first | (exfalso; omega) | (have hT : True := hI; clear hT hI))))
    | ((first | apply W.ret1 | apply W.end1); (iterate 2 (try (simp (disch := omega) only [push_cast, simprocAttr] <;> rfl))))

  all_goals (show _ = _; rfl)
theorem pieces1_ok (A : List Arc) (hv : ∀ x ∈ A, validA x = true) (hA : A.length ≤ 1000000) (l n0 M : Nat) {J : List Span → (Nat → Option AO) → Prop} (hJ : Yl l n0 M J) (H : Nat → Option AO) (nx : Nat) (hnx : n0 ≤ nx) (hJ0 : J [] H) (hM : (piecesL A).length ≤ M) :
    OKm cx 106 [.v (.func (.yield l) #[] #[]), .iptr [lArc A] 0] H nx (fun _ H' nx' => J (piecesL A) H' ∧ n0 ≤ nx') := by
  obtain ⟨RES, hRES⟩ : ∃ z, piecesL A = z := ⟨_, rfl⟩
  rw [hRES] at hM ⊢
  refine OKm.of_body cx_ok (rs := []) Tryz.func106 rfl (by decide +kernel) rfl (by simp [Tryz.ntmps106]) ?_
  simp only [Tryz.ntmps106]
  repeat' first
    | apply AW.seq | apply AW.region | apply AW.ret | apply AW.block | apply AW.skip | apply AW.exit | apply AW.scope | apply AW.label | apply AWL.nil
    | ((first | (apply W.step cx_ok; decide) | apply W.store cx_ok | (apply W.gS; rfl; decide) | apply AW.cond); (simp (disch := omega) only [push_cast, simprocAttr] <;> rfl); all_goals try ((with_reducible intro hI); try first | (cases hI; done) | (simp only [INTS, not_true_eq_false] at hI; try first | (exfalso; omega) | (have hT : True := hI; clear hT hI))))
    | ((first | apply W.retC | apply W.endC' | apply W.retM | apply W.endM' | apply W.ret1 | apply W.end1 | apply W.ret2 | apply W.end2 | apply W.ret3 | apply W.end3 | apply W.ret0 | apply W.end0); (iterate 2 (try (simp (disch := omega) only [push_cast, simprocAttr] <;> rfl))))
  refine AW.loop (fun n s => ∃ (k : Nat) (p : List Span) (rest : List Arc), n = rest.length ∧ (A.drop k = rest) ∧ (p ++ piecesL rest = RES) ∧ (J p s.H) ∧ n0 ≤ s.nx ∧ s.tm 0 = .v (.func (.yield l) #[] #[]) ∧ s.tm 1 = .iptr [lArc A] 0 ∧ s.tm 6 = lArc A ∧ s.tm 7 = ai A.length ∧ s.tm 8 = ai k) (A.length) ⟨0, [], A, rfl, rfl, (by rw [hRES]; rfl), (by (try simp (disch := omega) only [push_cast, simprocAttr]); (repeat (refine hJ.frame _ _ _ _ ?_ (by omega))); exact hJ0), ?_, ?_, ?_, ?_, ?_, ?_⟩ ?_
  iterate 6 (first | (simp (disch := omega) only [push_cast, simprocAttr] <;> first | rfl | omega) | omega)
  rintro n1 s1 ⟨k1, p1, rest1, hn1, hp01, hp11, hp21, hnl1, hS1⟩
  rcases rest1 with _ | ⟨x, rest1⟩
  · have hk := drop_nil hp01
    have hq : p1 = RES := by rw [← hp11]; simp [piecesL]
    repeat' first
      | apply AW.seq | apply AW.region | apply AW.ret | apply AW.block | apply AW.skip | apply AW.exit | apply AW.scope | apply AW.label | apply AWL.nil
      | ((first | (apply W.step cx_ok; decide) | apply W.store cx_ok | (apply W.gS; rfl; decide) | apply AW.cond); (simp (disch := omega) only [push_cast, simprocAttr, hS1, hk, natNe, List.mem_cons, List.not_mem_nil, TyD.isAgg, Nat.add_assoc, Bool.false_eq_true] <;> rfl); all_goals try ((with_reducible intro hI); try first | (cases hI; done) | (simp only [INTS, not_true_eq_false] at hI; try first | (exfalso; omega) | (have hT : True := hI; clear hT hI))))
      | ((first | apply W.retC | apply W.endC' | apply W.retM | apply W.endM' | apply W.ret1 | apply W.end1 | apply W.ret2 | apply W.end2 | apply W.ret3 | apply W.end3 | apply W.ret0 | apply W.end0); (iterate 2 (try (simp (disch := omega) only [push_cast, simprocAttr, hS1, hk, natNe, List.mem_cons, List.not_mem_nil, TyD.isAgg, Nat.add_assoc, Bool.false_eq_true] <;> rfl))))
    all_goals
      ((try simp only [thenQ, blockQ, loopQ, scopeQ, if_true, reduceIte])
       first | apply W.retX (vs := []) | apply W.endX (vs := [])
       · rfl
       refine ⟨?_, ?_⟩
       · rw [← hq]; exact hp21
       · exact hnl1)
  · obtain ⟨hk, hg, hd', hl', hm', hx⟩ := drop_cons hp01 eArc []
    obtain ⟨v1, v2, v3, v4, v5⟩ := validA_iff.1 (hv x hm')
    rw [piecesL_cons, ← List.append_assoc] at hp11
    have hle : (p1 ++ piecesF x).length ≤ M := by
      have := congrArg List.length hp11
      rw [List.length_append] at this
      omega
    by_cases he : x.from_ + x.len < 43200
    · have hpf : piecesF x = [⟨x.from_, x.from_ + x.len⟩] := by unfold piecesF; rw [if_pos he]
      rw [hpf] at hp11 hle
      rw [List.length_append, List.length_singleton] at hle
      repeat' first
        | apply AW.seq | apply AW.region | apply AW.ret | apply AW.block | apply AW.skip | apply AW.exit | apply AW.scope | apply AW.label | apply AWL.nil
        | ((first | (apply W.step cx_ok; decide) | apply W.store cx_ok | (apply W.gS; rfl; decide) | apply AW.cond); (simp (disch := omega) only [push_cast, simprocAttr, hS1, hk, hg, hx, he, natNe, List.mem_cons, List.not_mem_nil, TyD.isAgg, Nat.add_assoc, Bool.false_eq_true] <;> rfl); all_goals try ((with_reducible intro hI); try first | (cases hI; done) | (simp only [INTS, not_true_eq_false] at hI; try first | (exfalso; omega) | (have hT : True := hI; clear hT hI))))
        | ((first | apply W.retC | apply W.endC' | apply W.retM | apply W.endM' | apply W.ret1 | apply W.end1 | apply W.ret2 | apply W.end2 | apply W.ret3 | apply W.end3 | apply W.ret0 | apply W.end0); (iterate 2 (try (simp (disch := omega) only [push_cast, simprocAttr, hS1, hk, hg, hx, he, natNe, List.mem_cons, List.not_mem_nil, TyD.isAgg, Nat.add_assoc, Bool.false_eq_true] <;> rfl))))
      refine W.yield (by decide) (by simp (disch := omega) only [push_cast, simprocAttr, hS1, hk, hg, hx, he, natNe, List.mem_cons, List.not_mem_nil, TyD.isAgg, Nat.add_assoc, Bool.false_eq_true] <;> rfl) (va := [.agg (eSpan ⟨x.from_, x.from_ + x.len⟩)]) (by simp (disch := omega) only [push_cast, simprocAttr, hS1, hk, hg, hx, he, natNe, List.mem_cons, List.not_mem_nil, TyD.isAgg, Nat.add_assoc, Bool.false_eq_true] <;> rfl) (hJ.y p1 _ _ ⟨x.from_, x.from_ + x.len⟩ (by (try simp (disch := omega) only [push_cast, simprocAttr]); (repeat (refine hJ.frame _ _ _ _ ?_ (by omega))); exact hp21) (show n0 ≤ s1.nx + 1 by omega) (by dsimp only; omega) (by dsimp only; omega) (by dsimp only; omega) (by omega)) ?_
      rintro b H2 nx2 ⟨rfl, hJ2, hn2q, hfr⟩
      have hn3 : s1.nx + 1 ≤ nx2 := hn2q
      repeat' first
        | apply AW.seq | apply AW.region | apply AW.ret | apply AW.block | apply AW.skip | apply AW.exit | apply AW.scope | apply AW.label | apply AWL.nil
        | ((first | (apply W.step cx_ok; decide) | apply W.store cx_ok | (apply W.gS; rfl; decide) | apply AW.cond); (simp (disch := omega) only [push_cast, simprocAttr, hS1, hk, hg, hx, he, natNe, List.mem_cons, List.not_mem_nil, TyD.isAgg, Nat.add_assoc, Bool.false_eq_true] <;> rfl); all_goals try ((with_reducible intro hI); try first | (cases hI; done) | (simp only [INTS, not_true_eq_false] at hI; try first | (exfalso; omega) | (have hT : True := hI; clear hT hI))))
        | ((first | apply W.retC | apply W.endC' | apply W.retM | apply W.endM' | apply W.ret1 | apply W.end1 | apply W.ret2 | apply W.end2 | apply W.ret3 | apply W.end3 | apply W.ret0 | apply W.end0); (iterate 2 (try (simp (disch := omega) only [push_cast, simprocAttr, hS1, hk, hg, hx, he, natNe, List.mem_cons, List.not_mem_nil, TyD.isAgg, Nat.add_assoc, Bool.false_eq_true] <;> rfl))))
      all_goals
        (refine ⟨rest1.length, ?_, k1 + 1, p1 ++ [⟨x.from_, x.from_ + x.len⟩], rest1, rfl, hd', hp11, (by (try simp (disch := omega) only [push_cast, simprocAttr]); (repeat (refine hJ.frame _ _ _ _ ?_ (by omega))); exact hJ2), ?_, ?_, ?_, ?_, ?_, ?_⟩; ((simp only [List.length_cons] at *; omega)); all_goals first | (simp (disch := omega) only [push_cast, simprocAttr, hS1, hk, hg, hx, he, natNe, List.mem_cons, List.not_mem_nil, TyD.isAgg, Nat.add_assoc, Bool.false_eq_true] <;> first | rfl | omega) | omega)
    · have hpf : piecesF x = [⟨x.from_, 43199⟩, ⟨0, x.from_ + x.len - 43200⟩] := by unfold piecesF; rw [if_neg he]
      rw [hpf] at hp11 hle
      rw [List.length_append] at hle
      simp only [List.length_cons, List.length_nil] at hle
      repeat' first
        | apply AW.seq | apply AW.region | apply AW.ret | apply AW.block | apply AW.skip | apply AW.exit | apply AW.scope | apply AW.label | apply AWL.nil
        | ((first | (apply W.step cx_ok; decide) | apply W.store cx_ok | (apply W.gS; rfl; decide) | apply AW.cond); (simp (disch := omega) only [push_cast, simprocAttr, hS1, hk, hg, hx, he, natNe, List.mem_cons, List.not_mem_nil, TyD.isAgg, Nat.add_assoc, Bool.false_eq_true] <;> rfl); all_goals try ((with_reducible intro hI); try first | (cases hI; done) | (simp only [INTS, not_true_eq_false] at hI; try first | (exfalso; omega) | (have hT : True := hI; clear hT hI))))
        | ((first | apply W.retC | apply W.endC' | apply W.retM | apply W.endM' | apply W.ret1 | apply W.end1 | apply W.ret2 | apply W.end2 | apply W.ret3 | apply W.end3 | apply W.ret0 | apply W.end0); (iterate 2 (try (simp (disch := omega) only [push_cast, simprocAttr, hS1, hk, hg, hx, he, natNe, List.mem_cons, List.not_mem_nil, TyD.isAgg, Nat.add_assoc, Bool.false_eq_true] <;> rfl))))
      refine W.yield (by decide) (by simp (disch := omega) only [push_cast, simprocAttr, hS1, hk, hg, hx, he, natNe, List.mem_cons, List.not_mem_nil, TyD.isAgg, Nat.add_assoc, Bool.false_eq_true] <;> rfl) (va := [.agg (eSpan ⟨x.from_, 43199⟩)]) (by simp (disch := omega) only [push_cast, simprocAttr, hS1, hk, hg, hx, he, natNe, List.mem_cons, List.not_mem_nil, TyD.isAgg, Nat.add_assoc, Bool.false_eq_true] <;> rfl) (hJ.y p1 _ _ ⟨x.from_, 43199⟩ (by (try simp (disch := omega) only [push_cast, simprocAttr]); (repeat (refine hJ.frame _ _ _ _ ?_ (by omega))); exact hp21) (show n0 ≤ s1.nx + 1 by omega) (by dsimp only; omega) (by dsimp only; omega) (by dsimp only; omega) (by omega)) ?_
      rintro b H2 nx2 ⟨rfl, hJ2, hn2q, hfr⟩
      have hn3 : s1.nx + 1 ≤ nx2 := hn2q
      repeat' first
        | apply AW.seq | apply AW.region | apply AW.ret | apply AW.block | apply AW.skip | apply AW.exit | apply AW.scope | apply AW.label | apply AWL.nil
        | ((first | (apply W.step cx_ok; decide) | apply W.store cx_ok | (apply W.gS; rfl; decide) | apply AW.cond); (simp (disch := omega) only [push_cast, simprocAttr, hS1, hk, hg, hx, he, natNe, List.mem_cons, List.not_mem_nil, TyD.isAgg, Nat.add_assoc, Bool.false_eq_true] <;> rfl); all_goals try ((with_reducible intro hI); try first | (cases hI; done) | (simp only [INTS, not_true_eq_false] at hI; try first | (exfalso; omega) | (have hT : True := hI; clear hT hI))))
        | ((first | apply W.retC | apply W.endC' | apply W.retM | apply W.endM' | apply W.ret1 | apply W.end1 | apply W.ret2 | apply W.end2 | apply W.ret3 | apply W.end3 | apply W.ret0 | apply W.end0); (iterate 2 (try (simp (disch := omega) only [push_cast, simprocAttr, hS1, hk, hg, hx, he, natNe, List.mem_cons, List.not_mem_nil, TyD.isAgg, Nat.add_assoc, Bool.false_eq_true] <;> rfl))))
      refine W.yield (by decide) (by simp (disch := omega) only [push_cast, simprocAttr, hS1, hk, hg, hx, he, natNe, List.mem_cons, List.not_mem_nil, TyD.isAgg, Nat.add_assoc, Bool.false_eq_true] <;> rfl) (va := [.agg (eSpan ⟨0, x.from_ + x.len - 43200⟩)]) (by simp (disch := omega) only [push_cast, simprocAttr, hS1, hk, hg, hx, he, natNe, List.mem_cons, List.not_mem_nil, TyD.isAgg, Nat.add_assoc, Bool.false_eq_true] <;> rfl) (hJ.y (p1 ++ [⟨x.from_, 43199⟩]) _ _ ⟨0, x.from_ + x.len - 43200⟩ (by (try simp (disch := omega) only [push_cast, simprocAttr]); (repeat (refine hJ.frame _ _ _ _ ?_ (by omega))); exact hJ2) (show n0 ≤ nx2 by omega) (by dsimp only; omega) (by dsimp only; omega) (by dsimp only; omega) (by rw [List.length_append, List.length_singleton]; omega)) ?_
      rintro b H3 nx3 ⟨rfl, hJ3, hn3q, hfr3⟩
      have hn4 : nx2 ≤ nx3 := hn3q
      have hJ4 : J (p1 ++ [⟨x.from_, 43199⟩, ⟨0, x.from_ + x.len - 43200⟩]) H3 := by rw [List.append_assoc] at hJ3; exact hJ3
      repeat' first
        | apply AW.seq | apply AW.region | apply AW.ret | apply AW.block | apply AW.skip | apply AW.exit | apply AW.scope | apply AW.label | apply AWL.nil
        | ((first | (apply W.step cx_ok; decide) | apply W.store cx_ok | (apply W.gS; rfl; decide) | apply AW.cond); (simp (disch := omega) only [push_cast, simprocAttr, hS1, hk, hg, hx, he, natNe, List.mem_cons, List.not_mem_nil, TyD.isAgg, Nat.add_assoc, Bool.false_eq_true] <;> rfl); all_goals try ((with_reducible intro hI); try first | (cases hI; done) | (simp only [INTS, not_true_eq_false] at hI; try first | (exfalso; omega) | (have hT : True := hI; clear hT hI))))
        | ((first | apply W.retC | apply W.endC' | apply W.retM | apply W.endM' | apply W.ret1 | apply W.end1 | apply W.ret2 | apply W.end2 | apply W.ret3 | apply W.end3 | apply W.ret0 | apply W.end0); (iterate 2 (try (simp (disch := omega) only [push_cast, simprocAttr, hS1, hk, hg, hx, he, natNe, List.mem_cons, List.not_mem_nil, TyD.isAgg, Nat.add_assoc, Bool.false_eq_true] <;> rfl))))
      all_goals
        (refine ⟨rest1.length, ?_, k1 + 1, p1 ++ [⟨x.from_, 43199⟩, ⟨0, x.from_ + x.len - 43200⟩], rest1, rfl, hd', hp11, (by (try simp (disch := omega) only [push_cast, simprocAttr]); (repeat (refine hJ.frame _ _ _ _ ?_ (by omega))); exact hJ4), ?_, ?_, ?_, ?_, ?_, ?_⟩; ((simp only [List.length_cons] at *; omega)); all_goals first | (simp (disch := omega) only [push_cast, simprocAttr, hS1, hk, hg, hx, he, natNe, List.mem_cons, List.not_mem_nil, TyD.isAgg, Nat.add_assoc, Bool.false_eq_true] <;> first | rfl | omega) | omega)
end Go.Proofs.Dz

namespace Go.Pg
open Go Go.RowKit
section
variable {C : Cx} {N : Nat} {Q : Exit → St → Prop} {s : St} {ops : Array Oper} {rest : List Oper} {o : Oper}
def NewR (row : Row) (r : AV) (H : Nat → Option AO) (nx : Nat) : Prop :=
  NewRow (· = row) r H nx ∨ (row.es = [] ∧ row.lo = 0 ∧ row.fro = false ∧ (r = .v (.slice none 0 0) ∨ ∃ i, r = .ref i 0 0 ∧ rowAt H i = some row))
end
section
variable {C : Cx} {N : Nat} {Q : Exit → St → Prop} {s : St} {ops : Array Oper} {rest : List Oper} {ty : TypeId} {ps : String} {af : Array Edge} {d : Nat}
variable {H0 : Nat → Option AO} {b : Nat} {tg mk av : List Nat} {Fin : St → Prop} {i : Nat}
end
end Go.Pg
