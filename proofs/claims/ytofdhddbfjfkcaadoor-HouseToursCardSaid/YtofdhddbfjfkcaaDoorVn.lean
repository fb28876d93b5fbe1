/-
  A slice that is built and only read is a list at once. Conditions: the table of types is the program's.
-/
import Derived.Test.YtofdhddbfjfkcaaDoorPgb
import Derived.Test.YtofdhddbfjfkcaaDoorVk
namespace Go.Pg
open Go Go.RowKit

/-- A value that names no memory; or nothing is known of it. -/
def pur (c : AV) : AV := if pureA c = true then c else .junk
theorem pur_rep {σ : Sg} {w : World} {c : AV} {u : Value} (h : Rep σ w c u) : Rep (pureSg σ.S) w (pur c) u := by
  unfold pur
  split
  · rename_i hp; exact Rep.pure_ c u hp h
  · trivial

section
variable {C : Cx} {N : Nat} {ops : Array Oper} {d : Nat} {op : Op} {ty : TypeId} {ps : String} {af : Array Edge} {tg mk av : List Nat} {H0 : Nat → Option AO} {b i : Nat} {Fin : St → Prop} {rest : List Oper} {s : St}

theorem one_buildL (hC : C.OK) (hN : d < N) {s' : St} {n : Nat} {row : Row} (h : stepA C.T C.eqT (fun _ => none) (fun x => pur (s'.ev x)) 0 op = some (.ref 0 0 n, some row)) (hp : row.es.all pureL = true) (hn : row.es.length = n) (hlo : row.lo ≤ n) :
    One C N ops ⟨some d, op, ty, ps, af, none⟩ s' ⟨upd s'.tm d (.lst row.es), s'.H, s'.nx⟩ := by
  rintro S0 w0 a w K Q hE ⟨σ, hσ⟩ hK
  have hi0 : Inv w.heap.size (Fr.of σ.S) w (fun _ => none) (pureSg σ.S) :=
    ⟨fun id => by simp [pureSg], fun id _ => ⟨rfl, fun b h => by simp [pureSg] at h⟩, fun b h => ⟨(hσ.inv.S_lt b h).1, .inl h⟩, fun b id h => by simp [pureSg] at h, fun id r h => by simp at h, fun id kt et es h => by simp at h, trivial⟩
  obtain ⟨v, w', σ', h1, h2, h3, h4, h5⟩ := stepA_sound (o := ⟨some d, op, ty, ps, af, none⟩) hC.T hC.eqT hi0 (Nat.le_refl _) rfl (fun x => pur_rep (hσ.ev x)) h
  rw [if_pos (by simp [Region.wanted])]
  refine .inl ?_
  simp only [Oper.wp, Oper.upon, h1]
  have hv : viewA (putH (fun _ => none) 0 (some row)) (.ref 0 0 n) = some (.lst row.es) := by
    have hr : rowAt (putH (fun _ => none) 0 (some row)) 0 = some row := by simp [putH, rowAt, updH]
    unfold viewA
    rw [hr]
    simp only [Nat.zero_add]
    rw [if_pos ⟨hlo, by omega, hp⟩, List.drop_zero, List.take_of_length_le (by omega)]
  have hr := viewA_sound h4 (S' := (σ.more w.heap.size w'.heap.size).S) (fun b hb => by
    have := h4.S_lt b hb
    rcases this.2 with hq | hq
    · exact .inl hq
    · exact .inr ⟨hq, this.1⟩) _ _ _ hv (fun id _ b hb => .inr (h4.own_lt b id hb)) h5
  have hmore := hσ.inv.more hσ.size h2
  have hlem := hσ.inv.le_more h2
  exact hK _ _ ⟨_, hσ.put hN (s' := ⟨upd s'.tm d (.lst row.es), s'.H, s'.nx⟩) hmore hσ.nx hlem (h2.mono hσ.size) hr.lift rfl⟩

/-- A slice that is built and only read: no object. -/
theorem D.buildL (hC : C.OK) (hN : d < N) (hi : i ∉ tg ∧ i ∈ mk) {n : Nat} {row : Row} (h : stepA C.T C.eqT (fun _ => none) (fun x => pur (s.ev x)) 0 op = some (.ref 0 0 n, some row)) (hp : row.es.all pureL = true) (hn : row.es.length = n) (hlo : row.lo ≤ n)
    (k : DW C N ops H0 b tg mk av Fin (i + 1) rest ⟨upd s.tm d (.lst row.es), s.H, s.nx⟩) :
    DW C N ops H0 b tg mk av Fin i (⟨some d, op, ty, ps, af, none⟩ :: rest) s := by
  refine ⟨.lst row.es, ⟨upd s.tm d (.lst row.es), s.H, s.nx⟩, rfl, ?_, k⟩
  rw [if_neg hi.1]
  refine ⟨none, rfl, rfl, .inl rfl, fun s' hx _ ht => ?_⟩
  exact one_buildL hC hN (stepA_mono (fun _ _ h => h) (fun x hx => congrArg pur (ev_congr ht x hx).symm) h) hp hn hlo
end
end Go.Pg

set_option maxHeartbeats 8000000
set_option linter.unusedSimpArgs false
set_option linter.unusedVariables false
set_option maxRecDepth 10000
namespace Go.Proofs.Hs
open Go Go.Pg Go.Proofs

theorem near_mem {X : List Int} : ∀ (l : List Int) (p : Int × Int), (nearL X l p).1 = p.1 ∨ (nearL X l p).1 ∈ l
  | [], p => .inl rfl
  | r :: l, p => by
    unfold nearL
    rcases near_mem l (if nearC (X.getD r.toNat 0) r p = true then (r, X.getD r.toNat 0) else p) with h | h
    · split at h
      · rename_i hc; right; rw [if_pos hc, h]; simp
      · rename_i hc; left; rw [if_neg hc]; exact h
    · right; exact List.mem_cons_of_mem _ h
theorem viewLL_ints (H : Nat → Option AO) (l : List Int) : viewLL H (l.map eInt) = some (l.map eInt) := viewLL_map H eInt (fun _ => rfl) l
theorem idsLL_ints (l : List Int) : idsLL (l.map eInt) = [] := idsLL_map eInt (fun _ => rfl) l
theorem askedCons_ok (h : House) (n t : Int) (rooms : List Int) (hfit : h.Fit) (hrm : rooms.length ≤ 1048576) : OKv cx 74 [.agg (eHouse h), .lst ([ai n] :: rooms.map eInt), .lst [[ai t]]] (ai (askedE h (n :: rooms) [t])) := asked_ok h (n :: rooms) [t] hfit (by simp; omega) (by simp)
theorem lo_le1 (l : List Int) : ((if l.isEmpty = true then 0 else 1 + l.length) ≤ 1 + l.length) = True := eq_true (by split <;> omega)
theorem lo_le2 (l : List Int) : (1 + l.length ≤ l.length + 1) = True := eq_true (by omega)
theorem cons_all (n : Int) (rooms : List Int) : ([ai n] :: rooms.map eInt).all pureL = true := pure_map eInt (fun _ => rfl) (n :: rooms)
theorem cons_take (n : Int) (rooms : List Int) : ([ai n] :: rooms.map eInt).take (1 + rooms.length) = [ai n] :: rooms.map eInt := by rw [List.take_of_length_le (by simp; omega)]
theorem cons_take' (n : Int) (rooms : List Int) : ([ai n] :: rooms.map eInt).take (rooms.length + 1) = [ai n] :: rooms.map eInt := by rw [List.take_of_length_le (by simp)]
theorem Nearest_ok (h : House) (n0 t : Int) (rooms : List Int) (hfit : h.Fit) (hrm : rooms.length ≤ 1048576) : OKv cx 63 [.agg (eHouse h), ai n0, ai t, lInt rooms] (.tup [ai (nearH h n0 t rooms).1, ai (nearH h n0 t rooms).2.1, ai (nearH h n0 t rooms).2.2]) := by
  by_cases he : askedE h (n0 :: rooms) [t] = 0
  · obtain ⟨hc, hrr, htt⟩ := askedE_zero he
    have hra := hrr n0 (by simp)
    have ht := htt t (by simp)
    unfold isRoom at hra
    have hv := Check_V hc
    have hrl := hv.rooms
    have hao := arrivals_ok h n0 t hfit hv hra ht
    rw [arrH_eq hv hra ht] at hao
    have hXl := (arrR_is hv (a := n0.toNat) (by omega) (t := t) (by omega)).1
    have hE : nearH h n0 t rooms = if (nearL (arrR h n0.toNat t) rooms (-1, 1073741824)).1 < 0 then (0, 0, 5) else ((nearL (arrR h n0.toNat t) rooms (-1, 1073741824)).1, (nearL (arrR h n0.toNat t) rooms (-1, 1073741824)).2, 0) := if_neg (by simp [he])
    obtain ⟨X, hX⟩ : ∃ x, arrR h n0.toNat t = x := ⟨_, rfl⟩
    rw [hX] at hao hXl hE
    rw [hE]
    have hac := askedCons_ok h n0 t rooms hfit hrm
    refine OKat.of_body (rs := [8, 9, 10]) Tryd.func63 rfl (by decide +kernel) rfl (by simp [Tryd.ntmps63]) ?_
    simp only [Tryd.ntmps63]
    repeat' first
      | ((apply D.buildL cx_ok; decide; decide); (iterate 3 (simp (disch := omega) only [push_cast, simprocAttr, lo_le1, lo_le2, he, cons_all, cons_take, cons_take', List.cons_append, List.nil_append, List.length_cons, List.length_nil, viewLL_ints, idsLL_ints, Nat.le_refl, pur, pureA, pureL, ite_true, Bool.and_self] <;> rfl)); exact Nat.zero_le _)
      | apply AW.seq | apply AW.region | apply AW.ret | apply AW.block | apply AW.skip | apply AW.exit | apply AW.scope | apply AW.label | apply AWL.nil | apply D.nil
      | refine AW.draw (id := 1) cx_mixed [4, 7, 8] [0, 5, 6] [3] 9 (by decide +kernel) ?_
      | refine W.draw cx_mixed (by decide +kernel) ?_
      | ((first | (apply W.step cx_ok; decide) | (apply D.step cx_ok; decide; decide) | (apply W.gS; rfl; decide) | (apply D.gS; rfl; decide; decide) | apply AW.cond); (simp (disch := omega) only [push_cast, simprocAttr, lo_le1, lo_le2, he, cons_all, cons_take, cons_take', List.cons_append, List.nil_append, List.length_cons, List.length_nil, viewLL_ints, idsLL_ints, Nat.le_refl] <;> rfl); all_goals try ((with_reducible intro hI); try first | (cases hI; done) | (simp only [INTS, not_true_eq_false] at hI; try first | (exfalso; omega) | (have hT : True := hI; clear hT hI))))
      | ((first | (apply W.gU; rfl; decide) | (apply D.gU; rfl; decide; decide) | (apply D.store cx_ok; decide) | (apply D.stept cx_ok; decide; decide) | (apply D.stepm cx_ok; decide; decide)); (simp (disch := omega) only [push_cast, simprocAttr, lo_le1, lo_le2, he, cons_all, cons_take, cons_take', List.cons_append, List.nil_append, List.length_cons, List.length_nil, viewLL_ints, idsLL_ints, Nat.le_refl] <;> rfl); try first | exact .inl rfl | exact .inr (by simp))
      | ((apply D.alloc cx_ok; decide; decide); (simp (disch := omega) only [push_cast, simprocAttr, lo_le1, lo_le2, he, cons_all, cons_take, cons_take', List.cons_append, List.nil_append, List.length_cons, List.length_nil, viewLL_ints, idsLL_ints, Nat.le_refl] <;> rfl); (simp (disch := omega) only [push_cast, simprocAttr, lo_le1, lo_le2, he, cons_all, cons_take, cons_take', List.cons_append, List.nil_append, List.length_cons, List.length_nil, viewLL_ints, idsLL_ints, Nat.le_refl, updH_at, Nat.add_assoc]); (simp (disch := omega) only [push_cast, simprocAttr, lo_le1, lo_le2, he, cons_all, cons_take, cons_take', List.cons_append, List.nil_append, List.length_cons, List.length_nil, viewLL_ints, idsLL_ints, Nat.le_refl] <;> omega))
      | ((apply D.alloct cx_ok; decide; decide); (simp (disch := omega) only [push_cast, simprocAttr, lo_le1, lo_le2, he, cons_all, cons_take, cons_take', List.cons_append, List.nil_append, List.length_cons, List.length_nil, viewLL_ints, idsLL_ints, Nat.le_refl] <;> rfl); first | exact .inl rfl | exact .inr (by simp))
      | (apply D.append cx_ok; decide; decide; rfl; rfl; rfl; decide; (iterate 3 (simp (disch := omega) only [push_cast, simprocAttr, lo_le1, lo_le2, he, cons_all, cons_take, cons_take', List.cons_append, List.nil_append, List.length_cons, List.length_nil, viewLL_ints, idsLL_ints, Nat.le_refl] <;> rfl)); simp; (first | rfl | exact idsLL_ints _); ((try dsimp only); (try simp only [List.length_map, List.length_append, List.length_cons, List.length_nil]); omega); ((try dsimp only); (try simp only [List.length_map, List.length_append, List.length_cons, List.length_nil]); omega); first | exact .inl rfl | exact .inr (by simp))
      | ((first | (apply W.callv cx_ok; decide) | (apply D.callv cx_ok; decide; decide) | (apply D.callvt cx_ok; decide; decide)); (iterate 2 (simp (disch := omega) only [push_cast, simprocAttr, lo_le1, lo_le2, he, cons_all, cons_take, cons_take', List.cons_append, List.nil_append, List.length_cons, List.length_nil, viewLL_ints, idsLL_ints, Nat.le_refl] <;> rfl)); (with_reducible first | exact hac | exact hao); try first | rfl | (simp (disch := omega) only [push_cast, simprocAttr, lo_le1, lo_le2, he, cons_all, cons_take, cons_take', List.cons_append, List.nil_append, List.length_cons, List.length_nil, viewLL_ints, idsLL_ints, Nat.le_refl] <;> rfl))
      | ((first | apply W.ret3 | apply W.end3); (iterate 2 (try (simp (disch := omega) only [push_cast, simprocAttr, lo_le1, lo_le2, he, cons_all, cons_take, cons_take', List.cons_append, List.nil_append, List.length_cons, List.length_nil, viewLL_ints, idsLL_ints, Nat.le_refl] <;> rfl))))
    refine AW.loop (fun n s => ∃ (k : Nat) (rm wh : Int) (rest : List Int), n = rest.length ∧ (rooms.drop k = rest) ∧ (nearL X rest (rm, wh) = nearL X rooms (-1, 1073741824)) ∧ (-1 ≤ rm ∧ rm < (h.rooms.length : Int)) ∧ s.tm 12 = lInt X ∧ s.tm 14 = ai rm ∧ s.tm 15 = ai wh ∧ s.tm 36 = lInt rooms ∧ s.tm 37 = ai rooms.length ∧ s.tm 38 = ai k) (rooms.length) ⟨0, -1, 1073741824, rooms, rfl, rfl, rfl, (by omega), ?_, ?_, ?_, ?_, ?_, ?_⟩ ?_
    iterate 6 (first | (simp (disch := omega) only [push_cast, simprocAttr, lo_le1, lo_le2, he, cons_all, cons_take, cons_take', List.cons_append, List.nil_append, List.length_cons, List.length_nil, viewLL_ints, idsLL_ints, Nat.le_refl] <;> first | rfl | omega) | omega)
    rintro n s ⟨k, rm, wh, rest, hn, hp0, hp1, hp2, hS⟩
    rcases rest with _ | ⟨x, rest⟩
    · have hk := drop_nil hp0
      have hq1 : (nearL X rooms (-1, 1073741824)).1 = rm ∧ (nearL X rooms (-1, 1073741824)).2 = wh := by rw [← hp1]; exact ⟨rfl, rfl⟩
      rw [hq1.1, hq1.2]
      repeat' first
        | apply AW.seq | apply AW.region | apply AW.ret | apply AW.block | apply AW.skip | apply AW.exit | apply AW.scope | apply AW.label | apply AWL.nil | apply D.nil
        | refine W.draw cx_mixed (by decide +kernel) ?_
        | ((first | (apply W.step cx_ok; decide) | (apply D.step cx_ok; decide; decide) | (apply W.gS; rfl; decide) | (apply D.gS; rfl; decide; decide) | apply AW.cond); (simp (disch := omega) only [push_cast, simprocAttr, hS, hk] <;> rfl); all_goals try ((with_reducible intro hI); try first | (cases hI; done) | (simp only [INTS, not_true_eq_false] at hI; try first | (exfalso; omega) | (have hT : True := hI; clear hT hI))))
        | ((first | (apply W.gU; rfl; decide) | (apply D.gU; rfl; decide; decide)); (simp (disch := omega) only [push_cast, simprocAttr, hS, hk] <;> rfl))
        | ((first | apply W.ret3 | apply W.end3); (iterate 2 (try (simp (disch := omega) only [push_cast, simprocAttr, hS, hk] <;> rfl))))
      all_goals (show _ = _; first | (rw [if_pos (by omega)]; done) | (rw [if_neg (by omega)]; done))
    · obtain ⟨hk, hg, hd', hl', hm, hx⟩ := drop_cons hp0 eInt []
      have hxr := hrr x (by simp [hm])
      unfold isRoom at hxr
      have c1 := hxr.1
      have c2 : x < (X.length : Int) := by omega
      have c3 : x.toNat < X.length := by omega
      have c4 := hxr.2
      have c5 : x.toNat < h.rooms.length := by omega
      repeat' first
        | apply AW.seq | apply AW.region | apply AW.ret | apply AW.block | apply AW.skip | apply AW.exit | apply AW.scope | apply AW.label | apply AWL.nil | apply D.nil
        | refine W.draw cx_mixed (by decide +kernel) ?_
        | ((first | (apply W.step cx_ok; decide) | (apply D.step cx_ok; decide; decide) | (apply W.gS; rfl; decide) | (apply D.gS; rfl; decide; decide) | apply AW.cond); (simp (disch := omega) only [push_cast, simprocAttr, hS, hk, hg, c1, c2, c3, c4, c5, hXl] <;> rfl); all_goals try ((with_reducible intro hI); try first | (cases hI; done) | (simp only [INTS, not_true_eq_false] at hI; try first | (exfalso; omega) | (have hT : True := hI; clear hT hI))))
        | ((first | (apply W.gU; rfl; decide) | (apply D.gU; rfl; decide; decide)); (simp (disch := omega) only [push_cast, simprocAttr, hS, hk, hg, c1, c2, c3, c4, c5, hXl] <;> rfl))
        | ((first | apply W.ret3 | apply W.end3); (iterate 2 (try (simp (disch := omega) only [push_cast, simprocAttr, hS, hk, hg, c1, c2, c3, c4, c5, hXl] <;> rfl))))
      all_goals first
        | (have hcc : nearC (X.getD x.toNat 0) x (rm, wh) = true := by unfold nearC; simp only [INTS, Bool.or_eq_true, Bool.and_eq_true, decide_eq_true_eq]; omega
           rw [nearL, if_pos hcc] at hp1
           (refine ⟨rest.length, ?_, k + 1, x, X.getD x.toNat 0, rest, rfl, hd', hp1, (by omega), ?_, ?_, ?_, ?_, ?_, ?_⟩; ((simp only [List.length_cons] at *; omega)); all_goals first | (simp (disch := omega) only [push_cast, simprocAttr, hS, hg, hk, c1, c2, c3, c4, c5, hXl] <;> first | rfl | omega) | omega))
        | (have hcc : ¬ nearC (X.getD x.toNat 0) x (rm, wh) = true := by unfold nearC; simp only [INTS, Bool.or_eq_true, Bool.and_eq_true, decide_eq_true_eq]; omega
           rw [nearL, if_neg hcc] at hp1
           (refine ⟨rest.length, ?_, k + 1, rm, wh, rest, rfl, hd', hp1, hp2, ?_, ?_, ?_, ?_, ?_, ?_⟩; ((simp only [List.length_cons] at *; omega)); all_goals first | (simp (disch := omega) only [push_cast, simprocAttr, hS, hg, hk, c1, c2, c3, c4, c5, hXl] <;> first | rfl | omega) | omega))
  · have hE : nearH h n0 t rooms = (0, 0, askedE h (n0 :: rooms) [t]) := if_pos he
    have hac := askedCons_ok h n0 t rooms hfit hrm
    refine OKat.of_body (rs := [8, 9, 10]) Tryd.func63 rfl (by decide +kernel) rfl (by simp [Tryd.ntmps63]) ?_
    simp only [Tryd.ntmps63]
    repeat' first
      | ((apply D.buildL cx_ok; decide; decide); (iterate 3 (simp (disch := omega) only [push_cast, simprocAttr, lo_le1, lo_le2, he, cons_all, cons_take, cons_take', List.cons_append, List.nil_append, List.length_cons, List.length_nil, viewLL_ints, idsLL_ints, Nat.le_refl, pur, pureA, pureL, ite_true, Bool.and_self] <;> rfl)); exact Nat.zero_le _)
      | apply AW.seq | apply AW.region | apply AW.ret | apply AW.block | apply AW.skip | apply AW.exit | apply AW.scope | apply AW.label | apply AWL.nil | apply D.nil
      | refine AW.draw (id := 1) cx_mixed [4, 7, 8] [0, 5, 6] [3] 9 (by decide +kernel) ?_
      | refine W.draw cx_mixed (by decide +kernel) ?_
      | ((first | (apply W.step cx_ok; decide) | (apply D.step cx_ok; decide; decide) | (apply W.gS; rfl; decide) | (apply D.gS; rfl; decide; decide) | apply AW.cond); (simp (disch := omega) only [push_cast, simprocAttr, lo_le1, lo_le2, he, cons_all, cons_take, cons_take', List.cons_append, List.nil_append, List.length_cons, List.length_nil, viewLL_ints, idsLL_ints, Nat.le_refl] <;> rfl); all_goals try ((with_reducible intro hI); try first | (cases hI; done) | (simp only [INTS, not_true_eq_false] at hI; try first | (exfalso; omega) | (have hT : True := hI; clear hT hI))))
      | ((first | (apply W.gU; rfl; decide) | (apply D.gU; rfl; decide; decide) | (apply D.store cx_ok; decide) | (apply D.stept cx_ok; decide; decide) | (apply D.stepm cx_ok; decide; decide)); (simp (disch := omega) only [push_cast, simprocAttr, lo_le1, lo_le2, he, cons_all, cons_take, cons_take', List.cons_append, List.nil_append, List.length_cons, List.length_nil, viewLL_ints, idsLL_ints, Nat.le_refl] <;> rfl); try first | exact .inl rfl | exact .inr (by simp))
      | ((apply D.alloc cx_ok; decide; decide); (simp (disch := omega) only [push_cast, simprocAttr, lo_le1, lo_le2, he, cons_all, cons_take, cons_take', List.cons_append, List.nil_append, List.length_cons, List.length_nil, viewLL_ints, idsLL_ints, Nat.le_refl] <;> rfl); (simp (disch := omega) only [push_cast, simprocAttr, lo_le1, lo_le2, he, cons_all, cons_take, cons_take', List.cons_append, List.nil_append, List.length_cons, List.length_nil, viewLL_ints, idsLL_ints, Nat.le_refl, updH_at, Nat.add_assoc]); (simp (disch := omega) only [push_cast, simprocAttr, lo_le1, lo_le2, he, cons_all, cons_take, cons_take', List.cons_append, List.nil_append, List.length_cons, List.length_nil, viewLL_ints, idsLL_ints, Nat.le_refl] <;> omega))
      | ((apply D.alloct cx_ok; decide; decide); (simp (disch := omega) only [push_cast, simprocAttr, lo_le1, lo_le2, he, cons_all, cons_take, cons_take', List.cons_append, List.nil_append, List.length_cons, List.length_nil, viewLL_ints, idsLL_ints, Nat.le_refl] <;> rfl); first | exact .inl rfl | exact .inr (by simp))
      | (apply D.append cx_ok; decide; decide; rfl; rfl; rfl; decide; (iterate 3 (simp (disch := omega) only [push_cast, simprocAttr, lo_le1, lo_le2, he, cons_all, cons_take, cons_take', List.cons_append, List.nil_append, List.length_cons, List.length_nil, viewLL_ints, idsLL_ints, Nat.le_refl] <;> rfl)); simp; (first | rfl | exact idsLL_ints _); ((try dsimp only); (try simp only [List.length_map, List.length_append, List.length_cons, List.length_nil]); omega); ((try dsimp only); (try simp only [List.length_map, List.length_append, List.length_cons, List.length_nil]); omega); first | exact .inl rfl | exact .inr (by simp))
      | ((first | (apply W.callv cx_ok; decide) | (apply D.callv cx_ok; decide; decide) | (apply D.callvt cx_ok; decide; decide)); (iterate 2 (simp (disch := omega) only [push_cast, simprocAttr, lo_le1, lo_le2, he, cons_all, cons_take, cons_take', List.cons_append, List.nil_append, List.length_cons, List.length_nil, viewLL_ints, idsLL_ints, Nat.le_refl] <;> rfl)); (with_reducible first | exact hac); try first | rfl | (simp (disch := omega) only [push_cast, simprocAttr, lo_le1, lo_le2, he, cons_all, cons_take, cons_take', List.cons_append, List.nil_append, List.length_cons, List.length_nil, viewLL_ints, idsLL_ints, Nat.le_refl] <;> rfl))
      | ((first | apply W.ret3 | apply W.end3); (iterate 2 (try (simp (disch := omega) only [push_cast, simprocAttr, lo_le1, lo_le2, he, cons_all, cons_take, cons_take', List.cons_append, List.nil_append, List.length_cons, List.length_nil, viewLL_ints, idsLL_ints, Nat.le_refl] <;> rfl))))
    all_goals (show _ = _; rw [hE])
theorem near_ask {h : House} {n0 t : Int} {rooms : List Int} (hr : roomE h n0 t = 0) : askedE h (n0 :: rooms) [t] = if rooms.all (roomB h) = true then 0 else 1 := by
  obtain ⟨hc, h1, h2⟩ := roomE_zero hr
  unfold timeOK at h2
  have hb : roomB h n0 = true := by simp only [roomB, Bool.and_eq_true, decide_eq_true_eq]; exact h1
  have htb : timeB t = true := by simp only [timeB, Bool.and_eq_true, decide_eq_true_eq]; exact h2
  unfold askedE
  rw [if_neg (by simp [hc])]
  simp only [List.all_cons, List.all_nil, htb, Bool.and_true, if_true, hb, Bool.true_and]
theorem near_ask1 {h : House} {n0 t : Int} {rooms : List Int} (hr : ¬ roomE h n0 t = 0) : askedE h (n0 :: rooms) [t] = roomE h n0 t := by
  by_cases hc : (Check h).1 = 0
  · rw [room_one hc hr]
    refine asked_one hc fun he => hr ?_
    obtain ⟨_, h1, h2⟩ := askedE_zero he
    have h3 := h1 n0 (by simp)
    have h4 := h2 t (by simp)
    unfold isRoom at h3
    unfold roomE
    rw [if_neg (by simp [hc]), if_neg (by omega)]
  · unfold askedE roomE
    rw [if_pos hc, if_pos hc]
theorem NearestR_ok (h : House) (n0 t : Int) (rooms : List Int) (hfit : h.Fit) (hrm : rooms.length ≤ 1048576) : OKv cx 64 [.agg (eHouse h), ai n0, ai t, lInt rooms] (.agg [ai (nearH h n0 t rooms).1, ai (nearH h n0 t rooms).2.1, ai (nearH h n0 t rooms).2.2]) := by
  by_cases hro : roomE h n0 t = 0
  · obtain ⟨hc, hra, ht⟩ := roomE_zero hro
    unfold timeOK at ht
    have hv := Check_V hc
    have hrl := hv.rooms
    have hna := near_ask (rooms := rooms) hro
    have hbr : ∀ x : Int, roomB h x = true ↔ isRoom h x := fun x => by simp only [roomB, Bool.and_eq_true, decide_eq_true_eq]; exact Iff.rfl
    by_cases halb : rooms.all (roomB h) = true
    · rw [if_pos halb] at hna
      have hall : ∀ r ∈ rooms, isRoom h r := fun r hr => (hbr r).1 (List.all_eq_true.1 halb r hr)
      have hE : nearH h n0 t rooms = if (nearL (arrR h n0.toNat t) rooms (-1, 1073741824)).1 < 0 then (0, 0, 5) else ((nearL (arrR h n0.toNat t) rooms (-1, 1073741824)).1, (nearL (arrR h n0.toNat t) rooms (-1, 1073741824)).2, 0) := if_neg (by simp [hna])
      have hao := Arrivals_ok h n0 t hfit hv hra ht
      obtain ⟨hXl, hXi⟩ := arrR_is hv (a := n0.toNat) (by omega) (t := t) (by omega)
      have hXb : ∀ x : Int, isRoom h x → 0 ≤ (arrR h n0.toNat t).getD x.toNat 0 ∧ (arrR h n0.toNat t).getD x.toNat 0 ≤ 1073741824 := fun x hx => by have := arr_at hv hra hx (t := t) (by omega); omega
      obtain ⟨X, hX⟩ : ∃ x, arrR h n0.toNat t = x := ⟨_, rfl⟩
      rw [hX] at hao hXl hE hXb
      rw [hE]
      refine OKat.of_bodyM cx_ok (rs := [.cell 8 34]) Tryd.func64 rfl (by decide +kernel) rfl (by simp [Tryd.ntmps64]) ?_
      simp only [Tryd.ntmps64]
      repeat' first
        | apply AW.seq | apply AW.region | apply AW.ret | apply AW.block | apply AW.skip | apply AW.exit | apply AW.scope | apply AW.label | apply AWL.nil | apply D.nil
        | refine W.draw cx_mixed (by decide +kernel) ?_
        | ((first | (apply W.step cx_ok; decide) | (apply D.step cx_ok; decide; decide) | apply W.store cx_ok | (apply W.gS; rfl; decide) | (apply D.gS; rfl; decide; decide) | apply AW.cond); (simp (disch := omega) only [push_cast, simprocAttr, hro] <;> rfl); all_goals try ((with_reducible intro hI); try first | (cases hI; done) | (simp only [INTS, not_true_eq_false] at hI; try first | (exfalso; omega) | (have hT : True := hI; clear hT hI))))
        | ((first | (apply W.gU; rfl; decide) | (apply D.gU; rfl; decide; decide)); (simp (disch := omega) only [push_cast, simprocAttr, hro] <;> rfl))
        | ((first | (apply W.callv cx_ok; decide) | (apply D.callv cx_ok; decide; decide)); (iterate 2 (simp (disch := omega) only [push_cast, simprocAttr, hro] <;> rfl)); (with_reducible first | exact room_ok _ _ _ hfit); try first | rfl | (simp (disch := omega) only [push_cast, simprocAttr, hro] <;> rfl))
        | ((first | apply W.retM | apply W.endM'); (iterate 2 (try (simp (disch := omega) only [push_cast, simprocAttr, hro] <;> rfl))))
      refine AW.loop (fun n s => ∃ (k : Nat) (rest : List Int), n = rest.length ∧ (rooms.drop k = rest) ∧ 2 ≤ s.nx ∧ s.tm 1 = ai n0 ∧ s.tm 2 = ai t ∧ s.tm 3 = lInt rooms ∧ s.tm 4 = .ptr 0 0 0 1 ∧ s.tm 8 = .ptr 1 0 0 1 ∧ s.tm 10 = ai k ∧ Pg.rowAt s.H (0) = some ({ k := 3, es := [eHouse h], ty := 26 }) ∧ Pg.rowAt s.H (1) = some ({ k := 3, es := [[ai 0, ai 0, ai 0]], ty := 34 })) (rooms.length) ⟨0, rooms, rfl, rfl, ?_, ?_, ?_, ?_, ?_, ?_, ?_, ?_, ?_⟩ ?_
      iterate 9 (first | (simp (disch := omega) only [push_cast, simprocAttr, hro] <;> first | rfl | omega) | omega)
      rintro n1 s1 ⟨k1, rest1, hn1, hp01, hnl1, hS1⟩
      have hZ1 : (0 : Nat) ≠ s1.nx ∧ s1.nx ≠ (0 : Nat) ∧ (1 : Nat) ≠ s1.nx ∧ s1.nx ≠ (1 : Nat) := by omega
      rcases rest1 with _ | ⟨x, rest1⟩
      · have hk1 := drop_nil hp01
        have q1a : (1 : Nat) ≠ s1.nx := by omega
        have q1b : s1.nx ≠ (1 : Nat) := by omega
        repeat' first
          | apply AW.seq | apply AW.region | apply AW.ret | apply AW.block | apply AW.skip | apply AW.exit | apply AW.scope | apply AW.label | apply AWL.nil | apply D.nil
          | refine W.draw cx_mixed (by decide +kernel) ?_
          | ((first | (apply W.step cx_ok; decide) | (apply D.step cx_ok; decide; decide) | apply W.store cx_ok | (apply W.gS; rfl; decide) | (apply D.gS; rfl; decide; decide) | apply AW.cond); (simp (disch := omega) only [push_cast, simprocAttr, hS1, hZ1, hk1] <;> rfl); all_goals try ((with_reducible intro hI); try first | (cases hI; done) | (simp only [INTS, not_true_eq_false] at hI; try first | (exfalso; omega) | (have hT : True := hI; clear hT hI))))
          | ((first | (apply W.gU; rfl; decide) | (apply D.gU; rfl; decide; decide)); (simp (disch := omega) only [push_cast, simprocAttr, hS1, hZ1, hk1] <;> rfl))
          | ((first | (apply W.callv cx_ok; decide) | (apply D.callv cx_ok; decide; decide)); (iterate 2 (simp (disch := omega) only [push_cast, simprocAttr, hS1, hZ1, hk1] <;> rfl)); (with_reducible first | exact hao); try first | rfl | (simp (disch := omega) only [push_cast, simprocAttr, hS1, hZ1, hk1] <;> rfl))
          | ((first | apply W.retM | apply W.endM'); (iterate 2 (try (simp (disch := omega) only [push_cast, simprocAttr, hS1, hZ1, hk1] <;> rfl))))
        refine AW.loop (fun n s => ∃ (k : Nat) (rm wh er : Int) (rest : List Int), n = rest.length ∧ (rooms.drop k = rest) ∧ (nearL X rest (if er = 0 then rm else -1, wh) = nearL X rooms (-1, 1073741824)) ∧ (0 ≤ wh ∧ wh ≤ 1073741824) ∧ ((er = 0 ∧ 0 ≤ rm ∧ rm < (h.rooms.length : Int)) ∨ (er = 5 ∧ rm = -1 ∧ wh = 1073741824)) ∧ s1.nx + 1 ≤ s.nx ∧ s.tm 3 = lInt rooms ∧ s.tm 8 = .ptr 1 0 0 1 ∧ s.tm 12 = lInt X ∧ s.tm 13 = .ptr s1.nx 0 0 1 ∧ s.tm 14 = ai k ∧ Pg.rowAt s.H (1) = some ({ k := 3, es := [[ai 0, ai 0, ai 0]], ty := 34 }) ∧ Pg.rowAt s.H (s1.nx) = some ({ k := 3, es := [[ai rm, ai wh, ai er]], ty := 34 })) (rooms.length) ⟨0, -1, 1073741824, 5, rooms, rfl, rfl, rfl, (by omega), (.inr ⟨rfl, rfl, rfl⟩), ?_, ?_, ?_, ?_, ?_, ?_, ?_, ?_⟩ ?_
        iterate 8 (first | (simp (disch := omega) only [push_cast, simprocAttr, hS1, hZ1, hk1, q1a, q1b] <;> first | rfl | omega) | omega)
        rintro n2 s2 ⟨k2, rm2, wh2, er2, rest2, hn2, hp02, hp12, hp22, hp32, hnl2, hS2⟩
        have hZ2 : (1 : Nat) ≠ s2.nx ∧ s2.nx ≠ (1 : Nat) ∧ (s1.nx : Nat) ≠ s2.nx ∧ s2.nx ≠ (s1.nx : Nat) := by omega
        rcases rest2 with _ | ⟨y, rest2⟩
        · have hk2 := drop_nil hp02
          rcases hp32 with ⟨e0, e1, e2⟩ | ⟨e0, e1, e2⟩
          · have eT : (er2 = 0) = True := eq_true e0
            rw [← hp12, if_pos e0]
            have hng : ¬ (nearL X [] (rm2, wh2)).1 < 0 := by show ¬ rm2 < 0; omega
            rw [if_neg hng]
            subst e0
            repeat' first
              | apply AW.seq | apply AW.region | apply AW.ret | apply AW.block | apply AW.skip | apply AW.exit | apply AW.scope | apply AW.label | apply AWL.nil | apply D.nil
              | refine W.draw cx_mixed (by decide +kernel) ?_
              | ((first | (apply W.step cx_ok; decide) | (apply D.step cx_ok; decide; decide) | apply W.store cx_ok | (apply W.gS; rfl; decide) | (apply D.gS; rfl; decide; decide) | apply AW.cond); (simp (disch := omega) only [push_cast, simprocAttr, hS2, hZ2, hk2, q1a, q1b] <;> rfl); all_goals try ((with_reducible intro hI); try first | (cases hI; done) | (simp only [INTS, not_true_eq_false] at hI; try first | (exfalso; omega) | (have hT : True := hI; clear hT hI))))
              | ((first | (apply W.gU; rfl; decide) | (apply D.gU; rfl; decide; decide)); (simp (disch := omega) only [push_cast, simprocAttr, hS2, hZ2, hk2, q1a, q1b] <;> rfl))
              | ((first | apply W.retM | apply W.endM'); (iterate 2 (try (simp (disch := omega) only [push_cast, simprocAttr, hS2, hZ2, hk2, q1a, q1b] <;> rfl))))
            all_goals (show _ = _; rfl)
          · rw [← hp12, if_neg (by omega)]
            have hng : (nearL X [] (-1, wh2)).1 < 0 := by show (-1 : Int) < 0; omega
            rw [if_pos hng]
            subst e0
            repeat' first
              | apply AW.seq | apply AW.region | apply AW.ret | apply AW.block | apply AW.skip | apply AW.exit | apply AW.scope | apply AW.label | apply AWL.nil | apply D.nil
              | refine W.draw cx_mixed (by decide +kernel) ?_
              | ((first | (apply W.step cx_ok; decide) | (apply D.step cx_ok; decide; decide) | apply W.store cx_ok | (apply W.gS; rfl; decide) | (apply D.gS; rfl; decide; decide) | apply AW.cond); (simp (disch := omega) only [push_cast, simprocAttr, hS2, hZ2, hk2, q1a, q1b] <;> rfl); all_goals try ((with_reducible intro hI); try first | (cases hI; done) | (simp only [INTS, not_true_eq_false] at hI; try first | (exfalso; omega) | (have hT : True := hI; clear hT hI))))
              | ((first | (apply W.gU; rfl; decide) | (apply D.gU; rfl; decide; decide)); (simp (disch := omega) only [push_cast, simprocAttr, hS2, hZ2, hk2, q1a, q1b] <;> rfl))
              | ((first | apply W.retM | apply W.endM'); (iterate 2 (try (simp (disch := omega) only [push_cast, simprocAttr, hS2, hZ2, hk2, q1a, q1b] <;> rfl))))
            all_goals (show _ = _; rfl)
        · obtain ⟨hk2, hg2, hd'2, hl'2, hm2, hx2⟩ := drop_cons hp02 eInt []
          have hxr := hall y hm2
          have hyb := hXb y hxr
          unfold isRoom at hxr
          have c1 := hxr.1
          have c2 : y < (X.length : Int) := by omega
          have c3 : y.toNat < X.length := by omega
          have c4 := hxr.2
          have c5 : y.toNat < h.rooms.length := by omega
          repeat' first
            | apply AW.seq | apply AW.region | apply AW.ret | apply AW.block | apply AW.skip | apply AW.exit | apply AW.scope | apply AW.label | apply AWL.nil | apply D.nil
            | refine W.draw cx_mixed (by decide +kernel) ?_
            | ((first | (apply W.step cx_ok; decide) | (apply D.step cx_ok; decide; decide) | apply W.store cx_ok | (apply W.gS; rfl; decide) | (apply D.gS; rfl; decide; decide) | apply AW.cond); (simp (disch := omega) only [push_cast, simprocAttr, hS2, hZ2, q1a, q1b, hk2, hg2, c1, c2, c3, c4, c5, hXl] <;> rfl); all_goals try ((with_reducible intro hI); try first | (cases hI; done) | (simp only [INTS, not_true_eq_false] at hI; try first | (exfalso; omega) | (have hT : True := hI; clear hT hI))))
            | ((first | (apply W.gU; rfl; decide) | (apply D.gU; rfl; decide; decide)); (simp (disch := omega) only [push_cast, simprocAttr, hS2, hZ2, q1a, q1b, hk2, hg2, c1, c2, c3, c4, c5, hXl] <;> rfl))
            | ((first | apply W.retM | apply W.endM'); (iterate 2 (try (simp (disch := omega) only [push_cast, simprocAttr, hS2, hZ2, q1a, q1b, hk2, hg2, c1, c2, c3, c4, c5, hXl] <;> rfl))))
          all_goals first
            | (have hcc : nearC (X.getD y.toNat 0) y (if er2 = 0 then rm2 else -1, wh2) = true := by unfold nearC; simp only [INTS, Bool.or_eq_true, Bool.and_eq_true, decide_eq_true_eq]; split <;> omega
               rw [nearL, if_pos hcc] at hp12
               (refine ⟨rest2.length, ?_, k2 + 1, y, X.getD y.toNat 0, 0, rest2, rfl, hd'2, (by rw [if_pos rfl]; exact hp12), hyb, (.inl ⟨rfl, hxr⟩), ?_, ?_, ?_, ?_, ?_, ?_, ?_, ?_⟩; ((simp only [List.length_cons] at *; omega)); all_goals first | (simp (disch := omega) only [push_cast, simprocAttr, hS2, hZ2, hg2, hk2, c1, c2, c3, c4, c5, hXl, q1a, q1b] <;> first | rfl | omega) | omega))
            | (have hcc : ¬ nearC (X.getD y.toNat 0) y (if er2 = 0 then rm2 else -1, wh2) = true := by unfold nearC; simp only [INTS, Bool.or_eq_true, Bool.and_eq_true, decide_eq_true_eq]; split <;> omega
               rw [nearL, if_neg hcc] at hp12
               (refine ⟨rest2.length, ?_, k2 + 1, rm2, wh2, er2, rest2, rfl, hd'2, hp12, hp22, hp32, ?_, ?_, ?_, ?_, ?_, ?_, ?_, ?_⟩; ((simp only [List.length_cons] at *; omega)); all_goals first | (simp (disch := omega) only [push_cast, simprocAttr, hS2, hZ2, hg2, hk2, c1, c2, c3, c4, c5, hXl, q1a, q1b] <;> first | rfl | omega) | omega))
      · obtain ⟨hk1, hg1, hd'1, hl'1, hm1, hx1⟩ := drop_cons hp01 eInt []
        have hxr := hall x hm1
        unfold isRoom at hxr
        have c1 := hxr.1
        have c4 := hxr.2
        have c6 : x ≤ (h.rooms.length : Int) - 1 := by omega
        repeat' first
          | apply AW.seq | apply AW.region | apply AW.ret | apply AW.block | apply AW.skip | apply AW.exit | apply AW.scope | apply AW.label | apply AWL.nil | apply D.nil
          | refine W.draw cx_mixed (by decide +kernel) ?_
          | ((first | (apply W.step cx_ok; decide) | (apply D.step cx_ok; decide; decide) | apply W.store cx_ok | (apply W.gS; rfl; decide) | (apply D.gS; rfl; decide; decide) | apply AW.cond); (simp (disch := omega) only [push_cast, simprocAttr, hS1, hZ1, hk1, hg1, c1, c4, c6] <;> rfl); all_goals try ((with_reducible intro hI); try first | (cases hI; done) | (simp only [INTS, not_true_eq_false] at hI; try first | (exfalso; omega) | (have hT : True := hI; clear hT hI))))
          | ((first | (apply W.gU; rfl; decide) | (apply D.gU; rfl; decide; decide)); (simp (disch := omega) only [push_cast, simprocAttr, hS1, hZ1, hk1, hg1, c1, c4, c6] <;> rfl))
          | ((first | (apply W.callv cx_ok; decide) | (apply D.callv cx_ok; decide; decide)); (iterate 2 (simp (disch := omega) only [push_cast, simprocAttr, hS1, hZ1, hk1, hg1, c1, c4, c6] <;> rfl)); (with_reducible first | exact Room_ok _ _ hfit.rooms); try first | rfl | (simp (disch := omega) only [push_cast, simprocAttr, hS1, hZ1, hk1, hg1, c1, c4, c6] <;> rfl))
          | ((first | apply W.retM | apply W.endM'); (iterate 2 (try (simp (disch := omega) only [push_cast, simprocAttr, hS1, hZ1, hk1, hg1, c1, c4, c6] <;> rfl))))
        all_goals (refine ⟨rest1.length, ?_, k1 + 1, rest1, rfl, hd'1, ?_, ?_, ?_, ?_, ?_, ?_, ?_, ?_, ?_⟩; ((simp only [List.length_cons] at *; omega)); all_goals first | (simp (disch := omega) only [push_cast, simprocAttr, hS1, hZ1, hg1, hk1, c1, c4, c6] <;> first | rfl | omega) | omega)
    · rw [if_neg halb] at hna
      have hall : ¬ ∀ r ∈ rooms, isRoom h r := fun hh => halb (List.all_eq_true.2 fun r hr => (hbr r).2 (hh r hr))
      have hE : nearH h n0 t rooms = (0, 0, 1) := by unfold nearH; rw [if_pos (by rw [hna]; decide), hna]
      have hbad : ∃ r ∈ rooms, ¬ isRoom h r := Classical.byContradiction fun hno => hall fun r hr => Classical.byContradiction fun hq => hno ⟨r, hr, hq⟩
      rw [hE]
      refine OKat.of_bodyM cx_ok (rs := [.cell 8 34]) Tryd.func64 rfl (by decide +kernel) rfl (by simp [Tryd.ntmps64]) ?_
      simp only [Tryd.ntmps64]
      repeat' first
        | apply AW.seq | apply AW.region | apply AW.ret | apply AW.block | apply AW.skip | apply AW.exit | apply AW.scope | apply AW.label | apply AWL.nil | apply D.nil
        | refine W.draw cx_mixed (by decide +kernel) ?_
        | ((first | (apply W.step cx_ok; decide) | (apply D.step cx_ok; decide; decide) | apply W.store cx_ok | (apply W.gS; rfl; decide) | (apply D.gS; rfl; decide; decide) | apply AW.cond); (simp (disch := omega) only [push_cast, simprocAttr, hro] <;> rfl); all_goals try ((with_reducible intro hI); try first | (cases hI; done) | (simp only [INTS, not_true_eq_false] at hI; try first | (exfalso; omega) | (have hT : True := hI; clear hT hI))))
        | ((first | (apply W.gU; rfl; decide) | (apply D.gU; rfl; decide; decide)); (simp (disch := omega) only [push_cast, simprocAttr, hro] <;> rfl))
        | ((first | (apply W.callv cx_ok; decide) | (apply D.callv cx_ok; decide; decide)); (iterate 2 (simp (disch := omega) only [push_cast, simprocAttr, hro] <;> rfl)); (with_reducible first | exact room_ok _ _ _ hfit); try first | rfl | (simp (disch := omega) only [push_cast, simprocAttr, hro] <;> rfl))
        | ((first | apply W.retM | apply W.endM'); (iterate 2 (try (simp (disch := omega) only [push_cast, simprocAttr, hro] <;> rfl))))
      refine AW.loop (fun n s => ∃ (k : Nat) (rest : List Int), n = rest.length ∧ (rooms.drop k = rest) ∧ (∃ r ∈ rest, ¬ isRoom h r) ∧ 2 ≤ s.nx ∧ s.tm 1 = ai n0 ∧ s.tm 2 = ai t ∧ s.tm 3 = lInt rooms ∧ s.tm 4 = .ptr 0 0 0 1 ∧ s.tm 8 = .ptr 1 0 0 1 ∧ s.tm 10 = ai k ∧ Pg.rowAt s.H (0) = some ({ k := 3, es := [eHouse h], ty := 26 }) ∧ Pg.rowAt s.H (1) = some ({ k := 3, es := [[ai 0, ai 0, ai 0]], ty := 34 })) (rooms.length) ⟨0, rooms, rfl, rfl, hbad, ?_, ?_, ?_, ?_, ?_, ?_, ?_, ?_, ?_⟩ ?_
      iterate 9 (first | (simp (disch := omega) only [push_cast, simprocAttr, hro] <;> first | rfl | omega) | omega)
      rintro n1 s1 ⟨k1, rest1, hn1, hp01, hp11, hnl1, hS1⟩
      have hZ1 : (0 : Nat) ≠ s1.nx ∧ s1.nx ≠ (0 : Nat) ∧ (1 : Nat) ≠ s1.nx ∧ s1.nx ≠ (1 : Nat) := by omega
      rcases rest1 with _ | ⟨x, rest1⟩
      · obtain ⟨r, hr, _⟩ := hp11
        cases hr
      · obtain ⟨hk1, hg1, hd'1, hl'1, hm1, hx1⟩ := drop_cons hp01 eInt []
        by_cases hxr : isRoom h x
        · have hrest : ∃ r ∈ rest1, ¬ isRoom h r := by
            obtain ⟨r, hr, hq⟩ := hp11
            rcases List.mem_cons.1 hr with rfl | hr
            · exact absurd hxr hq
            · exact ⟨r, hr, hq⟩
          unfold isRoom at hxr
          have c1 := hxr.1
          have c6 : x ≤ (h.rooms.length : Int) - 1 := by omega
          repeat' first
            | apply AW.seq | apply AW.region | apply AW.ret | apply AW.block | apply AW.skip | apply AW.exit | apply AW.scope | apply AW.label | apply AWL.nil | apply D.nil
            | refine W.draw cx_mixed (by decide +kernel) ?_
            | ((first | (apply W.step cx_ok; decide) | (apply D.step cx_ok; decide; decide) | apply W.store cx_ok | (apply W.gS; rfl; decide) | (apply D.gS; rfl; decide; decide) | apply AW.cond); (simp (disch := omega) only [push_cast, simprocAttr, hS1, hZ1, hk1, hg1, c1, c6] <;> rfl); all_goals try ((with_reducible intro hI); try first | (cases hI; done) | (simp only [INTS, not_true_eq_false] at hI; try first | (exfalso; omega) | (have hT : True := hI; clear hT hI))))
            | ((first | (apply W.gU; rfl; decide) | (apply D.gU; rfl; decide; decide)); (simp (disch := omega) only [push_cast, simprocAttr, hS1, hZ1, hk1, hg1, c1, c6] <;> rfl))
            | ((first | (apply W.callv cx_ok; decide) | (apply D.callv cx_ok; decide; decide)); (iterate 2 (simp (disch := omega) only [push_cast, simprocAttr, hS1, hZ1, hk1, hg1, c1, c6] <;> rfl)); (with_reducible first | exact Room_ok _ _ hfit.rooms); try first | rfl | (simp (disch := omega) only [push_cast, simprocAttr, hS1, hZ1, hk1, hg1, c1, c6] <;> rfl))
            | ((first | apply W.retM | apply W.endM'); (iterate 2 (try (simp (disch := omega) only [push_cast, simprocAttr, hS1, hZ1, hk1, hg1, c1, c6] <;> rfl))))
          all_goals (refine ⟨rest1.length, ?_, k1 + 1, rest1, rfl, hd'1, hrest, ?_, ?_, ?_, ?_, ?_, ?_, ?_, ?_, ?_⟩; ((simp only [List.length_cons] at *; omega)); all_goals first | (simp (disch := omega) only [push_cast, simprocAttr, hS1, hZ1, hg1, hk1, c1, c6] <;> first | rfl | omega) | omega)
        · have hB : (decide (0 ≤ x) && decide (x ≤ (h.rooms.length : Int) - 1)) = false := by
            unfold isRoom at hxr
            simp only [Bool.and_eq_false_iff, decide_eq_false_iff_not]; omega
          repeat' first
            | apply AW.seq | apply AW.region | apply AW.ret | apply AW.block | apply AW.skip | apply AW.exit | apply AW.scope | apply AW.label | apply AWL.nil | apply D.nil
            | refine W.draw cx_mixed (by decide +kernel) ?_
            | ((first | (apply W.step cx_ok; decide) | (apply D.step cx_ok; decide; decide) | apply W.store cx_ok | (apply W.gS; rfl; decide) | (apply D.gS; rfl; decide; decide) | apply AW.cond); (simp (disch := omega) only [push_cast, simprocAttr, hS1, hZ1, hk1, hg1, hB] <;> rfl); all_goals try ((with_reducible intro hI); try first | (cases hI; done) | (simp only [INTS, not_true_eq_false] at hI; try first | (exfalso; omega) | (have hT : True := hI; clear hT hI))))
            | ((first | (apply W.gU; rfl; decide) | (apply D.gU; rfl; decide; decide)); (simp (disch := omega) only [push_cast, simprocAttr, hS1, hZ1, hk1, hg1, hB] <;> rfl))
            | ((first | (apply W.callv cx_ok; decide) | (apply D.callv cx_ok; decide; decide)); (iterate 2 (simp (disch := omega) only [push_cast, simprocAttr, hS1, hZ1, hk1, hg1, hB] <;> rfl)); (with_reducible first | exact Room_ok _ _ hfit.rooms); try first | rfl | (simp (disch := omega) only [push_cast, simprocAttr, hS1, hZ1, hk1, hg1, hB] <;> rfl))
            | ((first | apply W.retM | apply W.endM'); (iterate 2 (try (simp (disch := omega) only [push_cast, simprocAttr, hS1, hZ1, hk1, hg1, hB] <;> rfl))))
          all_goals (show _ = _; rfl)
  · have hE : nearH h n0 t rooms = (0, 0, roomE h n0 t) := by unfold nearH; rw [near_ask1 hro, if_pos hro]
    rw [hE]
    refine OKat.of_bodyM cx_ok (rs := [.cell 8 34]) Tryd.func64 rfl (by decide +kernel) rfl (by simp [Tryd.ntmps64]) ?_
    simp only [Tryd.ntmps64]
    repeat' first
      | apply AW.seq | apply AW.region | apply AW.ret | apply AW.block | apply AW.skip | apply AW.exit | apply AW.scope | apply AW.label | apply AWL.nil | apply D.nil
      | refine W.draw cx_mixed (by decide +kernel) ?_
      | ((first | (apply W.step cx_ok; decide) | (apply D.step cx_ok; decide; decide) | apply W.store cx_ok | (apply W.gS; rfl; decide) | (apply D.gS; rfl; decide; decide) | apply AW.cond); (simp (disch := omega) only [push_cast, simprocAttr, hro] <;> rfl); all_goals try ((with_reducible intro hI); try first | (cases hI; done) | (simp only [INTS, not_true_eq_false] at hI; try first | (exfalso; omega) | (have hT : True := hI; clear hT hI))))
      | ((first | (apply W.gU; rfl; decide) | (apply D.gU; rfl; decide; decide)); (simp (disch := omega) only [push_cast, simprocAttr, hro] <;> rfl))
      | ((first | (apply W.callv cx_ok; decide) | (apply D.callv cx_ok; decide; decide)); (iterate 2 (simp (disch := omega) only [push_cast, simprocAttr, hro] <;> rfl)); (with_reducible first | exact room_ok _ _ _ hfit); try first | rfl | (simp (disch := omega) only [push_cast, simprocAttr, hro] <;> rfl))
      | ((first | apply W.retM | apply W.endM'); (iterate 2 (try (simp (disch := omega) only [push_cast, simprocAttr, hro] <;> rfl))))
    all_goals (show _ = _; rfl)

end Go.Proofs.Hs
