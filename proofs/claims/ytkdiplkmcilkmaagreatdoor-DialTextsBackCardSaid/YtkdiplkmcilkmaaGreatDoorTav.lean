/-
  Contracts of functions, proved by going through their code. No conditions.
-/
import Derived.Test.YtkdiplkmcilkmaaGreatDoorTam
import Derived.Test.YtkdiplkmcilkmaaGreatDoorTat
import Derived.Test.YtkdiplkmcilkmaaGreatDoorTau
set_option linter.unusedVariables false
set_option linter.unusedSimpArgs false
namespace Go.Proofs.Ds
def sumW : List Span → Int
  | [] => 0
  | s :: l => (s.hi - s.lo + 1) + sumW l
theorem near_iff {x : Arc} (hv : validA x = true) {n : Int} (hn : 0 ≤ n) (a : Int) :
    hasF (wideF x n) a = true ↔ ∃ p, 0 ≤ p ∧ p ≤ 43199 ∧ hasF x p = true ∧ apartF p a ≤ n := by
  have hw := wide_valid hv hn
  obtain ⟨h1, h2, h3, h4, h5⟩ := validA_iff.1 hv
  have ha := angF_bd a
  unfold hasF
  rw [hw, hv]
  simp only [Bool.true_and, decide_eq_true_eq]
  constructor
  · intro h
    by_cases g : aheadF x.from_ a ≤ x.len
    · refine ⟨angF a, ha.1, by omega, ?_, ?_⟩
      · unfold aheadF angF at g ⊢; omega
      · unfold apartF aheadF angF; omega
    · by_cases g2 : aheadF a x.from_ ≤ n
      · refine ⟨x.from_, h1, by omega, ?_, ?_⟩
        · unfold aheadF angF; omega
        · unfold apartF; unfold aheadF angF at g2 ⊢; omega
      · refine ⟨angF (x.from_ + x.len), (angF_bd _).1, by have := angF_bd (x.from_ + x.len); omega, ?_, ?_⟩
        · unfold aheadF angF; omega
        · unfold wideF at h
          split at h
          · unfold apartF; unfold aheadF angF at g g2 ⊢; dsimp only at h; omega
          · unfold apartF; unfold aheadF angF at h g g2 ⊢; dsimp only at h; omega
  · rintro ⟨p, p1, p2, p3, p4⟩
    unfold wideF
    split
    · dsimp only; unfold aheadF angF; omega
    · dsimp only
      unfold apartF at p4
      unfold aheadF angF at p3 p4 ⊢
      omega
def nearS (l : List Span) (n z : Int) : Prop := ∃ p, memS p l ∧ apartF p z ≤ n
theorem has_mem {x : Arc} (hv : validA x = true) {p : Int} (h0 : 0 ≤ p) (h1 : p ≤ 43199) : hasF x p = true ↔ memS p (piecesF x) := by
  have := hasF_iff hv p
  rwa [show angF p = p by unfold angF; omega] at this
theorem grow_mem {l : List Arc} (hv : ∀ x ∈ l, validA x = true) {n : Int} (hn : 0 ≤ n) (z : Int) (hz : 0 ≤ z ∧ z ≤ 43199) :
    memS z (spansS (l.map fun x => wideF x n)) ↔ nearS (spansS l) n z := by
  have hw : ∀ x ∈ l.map (fun x => wideF x n), validA x = true := fun x hx => by
    obtain ⟨y, hy, rfl⟩ := List.mem_map.1 hx
    exact wide_valid (hv y hy) hn
  rw [(spans_spec hw).2.2]
  unfold nearS
  constructor
  · rintro ⟨s, hs, k⟩
    obtain ⟨y, hy, hs⟩ := List.mem_flatMap.1 hs
    obtain ⟨x, hx, rfl⟩ := List.mem_map.1 hy
    obtain ⟨p, p1, p2, p3, p4⟩ := (near_iff (hv x hx) hn z).1 ((has_mem (wide_valid (hv x hx) hn) hz.1 hz.2).2 ⟨s, hs, k⟩)
    refine ⟨p, ?_, p4⟩
    rw [(spans_spec hv).2.2]
    obtain ⟨t, ht, kt⟩ := (has_mem (hv x hx) p1 p2).1 p3
    exact ⟨t, List.mem_flatMap.2 ⟨x, hx, ht⟩, kt⟩
  · rintro ⟨p, hp, p4⟩
    have hb := mem_inC (spans_spec hv).2.1 hp
    rw [(spans_spec hv).2.2] at hp
    obtain ⟨t, ht, kt⟩ := hp
    obtain ⟨x, hx, ht⟩ := List.mem_flatMap.1 ht
    obtain ⟨s, hs, k⟩ := (has_mem (wide_valid (hv x hx) hn) hz.1 hz.2).1 ((near_iff (hv x hx) hn z).2 ⟨p, hb.1, hb.2, (has_mem (hv x hx) hb.1 hb.2).2 ⟨t, ht, kt⟩, p4⟩)
    exact ⟨s, List.mem_flatMap.2 ⟨_, List.mem_map.2 ⟨x, hx, rfl⟩, hs⟩, k⟩
theorem apart_mid {p z x y : Int} (hx : 0 ≤ x) (hy : 0 ≤ y) (h : apartF p z ≤ x + y) : ∃ q, 0 ≤ q ∧ q ≤ 43199 ∧ apartF p q ≤ x ∧ apartF q z ≤ y := by
  unfold apartF at h ⊢
  by_cases g : aheadF p z ≤ x + y
  · by_cases g2 : aheadF p z ≤ x
    · refine ⟨angF z, (angF_bd z).1, by have := angF_bd z; omega, ?_, ?_⟩ <;> unfold aheadF angF at * <;> omega
    · refine ⟨angF (p + x), (angF_bd _).1, by have := angF_bd (p + x); omega, ?_, ?_⟩ <;> unfold aheadF angF at * <;> omega
  · by_cases g2 : aheadF z p ≤ x
    · refine ⟨angF z, (angF_bd z).1, by have := angF_bd z; omega, ?_, ?_⟩ <;> unfold aheadF angF at * <;> omega
    · refine ⟨angF (p - x), (angF_bd _).1, by have := angF_bd (p - x); omega, ?_, ?_⟩ <;> unfold aheadF angF at * <;> omega
theorem apart_tri {p q z x y : Int} (h1 : apartF p q ≤ x) (h2 : apartF q z ≤ y) : apartF p z ≤ x + y := by
  unfold apartF aheadF angF at *
  omega
theorem grow_grow {l : List Arc} (hv : ∀ x ∈ l, validA x = true) {n m : Int} (hn : 0 ≤ n) (hm : 0 ≤ m) :
    spansS ((arcsF (spansS (l.map fun x => wideF x n))).map fun x => wideF x m) = spansS (l.map fun x => wideF x (n + m)) := by
  have hw : ∀ k, 0 ≤ k → ∀ {l : List Arc}, (∀ x ∈ l, validA x = true) → ∀ x ∈ l.map (fun x => wideF x k), validA x = true := fun k hk l hv x hx => by
    obtain ⟨y, hy, rfl⟩ := List.mem_map.1 hx
    exact wide_valid (hv y hy) hk
  obtain ⟨s1, s2, _⟩ := spans_spec (hw n hn hv)
  have hav := (arcsF_spec s1 s2).1
  obtain ⟨t1, t2, _⟩ := spans_spec (hw m hm hav)
  obtain ⟨u1, u2, _⟩ := spans_spec (hw (n + m) (by omega) hv)
  refine canon_ext t1 u1 fun z => ?_
  by_cases hz : 0 ≤ z ∧ z ≤ 43199
  rotate_left
  · exact ⟨fun h => absurd (mem_inC t2 h) hz, fun h => absurd (mem_inC u2 h) hz⟩
  rw [grow_mem hav hm z hz, grow_mem hv (by omega) z hz, spans_arcs s1 s2]
  unfold nearS
  constructor
  · rintro ⟨q, hq, h2⟩
    obtain ⟨p, hp, h1⟩ := (grow_mem hv hn q (mem_inC s2 hq)).1 hq
    exact ⟨p, hp, apart_tri h1 h2⟩
  · rintro ⟨p, hp, h⟩
    obtain ⟨q, q1, q2, q3, q4⟩ := apart_mid hn hm h
    exact ⟨q, (grow_mem hv hn q ⟨q1, q2⟩).2 ⟨p, hp, q3⟩, q4⟩
end Go.Proofs.Ds

set_option maxHeartbeats 8000000
set_option maxRecDepth 10000
namespace Go.Proofs.Dz
open Go Go.Pg Go.Proofs Go.Proofs.Ds
theorem Normal_good (h0 : SortKC0 Tryz.prog 105) (l : List Arc) (hc : checkL l = 0) : OKv cx 27 [lArc l] (.tup [lArc (arcsF (spansS l)), ai 0]) := by
  have c1 : OKv cx 59 [lArc l, .lst []] (.tup [lArc (arcsF (spansS (l ++ []))), ai 0]) := Union_good h0 l [] hc rfl
  rw [List.append_nil] at c1
  refine OKat.of_body (rs := [2, 3]) Tryz.func27 rfl (by decide +kernel) rfl (by simp [Tryz.ntmps27]) ?_
  simp only [Tryz.ntmps27]
  repeat' first
    | apply AW.seq | apply AW.region | apply AW.ret | apply AW.block | apply AW.skip | apply AW.exit | apply AW.scope | apply AW.label | apply AWL.nil
    | ((first | (apply W.step cx_ok; decide) | apply AW.cond); (simp (disch := omega) only [push_cast, simprocAttr, natNe, List.mem_cons, List.not_mem_nil, TyD.isAgg, Nat.add_assoc, Bool.false_eq_true, List.map_nil, List.length_nil] <;> rfl); all_goals try ((with_reducible intro hI); try first | (cases hI; done) | (simp only [INTS, not_true_eq_false] at hI; try first | (exfalso; omega) | (have hT : True := hI; clear hT hI))))
    | ((apply W.callv cx_ok; decide); (iterate 2 (simp (disch := omega) only [push_cast, simprocAttr, natNe, List.mem_cons, List.not_mem_nil, TyD.isAgg, Nat.add_assoc, Bool.false_eq_true, List.map_nil, List.length_nil] <;> rfl)); (with_reducible first | exact c1); try first | rfl | (simp (disch := omega) only [push_cast, simprocAttr, natNe, List.mem_cons, List.not_mem_nil, TyD.isAgg, Nat.add_assoc, Bool.false_eq_true, List.map_nil, List.length_nil] <;> rfl))
    | ((first | apply W.ret2 | apply W.end2); (iterate 2 (try (simp (disch := omega) only [push_cast, simprocAttr, natNe, List.mem_cons, List.not_mem_nil, TyD.isAgg, Nat.add_assoc, Bool.false_eq_true, List.map_nil, List.length_nil] <;> rfl))))

  all_goals (show _ = _; rfl)
def growL (l : List Arc) (n : Int) : List Arc := arcsF (spansS (l.map fun x => wideF x n))
theorem Grow_good (h0 : SortKC0 Tryz.prog 105) (l : List Arc) (n0 : Int) (hc : checkL l = 0) (hn : 0 ≤ n0 ∧ n0 ≤ 43200) : OKv cx 29 [lArc l, ai n0] (.tup [lArc (growL l n0), ai 0]) := by
  obtain ⟨ll, lv⟩ := checkL_zero hc
  have c1 := acceptable_ok l (by omega)
  rw [hc] at c1
  have hwv : ∀ x ∈ l.map (fun x => wideF x n0), validA x = true := fun x hx => by
    obtain ⟨y, hy, rfl⟩ := List.mem_map.1 hx
    exact wide_valid (lv y hy) hn.1
  have hwl : (l.map fun x => wideF x n0).length = l.length := List.length_map _
  unfold growL
  obtain ⟨WL, hWL⟩ : ∃ z, l.map (fun x => wideF x n0) = z := ⟨_, rfl⟩
  rw [hWL] at hwv hwl ⊢
  obtain ⟨s1, s2, _⟩ := spans_spec hwv
  have hsl := inC_len s1 s2
  have c3 := pspans_ok h0 WL hwv (by omega)
  have c4 := arcs_ok _ s2 s1.2 (by omega)
  have g1 : (n0 < 0) = False := eq_false (by omega)
  have g2 : (43200 < n0) = False := eq_false (by omega)
  refine OKat.of_body (rs := [4, 5]) Tryz.func29 rfl (by decide +kernel) rfl (by simp [Tryz.ntmps29]) ?_
  simp only [Tryz.ntmps29]
  repeat' first
    | apply AW.seq | apply AW.region | apply AW.ret | apply AW.block | apply AW.skip | apply AW.exit | apply AW.scope | apply AW.label | apply AWL.nil
    | ((first | (apply W.step cx_ok; decide) | apply W.store cx_ok | (apply W.gS; rfl; decide) | apply AW.cond); (simp (disch := (first | omega | (simp only [List.length_append, List.length_map, List.length_cons, List.length_nil, List.length_take, List.length_drop]; omega))) only [push_cast, simprocAttr, takeM, dropM, List.take_length, List.length_take, List.length_drop, List.all_append, List.all_cons, List.all_nil, Bool.and_true, Bool.and_self, and_self, and_true, true_and, leT, List.take_of_length_le, pureL, pureA, g1, g2, natNe, List.mem_cons, List.not_mem_nil, TyD.isAgg, Nat.add_assoc, Bool.false_eq_true, List.map_nil, List.length_nil, Bool.true_and, Bool.false_and, Bool.and_false, Bool.not_true, Bool.not_false] <;> rfl); all_goals try ((with_reducible intro hI); try first | (cases hI; done) | (simp only [INTS, not_true_eq_false] at hI; try first | (exfalso; omega) | (have hT : True := hI; clear hT hI))))
    | (apply W.append cx_ok; decide; rfl; rfl; rfl; decide; (iterate 3 (simp (disch := (first | omega | (simp only [List.length_append, List.length_map, List.length_cons, List.length_nil, List.length_take, List.length_drop]; omega))) only [push_cast, simprocAttr, takeM, dropM, List.take_length, List.length_take, List.length_drop, List.all_append, List.all_cons, List.all_nil, Bool.and_true, Bool.and_self, and_self, and_true, true_and, leT, List.take_of_length_le, pureL, pureA, g1, g2, natNe, List.mem_cons, List.not_mem_nil, TyD.isAgg, Nat.add_assoc, Bool.false_eq_true, List.map_nil, List.length_nil, Bool.true_and, Bool.false_and, Bool.and_false, Bool.not_true, Bool.not_false] <;> rfl)); (first | (focus (simp; done)) | (intro c hc; obtain ⟨x, _, rfl⟩ := List.mem_map.1 hc; rfl)); ((first | rfl | simp (disch := omega) only [push_cast])); ((try dsimp only); (try simp only [List.length_map, List.length_append, List.length_cons, List.length_nil, List.length_take, List.length_drop]); omega); ((try dsimp only); (try simp only [List.length_map, List.length_append, List.length_cons, List.length_nil, List.length_take, List.length_drop]); omega))
    | ((apply W.callv cx_ok; decide); (iterate 2 (simp (disch := (first | omega | (simp only [List.length_append, List.length_map, List.length_cons, List.length_nil, List.length_take, List.length_drop]; omega))) only [push_cast, simprocAttr, takeM, dropM, List.take_length, List.length_take, List.length_drop, List.all_append, List.all_cons, List.all_nil, Bool.and_true, Bool.and_self, and_self, and_true, true_and, leT, List.take_of_length_le, pureL, pureA, g1, g2, natNe, List.mem_cons, List.not_mem_nil, TyD.isAgg, Nat.add_assoc, Bool.false_eq_true, List.map_nil, List.length_nil, Bool.true_and, Bool.false_and, Bool.and_false, Bool.not_true, Bool.not_false] <;> rfl)); (with_reducible first | exact c1); try first | rfl | (simp (disch := (first | omega | (simp only [List.length_append, List.length_map, List.length_cons, List.length_nil, List.length_take, List.length_drop]; omega))) only [push_cast, simprocAttr, takeM, dropM, List.take_length, List.length_take, List.length_drop, List.all_append, List.all_cons, List.all_nil, Bool.and_true, Bool.and_self, and_self, and_true, true_and, leT, List.take_of_length_le, pureL, pureA, g1, g2, natNe, List.mem_cons, List.not_mem_nil, TyD.isAgg, Nat.add_assoc, Bool.false_eq_true, List.map_nil, List.length_nil, Bool.true_and, Bool.false_and, Bool.and_false, Bool.not_true, Bool.not_false] <;> rfl))
    | ((first | apply W.ret2 | apply W.end2); (iterate 2 (try (simp (disch := (first | omega | (simp only [List.length_append, List.length_map, List.length_cons, List.length_nil, List.length_take, List.length_drop]; omega))) only [push_cast, simprocAttr, takeM, dropM, List.take_length, List.length_take, List.length_drop, List.all_append, List.all_cons, List.all_nil, Bool.and_true, Bool.and_self, and_self, and_true, true_and, leT, List.take_of_length_le, pureL, pureA, g1, g2, natNe, List.mem_cons, List.not_mem_nil, TyD.isAgg, Nat.add_assoc, Bool.false_eq_true, List.map_nil, List.length_nil, Bool.true_and, Bool.false_and, Bool.and_false, Bool.not_true, Bool.not_false] <;> rfl))))

  refine AW.adopt 7 2 24 ?_ ?_
  · (simp (disch := omega) only [push_cast, simprocAttr, g1, g2, natNe, List.mem_cons, List.not_mem_nil, TyD.isAgg, Nat.add_assoc, Bool.false_eq_true, List.map_nil, List.length_nil] <;> rfl)
  refine AW.loop (fun n s => ∃ (k : Nat) (O rest : List Arc), n = rest.length ∧ (l.drop k = rest) ∧ (O ++ rest.map (fun x => wideF x n0) = WL) ∧ (O.length = k) ∧ (k ≤ l.length) ∧ 1 ≤ s.nx ∧ s.tm 1 = ai n0 ∧ s.tm 7 = .ref 0 0 O.length ∧ s.tm 21 = lArc l ∧ s.tm 22 = ai l.length ∧ s.tm 23 = ai k ∧ Pg.rowAt s.H (0) = some ({ k := 2, es := O.map eArc, ty := 24, lo := O.length })) (l.length) ⟨0, [], l, rfl, rfl, (by rw [← hWL]; rfl), rfl, (Nat.zero_le _), ?_, ?_, ?_, ?_, ?_, ?_, ?_⟩ ?_
  iterate 7 (first | (simp (disch := omega) only [push_cast, simprocAttr, g1, g2, natNe, List.mem_cons, List.not_mem_nil, TyD.isAgg, Nat.add_assoc, Bool.false_eq_true, List.map_nil, List.length_nil, isEmpty_map, List.isEmpty_cons, List.map_append, List.map_cons, List.length_append, List.length_cons, Nat.zero_add] <;> first | rfl | omega) | omega)
  rintro n1 s1 ⟨k1, O1, rest1, hn1, hp01, hp11, hp21, hp31, hnl1, hS1⟩
  have hZ1 : (0 : Nat) ≠ s1.nx ∧ s1.nx ≠ (0 : Nat) := by omega
  rcases rest1 with _ | ⟨x, rest1⟩
  rotate_left
  · obtain ⟨hk, hg, hd', hl', hm', hx⟩ := drop_cons hp01 eArc []
    have c2 := grown_ok x n0 (lv x hm') hn
    repeat' first
      | apply AW.seq | apply AW.region | apply AW.ret | apply AW.block | apply AW.skip | apply AW.exit | apply AW.scope | apply AW.label | apply AWL.nil
      | ((first | (apply W.step cx_ok; decide) | apply W.store cx_ok | (apply W.gS; rfl; decide) | apply AW.cond); (simp (disch := (first | omega | (simp only [List.length_append, List.length_map, List.length_cons, List.length_nil, List.length_take, List.length_drop, List.length_nil]; omega))) only [push_cast, simprocAttr, takeM, dropM, List.take_length, List.length_take, List.length_drop, List.all_append, List.all_cons, List.all_nil, Bool.and_true, Bool.and_self, and_self, and_true, true_and, leT, List.take_of_length_le, pureL, pureA, hS1, hZ1, hk, hg, hx, natNe, List.mem_cons, List.not_mem_nil, TyD.isAgg, Nat.add_assoc, Bool.false_eq_true, List.map_nil, List.length_nil, isEmpty_map, List.isEmpty_cons, List.map_append, List.map_cons, List.length_append, List.length_cons, Nat.zero_add] <;> rfl); all_goals try ((with_reducible intro hI); try first | (cases hI; done) | (simp only [INTS, not_true_eq_false] at hI; try first | (exfalso; omega) | (have hT : True := hI; clear hT hI))))
      | (apply W.append cx_ok; decide; rfl; rfl; rfl; decide; (iterate 3 (simp (disch := (first | omega | (simp only [List.length_append, List.length_map, List.length_cons, List.length_nil, List.length_take, List.length_drop, List.length_nil]; omega))) only [push_cast, simprocAttr, takeM, dropM, List.take_length, List.length_take, List.length_drop, List.all_append, List.all_cons, List.all_nil, Bool.and_true, Bool.and_self, and_self, and_true, true_and, leT, List.take_of_length_le, pureL, pureA, hS1, hZ1, hk, hg, hx, natNe, List.mem_cons, List.not_mem_nil, TyD.isAgg, Nat.add_assoc, Bool.false_eq_true, List.map_nil, List.length_nil, isEmpty_map, List.isEmpty_cons, List.map_append, List.map_cons, List.length_append, List.length_cons, Nat.zero_add] <;> rfl)); (first | (focus (simp; done)) | (intro c hc; obtain ⟨x, _, rfl⟩ := List.mem_map.1 hc; rfl)); ((first | rfl | simp (disch := omega) only [push_cast])); ((try dsimp only); (try simp only [List.length_map, List.length_append, List.length_cons, List.length_nil, List.length_take, List.length_drop, List.length_nil]); omega); ((try dsimp only); (try simp only [List.length_map, List.length_append, List.length_cons, List.length_nil, List.length_take, List.length_drop, List.length_nil]); omega))
      | ((apply W.callv cx_ok; decide); (iterate 2 (simp (disch := (first | omega | (simp only [List.length_append, List.length_map, List.length_cons, List.length_nil, List.length_take, List.length_drop, List.length_nil]; omega))) only [push_cast, simprocAttr, takeM, dropM, List.take_length, List.length_take, List.length_drop, List.all_append, List.all_cons, List.all_nil, Bool.and_true, Bool.and_self, and_self, and_true, true_and, leT, List.take_of_length_le, pureL, pureA, hS1, hZ1, hk, hg, hx, natNe, List.mem_cons, List.not_mem_nil, TyD.isAgg, Nat.add_assoc, Bool.false_eq_true, List.map_nil, List.length_nil, isEmpty_map, List.isEmpty_cons, List.map_append, List.map_cons, List.length_append, List.length_cons, Nat.zero_add] <;> rfl)); (with_reducible first | exact c2); try first | rfl | (simp (disch := (first | omega | (simp only [List.length_append, List.length_map, List.length_cons, List.length_nil, List.length_take, List.length_drop, List.length_nil]; omega))) only [push_cast, simprocAttr, takeM, dropM, List.take_length, List.length_take, List.length_drop, List.all_append, List.all_cons, List.all_nil, Bool.and_true, Bool.and_self, and_self, and_true, true_and, leT, List.take_of_length_le, pureL, pureA, hS1, hZ1, hk, hg, hx, natNe, List.mem_cons, List.not_mem_nil, TyD.isAgg, Nat.add_assoc, Bool.false_eq_true, List.map_nil, List.length_nil, isEmpty_map, List.isEmpty_cons, List.map_append, List.map_cons, List.length_append, List.length_cons, Nat.zero_add] <;> rfl))
      | ((first | apply W.ret2 | apply W.end2); (iterate 2 (try (simp (disch := (first | omega | (simp only [List.length_append, List.length_map, List.length_cons, List.length_nil, List.length_take, List.length_drop, List.length_nil]; omega))) only [push_cast, simprocAttr, takeM, dropM, List.take_length, List.length_take, List.length_drop, List.all_append, List.all_cons, List.all_nil, Bool.and_true, Bool.and_self, and_self, and_true, true_and, leT, List.take_of_length_le, pureL, pureA, hS1, hZ1, hk, hg, hx, natNe, List.mem_cons, List.not_mem_nil, TyD.isAgg, Nat.add_assoc, Bool.false_eq_true, List.map_nil, List.length_nil, isEmpty_map, List.isEmpty_cons, List.map_append, List.map_cons, List.length_append, List.length_cons, Nat.zero_add] <;> rfl))))

    all_goals (refine ⟨rest1.length, ?_, k1 + 1, (O1 ++ [wideF x n0]), rest1, rfl, hd', (by rw [List.append_assoc]; exact hp11), (by rw [List.length_append, List.length_singleton]; omega), (by omega), ?_, ?_, ?_, ?_, ?_, ?_, ?_⟩; ((simp only [List.length_cons] at *; omega)); all_goals first | (simp (disch := omega) only [push_cast, simprocAttr, hS1, hZ1, hk, hg, hx, natNe, List.mem_cons, List.not_mem_nil, TyD.isAgg, Nat.add_assoc, Bool.false_eq_true, List.map_nil, List.length_nil, isEmpty_map, List.isEmpty_cons, List.map_append, List.map_cons, List.length_append, List.length_cons, Nat.zero_add] <;> first | rfl | omega) | omega)
  have hk := drop_nil hp01
  simp only [List.map_nil, List.append_nil] at hp11
  subst hp11
  repeat' first
    | apply AW.seq | apply AW.region | apply AW.ret | apply AW.block | apply AW.skip | apply AW.exit | apply AW.scope | apply AW.label | apply AWL.nil
    | ((first | (apply W.step cx_ok; decide) | apply W.store cx_ok | (apply W.gS; rfl; decide) | apply AW.cond); (simp (disch := (first | omega | (simp only [List.length_append, List.length_map, List.length_cons, List.length_nil, List.length_take, List.length_drop, List.length_nil]; omega))) only [push_cast, simprocAttr, takeM, dropM, List.take_length, List.length_take, List.length_drop, List.all_append, List.all_cons, List.all_nil, Bool.and_true, Bool.and_self, and_self, and_true, true_and, leT, List.take_of_length_le, pureL, pureA, hS1, hZ1, hk, natNe, List.mem_cons, List.not_mem_nil, TyD.isAgg, Nat.add_assoc, Bool.false_eq_true, List.map_nil, List.length_nil] <;> rfl); all_goals try ((with_reducible intro hI); try first | (cases hI; done) | (simp only [INTS, not_true_eq_false] at hI; try first | (exfalso; omega) | (have hT : True := hI; clear hT hI))))
    | (apply W.append cx_ok; decide; rfl; rfl; rfl; decide; (iterate 3 (simp (disch := (first | omega | (simp only [List.length_append, List.length_map, List.length_cons, List.length_nil, List.length_take, List.length_drop, List.length_nil]; omega))) only [push_cast, simprocAttr, takeM, dropM, List.take_length, List.length_take, List.length_drop, List.all_append, List.all_cons, List.all_nil, Bool.and_true, Bool.and_self, and_self, and_true, true_and, leT, List.take_of_length_le, pureL, pureA, hS1, hZ1, hk, natNe, List.mem_cons, List.not_mem_nil, TyD.isAgg, Nat.add_assoc, Bool.false_eq_true, List.map_nil, List.length_nil] <;> rfl)); (first | (focus (simp; done)) | (intro c hc; obtain ⟨x, _, rfl⟩ := List.mem_map.1 hc; rfl)); ((first | rfl | simp (disch := omega) only [push_cast])); ((try dsimp only); (try simp only [List.length_map, List.length_append, List.length_cons, List.length_nil, List.length_take, List.length_drop, List.length_nil]); omega); ((try dsimp only); (try simp only [List.length_map, List.length_append, List.length_cons, List.length_nil, List.length_take, List.length_drop, List.length_nil]); omega))
    | ((apply W.callv cx_ok; decide); (iterate 2 (simp (disch := (first | omega | (simp only [List.length_append, List.length_map, List.length_cons, List.length_nil, List.length_take, List.length_drop, List.length_nil]; omega))) only [push_cast, simprocAttr, takeM, dropM, List.take_length, List.length_take, List.length_drop, List.all_append, List.all_cons, List.all_nil, Bool.and_true, Bool.and_self, and_self, and_true, true_and, leT, List.take_of_length_le, pureL, pureA, hS1, hZ1, hk, natNe, List.mem_cons, List.not_mem_nil, TyD.isAgg, Nat.add_assoc, Bool.false_eq_true, List.map_nil, List.length_nil] <;> rfl)); (with_reducible first | exact c3 | exact c4); try first | rfl | (simp (disch := (first | omega | (simp only [List.length_append, List.length_map, List.length_cons, List.length_nil, List.length_take, List.length_drop, List.length_nil]; omega))) only [push_cast, simprocAttr, takeM, dropM, List.take_length, List.length_take, List.length_drop, List.all_append, List.all_cons, List.all_nil, Bool.and_true, Bool.and_self, and_self, and_true, true_and, leT, List.take_of_length_le, pureL, pureA, hS1, hZ1, hk, natNe, List.mem_cons, List.not_mem_nil, TyD.isAgg, Nat.add_assoc, Bool.false_eq_true, List.map_nil, List.length_nil] <;> rfl))
    | ((first | apply W.ret2 | apply W.end2); (iterate 2 (try (simp (disch := (first | omega | (simp only [List.length_append, List.length_map, List.length_cons, List.length_nil, List.length_take, List.length_drop, List.length_nil]; omega))) only [push_cast, simprocAttr, takeM, dropM, List.take_length, List.length_take, List.length_drop, List.all_append, List.all_cons, List.all_nil, Bool.and_true, Bool.and_self, and_self, and_true, true_and, leT, List.take_of_length_le, pureL, pureA, hS1, hZ1, hk, natNe, List.mem_cons, List.not_mem_nil, TyD.isAgg, Nat.add_assoc, Bool.false_eq_true, List.map_nil, List.length_nil] <;> rfl))))

  all_goals (show _ = _; rfl)
theorem Size_good (h0 : SortKC0 Tryz.prog 105) (l : List Arc) (hc : checkL l = 0) : OKv cx 30 [lArc l] (.tup [ai (sumW (spansS l)), ai 0]) := by
  obtain ⟨ll, lv⟩ := checkL_zero hc
  have c1 := acceptable_ok l (by omega)
  rw [hc] at c1
  obtain ⟨s1, s2, _⟩ := spans_spec lv
  have hsl := inC_len s1 s2
  have c3 := pspans_ok h0 l lv (by omega)
  have hsw := s1.2
  clear s1
  obtain ⟨S, hS0⟩ : ∃ z, spansS l = z := ⟨_, rfl⟩
  rw [hS0] at hsl c3 hsw s2 ⊢
  obtain ⟨RES, hRES⟩ : ∃ z, sumW S = z := ⟨_, rfl⟩
  rw [hRES]
  refine OKat.of_body (rs := [2, 3]) Tryz.func30 rfl (by decide +kernel) rfl (by simp [Tryz.ntmps30]) ?_
  simp only [Tryz.ntmps30]
  repeat' first
    | apply AW.seq | apply AW.region | apply AW.ret | apply AW.block | apply AW.skip | apply AW.exit | apply AW.scope | apply AW.label | apply AWL.nil
    | ((first | (apply W.step cx_ok; decide) | apply W.store cx_ok | apply AW.cond); (simp (disch := omega) only [push_cast, simprocAttr, natNe, List.mem_cons, List.not_mem_nil, TyD.isAgg, Nat.add_assoc, Bool.false_eq_true, List.map_nil, List.length_nil] <;> rfl); all_goals try ((with_reducible intro hI); try first | (cases hI; done) | (simp only [INTS, not_true_eq_false] at hI; try first | (exfalso; omega) | (have hT : True := hI; clear hT hI))))
    | ((apply W.callv cx_ok; decide); (iterate 2 (simp (disch := omega) only [push_cast, simprocAttr, natNe, List.mem_cons, List.not_mem_nil, TyD.isAgg, Nat.add_assoc, Bool.false_eq_true, List.map_nil, List.length_nil] <;> rfl)); (with_reducible first | exact c1 | exact c3); try first | rfl | (simp (disch := omega) only [push_cast, simprocAttr, natNe, List.mem_cons, List.not_mem_nil, TyD.isAgg, Nat.add_assoc, Bool.false_eq_true, List.map_nil, List.length_nil] <;> rfl))
    | ((first | apply W.ret2 | apply W.end2); (iterate 2 (try (simp (disch := omega) only [push_cast, simprocAttr, natNe, List.mem_cons, List.not_mem_nil, TyD.isAgg, Nat.add_assoc, Bool.false_eq_true, List.map_nil, List.length_nil] <;> rfl))))

  refine AW.loop (fun n s => ∃ (k : Nat) (m0 : Int) (rest : List Span), n = rest.length ∧ (S.drop k = rest) ∧ (m0 + sumW rest = RES) ∧ (0 ≤ m0 ∧ m0 ≤ 43200 * (k : Int)) ∧ (k ≤ S.length) ∧ s.tm 5 = ai m0 ∧ s.tm 14 = lSpan S ∧ s.tm 15 = ai S.length ∧ s.tm 16 = ai k) (S.length) ⟨0, 0, S, rfl, rfl, (by omega), (by omega), (Nat.zero_le _), ?_, ?_, ?_, ?_⟩ ?_
  iterate 4 (first | (simp (disch := omega) only [push_cast, simprocAttr, natNe, List.mem_cons, List.not_mem_nil, TyD.isAgg, Nat.add_assoc, Bool.false_eq_true, List.map_nil, List.length_nil] <;> first | rfl | omega) | omega)
  rintro n1 s1 ⟨k1, m01, rest1, hn1, hp01, hp11, hp21, hp31, hS1⟩
  rcases rest1 with _ | ⟨x, rest1⟩
  · have hk := drop_nil hp01
    have hq : m01 = RES := by unfold sumW at hp11; omega
    subst hq
    repeat' first
      | apply AW.seq | apply AW.region | apply AW.ret | apply AW.block | apply AW.skip | apply AW.exit | apply AW.scope | apply AW.label | apply AWL.nil
      | ((first | (apply W.step cx_ok; decide) | apply W.store cx_ok | apply AW.cond); (simp (disch := omega) only [push_cast, simprocAttr, hS1, hk, natNe, List.mem_cons, List.not_mem_nil, TyD.isAgg, Nat.add_assoc, Bool.false_eq_true, List.map_nil, List.length_nil] <;> rfl); all_goals try ((with_reducible intro hI); try first | (cases hI; done) | (simp only [INTS, not_true_eq_false] at hI; try first | (exfalso; omega) | (have hT : True := hI; clear hT hI))))
      | ((first | apply W.ret2 | apply W.end2); (iterate 2 (try (simp (disch := omega) only [push_cast, simprocAttr, hS1, hk, natNe, List.mem_cons, List.not_mem_nil, TyD.isAgg, Nat.add_assoc, Bool.false_eq_true, List.map_nil, List.length_nil] <;> rfl))))

    all_goals (show _ = _; rfl)
  · obtain ⟨hk, hg, hd', hl', hm', hx⟩ := drop_cons hp01 eSpan []
    have hxi := s2 x hm'
    have hxw := hsw x hm'
    unfold sumW at hp11
    repeat' first
      | apply AW.seq | apply AW.region | apply AW.ret | apply AW.block | apply AW.skip | apply AW.exit | apply AW.scope | apply AW.label | apply AWL.nil
      | ((first | (apply W.step cx_ok; decide) | apply W.store cx_ok | apply AW.cond); (simp (disch := omega) only [push_cast, simprocAttr, hS1, hk, hg, hx, natNe, List.mem_cons, List.not_mem_nil, TyD.isAgg, Nat.add_assoc, Bool.false_eq_true, List.map_nil, List.length_nil] <;> rfl); all_goals try ((with_reducible intro hI); try first | (cases hI; done) | (simp only [INTS, not_true_eq_false] at hI; try first | (exfalso; omega) | (have hT : True := hI; clear hT hI))))
      | ((first | apply W.ret2 | apply W.end2); (iterate 2 (try (simp (disch := omega) only [push_cast, simprocAttr, hS1, hk, hg, hx, natNe, List.mem_cons, List.not_mem_nil, TyD.isAgg, Nat.add_assoc, Bool.false_eq_true, List.map_nil, List.length_nil] <;> rfl))))

    all_goals (refine ⟨rest1.length, ?_, k1 + 1, m01 + (x.hi - x.lo + 1), rest1, rfl, hd', (by omega), (by omega), (by omega), ?_, ?_, ?_, ?_⟩; ((simp only [List.length_cons] at *; omega)); all_goals first | (simp (disch := omega) only [push_cast, simprocAttr, hS1, hk, hg, hx, natNe, List.mem_cons, List.not_mem_nil, TyD.isAgg, Nat.add_assoc, Bool.false_eq_true, List.map_nil, List.length_nil] <;> first | rfl | omega) | omega)
end Go.Proofs.Dz

set_option maxRecDepth 100000
namespace Go.Proofs.Ds
open Go
def and64 (a b : Int) : Int := IntKind.wrap .u64 ((BitVec.ofInt (IntKind.bits .u64) a &&& BitVec.ofInt (IntKind.bits .u64) b).toNat : Int)
def shr64 (a : Int) (k : Nat) : Int := a.fdiv (2 ^ (min k (IntKind.bits .u64)))
def add64 (a b : Int) : Int := IntKind.wrap .u64 (a + b)
def ones1 (x : Int) : Int := add64 (and64 (shr64 x 1) 6148914691236517205) (and64 x 6148914691236517205)
def ones2 (x : Int) : Int := add64 (and64 (shr64 x 2) 3689348814741910323) (and64 x 3689348814741910323)
def ones3 (x : Int) : Int := and64 (add64 (shr64 x 4) x) 1085102592571150095
def ones4 (x : Int) : Int := add64 x (shr64 x 8)
def ones5 (x : Int) : Int := add64 x (shr64 x 16)
def ones6 (x : Int) : Int := add64 x (shr64 x 32)
def ones (x : Int) : Int := IntKind.wrap .i64 ((BitVec.ofInt (IntKind.bits .i64) (IntKind.wrap .i64 (ones6 (ones5 (ones4 (ones3 (ones2 (ones1 x))))))) &&& BitVec.ofInt (IntKind.bits .i64) 127).toNat : Int)
theorem ones_all : ∀ p : Fin 4096, ones ((p.val : Nat) : Int) = ((cntF p.val : Nat) : Int) := by decide +kernel
end Go.Proofs.Ds
