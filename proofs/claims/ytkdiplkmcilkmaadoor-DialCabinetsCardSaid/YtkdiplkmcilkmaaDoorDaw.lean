/-
  Contracts of functions, proved by going through their code. No conditions.
-/
import Derived.Test.YtkdiplkmcilkmaaDoorDam
import Derived.Test.YtkdiplkmcilkmaaDoorDau
import Derived.Test.YtkdiplkmcilkmaaDoorDav
set_option linter.unusedVariables false
set_option linter.unusedSimpArgs false
namespace Go.Proofs.Ds
def sumW : List Span → Int
  | [] => 0
  | s :: l => (s.hi - s.lo + 1) + sumW l
def memB (x : Int) (l : List Span) : Bool := l.any fun s => decide (s.lo ≤ x) && decide (x ≤ s.hi)
theorem memB_iff {x : Int} {l : List Span} : memB x l = true ↔ memS x l := by
  unfold memB memS
  simp only [List.any_eq_true, Bool.and_eq_true, decide_eq_true_eq]
def cntS (l : List Span) (N : Nat) : Nat := (List.range N).countP fun (k : Nat) => memB (k : Int) l
theorem cnt_one {lo hi : Int} (h0 : 0 ≤ lo) (h1 : lo ≤ hi) : ∀ N : Nat, (((List.range N).countP fun (k : Nat) => decide (lo ≤ (k : Int)) && decide ((k : Int) ≤ hi) : Nat) : Int) = if (N : Int) ≤ lo then 0 else if hi < (N : Int) then hi - lo + 1 else (N : Int) - lo
  | 0 => by rw [if_pos (by omega)]; rfl
  | N + 1 => by
    have ih := cnt_one h0 h1 N
    rw [List.range_succ, List.countP_append, Int.natCast_add, ih, List.countP_singleton]
    by_cases g1 : lo ≤ (N : Int)
    · by_cases g2 : (N : Int) ≤ hi
      · rw [decide_eq_true g1, decide_eq_true g2]
        simp only [Bool.and_self, if_true]
        split <;> split <;> (try split) <;> omega
      · rw [decide_eq_true g1, decide_eq_false g2]
        simp only [Bool.and_false, Bool.false_eq_true, if_false]
        split <;> split <;> (try split) <;> omega
    · rw [decide_eq_false g1]
      simp only [Bool.false_and, Bool.false_eq_true, if_false]
      split <;> split <;> (try split) <;> omega
theorem countP_or {p q : Nat → Bool} (h : ∀ k, (p k && q k) = false) : ∀ l : List Nat, l.countP (fun k => p k || q k) = l.countP p + l.countP q
  | [] => rfl
  | k :: l => by
    have ih := countP_or h l
    have := h k
    rw [List.countP_cons, List.countP_cons, List.countP_cons, ih]
    cases hp : p k <;> cases hq : q k <;> simp [hp, hq] at this ⊢ <;> omega
theorem sum_cnt : ∀ l : List Span, canon l → inC l → sumW l = (cntS l 43200 : Int)
  | [], _, _ => by
    unfold sumW cntS memB
    simp
  | s :: l, hc, hi => by
    obtain ⟨c1, c2, c3⟩ := canon_cons.1 hc
    have ih := sum_cnt l c3 (fun t ht => hi t (by simp [ht]))
    have hs := hi s (by simp)
    have e : cntS (s :: l) 43200 = (List.range 43200).countP (fun (k : Nat) => decide (s.lo ≤ (k : Int)) && decide ((k : Int) ≤ s.hi)) + cntS l 43200 := by
      unfold cntS
      rw [← countP_or]
      · congr 1
      · intro k
        cases h1 : (decide (s.lo ≤ (k : Int)) && decide ((k : Int) ≤ s.hi)) with
        | false => rfl
        | true =>
          simp only [Bool.and_eq_true, decide_eq_true_eq] at h1
          rw [Bool.true_and, Bool.eq_false_iff]
          intro h2
          have := canon_far hc (memB_iff.1 h2)
          omega
    rw [e, Int.natCast_add, cnt_one hs.1 c1, ← ih]
    rw [if_neg (by omega), if_pos (by omega)]
    rfl
theorem sum_split {a b : List Span} (ha : canon a) (ia : inC a) (hb : canon b) (ib : inC b) : sumW (meetF a b) + sumW (meetF a (restS b)) = sumW a := by
  obtain ⟨r1, r2, r3⟩ := restS_spec hb ib
  obtain ⟨m1, m2⟩ := meet_spec ha hb
  obtain ⟨n1, n2⟩ := meet_spec ha r1
  rw [sum_cnt _ m1 (inC_of_mem m1 fun z hz => mem_inC ia ((m2 z).1 hz).1), sum_cnt _ n1 (inC_of_mem n1 fun z hz => mem_inC ia ((n2 z).1 hz).1), sum_cnt _ ha ia]
  unfold cntS
  rw [← Int.natCast_add, ← countP_or]
  · congr 2
    funext k
    rw [Bool.eq_iff_iff, Bool.or_eq_true, memB_iff, memB_iff, memB_iff, m2, n2, r3]
    constructor
    · rintro (⟨h, _⟩ | ⟨h, _⟩) <;> exact h
    · intro h
      have := mem_inC ia h
      by_cases g : memS (k : Int) b
      · exact .inl ⟨h, g⟩
      · exact .inr ⟨h, this.1, this.2, g⟩
  · intro k
    cases h1 : memB (k : Int) (meetF a b) with
    | false => rfl
    | true =>
      rw [Bool.true_and, Bool.eq_false_iff]
      intro h2
      exact ((r3 _).1 ((n2 _).1 (memB_iff.1 h2)).2).2.2 ((m2 _).1 (memB_iff.1 h1)).2
theorem apart_bd (a b : Int) : 0 ≤ apartF a b ∧ apartF a b ≤ 21600 := by
  unfold apartF aheadF angF
  omega
theorem near_iff {x : Arc} (hv : validA x = true) {n : Int} (hn : 0 ≤ n) (a : Int) :
    hasF (wideF x n) a = true ↔ ∃ p, 0 ≤ p ∧ p ≤ 43199 ∧ hasF x p = true ∧ apartF p a ≤ n := by
  have hw := wide_valid hv hn
  obtain ⟨h1, h2, h3, h4, h5⟩ := validA_iff.1 hv
  have ha := angF_bd a
  unfold hasF
  rw [hw, hv]
  simp only [Bool.true_and, decide_eq_true_eq]
  constructor
  · intro h
    by_cases g : aheadF x.from_ a ≤ x.len
    · refine ⟨angF a, ha.1, by omega, ?_, ?_⟩
      · unfold aheadF angF at g ⊢; omega
      · unfold apartF aheadF angF; omega
    · by_cases g2 : aheadF a x.from_ ≤ n
      · refine ⟨x.from_, h1, by omega, ?_, ?_⟩
        · unfold aheadF angF; omega
        · unfold apartF; unfold aheadF angF at g2 ⊢; omega
      · refine ⟨angF (x.from_ + x.len), (angF_bd _).1, by have := angF_bd (x.from_ + x.len); omega, ?_, ?_⟩
        · unfold aheadF angF; omega
        · unfold wideF at h
          split at h
          · unfold apartF; unfold aheadF angF at g g2 ⊢; dsimp only at h; omega
          · unfold apartF; unfold aheadF angF at h g g2 ⊢; dsimp only at h; omega
  · rintro ⟨p, p1, p2, p3, p4⟩
    unfold wideF
    split
    · dsimp only; unfold aheadF angF; omega
    · dsimp only
      unfold apartF at p4
      unfold aheadF angF at p3 p4 ⊢
      omega
def nearS (l : List Span) (n z : Int) : Prop := ∃ p, memS p l ∧ apartF p z ≤ n
theorem has_mem {x : Arc} (hv : validA x = true) {p : Int} (h0 : 0 ≤ p) (h1 : p ≤ 43199) : hasF x p = true ↔ memS p (piecesF x) := by
  have := hasF_iff hv p
  rwa [show angF p = p by unfold angF; omega] at this
theorem grow_mem {l : List Arc} (hv : ∀ x ∈ l, validA x = true) {n : Int} (hn : 0 ≤ n) (z : Int) (hz : 0 ≤ z ∧ z ≤ 43199) :
    memS z (spansS (l.map fun x => wideF x n)) ↔ nearS (spansS l) n z := by
  have hw : ∀ x ∈ l.map (fun x => wideF x n), validA x = true := fun x hx => by
    obtain ⟨y, hy, rfl⟩ := List.mem_map.1 hx
    exact wide_valid (hv y hy) hn
  rw [(spans_spec hw).2.2]
  unfold nearS
  constructor
  · rintro ⟨s, hs, k⟩
    obtain ⟨y, hy, hs⟩ := List.mem_flatMap.1 hs
    obtain ⟨x, hx, rfl⟩ := List.mem_map.1 hy
    obtain ⟨p, p1, p2, p3, p4⟩ := (near_iff (hv x hx) hn z).1 ((has_mem (wide_valid (hv x hx) hn) hz.1 hz.2).2 ⟨s, hs, k⟩)
    refine ⟨p, ?_, p4⟩
    rw [(spans_spec hv).2.2]
    obtain ⟨t, ht, kt⟩ := (has_mem (hv x hx) p1 p2).1 p3
    exact ⟨t, List.mem_flatMap.2 ⟨x, hx, ht⟩, kt⟩
  · rintro ⟨p, hp, p4⟩
    have hb := mem_inC (spans_spec hv).2.1 hp
    rw [(spans_spec hv).2.2] at hp
    obtain ⟨t, ht, kt⟩ := hp
    obtain ⟨x, hx, ht⟩ := List.mem_flatMap.1 ht
    obtain ⟨s, hs, k⟩ := (has_mem (wide_valid (hv x hx) hn) hz.1 hz.2).1 ((near_iff (hv x hx) hn z).2 ⟨p, hb.1, hb.2, (has_mem (hv x hx) hb.1 hb.2).2 ⟨t, ht, kt⟩, p4⟩)
    exact ⟨s, List.mem_flatMap.2 ⟨_, List.mem_map.2 ⟨x, hx, rfl⟩, hs⟩, k⟩
theorem apart_mid {p z x y : Int} (hx : 0 ≤ x) (hy : 0 ≤ y) (h : apartF p z ≤ x + y) : ∃ q, 0 ≤ q ∧ q ≤ 43199 ∧ apartF p q ≤ x ∧ apartF q z ≤ y := by
  unfold apartF at h ⊢
  by_cases g : aheadF p z ≤ x + y
  · by_cases g2 : aheadF p z ≤ x
    · refine ⟨angF z, (angF_bd z).1, by have := angF_bd z; omega, ?_, ?_⟩ <;> unfold aheadF angF at * <;> omega
    · refine ⟨angF (p + x), (angF_bd _).1, by have := angF_bd (p + x); omega, ?_, ?_⟩ <;> unfold aheadF angF at * <;> omega
  · by_cases g2 : aheadF z p ≤ x
    · refine ⟨angF z, (angF_bd z).1, by have := angF_bd z; omega, ?_, ?_⟩ <;> unfold aheadF angF at * <;> omega
    · refine ⟨angF (p - x), (angF_bd _).1, by have := angF_bd (p - x); omega, ?_, ?_⟩ <;> unfold aheadF angF at * <;> omega
theorem apart_tri {p q z x y : Int} (h1 : apartF p q ≤ x) (h2 : apartF q z ≤ y) : apartF p z ≤ x + y := by
  unfold apartF aheadF angF at *
  omega
theorem grow_grow {l : List Arc} (hv : ∀ x ∈ l, validA x = true) {n m : Int} (hn : 0 ≤ n) (hm : 0 ≤ m) :
    spansS ((arcsF (spansS (l.map fun x => wideF x n))).map fun x => wideF x m) = spansS (l.map fun x => wideF x (n + m)) := by
  have hw : ∀ k, 0 ≤ k → ∀ {l : List Arc}, (∀ x ∈ l, validA x = true) → ∀ x ∈ l.map (fun x => wideF x k), validA x = true := fun k hk l hv x hx => by
    obtain ⟨y, hy, rfl⟩ := List.mem_map.1 hx
    exact wide_valid (hv y hy) hk
  obtain ⟨s1, s2, _⟩ := spans_spec (hw n hn hv)
  have hav := (arcsF_spec s1 s2).1
  obtain ⟨t1, t2, _⟩ := spans_spec (hw m hm hav)
  obtain ⟨u1, u2, _⟩ := spans_spec (hw (n + m) (by omega) hv)
  refine canon_ext t1 u1 fun z => ?_
  by_cases hz : 0 ≤ z ∧ z ≤ 43199
  rotate_left
  · exact ⟨fun h => absurd (mem_inC t2 h) hz, fun h => absurd (mem_inC u2 h) hz⟩
  rw [grow_mem hav hm z hz, grow_mem hv (by omega) z hz, spans_arcs s1 s2]
  unfold nearS
  constructor
  · rintro ⟨q, hq, h2⟩
    obtain ⟨p, hp, h1⟩ := (grow_mem hv hn q (mem_inC s2 hq)).1 hq
    exact ⟨p, hp, apart_tri h1 h2⟩
  · rintro ⟨p, hp, h⟩
    obtain ⟨q, q1, q2, q3, q4⟩ := apart_mid hn hm h
    exact ⟨q, (grow_mem hv hn q ⟨q1, q2⟩).2 ⟨p, hp, q3⟩, q4⟩
end Go.Proofs.Ds

set_option maxHeartbeats 8000000
set_option maxRecDepth 10000
namespace Go.Proofs.Ds
open Go Go.Pg Go.Proofs
theorem Normal_good (h0 : SortKC0 Tryd.prog 130) (l : List Arc) (hc : checkL l = 0) : OKv cx 20 [lArc l] (.tup [lArc (arcsF (spansS l)), ai 0]) := by
  have c1 : OKv cx 21 [lArc l, .lst []] (.tup [lArc (arcsF (spansS (l ++ []))), ai 0]) := Union_good h0 l [] hc rfl
  rw [List.append_nil] at c1
  refine OKat.of_body (rs := [2, 3]) Tryd.func20 rfl (by decide +kernel) rfl (by simp [Tryd.ntmps20]) ?_
  simp only [Tryd.ntmps20]
  repeat' first
    | apply AW.seq | apply AW.region | apply AW.ret | apply AW.block | apply AW.skip | apply AW.exit | apply AW.scope | apply AW.label | apply AWL.nil
    | ((first | (apply W.step cx_ok; decide) | apply AW.cond); (simp (disch := omega) only [push_cast, simprocAttr, natNe, List.mem_cons, List.not_mem_nil, TyD.isAgg, Nat.add_assoc, Bool.false_eq_true, List.map_nil, List.length_nil] <;> rfl); all_goals try ((with_reducible intro hI); try first | (cases hI; done) | (simp only [INTS, not_true_eq_false] at hI; try first | (exfalso; omega) | (have hT : True := hI; clear hT hI))))
    | ((apply W.callv cx_ok; decide); (iterate 2 (simp (disch := omega) only [push_cast, simprocAttr, natNe, List.mem_cons, List.not_mem_nil, TyD.isAgg, Nat.add_assoc, Bool.false_eq_true, List.map_nil, List.length_nil] <;> rfl)); (with_reducible first | exact c1); try first | rfl | (simp (disch := omega) only [push_cast, simprocAttr, natNe, List.mem_cons, List.not_mem_nil, TyD.isAgg, Nat.add_assoc, Bool.false_eq_true, List.map_nil, List.length_nil] <;> rfl))
    | ((first | apply W.ret2 | apply W.end2); (iterate 2 (try (simp (disch := omega) only [push_cast, simprocAttr, natNe, List.mem_cons, List.not_mem_nil, TyD.isAgg, Nat.add_assoc, Bool.false_eq_true, List.map_nil, List.length_nil] <;> rfl))))

  all_goals (show _ = _; rfl)
theorem Normal_bad (l : List Arc) (hl : l.length ≤ 1099511627776) (hc : checkL l ≠ 0) : OKv cx 20 [lArc l] (.tup [.lst [], ai (checkL l)]) := by
  have e : bothE l [] = checkL l := by unfold bothE; rw [if_pos hc]
  have c1 : OKv cx 21 [lArc l, .lst []] (.tup [.lst [], ai (bothE l [])]) := Union_bad l [] hl (by decide) (by rw [e]; exact hc)
  rw [e] at c1
  refine OKat.of_body (rs := [2, 3]) Tryd.func20 rfl (by decide +kernel) rfl (by simp [Tryd.ntmps20]) ?_
  simp only [Tryd.ntmps20]
  repeat' first
    | apply AW.seq | apply AW.region | apply AW.ret | apply AW.block | apply AW.skip | apply AW.exit | apply AW.scope | apply AW.label | apply AWL.nil
    | ((first | (apply W.step cx_ok; decide) | apply AW.cond); (simp (disch := omega) only [push_cast, simprocAttr, natNe, List.mem_cons, List.not_mem_nil, TyD.isAgg, Nat.add_assoc, Bool.false_eq_true, List.map_nil, List.length_nil] <;> rfl); all_goals try ((with_reducible intro hI); try first | (cases hI; done) | (simp only [INTS, not_true_eq_false] at hI; try first | (exfalso; omega) | (have hT : True := hI; clear hT hI))))
    | ((apply W.callv cx_ok; decide); (iterate 2 (simp (disch := omega) only [push_cast, simprocAttr, natNe, List.mem_cons, List.not_mem_nil, TyD.isAgg, Nat.add_assoc, Bool.false_eq_true, List.map_nil, List.length_nil] <;> rfl)); (with_reducible first | exact c1); try first | rfl | (simp (disch := omega) only [push_cast, simprocAttr, natNe, List.mem_cons, List.not_mem_nil, TyD.isAgg, Nat.add_assoc, Bool.false_eq_true, List.map_nil, List.length_nil] <;> rfl))
    | ((first | apply W.ret2 | apply W.end2); (iterate 2 (try (simp (disch := omega) only [push_cast, simprocAttr, natNe, List.mem_cons, List.not_mem_nil, TyD.isAgg, Nat.add_assoc, Bool.false_eq_true, List.map_nil, List.length_nil] <;> rfl))))

  all_goals (show _ = _; rfl)
def growL (l : List Arc) (n : Int) : List Arc := arcsF (spansS (l.map fun x => wideF x n))
theorem Grow_good (h0 : SortKC0 Tryd.prog 130) (l : List Arc) (n0 : Int) (hc : checkL l = 0) (hn : 0 ≤ n0 ∧ n0 ≤ 43200) : OKv cx 34 [lArc l, ai n0] (.tup [lArc (growL l n0), ai 0]) := by
  obtain ⟨ll, lv⟩ := checkL_zero hc
  have c1 := acceptable_ok l (by omega)
  rw [hc] at c1
  have hwv : ∀ x ∈ l.map (fun x => wideF x n0), validA x = true := fun x hx => by
    obtain ⟨y, hy, rfl⟩ := List.mem_map.1 hx
    exact wide_valid (lv y hy) hn.1
  have hwl : (l.map fun x => wideF x n0).length = l.length := List.length_map _
  unfold growL
  obtain ⟨WL, hWL⟩ : ∃ z, l.map (fun x => wideF x n0) = z := ⟨_, rfl⟩
  rw [hWL] at hwv hwl ⊢
  obtain ⟨s1, s2, _⟩ := spans_spec hwv
  have hsl := inC_len s1 s2
  have c3 := pspans_ok h0 WL hwv (by omega)
  have c4 := arcs_ok _ s2 s1.2 (by omega)
  have g1 : (n0 < 0) = False := eq_false (by omega)
  have g2 : (43200 < n0) = False := eq_false (by omega)
  refine OKat.of_body (rs := [4, 5]) Tryd.func34 rfl (by decide +kernel) rfl (by simp [Tryd.ntmps34]) ?_
  simp only [Tryd.ntmps34]
  repeat' first
    | apply AW.seq | apply AW.region | apply AW.ret | apply AW.block | apply AW.skip | apply AW.exit | apply AW.scope | apply AW.label | apply AWL.nil
    | ((first | (apply W.step cx_ok; decide) | apply W.store cx_ok | (apply W.gS; rfl; decide) | apply AW.cond); (simp (disch := (first | omega | (simp only [List.length_append, List.length_map, List.length_cons, List.length_nil, List.length_take, List.length_drop]; omega))) only [push_cast, simprocAttr, takeM, dropM, List.take_length, List.length_take, List.length_drop, List.all_append, List.all_cons, List.all_nil, Bool.and_true, Bool.and_self, and_self, and_true, true_and, leT, List.take_of_length_le, pureL, pureA, g1, g2, natNe, List.mem_cons, List.not_mem_nil, TyD.isAgg, Nat.add_assoc, Bool.false_eq_true, List.map_nil, List.length_nil, Bool.true_and, Bool.false_and, Bool.and_false, Bool.not_true, Bool.not_false] <;> rfl); all_goals try ((with_reducible intro hI); try first | (cases hI; done) | (simp only [INTS, not_true_eq_false] at hI; try first | (exfalso; omega) | (have hT : True := hI; clear hT hI))))
    | (apply W.append cx_ok; decide; rfl; rfl; rfl; decide; (iterate 3 (simp (disch := (first | omega | (simp only [List.length_append, List.length_map, List.length_cons, List.length_nil, List.length_take, List.length_drop]; omega))) only [push_cast, simprocAttr, takeM, dropM, List.take_length, List.length_take, List.length_drop, List.all_append, List.all_cons, List.all_nil, Bool.and_true, Bool.and_self, and_self, and_true, true_and, leT, List.take_of_length_le, pureL, pureA, g1, g2, natNe, List.mem_cons, List.not_mem_nil, TyD.isAgg, Nat.add_assoc, Bool.false_eq_true, List.map_nil, List.length_nil, Bool.true_and, Bool.false_and, Bool.and_false, Bool.not_true, Bool.not_false] <;> rfl)); (first | (focus (simp; done)) | (intro c hc; obtain ⟨x, _, rfl⟩ := List.mem_map.1 hc; rfl)); ((first | rfl | simp (disch := omega) only [push_cast])); ((try dsimp only); (try simp only [List.length_map, List.length_append, List.length_cons, List.length_nil, List.length_take, List.length_drop]); omega); ((try dsimp only); (try simp only [List.length_map, List.length_append, List.length_cons, List.length_nil, List.length_take, List.length_drop]); omega))
    | ((apply W.callv cx_ok; decide); (iterate 2 (simp (disch := (first | omega | (simp only [List.length_append, List.length_map, List.length_cons, List.length_nil, List.length_take, List.length_drop]; omega))) only [push_cast, simprocAttr, takeM, dropM, List.take_length, List.length_take, List.length_drop, List.all_append, List.all_cons, List.all_nil, Bool.and_true, Bool.and_self, and_self, and_true, true_and, leT, List.take_of_length_le, pureL, pureA, g1, g2, natNe, List.mem_cons, List.not_mem_nil, TyD.isAgg, Nat.add_assoc, Bool.false_eq_true, List.map_nil, List.length_nil, Bool.true_and, Bool.false_and, Bool.and_false, Bool.not_true, Bool.not_false] <;> rfl)); (with_reducible first | exact c1); try first | rfl | (simp (disch := (first | omega | (simp only [List.length_append, List.length_map, List.length_cons, List.length_nil, List.length_take, List.length_drop]; omega))) only [push_cast, simprocAttr, takeM, dropM, List.take_length, List.length_take, List.length_drop, List.all_append, List.all_cons, List.all_nil, Bool.and_true, Bool.and_self, and_self, and_true, true_and, leT, List.take_of_length_le, pureL, pureA, g1, g2, natNe, List.mem_cons, List.not_mem_nil, TyD.isAgg, Nat.add_assoc, Bool.false_eq_true, List.map_nil, List.length_nil, Bool.true_and, Bool.false_and, Bool.and_false, Bool.not_true, Bool.not_false] <;> rfl))
    | ((first | apply W.ret2 | apply W.end2); (iterate 2 (try (simp (disch := (first | omega | (simp only [List.length_append, List.length_map, List.length_cons, List.length_nil, List.length_take, List.length_drop]; omega))) only [push_cast, simprocAttr, takeM, dropM, List.take_length, List.length_take, List.length_drop, List.all_append, List.all_cons, List.all_nil, Bool.and_true, Bool.and_self, and_self, and_true, true_and, leT, List.take_of_length_le, pureL, pureA, g1, g2, natNe, List.mem_cons, List.not_mem_nil, TyD.isAgg, Nat.add_assoc, Bool.false_eq_true, List.map_nil, List.length_nil, Bool.true_and, Bool.false_and, Bool.and_false, Bool.not_true, Bool.not_false] <;> rfl))))

  refine AW.adopt 7 2 35 ?_ ?_
  · (simp (disch := omega) only [push_cast, simprocAttr, g1, g2, natNe, List.mem_cons, List.not_mem_nil, TyD.isAgg, Nat.add_assoc, Bool.false_eq_true, List.map_nil, List.length_nil] <;> rfl)
  refine AW.loop (fun n s => ∃ (k : Nat) (O rest : List Arc), n = rest.length ∧ (l.drop k = rest) ∧ (O ++ rest.map (fun x => wideF x n0) = WL) ∧ (O.length = k) ∧ (k ≤ l.length) ∧ 1 ≤ s.nx ∧ s.tm 1 = ai n0 ∧ s.tm 7 = .ref 0 0 O.length ∧ s.tm 21 = lArc l ∧ s.tm 22 = ai l.length ∧ s.tm 23 = ai k ∧ Pg.rowAt s.H (0) = some ({ k := 2, es := O.map eArc, ty := 35, lo := O.length })) (l.length) ⟨0, [], l, rfl, rfl, (by rw [← hWL]; rfl), rfl, (Nat.zero_le _), ?_, ?_, ?_, ?_, ?_, ?_, ?_⟩ ?_
  iterate 7 (first | (simp (disch := omega) only [push_cast, simprocAttr, g1, g2, natNe, List.mem_cons, List.not_mem_nil, TyD.isAgg, Nat.add_assoc, Bool.false_eq_true, List.map_nil, List.length_nil, isEmpty_map, List.isEmpty_cons, List.map_append, List.map_cons, List.length_append, List.length_cons, Nat.zero_add] <;> first | rfl | omega) | omega)
  rintro n1 s1 ⟨k1, O1, rest1, hn1, hp01, hp11, hp21, hp31, hnl1, hS1⟩
  have hZ1 : (0 : Nat) ≠ s1.nx ∧ s1.nx ≠ (0 : Nat) := by omega
  rcases rest1 with _ | ⟨x, rest1⟩
  rotate_left
  · obtain ⟨hk, hg, hd', hl', hm', hx⟩ := drop_cons hp01 eArc []
    have c2 := grown_ok x n0 (lv x hm') hn
    repeat' first
      | apply AW.seq | apply AW.region | apply AW.ret | apply AW.block | apply AW.skip | apply AW.exit | apply AW.scope | apply AW.label | apply AWL.nil
      | ((first | (apply W.step cx_ok; decide) | apply W.store cx_ok | (apply W.gS; rfl; decide) | apply AW.cond); (simp (disch := (first | omega | (simp only [List.length_append, List.length_map, List.length_cons, List.length_nil, List.length_take, List.length_drop, List.length_nil]; omega))) only [push_cast, simprocAttr, takeM, dropM, List.take_length, List.length_take, List.length_drop, List.all_append, List.all_cons, List.all_nil, Bool.and_true, Bool.and_self, and_self, and_true, true_and, leT, List.take_of_length_le, pureL, pureA, hS1, hZ1, hk, hg, hx, natNe, List.mem_cons, List.not_mem_nil, TyD.isAgg, Nat.add_assoc, Bool.false_eq_true, List.map_nil, List.length_nil, isEmpty_map, List.isEmpty_cons, List.map_append, List.map_cons, List.length_append, List.length_cons, Nat.zero_add] <;> rfl); all_goals try ((with_reducible intro hI); try first | (cases hI; done) | (simp only [INTS, not_true_eq_false] at hI; try first | (exfalso; omega) | (have hT : True := hI; clear hT hI))))
      | (apply W.append cx_ok; decide; rfl; rfl; rfl; decide; (iterate 3 (simp (disch := (first | omega | (simp only [List.length_append, List.length_map, List.length_cons, List.length_nil, List.length_take, List.length_drop, List.length_nil]; omega))) only [push_cast, simprocAttr, takeM, dropM, List.take_length, List.length_take, List.length_drop, List.all_append, List.all_cons, List.all_nil, Bool.and_true, Bool.and_self, and_self, and_true, true_and, leT, List.take_of_length_le, pureL, pureA, hS1, hZ1, hk, hg, hx, natNe, List.mem_cons, List.not_mem_nil, TyD.isAgg, Nat.add_assoc, Bool.false_eq_true, List.map_nil, List.length_nil, isEmpty_map, List.isEmpty_cons, List.map_append, List.map_cons, List.length_append, List.length_cons, Nat.zero_add] <;> rfl)); (first | (focus (simp; done)) | (intro c hc; obtain ⟨x, _, rfl⟩ := List.mem_map.1 hc; rfl)); ((first | rfl | simp (disch := omega) only [push_cast])); ((try dsimp only); (try simp only [List.length_map, List.length_append, List.length_cons, List.length_nil, List.length_take, List.length_drop, List.length_nil]); omega); ((try dsimp only); (try simp only [List.length_map, List.length_append, List.length_cons, List.length_nil, List.length_take, List.length_drop, List.length_nil]); omega))
      | ((apply W.callv cx_ok; decide); (iterate 2 (simp (disch := (first | omega | (simp only [List.length_append, List.length_map, List.length_cons, List.length_nil, List.length_take, List.length_drop, List.length_nil]; omega))) only [push_cast, simprocAttr, takeM, dropM, List.take_length, List.length_take, List.length_drop, List.all_append, List.all_cons, List.all_nil, Bool.and_true, Bool.and_self, and_self, and_true, true_and, leT, List.take_of_length_le, pureL, pureA, hS1, hZ1, hk, hg, hx, natNe, List.mem_cons, List.not_mem_nil, TyD.isAgg, Nat.add_assoc, Bool.false_eq_true, List.map_nil, List.length_nil, isEmpty_map, List.isEmpty_cons, List.map_append, List.map_cons, List.length_append, List.length_cons, Nat.zero_add] <;> rfl)); (with_reducible first | exact c2); try first | rfl | (simp (disch := (first | omega | (simp only [List.length_append, List.length_map, List.length_cons, List.length_nil, List.length_take, List.length_drop, List.length_nil]; omega))) only [push_cast, simprocAttr, takeM, dropM, List.take_length, List.length_take, List.length_drop, List.all_append, List.all_cons, List.all_nil, Bool.and_true, Bool.and_self, and_self, and_true, true_and, leT, List.take_of_length_le, pureL, pureA, hS1, hZ1, hk, hg, hx, natNe, List.mem_cons, List.not_mem_nil, TyD.isAgg, Nat.add_assoc, Bool.false_eq_true, List.map_nil, List.length_nil, isEmpty_map, List.isEmpty_cons, List.map_append, List.map_cons, List.length_append, List.length_cons, Nat.zero_add] <;> rfl))
      | ((first | apply W.ret2 | apply W.end2); (iterate 2 (try (simp (disch := (first | omega | (simp only [List.length_append, List.length_map, List.length_cons, List.length_nil, List.length_take, List.length_drop, List.length_nil]; omega))) only [push_cast, simprocAttr, takeM, dropM, List.take_length, List.length_take, List.length_drop, List.all_append, List.all_cons, List.all_nil, Bool.and_true, Bool.and_self, and_self, and_true, true_and, leT, List.take_of_length_le, pureL, pureA, hS1, hZ1, hk, hg, hx, natNe, List.mem_cons, List.not_mem_nil, TyD.isAgg, Nat.add_assoc, Bool.false_eq_true, List.map_nil, List.length_nil, isEmpty_map, List.isEmpty_cons, List.map_append, List.map_cons, List.length_append, List.length_cons, Nat.zero_add] <;> rfl))))

    all_goals (refine ⟨rest1.length, ?_, k1 + 1, (O1 ++ [wideF x n0]), rest1, rfl, hd', (by rw [List.append_assoc]; exact hp11), (by rw [List.length_append, List.length_singleton]; omega), (by omega), ?_, ?_, ?_, ?_, ?_, ?_, ?_⟩; ((simp only [List.length_cons] at *; omega)); all_goals first | (simp (disch := omega) only [push_cast, simprocAttr, hS1, hZ1, hk, hg, hx, natNe, List.mem_cons, List.not_mem_nil, TyD.isAgg, Nat.add_assoc, Bool.false_eq_true, List.map_nil, List.length_nil, isEmpty_map, List.isEmpty_cons, List.map_append, List.map_cons, List.length_append, List.length_cons, Nat.zero_add] <;> first | rfl | omega) | omega)
  have hk := drop_nil hp01
  simp only [List.map_nil, List.append_nil] at hp11
  subst hp11
  repeat' first
    | apply AW.seq | apply AW.region | apply AW.ret | apply AW.block | apply AW.skip | apply AW.exit | apply AW.scope | apply AW.label | apply AWL.nil
    | ((first | (apply W.step cx_ok; decide) | apply W.store cx_ok | (apply W.gS; rfl; decide) | apply AW.cond); (simp (disch := (first | omega | (simp only [List.length_append, List.length_map, List.length_cons, List.length_nil, List.length_take, List.length_drop, List.length_nil]; omega))) only [push_cast, simprocAttr, takeM, dropM, List.take_length, List.length_take, List.length_drop, List.all_append, List.all_cons, List.all_nil, Bool.and_true, Bool.and_self, and_self, and_true, true_and, leT, List.take_of_length_le, pureL, pureA, hS1, hZ1, hk, natNe, List.mem_cons, List.not_mem_nil, TyD.isAgg, Nat.add_assoc, Bool.false_eq_true, List.map_nil, List.length_nil] <;> rfl); all_goals try ((with_reducible intro hI); try first | (cases hI; done) | (simp only [INTS, not_true_eq_false] at hI; try first | (exfalso; omega) | (have hT : True := hI; clear hT hI))))
    | (apply W.append cx_ok; decide; rfl; rfl; rfl; decide; (iterate 3 (simp (disch := (first | omega | (simp only [List.length_append, List.length_map, List.length_cons, List.length_nil, List.length_take, List.length_drop, List.length_nil]; omega))) only [push_cast, simprocAttr, takeM, dropM, List.take_length, List.length_take, List.length_drop, List.all_append, List.all_cons, List.all_nil, Bool.and_true, Bool.and_self, and_self, and_true, true_and, leT, List.take_of_length_le, pureL, pureA, hS1, hZ1, hk, natNe, List.mem_cons, List.not_mem_nil, TyD.isAgg, Nat.add_assoc, Bool.false_eq_true, List.map_nil, List.length_nil] <;> rfl)); (first | (focus (simp; done)) | (intro c hc; obtain ⟨x, _, rfl⟩ := List.mem_map.1 hc; rfl)); ((first | rfl | simp (disch := omega) only [push_cast])); ((try dsimp only); (try simp only [List.length_map, List.length_append, List.length_cons, List.length_nil, List.length_take, List.length_drop, List.length_nil]); omega); ((try dsimp only); (try simp only [List.length_map, List.length_append, List.length_cons, List.length_nil, List.length_take, List.length_drop, List.length_nil]); omega))
    | ((apply W.callv cx_ok; decide); (iterate 2 (simp (disch := (first | omega | (simp only [List.length_append, List.length_map, List.length_cons, List.length_nil, List.length_take, List.length_drop, List.length_nil]; omega))) only [push_cast, simprocAttr, takeM, dropM, List.take_length, List.length_take, List.length_drop, List.all_append, List.all_cons, List.all_nil, Bool.and_true, Bool.and_self, and_self, and_true, true_and, leT, List.take_of_length_le, pureL, pureA, hS1, hZ1, hk, natNe, List.mem_cons, List.not_mem_nil, TyD.isAgg, Nat.add_assoc, Bool.false_eq_true, List.map_nil, List.length_nil] <;> rfl)); (with_reducible first | exact c3 | exact c4); try first | rfl | (simp (disch := (first | omega | (simp only [List.length_append, List.length_map, List.length_cons, List.length_nil, List.length_take, List.length_drop, List.length_nil]; omega))) only [push_cast, simprocAttr, takeM, dropM, List.take_length, List.length_take, List.length_drop, List.all_append, List.all_cons, List.all_nil, Bool.and_true, Bool.and_self, and_self, and_true, true_and, leT, List.take_of_length_le, pureL, pureA, hS1, hZ1, hk, natNe, List.mem_cons, List.not_mem_nil, TyD.isAgg, Nat.add_assoc, Bool.false_eq_true, List.map_nil, List.length_nil] <;> rfl))
    | ((first | apply W.ret2 | apply W.end2); (iterate 2 (try (simp (disch := (first | omega | (simp only [List.length_append, List.length_map, List.length_cons, List.length_nil, List.length_take, List.length_drop, List.length_nil]; omega))) only [push_cast, simprocAttr, takeM, dropM, List.take_length, List.length_take, List.length_drop, List.all_append, List.all_cons, List.all_nil, Bool.and_true, Bool.and_self, and_self, and_true, true_and, leT, List.take_of_length_le, pureL, pureA, hS1, hZ1, hk, natNe, List.mem_cons, List.not_mem_nil, TyD.isAgg, Nat.add_assoc, Bool.false_eq_true, List.map_nil, List.length_nil] <;> rfl))))

  all_goals (show _ = _; rfl)
theorem Size_good (h0 : SortKC0 Tryd.prog 130) (l : List Arc) (hc : checkL l = 0) : OKv cx 32 [lArc l] (.tup [ai (sumW (spansS l)), ai 0]) := by
  obtain ⟨ll, lv⟩ := checkL_zero hc
  have c1 := acceptable_ok l (by omega)
  rw [hc] at c1
  obtain ⟨s1, s2, _⟩ := spans_spec lv
  have hsl := inC_len s1 s2
  have c3 := pspans_ok h0 l lv (by omega)
  have hsw := s1.2
  clear s1
  obtain ⟨S, hS0⟩ : ∃ z, spansS l = z := ⟨_, rfl⟩
  rw [hS0] at hsl c3 hsw s2 ⊢
  obtain ⟨RES, hRES⟩ : ∃ z, sumW S = z := ⟨_, rfl⟩
  rw [hRES]
  refine OKat.of_body (rs := [2, 3]) Tryd.func32 rfl (by decide +kernel) rfl (by simp [Tryd.ntmps32]) ?_
  simp only [Tryd.ntmps32]
  repeat' first
    | apply AW.seq | apply AW.region | apply AW.ret | apply AW.block | apply AW.skip | apply AW.exit | apply AW.scope | apply AW.label | apply AWL.nil
    | ((first | (apply W.step cx_ok; decide) | apply W.store cx_ok | apply AW.cond); (simp (disch := omega) only [push_cast, simprocAttr, natNe, List.mem_cons, List.not_mem_nil, TyD.isAgg, Nat.add_assoc, Bool.false_eq_true, List.map_nil, List.length_nil] <;> rfl); all_goals try ((with_reducible intro hI); try first | (cases hI; done) | (simp only [INTS, not_true_eq_false] at hI; try first | (exfalso; omega) | (have hT : True := hI; clear hT hI))))
    | ((apply W.callv cx_ok; decide); (iterate 2 (simp (disch := omega) only [push_cast, simprocAttr, natNe, List.mem_cons, List.not_mem_nil, TyD.isAgg, Nat.add_assoc, Bool.false_eq_true, List.map_nil, List.length_nil] <;> rfl)); (with_reducible first | exact c1 | exact c3); try first | rfl | (simp (disch := omega) only [push_cast, simprocAttr, natNe, List.mem_cons, List.not_mem_nil, TyD.isAgg, Nat.add_assoc, Bool.false_eq_true, List.map_nil, List.length_nil] <;> rfl))
    | ((first | apply W.ret2 | apply W.end2); (iterate 2 (try (simp (disch := omega) only [push_cast, simprocAttr, natNe, List.mem_cons, List.not_mem_nil, TyD.isAgg, Nat.add_assoc, Bool.false_eq_true, List.map_nil, List.length_nil] <;> rfl))))

  refine AW.loop (fun n s => ∃ (k : Nat) (m0 : Int) (rest : List Span), n = rest.length ∧ (S.drop k = rest) ∧ (m0 + sumW rest = RES) ∧ (0 ≤ m0 ∧ m0 ≤ 43200 * (k : Int)) ∧ (k ≤ S.length) ∧ s.tm 5 = ai m0 ∧ s.tm 14 = lSpan S ∧ s.tm 15 = ai S.length ∧ s.tm 16 = ai k) (S.length) ⟨0, 0, S, rfl, rfl, (by omega), (by omega), (Nat.zero_le _), ?_, ?_, ?_, ?_⟩ ?_
  iterate 4 (first | (simp (disch := omega) only [push_cast, simprocAttr, natNe, List.mem_cons, List.not_mem_nil, TyD.isAgg, Nat.add_assoc, Bool.false_eq_true, List.map_nil, List.length_nil] <;> first | rfl | omega) | omega)
  rintro n1 s1 ⟨k1, m01, rest1, hn1, hp01, hp11, hp21, hp31, hS1⟩
  rcases rest1 with _ | ⟨x, rest1⟩
  · have hk := drop_nil hp01
    have hq : m01 = RES := by unfold sumW at hp11; omega
    subst hq
    repeat' first
      | apply AW.seq | apply AW.region | apply AW.ret | apply AW.block | apply AW.skip | apply AW.exit | apply AW.scope | apply AW.label | apply AWL.nil
      | ((first | (apply W.step cx_ok; decide) | apply W.store cx_ok | apply AW.cond); (simp (disch := omega) only [push_cast, simprocAttr, hS1, hk, natNe, List.mem_cons, List.not_mem_nil, TyD.isAgg, Nat.add_assoc, Bool.false_eq_true, List.map_nil, List.length_nil] <;> rfl); all_goals try ((with_reducible intro hI); try first | (cases hI; done) | (simp only [INTS, not_true_eq_false] at hI; try first | (exfalso; omega) | (have hT : True := hI; clear hT hI))))
      | ((first | apply W.ret2 | apply W.end2); (iterate 2 (try (simp (disch := omega) only [push_cast, simprocAttr, hS1, hk, natNe, List.mem_cons, List.not_mem_nil, TyD.isAgg, Nat.add_assoc, Bool.false_eq_true, List.map_nil, List.length_nil] <;> rfl))))

    all_goals (show _ = _; rfl)
  · obtain ⟨hk, hg, hd', hl', hm', hx⟩ := drop_cons hp01 eSpan []
    have hxi := s2 x hm'
    have hxw := hsw x hm'
    unfold sumW at hp11
    repeat' first
      | apply AW.seq | apply AW.region | apply AW.ret | apply AW.block | apply AW.skip | apply AW.exit | apply AW.scope | apply AW.label | apply AWL.nil
      | ((first | (apply W.step cx_ok; decide) | apply W.store cx_ok | apply AW.cond); (simp (disch := omega) only [push_cast, simprocAttr, hS1, hk, hg, hx, natNe, List.mem_cons, List.not_mem_nil, TyD.isAgg, Nat.add_assoc, Bool.false_eq_true, List.map_nil, List.length_nil] <;> rfl); all_goals try ((with_reducible intro hI); try first | (cases hI; done) | (simp only [INTS, not_true_eq_false] at hI; try first | (exfalso; omega) | (have hT : True := hI; clear hT hI))))
      | ((first | apply W.ret2 | apply W.end2); (iterate 2 (try (simp (disch := omega) only [push_cast, simprocAttr, hS1, hk, hg, hx, natNe, List.mem_cons, List.not_mem_nil, TyD.isAgg, Nat.add_assoc, Bool.false_eq_true, List.map_nil, List.length_nil] <;> rfl))))

    all_goals (refine ⟨rest1.length, ?_, k1 + 1, m01 + (x.hi - x.lo + 1), rest1, rfl, hd', (by omega), (by omega), (by omega), ?_, ?_, ?_, ?_⟩; ((simp only [List.length_cons] at *; omega)); all_goals first | (simp (disch := omega) only [push_cast, simprocAttr, hS1, hk, hg, hx, natNe, List.mem_cons, List.not_mem_nil, TyD.isAgg, Nat.add_assoc, Bool.false_eq_true, List.map_nil, List.length_nil] <;> first | rfl | omega) | omega)
theorem Size_bad (l : List Arc) (hl : l.length ≤ 1099511627776) (hc : checkL l ≠ 0) : OKv cx 32 [lArc l] (.tup [ai 0, ai (checkL l)]) := by
  have c1 := acceptable_ok l hl
  have hF : (checkL l = 0) = False := eq_false hc
  refine OKat.of_body (rs := [2, 3]) Tryd.func32 rfl (by decide +kernel) rfl (by simp [Tryd.ntmps32]) ?_
  simp only [Tryd.ntmps32]
  repeat' first
    | apply AW.seq | apply AW.region | apply AW.ret | apply AW.block | apply AW.skip | apply AW.exit | apply AW.scope | apply AW.label | apply AWL.nil
    | ((first | (apply W.step cx_ok; decide) | apply W.store cx_ok | apply AW.cond); (simp (disch := omega) only [push_cast, simprocAttr, hF, natNe, List.mem_cons, List.not_mem_nil, TyD.isAgg, Nat.add_assoc, Bool.false_eq_true, List.map_nil, List.length_nil] <;> rfl); all_goals try ((with_reducible intro hI); try first | (cases hI; done) | (simp only [INTS, not_true_eq_false] at hI; try first | (exfalso; omega) | (have hT : True := hI; clear hT hI))))
    | ((apply W.callv cx_ok; decide); (iterate 2 (simp (disch := omega) only [push_cast, simprocAttr, hF, natNe, List.mem_cons, List.not_mem_nil, TyD.isAgg, Nat.add_assoc, Bool.false_eq_true, List.map_nil, List.length_nil] <;> rfl)); (with_reducible first | exact c1); try first | rfl | (simp (disch := omega) only [push_cast, simprocAttr, hF, natNe, List.mem_cons, List.not_mem_nil, TyD.isAgg, Nat.add_assoc, Bool.false_eq_true, List.map_nil, List.length_nil] <;> rfl))
    | ((first | apply W.ret2 | apply W.end2); (iterate 2 (try (simp (disch := omega) only [push_cast, simprocAttr, hF, natNe, List.mem_cons, List.not_mem_nil, TyD.isAgg, Nat.add_assoc, Bool.false_eq_true, List.map_nil, List.length_nil] <;> rfl))))

  all_goals (show _ = _; rfl)
theorem Grow_bad (l : List Arc) (n0 : Int) (hl : l.length ≤ 1099511627776) (hc : checkL l ≠ 0) : OKv cx 34 [lArc l, ai n0] (.tup [.lst [], ai (checkL l)]) := by
  have c1 := acceptable_ok l hl
  have hF : (checkL l = 0) = False := eq_false hc
  refine OKat.of_body (rs := [4, 5]) Tryd.func34 rfl (by decide +kernel) rfl (by simp [Tryd.ntmps34]) ?_
  simp only [Tryd.ntmps34]
  repeat' first
    | apply AW.seq | apply AW.region | apply AW.ret | apply AW.block | apply AW.skip | apply AW.exit | apply AW.scope | apply AW.label | apply AWL.nil
    | ((first | (apply W.step cx_ok; decide) | apply W.store cx_ok | (apply W.gS; rfl; decide) | apply AW.cond); (simp (disch := omega) only [push_cast, simprocAttr, hF, natNe, List.mem_cons, List.not_mem_nil, TyD.isAgg, Nat.add_assoc, Bool.false_eq_true, List.map_nil, List.length_nil] <;> rfl); all_goals try ((with_reducible intro hI); try first | (cases hI; done) | (simp only [INTS, not_true_eq_false] at hI; try first | (exfalso; omega) | (have hT : True := hI; clear hT hI))))
    | ((apply W.callv cx_ok; decide); (iterate 2 (simp (disch := omega) only [push_cast, simprocAttr, hF, natNe, List.mem_cons, List.not_mem_nil, TyD.isAgg, Nat.add_assoc, Bool.false_eq_true, List.map_nil, List.length_nil] <;> rfl)); (with_reducible first | exact c1); try first | rfl | (simp (disch := omega) only [push_cast, simprocAttr, hF, natNe, List.mem_cons, List.not_mem_nil, TyD.isAgg, Nat.add_assoc, Bool.false_eq_true, List.map_nil, List.length_nil] <;> rfl))
    | ((first | apply W.ret2 | apply W.end2); (iterate 2 (try (simp (disch := omega) only [push_cast, simprocAttr, hF, natNe, List.mem_cons, List.not_mem_nil, TyD.isAgg, Nat.add_assoc, Bool.false_eq_true, List.map_nil, List.length_nil] <;> rfl))))

  all_goals (show _ = _; rfl)
end Go.Proofs.Ds

set_option maxRecDepth 100000
namespace Go.Proofs.Ds
open Go
def and64 (a b : Int) : Int := IntKind.wrap .u64 ((BitVec.ofInt (IntKind.bits .u64) a &&& BitVec.ofInt (IntKind.bits .u64) b).toNat : Int)
def shr64 (a : Int) (k : Nat) : Int := a.fdiv (2 ^ (min k (IntKind.bits .u64)))
def add64 (a b : Int) : Int := IntKind.wrap .u64 (a + b)
def ones1 (x : Int) : Int := add64 (and64 (shr64 x 1) 6148914691236517205) (and64 x 6148914691236517205)
def ones2 (x : Int) : Int := add64 (and64 (shr64 x 2) 3689348814741910323) (and64 x 3689348814741910323)
def ones3 (x : Int) : Int := and64 (add64 (shr64 x 4) x) 1085102592571150095
def ones4 (x : Int) : Int := add64 x (shr64 x 8)
def ones5 (x : Int) : Int := add64 x (shr64 x 16)
def ones6 (x : Int) : Int := add64 x (shr64 x 32)
def ones (x : Int) : Int := IntKind.wrap .i64 ((BitVec.ofInt (IntKind.bits .i64) (IntKind.wrap .i64 (ones6 (ones5 (ones4 (ones3 (ones2 (ones1 x))))))) &&& BitVec.ofInt (IntKind.bits .i64) 127).toNat : Int)
theorem ones_all : ∀ p : Fin 4096, ones ((p.val : Nat) : Int) = ((cntF p.val : Nat) : Int) := by decide +kernel
end Go.Proofs.Ds
