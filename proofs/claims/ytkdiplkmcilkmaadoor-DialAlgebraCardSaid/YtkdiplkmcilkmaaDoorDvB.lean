/-
  Contracts of functions, proved by going through their code. No conditions.
-/
import Derived.Test.YtkdiplkmcilkmaaDoorDau
import Derived.Test.YtkdiplkmcilkmaaDoorDaw
import Derived.Test.YtkdiplkmcilkmaaDoorDtN
set_option linter.unusedVariables false
set_option linter.unusedSimpArgs false
set_option maxHeartbeats 8000000
set_option maxRecDepth 10000
namespace Go.Proofs.Ds
open Go Go.Pg Go.Proofs
theorem freezeR {C : Cx} {N : Nat} {Q : Exit → St → Prop} {s : St} {os : Array Oper} {dr : Bool} {t id off n : Nat} {v : AV} (ht : s.tm t = .ref id off n) (hv : viewA s.H (.ref id off n) = some v) (k : AW C N (.region 11 os dr) Q { tm := upd s.tm t v, H := frz' s.H [id], nx := s.nx }) : AW C N (.region 11 os dr) Q s :=
  AW.freeze (t := t) (v := v) (by rw [ht]; exact hv) (by rw [ht]; exact k)
theorem meetF_len : ∀ (n : Nat) (a b : List Span), a.length + b.length ≤ n → (meetF a b).length ≤ a.length + b.length
  | _, [], b, _ => by rw [meetF]; simp
  | _, s :: a, [], _ => by rw [meetF]; simp
  | 0, s :: a, t :: b, h => by simp at h
  | n + 1, s :: a, t :: b, h => by
    rw [meetF]
    simp only [List.length_cons] at h
    have h1 := meetF_len n a (t :: b) (by simp only [List.length_cons]; omega)
    have h2 := meetF_len n (s :: a) b (by simp only [List.length_cons]; omega)
    simp only [List.length_cons] at h1 h2 ⊢
    split <;> split <;> (try simp only [List.length_cons]) <;> omega
theorem arcsF_len (l : List Span) : (arcsF l).length ≤ l.length := by
  have : ∀ (h : Int) (m : List Span), (bumpF h m).length = m.length := by
    intro h m
    induction m with
    | nil => rfl
    | cons x m ih => rw [bumpF_cons, List.length_cons, List.length_cons, ih]
  unfold arcsF
  split
  · rw [this, List.length_drop]; omega
  · rw [List.length_map]; exact Nat.le_refl _
theorem putD_len' (l : List Span) (s : Span) : (putD l s).length ≤ l.length + 1 := by
  have h1 : ∀ (l : List Span) (s : Span), (leftS s l).length ≤ l.length := by
    intro l
    induction l with
    | nil => intro s; exact Nat.le_refl _
    | cons x l ih => intro s; unfold leftS; split <;> (have := ih; simp; have h2 := ih s; have h3 := ih ⟨min s.lo x.lo, max s.hi x.hi⟩; omega)
  have h2 : ∀ (p : Span → Bool) (l : List Span), (l.takeWhile p).length + (l.dropWhile p).length = l.length := by
    intro p l
    rw [← List.length_append, List.takeWhile_append_dropWhile]
  unfold putD insB
  have := h1 l s
  have := h2 (fun t => decide (t.lo < (growS s l).lo)) (leftS s l)
  rw [List.length_append, List.length_cons]
  omega
theorem spans_len' (l : List Arc) : (spansS l).length ≤ 2 * l.length := by
  have h1 : ∀ (p m : List Span), (putAll m p).length ≤ m.length + p.length := by
    intro p
    induction p with
    | nil => intro m; exact Nat.le_refl _
    | cons s p ih =>
      intro m
      have e : putAll m (s :: p) = putAll (putD m s) p := rfl
      have := ih (putD m s)
      have := putD_len' m s
      rw [e, List.length_cons]
      omega
  have h2 : (piecesL l).length ≤ 2 * l.length := by
    induction l with
    | nil => exact Nat.le_refl _
    | cons x l ih =>
      have e : piecesL (x :: l) = piecesF x ++ piecesL l := rfl
      rw [e, List.length_append, List.length_cons]
      have : (piecesF x).length ≤ 2 := by unfold piecesF; split <;> simp
      omega
  have := h1 (piecesL l) []
  unfold spansS
  simp only [List.length_nil] at this
  omega
theorem rest_len' (l : List Span) : (restS l).length ≤ l.length + 1 := by
  have h : ∀ (l : List Span) (a : Int), (restF a l).length ≤ l.length + 1 := by
    intro l
    induction l with
    | nil => intro a; unfold restF; split <;> simp
    | cons s l ih =>
      intro a
      unfold restF
      have := ih (s.hi + 1)
      split
      · simp; omega
      · simp; omega
  exact h l 0
theorem good_arcs {l : List Span} (hc : canon l) (hi : inC l) (hl : l.length ≤ 200) : checkL (arcsF l) = 0 := by
  unfold checkL
  have := arcsF_len l
  rw [if_neg (by omega), if_pos (List.all_eq_true.2 fun x hx => (arcsF_spec hc hi).1 x hx)]
theorem mem_app {a b : List Arc} (va : ∀ x ∈ a, validA x = true) (vb : ∀ x ∈ b, validA x = true) (x : Int) : memS x (spansS (a ++ b)) ↔ memS x (spansS a) ∨ memS x (spansS b) := by
  rw [(spans_spec (l := a ++ b) fun x hx => (List.mem_append.1 hx).elim (va x) (vb x)).2.2, (spans_spec va).2.2, (spans_spec vb).2.2]
  unfold piecesL
  rw [List.flatMap_append, memS_append]
def wholeA : List Arc := [⟨0, 43199⟩]
theorem whole_spans : spansS wholeA = [⟨0, 43199⟩] := by decide +kernel
theorem whole_canon : canon [(⟨0, 43199⟩ : Span)] := ⟨List.pairwise_singleton _ _, fun s hs => by rw [List.mem_singleton.1 hs]; decide⟩
theorem whole_mem (x : Int) : memS x [(⟨0, 43199⟩ : Span)] ↔ 0 ≤ x ∧ x ≤ 43199 := by
  rw [memS_cons]
  exact ⟨fun h => h.elim id fun h => absurd h memS_nil, .inl⟩
theorem back_eq {A : List Span} (h1 : canon A) (h2 : inC A) : meetF [⟨0, 43199⟩] (restS (meetF [⟨0, 43199⟩] (restS A))) = A := by
  obtain ⟨r1, r2, r3⟩ := restS_spec h1 h2
  obtain ⟨m1, m2⟩ := meet_spec whole_canon r1
  have m3 : inC (meetF [⟨0, 43199⟩] (restS A)) := inC_of_mem m1 fun z hz => mem_inC r2 ((m2 z).1 hz).2
  obtain ⟨s1, s2, s3⟩ := restS_spec m1 m3
  obtain ⟨n1, n2⟩ := meet_spec whole_canon s1
  refine canon_ext n1 h1 fun x => ?_
  rw [n2, s3, m2, r3, whole_mem]
  constructor
  · rintro ⟨⟨a, b⟩, _, _, h⟩
    exact Classical.byContradiction fun g => h ⟨⟨a, b⟩, a, b, g⟩
  · intro h
    have := mem_inC h2 h
    exact ⟨this, this.1, this.2, fun g => g.2.2.2 h⟩
theorem law4_ok (hs : OKv cx 19 [] (ab true)) (h0 : SortKC0 Tryd.prog 130) (a b c : List Arc) (n0 n1 : Int) (ha : a.length ≤ 9223372036854775807) (hb : b.length ≤ 9223372036854775807) (hc : c.length ≤ 9223372036854775807) : OKv cx 4 [lArc a, lArc b, lArc c, ai n0, ai n1] (ab true) := by
  have hf1 : ∀ l x, flatA (.tup [.lst l, .v x]) = false := fun _ _ => rfl
  have u1 := usual_ok a ha
  have u2 := usual_ok b hb
  have u3 := usual_ok c hc
  cases g1 : usualF a with
  | false =>
    rw [g1] at u1
    refine OKat.of_body (rs := [10]) Tryd.func4 rfl (by decide +kernel) rfl (by simp [Tryd.ntmps4]) ?_
    simp only [Tryd.ntmps4]
    repeat' first
      | apply AW.seq | apply AW.region | apply AW.ret | apply AW.block | apply AW.skip | apply AW.exit | apply AW.scope | apply AW.label | apply AWL.nil
      | ((first | (apply W.step cx_ok; decide) | (apply W.gS; rfl; decide) | apply AW.cond); (simp (disch := omega) only [push_cast, simprocAttr, natNe, List.mem_cons, List.not_mem_nil, TyD.isAgg, Nat.add_assoc, List.map_nil, List.length_nil, Bool.and_self, Bool.and_true, Bool.true_and, Bool.false_and, Bool.and_false, Bool.not_true, Bool.not_false, Bool.false_eq_true, beq_self_eq_true] <;> rfl); all_goals try ((with_reducible intro hI); try first | (cases hI; done) | (simp only [INTS, not_true_eq_false] at hI; try first | (exfalso; omega) | (have hT : True := hI; clear hT hI))))
      | ((apply W.callv cx_ok; decide); (iterate 2 (simp (disch := omega) only [push_cast, simprocAttr, natNe, List.mem_cons, List.not_mem_nil, TyD.isAgg, Nat.add_assoc, List.map_nil, List.length_nil, Bool.and_self, Bool.and_true, Bool.true_and, Bool.false_and, Bool.and_false, Bool.not_true, Bool.not_false, Bool.false_eq_true, beq_self_eq_true] <;> rfl)); (with_reducible first | exact hs | exact u1); try first | rfl | (simp (disch := omega) only [push_cast, simprocAttr, natNe, List.mem_cons, List.not_mem_nil, TyD.isAgg, Nat.add_assoc, List.map_nil, List.length_nil, Bool.and_self, Bool.and_true, Bool.true_and, Bool.false_and, Bool.and_false, Bool.not_true, Bool.not_false, Bool.false_eq_true, beq_self_eq_true] <;> rfl))
      | ((first | apply W.ret1 | apply W.end1); (iterate 2 (try (simp (disch := omega) only [push_cast, simprocAttr, natNe, List.mem_cons, List.not_mem_nil, TyD.isAgg, Nat.add_assoc, List.map_nil, List.length_nil, Bool.and_self, Bool.and_true, Bool.true_and, Bool.false_and, Bool.and_false, Bool.not_true, Bool.not_false, Bool.false_eq_true, beq_self_eq_true] <;> rfl))))

    all_goals (show _ = _; rfl)
  | true =>
  rw [g1] at u1
  cases g2 : usualF b with
  | false =>
    rw [g2] at u2
    refine OKat.of_body (rs := [10]) Tryd.func4 rfl (by decide +kernel) rfl (by simp [Tryd.ntmps4]) ?_
    simp only [Tryd.ntmps4]
    repeat' first
      | apply AW.seq | apply AW.region | apply AW.ret | apply AW.block | apply AW.skip | apply AW.exit | apply AW.scope | apply AW.label | apply AWL.nil
      | ((first | (apply W.step cx_ok; decide) | (apply W.gS; rfl; decide) | apply AW.cond); (simp (disch := omega) only [push_cast, simprocAttr, natNe, List.mem_cons, List.not_mem_nil, TyD.isAgg, Nat.add_assoc, List.map_nil, List.length_nil, Bool.and_self, Bool.and_true, Bool.true_and, Bool.false_and, Bool.and_false, Bool.not_true, Bool.not_false, Bool.false_eq_true, beq_self_eq_true] <;> rfl); all_goals try ((with_reducible intro hI); try first | (cases hI; done) | (simp only [INTS, not_true_eq_false] at hI; try first | (exfalso; omega) | (have hT : True := hI; clear hT hI))))
      | ((apply W.callv cx_ok; decide); (iterate 2 (simp (disch := omega) only [push_cast, simprocAttr, natNe, List.mem_cons, List.not_mem_nil, TyD.isAgg, Nat.add_assoc, List.map_nil, List.length_nil, Bool.and_self, Bool.and_true, Bool.true_and, Bool.false_and, Bool.and_false, Bool.not_true, Bool.not_false, Bool.false_eq_true, beq_self_eq_true] <;> rfl)); (with_reducible first | exact hs | exact u1 | exact u2); try first | rfl | (simp (disch := omega) only [push_cast, simprocAttr, natNe, List.mem_cons, List.not_mem_nil, TyD.isAgg, Nat.add_assoc, List.map_nil, List.length_nil, Bool.and_self, Bool.and_true, Bool.true_and, Bool.false_and, Bool.and_false, Bool.not_true, Bool.not_false, Bool.false_eq_true, beq_self_eq_true] <;> rfl))
      | ((first | apply W.ret1 | apply W.end1); (iterate 2 (try (simp (disch := omega) only [push_cast, simprocAttr, natNe, List.mem_cons, List.not_mem_nil, TyD.isAgg, Nat.add_assoc, List.map_nil, List.length_nil, Bool.and_self, Bool.and_true, Bool.true_and, Bool.false_and, Bool.and_false, Bool.not_true, Bool.not_false, Bool.false_eq_true, beq_self_eq_true] <;> rfl))))

    all_goals (show _ = _; rfl)
  | true =>
  rw [g2] at u2
  cases g3 : usualF c with
  | false =>
    rw [g3] at u3
    refine OKat.of_body (rs := [10]) Tryd.func4 rfl (by decide +kernel) rfl (by simp [Tryd.ntmps4]) ?_
    simp only [Tryd.ntmps4]
    repeat' first
      | apply AW.seq | apply AW.region | apply AW.ret | apply AW.block | apply AW.skip | apply AW.exit | apply AW.scope | apply AW.label | apply AWL.nil
      | ((first | (apply W.step cx_ok; decide) | (apply W.gS; rfl; decide) | apply AW.cond); (simp (disch := omega) only [push_cast, simprocAttr, natNe, List.mem_cons, List.not_mem_nil, TyD.isAgg, Nat.add_assoc, List.map_nil, List.length_nil, Bool.and_self, Bool.and_true, Bool.true_and, Bool.false_and, Bool.and_false, Bool.not_true, Bool.not_false, Bool.false_eq_true, beq_self_eq_true] <;> rfl); all_goals try ((with_reducible intro hI); try first | (cases hI; done) | (simp only [INTS, not_true_eq_false] at hI; try first | (exfalso; omega) | (have hT : True := hI; clear hT hI))))
      | ((apply W.callv cx_ok; decide); (iterate 2 (simp (disch := omega) only [push_cast, simprocAttr, natNe, List.mem_cons, List.not_mem_nil, TyD.isAgg, Nat.add_assoc, List.map_nil, List.length_nil, Bool.and_self, Bool.and_true, Bool.true_and, Bool.false_and, Bool.and_false, Bool.not_true, Bool.not_false, Bool.false_eq_true, beq_self_eq_true] <;> rfl)); (with_reducible first | exact hs | exact u1 | exact u2 | exact u3); try first | rfl | (simp (disch := omega) only [push_cast, simprocAttr, natNe, List.mem_cons, List.not_mem_nil, TyD.isAgg, Nat.add_assoc, List.map_nil, List.length_nil, Bool.and_self, Bool.and_true, Bool.true_and, Bool.false_and, Bool.and_false, Bool.not_true, Bool.not_false, Bool.false_eq_true, beq_self_eq_true] <;> rfl))
      | ((first | apply W.ret1 | apply W.end1); (iterate 2 (try (simp (disch := omega) only [push_cast, simprocAttr, natNe, List.mem_cons, List.not_mem_nil, TyD.isAgg, Nat.add_assoc, List.map_nil, List.length_nil, Bool.and_self, Bool.and_true, Bool.true_and, Bool.false_and, Bool.and_false, Bool.not_true, Bool.not_false, Bool.false_eq_true, beq_self_eq_true] <;> rfl))))

    all_goals (show _ = _; rfl)
  | true =>
  rw [g3] at u3
  unfold usualF at g1 g2 g3
  simp only [Bool.and_eq_true, decide_eq_true_eq] at g1 g2 g3
  obtain ⟨la, ea⟩ := g1
  obtain ⟨lb, eb⟩ := g2
  obtain ⟨lc, ec⟩ := g3
  by_cases hsum : 90 < (a.length : Int) + (b.length : Int) + (c.length : Int)
  · have hT := eq_true hsum
    refine OKat.of_body (rs := [10]) Tryd.func4 rfl (by decide +kernel) rfl (by simp [Tryd.ntmps4]) ?_
    simp only [Tryd.ntmps4]
    repeat' first
      | apply AW.seq | apply AW.region | apply AW.ret | apply AW.block | apply AW.skip | apply AW.exit | apply AW.scope | apply AW.label | apply AWL.nil
      | ((first | (apply W.step cx_ok; decide) | (apply W.gS; rfl; decide) | apply AW.cond); (simp (disch := omega) only [push_cast, simprocAttr, natNe, List.mem_cons, List.not_mem_nil, TyD.isAgg, Nat.add_assoc, List.map_nil, List.length_nil, Bool.and_self, Bool.and_true, Bool.true_and, Bool.false_and, Bool.and_false, Bool.not_true, Bool.not_false, Bool.false_eq_true, beq_self_eq_true, hT] <;> rfl); all_goals try ((with_reducible intro hI); try first | (cases hI; done) | (simp only [INTS, not_true_eq_false] at hI; try first | (exfalso; omega) | (have hT : True := hI; clear hT hI))))
      | ((apply W.callv cx_ok; decide); (iterate 2 (simp (disch := omega) only [push_cast, simprocAttr, natNe, List.mem_cons, List.not_mem_nil, TyD.isAgg, Nat.add_assoc, List.map_nil, List.length_nil, Bool.and_self, Bool.and_true, Bool.true_and, Bool.false_and, Bool.and_false, Bool.not_true, Bool.not_false, Bool.false_eq_true, beq_self_eq_true, hT] <;> rfl)); (with_reducible first | exact hs | exact u1 | exact u2 | exact u3); try first | rfl | (simp (disch := omega) only [push_cast, simprocAttr, natNe, List.mem_cons, List.not_mem_nil, TyD.isAgg, Nat.add_assoc, List.map_nil, List.length_nil, Bool.and_self, Bool.and_true, Bool.true_and, Bool.false_and, Bool.and_false, Bool.not_true, Bool.not_false, Bool.false_eq_true, beq_self_eq_true, hT] <;> rfl))
      | ((first | apply W.ret1 | apply W.end1); (iterate 2 (try (simp (disch := omega) only [push_cast, simprocAttr, natNe, List.mem_cons, List.not_mem_nil, TyD.isAgg, Nat.add_assoc, List.map_nil, List.length_nil, Bool.and_self, Bool.and_true, Bool.true_and, Bool.false_and, Bool.and_false, Bool.not_true, Bool.not_false, Bool.false_eq_true, beq_self_eq_true, hT] <;> rfl))))

    all_goals (show _ = _; rfl)
  have hF := eq_false hsum
  have va := (checkL_zero ea).2
  have vb := (checkL_zero eb).2
  have vc := (checkL_zero ec).2
  have vab : ∀ x ∈ a ++ b, validA x = true := fun x hx => (List.mem_append.1 hx).elim (va x) (vb x)
  obtain ⟨a1, a2, _⟩ := spans_spec va
  obtain ⟨b1, b2, _⟩ := spans_spec vb
  obtain ⟨c1, c2, _⟩ := spans_spec vc
  obtain ⟨ab1, ab2, _⟩ := spans_spec vab
  have sa := spans_len' a
  have sb := spans_len' b
  have sc := spans_len' c
  have sab := spans_len' (a ++ b)
  rw [List.length_append] at sab
  have hcomm : spansS (b ++ a) = spansS (a ++ b) := canon_ext (spans_spec (l := b ++ a) fun x hx => (List.mem_append.1 hx).elim (vb x) (va x)).1 ab1 fun x => by
    rw [mem_app vb va, mem_app va vb]; exact Or.comm
  obtain ⟨ac1, acm⟩ := meet_spec a1 c1
  have ac2 : inC (meetF (spansS a) (spansS c)) := inC_of_mem ac1 fun z hz => mem_inC a2 ((acm z).1 hz).1
  obtain ⟨bc1, bcm⟩ := meet_spec b1 c1
  have bc2 : inC (meetF (spansS b) (spansS c)) := inC_of_mem bc1 fun z hz => mem_inC b2 ((bcm z).1 hz).1
  obtain ⟨abc1, abcm⟩ := meet_spec ab1 c1
  obtain ⟨in1, inm⟩ := meet_spec a1 b1
  have in2 : inC (meetF (spansS a) (spansS b)) := inC_of_mem in1 fun z hz => mem_inC a2 ((inm z).1 hz).1
  obtain ⟨rb1, rb2, _⟩ := restS_spec b1 b2
  obtain ⟨ra1, ra2, _⟩ := restS_spec a1 a2
  obtain ⟨ou1, oum⟩ := meet_spec a1 rb1
  have ou2 : inC (meetF (spansS a) (restS (spansS b))) := inC_of_mem ou1 fun z hz => mem_inC a2 ((oum z).1 hz).1
  obtain ⟨ot1, otm⟩ := meet_spec whole_canon ra1
  have ot2 : inC (meetF [⟨0, 43199⟩] (restS (spansS a))) := inC_of_mem ot1 fun z hz => mem_inC ra2 ((otm z).1 hz).2
  have lac := meetF_len _ (spansS a) (spansS c) (Nat.le_refl _)
  have lbc := meetF_len _ (spansS b) (spansS c) (Nat.le_refl _)
  have lin := meetF_len _ (spansS a) (spansS b) (Nat.le_refl _)
  have lou := meetF_len _ (spansS a) (restS (spansS b)) (Nat.le_refl _)
  have lot := meetF_len _ [⟨0, 43199⟩] (restS (spansS a)) (Nat.le_refl _)
  have lra := rest_len' (spansS a)
  have lrb := rest_len' (spansS b)
  rw [List.length_singleton] at lot
  have kab := good_arcs ab1 ab2 (by omega)
  have kac := good_arcs ac1 ac2 (by omega)
  have kbc := good_arcs bc1 bc2 (by omega)
  have kin := good_arcs in1 in2 (by omega)
  have kou := good_arcs ou1 ou2 (by omega)
  have kot := good_arcs ot1 ot2 (by omega)
  have kwh : checkL wholeA = 0 := by decide
  have p1 := Normal_good h0 a ea
  have p2 := Union_good h0 a b ea eb
  have p3 := Union_good h0 b a eb ea
  rw [hcomm] at p3
  have p4 := Meet_good h0 _ c kab ec
  rw [spans_arcs ab1 ab2] at p4
  have p5 := Meet_good h0 a c ea ec
  have p6 := Meet_good h0 b c eb ec
  have p7 := Union_good h0 _ _ kac kbc
  have hdist : spansS (arcsF (meetF (spansS a) (spansS c)) ++ arcsF (meetF (spansS b) (spansS c))) = meetF (spansS (a ++ b)) (spansS c) := by
    have w1 := (arcsF_spec ac1 ac2).1
    have w2 := (arcsF_spec bc1 bc2).1
    refine canon_ext (spans_spec fun x hx => (List.mem_append.1 hx).elim (w1 x) (w2 x)).1 abc1 fun x => ?_
    rw [mem_app w1 w2, spans_arcs ac1 ac2, spans_arcs bc1 bc2, acm, bcm, abcm, mem_app va vb]
    constructor
    · rintro (⟨h, g⟩ | ⟨h, g⟩)
      · exact ⟨.inl h, g⟩
      · exact ⟨.inr h, g⟩
    · rintro ⟨h | h, g⟩
      · exact .inl ⟨h, g⟩
      · exact .inr ⟨h, g⟩
  rw [hdist] at p7
  have p8 := Minus_good h0 wholeA a kwh ea
  rw [whole_spans] at p8
  have p9 := Minus_good h0 wholeA _ kwh kot
  rw [whole_spans, spans_arcs ot1 ot2, back_eq a1 a2] at p9
  have p10 := Meet_good h0 a b ea eb
  have p11 := Minus_good h0 a b ea eb
  have p12 := Size_good h0 _ kin
  rw [spans_arcs in1 in2] at p12
  have p13 := Size_good h0 _ kou
  rw [spans_arcs ou1 ou2] at p13
  have p14 := Size_good h0 a ea
  have hsum2 := sum_split a1 a2 b1 b2
  have q1 := Angle_ok n0
  have q2 := Angle_ok n1
  have d1 := angF_bd n0
  have d2 := angF_bd n1
  obtain ⟨X, hX⟩ : ∃ z, angF n0 = z := ⟨_, rfl⟩
  obtain ⟨Y, hY⟩ : ∃ z, angF n1 = z := ⟨_, rfl⟩
  rw [hX] at q1 d1
  rw [hY] at q2 d2
  have hwv : ∀ x ∈ a.map (fun x => wideF x X), validA x = true := fun x hx => by
    obtain ⟨y, hy, rfl⟩ := List.mem_map.1 hx
    exact wide_valid (va y hy) d1.1
  obtain ⟨w1, w2, _⟩ := spans_spec hwv
  have lw := spans_len' (a.map fun x => wideF x X)
  rw [List.length_map] at lw
  have kw := good_arcs w1 w2 (by omega)
  have p15 := Grow_good h0 a X ea ⟨d1.1, by omega⟩
  have bnd : ∀ l : List Span, canon l → inC l → (sumW l : Int) ≤ 43200 ∧ 0 ≤ sumW l := fun l h1 h2 => by
    rw [sum_cnt l h1 h2]
    have := List.countP_le_length (p := fun (k : Nat) => memB (k : Int) l) (l := List.range 43200)
    rw [List.length_range] at this
    unfold cntS
    omega
  have bn1 := bnd _ in1 in2
  have bn2 := bnd _ ou1 ou2
  clear bnd
  have lA := arcsF_len (spansS a)
  have lAB := arcsF_len (spansS (a ++ b))
  have lM := arcsF_len (meetF (spansS (a ++ b)) (spansS c))
  have lmm := meetF_len _ (spansS (a ++ b)) (spansS c) (Nat.le_refl _)
  have key : ∀ Z : Int, 0 ≤ Z → X + Z ≤ 43200 → (Z = Y ∨ Z = 0) → (Z = if 43200 < X + Y then 0 else Y) → OKv cx 4 [lArc a, lArc b, lArc c, ai n0, ai n1] (ab true) := by
    intro Z hz0 hz hzy hzi
    have p16 := Grow_good h0 _ Z kw ⟨hz0, by omega⟩
    have p17 := Grow_good h0 a (X + Z) ea ⟨by omega, by omega⟩
    have egg : growL (growL a X) Z = growL a (X + Z) := by
      unfold growL
      rw [grow_grow va d1.1 hz0]
    change OKv cx 34 [lArc (growL a X), ai Z] (.tup [lArc (growL (growL a X) Z), ai 0]) at p16
    rw [egg] at p16
    have lG : (growL a (X + Z)).length ≤ 1000 := by
      unfold growL
      have h1 := arcsF_len (spansS (a.map fun x => wideF x (X + Z)))
      have h2 := spans_len' (a.map fun x => wideF x (X + Z))
      rw [List.length_map] at h2
      omega
    have hG : Z = 0 → growL a (X + Z) = growL a X := fun h => by rw [h, Int.add_zero]
    change OKv cx 34 [lArc a, ai X] (.tup [lArc (growL a X), ai 0]) at p15
    change OKv cx 23 [.lst [[ai 0, ai 43199]], lArc a] _ at p8
    change OKv cx 23 [.lst [[ai 0, ai 43199]], _] _ at p9
    generalize growL a (X + Z) = G2 at *
    generalize growL a X = G1 at *
    generalize arcsF (spansS a) = NA at *
    generalize arcsF (spansS (a ++ b)) = NAB at *
    generalize arcsF (meetF (spansS (a ++ b)) (spansS c)) = NM at *
    generalize arcsF (meetF (spansS a) (spansS c)) = NAC at *
    generalize arcsF (meetF (spansS b) (spansS c)) = NBC at *
    generalize arcsF (meetF (spansS a) (spansS b)) = NIN at *
    generalize arcsF (meetF (spansS a) (restS (spansS b))) = NOU at *
    generalize arcsF (meetF [⟨0, 43199⟩] (restS (spansS a))) = NOT at *
    generalize sumW (meetF (spansS a) (spansS b)) = SI at *
    generalize sumW (meetF (spansS a) (restS (spansS b))) = SO at *
    generalize sumW (spansS a) = SA at *
    have s1 := SameArcs_same NA (by omega)
    have s2 := SameArcs_same NAB (by omega)
    have s3 := SameArcs_same NM (by omega)
    have s4 := SameArcs_same G2 (by omega)
    have hsT : (SI + SO == SA) = true := by rw [beq_iff_eq]; exact hsum2
    by_cases hxy : 43200 < X + Y
    · have xT := eq_true hxy
      rw [if_pos hxy] at hzi
      subst hzi
      rw [Int.add_zero] at p17
      obtain rfl := hG rfl
      clear hG hcomm hdist sa sb sc sab lac lbc lin lou lot lra lrb kab kac kbc kin kou kot kwh lw kw lmm hwv w1 w2 hX hY
      refine OKat.of_body (rs := [10]) Tryd.func4 rfl (by decide +kernel) rfl (by simp [Tryd.ntmps4]) ?_
      simp only [Tryd.ntmps4]
      repeat' first
        | (refine freezeR (t := 25) (v := .lst [[ai 0, ai 43199]]) (by simp (disch := omega) only [push_cast, simprocAttr, natNe, List.mem_cons, List.not_mem_nil, TyD.isAgg, Nat.add_assoc, List.map_nil, List.length_nil, Bool.and_self, Bool.and_true, Bool.true_and, Bool.false_and, Bool.and_false, Bool.not_true, Bool.not_false, Bool.false_eq_true, beq_self_eq_true, hF, xT, hsT, hsum2, hf1, Int.add_zero] <;> rfl) (by simp (disch := omega) only [push_cast, simprocAttr, natNe, List.mem_cons, List.not_mem_nil, TyD.isAgg, Nat.add_assoc, List.map_nil, List.length_nil, Bool.and_self, Bool.and_true, Bool.true_and, Bool.false_and, Bool.and_false, Bool.not_true, Bool.not_false, Bool.false_eq_true, beq_self_eq_true, hF, xT, hsT, hsum2, hf1, Int.add_zero] <;> rfl) ?_)
        | apply AW.seq | apply AW.region | apply AW.ret | apply AW.block | apply AW.skip | apply AW.exit | apply AW.scope | apply AW.label | apply AWL.nil
        | ((first | (apply W.step cx_ok; decide) | (apply W.gS; rfl; decide) | apply AW.cond); (simp (disch := omega) only [push_cast, simprocAttr, natNe, List.mem_cons, List.not_mem_nil, TyD.isAgg, Nat.add_assoc, List.map_nil, List.length_nil, Bool.and_self, Bool.and_true, Bool.true_and, Bool.false_and, Bool.and_false, Bool.not_true, Bool.not_false, Bool.false_eq_true, beq_self_eq_true, hF, xT, hsT, hsum2, hf1, Int.add_zero] <;> rfl); all_goals try ((with_reducible intro hI); try first | (cases hI; done) | (simp only [INTS, not_true_eq_false] at hI; try first | (exfalso; omega) | (have hT : True := hI; clear hT hI))))
        | ((apply W.callv cx_ok; decide); (iterate 2 (simp (disch := omega) only [push_cast, simprocAttr, natNe, List.mem_cons, List.not_mem_nil, TyD.isAgg, Nat.add_assoc, List.map_nil, List.length_nil, Bool.and_self, Bool.and_true, Bool.true_and, Bool.false_and, Bool.and_false, Bool.not_true, Bool.not_false, Bool.false_eq_true, beq_self_eq_true, hF, xT, hsT, hsum2, hf1, Int.add_zero] <;> rfl)); (with_reducible first | exact hs | exact u1 | exact u2 | exact u3 | exact p1 | exact p2 | exact p3 | exact p4 | exact p5 | exact p6 | exact p7 | exact p8 | exact p9 | exact p10 | exact p11 | exact p12 | exact p13 | exact p14 | exact p15 | exact p16 | exact p17 | exact q1 | exact q2 | exact s1 | exact s2 | exact s3 | exact s4); try first | rfl | (simp (disch := omega) only [push_cast, simprocAttr, natNe, List.mem_cons, List.not_mem_nil, TyD.isAgg, Nat.add_assoc, List.map_nil, List.length_nil, Bool.and_self, Bool.and_true, Bool.true_and, Bool.false_and, Bool.and_false, Bool.not_true, Bool.not_false, Bool.false_eq_true, beq_self_eq_true, hF, xT, hsT, hsum2, hf1, Int.add_zero] <;> rfl))
        | ((first | apply W.ret1 | apply W.end1); (iterate 2 (try (simp (disch := omega) only [push_cast, simprocAttr, natNe, List.mem_cons, List.not_mem_nil, TyD.isAgg, Nat.add_assoc, List.map_nil, List.length_nil, Bool.and_self, Bool.and_true, Bool.true_and, Bool.false_and, Bool.and_false, Bool.not_true, Bool.not_false, Bool.false_eq_true, beq_self_eq_true, hF, xT, hsT, hsum2, hf1, Int.add_zero] <;> rfl))))

      all_goals (show _ = _; rfl)
    · have xF := eq_false hxy
      rw [if_neg hxy] at hzi
      subst hzi
      clear hG hcomm hdist sa sb sc sab lac lbc lin lou lot lra lrb kab kac kbc kin kou kot kwh lw kw lmm hwv w1 w2 hX hY
      refine OKat.of_body (rs := [10]) Tryd.func4 rfl (by decide +kernel) rfl (by simp [Tryd.ntmps4]) ?_
      simp only [Tryd.ntmps4]
      repeat' first
        | (refine freezeR (t := 25) (v := .lst [[ai 0, ai 43199]]) (by simp (disch := omega) only [push_cast, simprocAttr, natNe, List.mem_cons, List.not_mem_nil, TyD.isAgg, Nat.add_assoc, List.map_nil, List.length_nil, Bool.and_self, Bool.and_true, Bool.true_and, Bool.false_and, Bool.and_false, Bool.not_true, Bool.not_false, Bool.false_eq_true, beq_self_eq_true, hF, xF, hsT, hsum2, hf1] <;> rfl) (by simp (disch := omega) only [push_cast, simprocAttr, natNe, List.mem_cons, List.not_mem_nil, TyD.isAgg, Nat.add_assoc, List.map_nil, List.length_nil, Bool.and_self, Bool.and_true, Bool.true_and, Bool.false_and, Bool.and_false, Bool.not_true, Bool.not_false, Bool.false_eq_true, beq_self_eq_true, hF, xF, hsT, hsum2, hf1] <;> rfl) ?_)
        | apply AW.seq | apply AW.region | apply AW.ret | apply AW.block | apply AW.skip | apply AW.exit | apply AW.scope | apply AW.label | apply AWL.nil
        | ((first | (apply W.step cx_ok; decide) | (apply W.gS; rfl; decide) | apply AW.cond); (simp (disch := omega) only [push_cast, simprocAttr, natNe, List.mem_cons, List.not_mem_nil, TyD.isAgg, Nat.add_assoc, List.map_nil, List.length_nil, Bool.and_self, Bool.and_true, Bool.true_and, Bool.false_and, Bool.and_false, Bool.not_true, Bool.not_false, Bool.false_eq_true, beq_self_eq_true, hF, xF, hsT, hsum2, hf1] <;> rfl); all_goals try ((with_reducible intro hI); try first | (cases hI; done) | (simp only [INTS, not_true_eq_false] at hI; try first | (exfalso; omega) | (have hT : True := hI; clear hT hI))))
        | ((apply W.callv cx_ok; decide); (iterate 2 (simp (disch := omega) only [push_cast, simprocAttr, natNe, List.mem_cons, List.not_mem_nil, TyD.isAgg, Nat.add_assoc, List.map_nil, List.length_nil, Bool.and_self, Bool.and_true, Bool.true_and, Bool.false_and, Bool.and_false, Bool.not_true, Bool.not_false, Bool.false_eq_true, beq_self_eq_true, hF, xF, hsT, hsum2, hf1] <;> rfl)); (with_reducible first | exact hs | exact u1 | exact u2 | exact u3 | exact p1 | exact p2 | exact p3 | exact p4 | exact p5 | exact p6 | exact p7 | exact p8 | exact p9 | exact p10 | exact p11 | exact p12 | exact p13 | exact p14 | exact p15 | exact p16 | exact p17 | exact q1 | exact q2 | exact s1 | exact s2 | exact s3 | exact s4); try first | rfl | (simp (disch := omega) only [push_cast, simprocAttr, natNe, List.mem_cons, List.not_mem_nil, TyD.isAgg, Nat.add_assoc, List.map_nil, List.length_nil, Bool.and_self, Bool.and_true, Bool.true_and, Bool.false_and, Bool.and_false, Bool.not_true, Bool.not_false, Bool.false_eq_true, beq_self_eq_true, hF, xF, hsT, hsum2, hf1] <;> rfl))
        | ((first | apply W.ret1 | apply W.end1); (iterate 2 (try (simp (disch := omega) only [push_cast, simprocAttr, natNe, List.mem_cons, List.not_mem_nil, TyD.isAgg, Nat.add_assoc, List.map_nil, List.length_nil, Bool.and_self, Bool.and_true, Bool.true_and, Bool.false_and, Bool.and_false, Bool.not_true, Bool.not_false, Bool.false_eq_true, beq_self_eq_true, hF, xF, hsT, hsum2, hf1] <;> rfl))))

      all_goals (show _ = _; rfl)
  by_cases hxy : 43200 < X + Y
  · exact key 0 (Int.le_refl _) (by omega) (.inr rfl) (by rw [if_pos hxy])
  · exact key Y d2.1 (by omega) (.inl rfl) (by rw [if_neg hxy])
end Go.Proofs.Ds
