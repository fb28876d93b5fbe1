/-
  Contracts of functions, proved by going through their code. No conditions.
-/
import Derived.Shelf.Sort.Plain
import Derived.Shelf.Slices.Reverse
import Derived.Shelf.Slices.CompactI
import Derived.Shelf.Slices.In.SortNone
import Derived.Test.YtmcchoalekmklaaGreatProg
import Derived.Test.YtmcchoalekmklaaGreatZak
import Derived.Test.YtmcchoalekmklaaGreatZao
import Derived.Test.YtmcchoalekmklaaGreatZap
import Derived.Test.YtmcchoalekmklaaGreatZaq
set_option linter.unusedVariables false
set_option linter.unusedSimpArgs false
set_option maxHeartbeats 8000000
set_option maxRecDepth 10000
namespace Go.Proofs.Ks
open Go Go.Pg Go.Proofs Go.Proofs.Yt
attribute [local push_cast] Bool.and_self Bool.and_true List.all_append List.all_cons List.all_nil List.length_drop List.length_take List.mem_cons List.not_mem_nil List.take_length List.take_of_length_le Nat.add_assoc TyD.isAgg and_self and_true dropM leT natNe pureA pureL takeM true_and
theorem rowAt_eqH {H H' : Nat → Option AO} {i : Nat} (h : H' i = H i) : Pg.rowAt H' i = Pg.rowAt H i := by unfold Pg.rowAt; rw [h]
theorem drop_at {l : List Int} {k : Nat} {x : Int} {rest : List Int} (h : l.drop k = x :: rest) : l.getD k 0 = x := by
  have h0 : l[k]? = some x := by
    have := congrArg (fun m => m[0]?) h
    simpa using this
  rw [List.getD_eq_getElem?_getD, h0]; rfl
theorem drop_succ {l : List Int} {k : Nat} {x : Int} {rest : List Int} (h : l.drop k = x :: rest) : l.drop (k + 1) = rest := by
  have := congrArg (List.drop 1) h
  rw [List.drop_drop] at this
  simpa using this
theorem drop_lt {l : List Int} (hs : l.Pairwise (· < ·)) {k : Nat} {x : Int} {rest : List Int} (h : l.drop k = x :: rest) : ∀ y ∈ rest, x < y := by
  have h1 := hs.drop (i := k)
  rw [h, List.pairwise_cons] at h1
  exact h1.1
theorem drop_mem {l : List Int} {k : Nat} {rest : List Int} (h : l.drop k = rest) : ∀ y ∈ rest, y ∈ l := fun y hy => List.mem_of_mem_drop (h ▸ hy)
theorem all1_b {l n0 rb gb pb g m nx : Nat} {r : Rec} (hv : r.V) {more : List Int} (hml : more.length ≤ 8) (hmb : ∀ a ∈ more, 0 ≤ a ∧ a ≤ 43200) {J : List Lk → (Nat → Option AO) → Prop} (hJ : Yl l n0 rb gb pb g m r (marksR r more) (nodesR r more) J)
    (h1 : rb < n0) (h2 : gb < n0) (h3 : pb < n0) (h4 : g < n0) (h5 : m < n0) (hnx : n0 ≤ nx) {Q : AV → (Nat → Option AO) → Nat → Prop} (hQ : ∀ H n, J (linksR r more) H → nx ≤ n → Q (.tup []) H n) {s0 : St} (hs : MidA l n0 gb pb nx r (nodesR r more) J s0) :
    AW cx 232 tail121 (endM cx [] Q) s0 := by
  obtain ⟨t0, t2, t3, t5, t8, hSes, hlb, ⟨lw, hlw, hlo⟩, hj, hn0⟩ := hs
  obtain ⟨r1, r2, r3⟩ := hv.r.rate
  have hns4 := hv.r.nstops
  have hst := hv.r.stops
  obtain ⟨_, hk2, hnl⟩ := linksR_ok hv hml hmb
  have hat := fun (j : Nat) (x : Int) => @at_mark_ix r more j x
  have hso := marksR_sorted r more
  have hbd := fun (a : Int) => @marksR_bound r hv more hmb a
  have hndl := nodesR_len r more
  have hRA := linksR_eq r more
  obtain ⟨LA, hLA⟩ : ∃ z, linksA r (nodesR r more) = z := ⟨_, rfl⟩
  obtain ⟨RES, hRES⟩ : ∃ z, linksR r more = z := ⟨_, rfl⟩
  rw [hLA] at hlb hlo hRA hlw
  rw [hRES] at hk2 hRA hQ
  obtain ⟨PL, hPL⟩ : ∃ z, marksR r more = z := ⟨_, rfl⟩
  rw [hPL] at hJ hat hso hbd hRA hndl
  have hlen : LA.length ≤ 10000 := by have := congrArg List.length hRA; rw [List.length_append] at this; omega
  have hpl : PL.length ≤ 100 := by omega
  delta tail121
  simp only [Tryz.f82, Option.getD_some, dropS]
  obtain ⟨hrb0, hgb0, hpb0, ⟨ga0, gl0, hgg0⟩, hmm0⟩ := hJ.sys _ _ hj
  repeat' first
    | apply jA | apply jB | apply jD | apply jI
    | ((apply jK kO; decide); (simp (disch := (first | omega | (simp only [vC, rwI_len, rowT_len, spanT_len, bothL_len]; omega))) only [push_cast, simprocAttr, hrb0, hgb0, hpb0, hgg0, hmm0, t0, t2, t3, t5, t8, hSes, hlb, hlo, hlen] <;> rfl))

  refine AW.loop (fun n s => ∃ (k : Nat) (rest : List Lk), n = rest.length ∧ (LA.drop k = rest) ∧ (J (LA.take k) s.H) ∧ (k ≤ LA.length) ∧ nx + 10 ≤ s.nx ∧ s.tm 0 = .v (.func (.yield l) #[] #[]) ∧ s.tm 2 = .ptr gb 0 0 1 ∧ s.tm 3 = .ptr pb 0 0 1 ∧ s.tm 5 = .ptr nx 0 0 1 ∧ s.tm 155 = .ref (nx + 4) 0 LA.length ∧ s.tm 156 = ai LA.length ∧ s.tm 157 = ai k ∧ Pg.rowAt s.H nx = some { k := 12, es := [eSession r.s], ty := 32 } ∧ Pg.rowAt s.H (nx + 4) = some { k := 3, es := LA.map eLink, ty := 171, lo := lw }) (LA.length) ⟨0, LA, rfl, rfl, (by (try simp (disch := omega) only [push_cast, simprocAttr, hrb0, hgb0, hpb0, hgg0, hmm0, t0, t2, t3, t5, t8, hSes, hlb, hlo, hlen]); (repeat (refine hJ.frame _ _ _ _ ?_ (by omega))); exact hj), (Nat.zero_le _), ?_, ?_, ?_, ?_, ?_, ?_, ?_, ?_, ?_, ?_⟩ ?_
  iterate 10 (first | (simp (disch := omega) only [push_cast, simprocAttr, hrb0, hgb0, hpb0, hgg0, hmm0, t0, t2, t3, t5, t8, hSes, hlb, hlo, hlen] <;> first | rfl | omega) | omega)
  rintro n s ⟨k, rest, hn, hp0, hp1, hp2, hnl, hS⟩
  refine AW.fresh fun hfr => ?_
  obtain ⟨hrb, hgb, hpb, ⟨ga, gl, hgg⟩, hmm⟩ := hJ.sys _ _ hp1
  rcases rest with _ | ⟨x, rest⟩
  rotate_left
  · obtain ⟨hk, hg, hd', hl', hm, hx⟩ := drop_cons hp0 eLink []
    have hln : (LA.take k).length < 20000 := by rw [List.length_take]; omega
    repeat' first
      | apply jA | apply jB | apply jD | apply jE | apply jI
      | ((first | (apply jK kO; decide) | apply jM kO | apply jR); (simp (disch := (first | omega | (simp only [vC, rwI_len, rowT_len, spanT_len, bothL_len]; omega))) only [push_cast, simprocAttr, hS, hrb, hgb, hpb, hgg, hmm, hk, hg, hx, hfr] <;> rfl); all_goals try ((with_reducible intro hI); try first | (cases hI; done) | (simp only [INTS, zL] at hI; try first | (exfalso; omega) | (have hT : True := hI; clear hT hI))))

    refine W.yield (by decide) (by simp (disch := omega) only [push_cast, simprocAttr, hS, hrb, hgb, hpb, hgg, hmm, hk, hg, hx, hfr] <;> rfl) (va := [.agg (eLink x)]) (by simp (disch := omega) only [push_cast, simprocAttr, hS, hrb, hgb, hpb, hgg, hmm, hk, hg, hx, hfr] <;> rfl) (hJ.y (LA.take k) _ _ x (by (try simp (disch := omega) only [push_cast, simprocAttr, hS, hrb, hgb, hpb, hgg, hmm, hk, hg, hx, hfr]); (repeat (refine hJ.frame _ _ _ _ ?_ (by omega))); exact hp1) (show n0 ≤ s.nx + 1 by omega) hln) ?_
    rintro _ H2 nx2 ⟨rfl, hJ2, hn2, hf2⟩
    replace hn2 : s.nx + 1 ≤ nx2 := hn2
    try simp only [List.append_assoc, List.cons_append, List.nil_append] at hJ2
    have g1 : Pg.rowAt H2 nx = some { k := 12, es := [eSession r.s], ty := 32 } := (rowAt_eqH (hf2 nx (by omega) (show nx < s.nx + 1 by omega))).trans (by simp (disch := omega) only [push_cast, simprocAttr, hS] <;> rfl)
    have g2 : Pg.rowAt H2 (nx + 4) = some { k := 3, es := LA.map eLink, ty := 171, lo := lw } := (rowAt_eqH (hf2 (nx + 4) (by omega) (show nx + 4 < s.nx + 1 by omega))).trans (by simp (disch := omega) only [push_cast, simprocAttr, hS] <;> rfl)
    repeat' first
      | apply jB | apply jE | apply jI
      | ((first | (apply jK kO; decide) | apply jR); (simp (disch := (first | omega | (simp only [vC, rwI_len, rowT_len, spanT_len, bothL_len]; omega))) only [push_cast, simprocAttr, hS, hk, hg, hx, g1, g2] <;> rfl); all_goals try ((with_reducible intro hI); try first | (cases hI; done) | (simp only [INTS, zL] at hI; try first | (exfalso; omega) | (have hT : True := hI; clear hT hI))))

    all_goals (refine ⟨rest.length, ?_, k + 1, rest, rfl, hd', (by rw [take_snoc hp0]; exact (by (try simp (disch := omega) only [push_cast, simprocAttr]); (repeat (refine hJ.frame _ _ _ _ ?_ (by omega))); exact hJ2)), (by omega), ?_, ?_, ?_, ?_, ?_, ?_, ?_, ?_, ?_, ?_⟩; ((simp only [List.length_cons] at *; omega)); all_goals first | (simp (disch := omega) only [push_cast, simprocAttr, hS, hk, g1, g2] <;> first | rfl | omega) | omega)
  have hk := drop_nil hp0
  have hkl : LA.take k = LA := List.take_of_length_le (List.drop_eq_nil_iff.1 hp0)
  rw [hkl] at hp1
  repeat' first
    | apply jA | apply jB | apply jD | apply jF | apply jI
    | ((first | (apply jK kO; decide) | apply jR); (simp (disch := (first | omega | (simp only [vC, rwI_len, rowT_len, spanT_len, bothL_len]; omega))) only [push_cast, simprocAttr, hS, hrb, hgb, hpb, hgg, hmm, hk] <;> rfl); all_goals try ((with_reducible intro hI); try first | (cases hI; done) | (simp only [INTS, zL] at hI; try first | (exfalso; omega) | (have hT : True := hI; clear hT hI))))

  refine AW.loop (fun n s => ∃ (k : Nat) (dn : List Lk) (rest : List Int), n = rest.length ∧ (PL.drop k = rest) ∧ (dn ++ pairsL r.s (3 + r.strikes.length + k) rest = RES) ∧ (k ≤ PL.length) ∧ (J dn s.H) ∧ nx + 10 ≤ s.nx ∧ s.tm 0 = .v (.func (.yield l) #[] #[]) ∧ s.tm 2 = .ptr gb 0 0 1 ∧ s.tm 3 = .ptr pb 0 0 1 ∧ s.tm 5 = .ptr nx 0 0 1 ∧ s.tm 166 = lInt PL ∧ s.tm 167 = ai PL.length ∧ s.tm 168 = ai k ∧ Pg.rowAt s.H nx = some { k := 12, es := [eSession r.s], ty := 32 }) (PL.length) ⟨0, LA, PL, rfl, rfl, (by rw [hRA]; rfl), (Nat.zero_le _), (by (try simp (disch := omega) only [push_cast, simprocAttr, hS]); (repeat (refine hJ.frame _ _ _ _ ?_ (by omega))); exact hp1), ?_, ?_, ?_, ?_, ?_, ?_, ?_, ?_, ?_⟩ ?_
  iterate 9 (first | (simp (disch := omega) only [push_cast, simprocAttr, hrb, hgb, hpb, hgg, hmm, hS, hk] <;> first | rfl | omega) | omega)
  rintro n1 s1 ⟨k1, dn1, rest1, hn1, hp01, hp11, hp21, hp31, hnl1, hS1⟩
  refine AW.fresh fun hfr1 => ?_
  obtain ⟨hrb1, hgb1, hpb1, ⟨ga1, gl1, hgg1⟩, hmm1⟩ := hJ.sys _ _ hp31
  rcases rest1 with _ | ⟨x, rest1⟩
  · have hk1 := drop_nil hp01
    simp only [pairsL, List.append_nil] at hp11
    rw [hp11] at hp31
    repeat' first
      | apply jA | apply jB | apply jF | apply jI
      | ((first | (apply jK kO; decide) | apply jR); (simp (disch := (first | omega | (simp only [vC, rwI_len, rowT_len, spanT_len, bothL_len]; omega))) only [push_cast, simprocAttr, hS1, hrb1, hgb1, hpb1, hgg1, hmm1, hk1] <;> rfl); all_goals try ((with_reducible intro hI); try first | (cases hI; done) | (simp only [INTS, zL] at hI; try first | (exfalso; omega) | (have hT : True := hI; clear hT hI))))

    all_goals
      ((first | apply W.retX | apply W.endX); (simp (disch := omega) only [push_cast, simprocAttr, hS1, hrb1, hgb1, hpb1, hgg1, hmm1, hk1] <;> rfl); exact hQ _ _ (by (try simp (disch := omega) only [push_cast, simprocAttr, hS1]); (repeat (refine hJ.frame _ _ _ _ ?_ (by omega))); exact hp31) (by (try (simp (disch := omega) only [push_cast, simprocAttr, hS1])); try omega))
  · obtain ⟨hk1, hg1, hd1, hl1, hm1, hx1⟩ := drop_cons hp01 eInt []
    have hax := hat k1 x (by omega) (drop_at hp01)
    obtain ⟨bx1, bx2⟩ := hbd x hm1
    have hlt := drop_lt hso hp01
    have hrl : (PL.length : Int) - ((k1 : Int) + 1) = (rest1.length : Int) := by have := congrArg List.length hp01; simp only [List.length_drop, List.length_cons] at this; omega
    have hea : (∀ e ∈ PL.map eInt, e.length = 1) = True := eq_true fun e he => by obtain ⟨y, _, rfl⟩ := List.mem_map.1 he; rfl
    have hkl : k1 + 1 ≤ PL.length := by omega
    have hkn : ((k1 : Int) + 1).toNat = k1 + 1 := by omega
    have hk0 : (0 : Int) ≤ (k1 : Int) + 1 := by omega
    have hrm : (PL.map eInt).drop (k1 + 1) = rest1.map eInt := by rw [← List.map_drop, drop_succ hp01]
    repeat' first
      | apply jA | apply jB | apply jD | apply jE | apply jI
      | ((first | (apply jK kO; decide) | apply jM kO | apply jR); (simp (disch := (first | omega | (simp only [vC, rwI_len, rowT_len, spanT_len, bothL_len]; omega))) only [push_cast, simprocAttr, hS1, hrb1, hgb1, hpb1, hgg1, hmm1, hk1, hg1, hx1, hfr1, hrl, hrm, hea, hkl, hkn, hk0] <;> rfl); all_goals try ((with_reducible intro hI); try first | (cases hI; done) | (simp only [INTS, zL] at hI; try first | (exfalso; omega) | (have hT : True := hI; clear hT hI))))

    refine AW.loop (fun n s => ∃ (j : Nat) (dn : List Lk) (ys : List Int), n = ys.length ∧ (rest1.drop j = ys) ∧ (dn ++ (pairL r.s (3 + r.strikes.length + k1) x (3 + r.strikes.length + k1 + 1 + j) ys ++ pairsL r.s (3 + r.strikes.length + k1 + 1) rest1) = RES) ∧ (J dn s.H) ∧ s1.nx + 1 ≤ s.nx ∧ s.tm 0 = .v (.func (.yield l) #[] #[]) ∧ s.tm 2 = .ptr gb 0 0 1 ∧ s.tm 3 = .ptr pb 0 0 1 ∧ s.tm 5 = .ptr nx 0 0 1 ∧ s.tm 166 = lInt PL ∧ s.tm 167 = ai PL.length ∧ s.tm 168 = ai k1 ∧ s.tm 24 = .ptr s1.nx 0 0 1 ∧ s.tm 176 = lInt rest1 ∧ s.tm 177 = ai rest1.length ∧ s.tm 178 = ai j ∧ Pg.rowAt s.H nx = some { k := 12, es := [eSession r.s], ty := 32 } ∧ Pg.rowAt s.H s1.nx = some { k := 1, es := [[ai x]], ty := 3 }) (rest1.length) ⟨0, dn1, rest1, rfl, rfl, hp11, (by (try simp (disch := omega) only [push_cast, simprocAttr, hS1, hrb1, hgb1, hpb1, hgg1, hmm1, hk1, hg1, hx1, hfr1, hrl, hrm, hea, hkl, hkn, hk0]); (repeat (refine hJ.frame _ _ _ _ ?_ (by omega))); exact hp31), ?_, ?_, ?_, ?_, ?_, ?_, ?_, ?_, ?_, ?_, ?_, ?_, ?_, ?_⟩ ?_
    iterate 14 (first | (simp (disch := omega) only [push_cast, simprocAttr, hS1, hrb1, hgb1, hpb1, hgg1, hmm1, hk1, hg1, hx1, hfr1, hrl, hrm, hea, hkl, hkn, hk0] <;> first | rfl | omega) | omega)
    rintro n2 s2 ⟨j2, dn2, ys2, hn2, hp02, hp12, hp22, hnl2, hS2⟩
    refine AW.fresh fun hfr2 => ?_
    obtain ⟨hrb2, hgb2, hpb2, ⟨ga2, gl2, hgg2⟩, hmm2⟩ := hJ.sys _ _ hp22
    rcases ys2 with _ | ⟨y, ys2⟩
    · have hk2' := drop_nil hp02
      simp only [pairL, List.nil_append] at hp12
      repeat' first
        | apply jA | apply jB | apply jF | apply jI
        | ((first | (apply jK kO; decide) | apply jR); (simp (disch := (first | omega | (simp only [vC, rwI_len, rowT_len, spanT_len, bothL_len]; omega))) only [push_cast, simprocAttr, hS2, hrb2, hgb2, hpb2, hgg2, hmm2, hk2'] <;> rfl); all_goals try ((with_reducible intro hI); try first | (cases hI; done) | (simp only [INTS, zL] at hI; try first | (exfalso; omega) | (have hT : True := hI; clear hT hI))))

      all_goals (refine ⟨rest1.length, ?_, k1 + 1, dn2, rest1, rfl, (drop_succ hp01), hp12, (by omega), (by (try simp (disch := omega) only [push_cast, simprocAttr, hS2]); (repeat (refine hJ.frame _ _ _ _ ?_ (by omega))); exact hp22), ?_, ?_, ?_, ?_, ?_, ?_, ?_, ?_, ?_⟩; ((simp only [List.length_cons] at *; omega)); all_goals first | (simp (disch := omega) only [push_cast, simprocAttr, hS2, hk2'] <;> first | rfl | omega) | omega)
    · obtain ⟨hk2', hg2, hd2, hl2, hm2, hx2⟩ := drop_cons hp02 eInt []
      have hym : y ∈ rest1 := hm2
      have hxy := hlt y hym
      obtain ⟨by1, by2⟩ := hbd y (drop_mem (drop_succ hp01) y hym)
      have hjl : k1 + 1 + j2 < PL.length := by omega
      have hya := hat (k1 + 1 + j2) y hjl (drop_at (by rw [← List.drop_drop, drop_succ hp01]; exact hp02))
      obtain ⟨A, hA⟩ : ∃ z, 3 + r.strikes.length + k1 = z := ⟨_, rfl⟩
      obtain ⟨B, hB⟩ : ∃ z, 3 + r.strikes.length + k1 + 1 + j2 = z := ⟨_, rfl⟩
      have hax' : atP 4 x (nodesR r more) = (A : Int) := by rw [hax]; omega
      have hay : atP 4 y (nodesR r more) = (B : Int) := by rw [hya]; omega
      have hle := leastR_bound r.s x y hv.r bx1 (by omega) by2
      have z1 : (r.s.rate.hi = 0) = False := eq_false (by omega)
      have d1 := div_bound (n := (y - x) * 1000000) (d := r.s.rate.hi) (by omega) (by omega) (by omega)
      have d2 := div_bound (n := (y - x) * 1000000 + r.s.rate.lo - 1) (d := r.s.rate.lo) (by omega) (by omega) (by omega)
      have hLR : leastR r.s x y = _ := addS_sum x y r.s.stops _
      have hce := ceiling_ok ((y - x) * 1000000) r.s.rate.lo (by omega) (by omega)
      have hsh := sumHi_ok r.s.stops x y hns4 hst
      have hsl := sumLo_ok r.s.stops x y hns4 hst
      obtain ⟨Q1, hQ1⟩ : ∃ q, (y - x) * 1000000 / r.s.rate.hi = q := ⟨_, rfl⟩
      obtain ⟨Q2, hQ2⟩ : ∃ q, ((y - x) * 1000000 + r.s.rate.lo - 1) / r.s.rate.lo = q := ⟨_, rfl⟩
      obtain ⟨SH, hSH⟩ : ∃ q, sumS (·.secs.hi) x y r.s.stops 0 = q := ⟨_, rfl⟩
      obtain ⟨SL, hSL⟩ : ∃ q, sumS (·.secs.lo) x y r.s.stops 0 = q := ⟨_, rfl⟩
      rw [hQ1] at d1 hLR
      rw [hQ2] at d2 hLR hce
      rw [hSH] at hsh hLR
      rw [hSL] at hsl hLR
      dsimp only at hLR
      have hpe : pairL r.s (3 + r.strikes.length + k1) x (3 + r.strikes.length + k1 + 1 + j2) (y :: ys2) = ⟨A, B, Q2 + SH⟩ :: ⟨B, A, -(Q1 + SL)⟩ :: pairL r.s (3 + r.strikes.length + k1) x (3 + r.strikes.length + k1 + 1 + (j2 + 1)) ys2 := by
        subst hB; subst hA; simp only [pairL, hLR]; rfl
      rw [hpe] at hp12
      rw [hLR] at hle
      dsimp only at hle
      obtain ⟨e1, e2, e3, e4⟩ := hle
      have hdl : dn2.length + 2 ≤ 10000 := by have := congrArg List.length hp12; simp only [List.length_append, List.length_cons] at this; omega
      repeat' first
        | ((first | (apply W.callr kO; decide) | (apply D.callr kO; decide; decide)); (iterate 2 (simp (disch := (first | omega | (simp only [vC, rwI_len, rowT_len, spanT_len, bothL_len]; omega))) only [push_cast, simprocAttr, hS2, hrb2, hgb2, hpb2, hgg2, hmm2, hk2', hg2, hx2, hfr2, hax', hay, z1, hQ1, yD] <;> rfl)); (exact at_r (nodesR r more) _ _ (by simp (disch := (first | omega | (simp only [vC, rwI_len, rowT_len, spanT_len, bothL_len]; omega))) only [push_cast, simprocAttr, hS2, hrb2, hgb2, hpb2, hgg2, hmm2, hk2', hg2, hx2, hfr2, hax', hay, z1, hQ1, yD] <;> rfl) (by simp (disch := (first | omega | (simp only [vC, rwI_len, rowT_len, spanT_len, bothL_len]; omega))) only [push_cast, simprocAttr, hS2, hrb2, hgb2, hpb2, hgg2, hmm2, hk2', hg2, hx2, hfr2, hax', hay, z1, hQ1, yD] <;> rfl)))
        | apply jA | apply jB | apply jD | apply jE | apply jI
        | refine AW.draw (id := 44) cx_mixed [10] [] [] 0 (by decide +kernel) ?_
        | refine AW.draw (id := 45) cx_mixed [10] [] [] 0 (by decide +kernel) ?_
        | refine AW.draw (id := 46) cx_mixed [7] [] [] 0 (by decide +kernel) ?_
        | ((first | (apply jK kO; decide) | (apply jL kO; decide; decide) | apply jM kO | apply jR); (simp (disch := (first | omega | (simp only [vC, rwI_len, rowT_len, spanT_len, bothL_len]; omega))) only [push_cast, simprocAttr, hS2, hrb2, hgb2, hpb2, hgg2, hmm2, hk2', hg2, hx2, hfr2, hax', hay, z1, hQ1, yD] <;> rfl); all_goals try ((with_reducible intro hI); try first | (cases hI; done) | (simp only [INTS, zL] at hI; try first | (exfalso; omega) | (have hT : True := hI; clear hT hI))))
        | ((apply D.stept kO; decide; decide); (simp (disch := (first | omega | (simp only [vC, rwI_len, rowT_len, spanT_len, bothL_len]; omega))) only [push_cast, simprocAttr, hS2, hrb2, hgb2, hpb2, hgg2, hmm2, hk2', hg2, hx2, hfr2, hax', hay, z1, hQ1, yD] <;> rfl); try first | exact .inl rfl | exact .inr (by simp))
        | ((first | (apply jV kO; decide) | (apply jW kO; decide; decide)); (iterate 2 (simp (disch := (first | omega | (simp only [vC, rwI_len, rowT_len, spanT_len, bothL_len]; omega))) only [push_cast, simprocAttr, hS2, hrb2, hgb2, hpb2, hgg2, hmm2, hk2', hg2, hx2, hfr2, hax', hay, z1, hQ1, yD] <;> rfl)); (with_reducible first | exact hce | exact hsh | exact hsl); try first | rfl | (simp (disch := (first | omega | (simp only [vC, rwI_len, rowT_len, spanT_len, bothL_len]; omega))) only [push_cast, simprocAttr, hS2, hrb2, hgb2, hpb2, hgg2, hmm2, hk2', hg2, hx2, hfr2, hax', hay, z1, hQ1, yD] <;> rfl))

      refine W.yield (by decide) (by simp (disch := omega) only [push_cast, simprocAttr, hS2, hrb2, hgb2, hpb2, hgg2, hmm2, hk2', hg2, hx2, hfr2, hax', hay, z1, hQ1, yD] <;> rfl) (va := [.agg (eLink ⟨A, B, Q2 + SH⟩)]) (by simp (disch := omega) only [push_cast, simprocAttr, hS2, hrb2, hgb2, hpb2, hgg2, hmm2, hk2', hg2, hx2, hfr2, hax', hay, z1, hQ1, yD] <;> rfl) (hJ.y (dn2) _ _ ⟨A, B, Q2 + SH⟩ (by (try simp (disch := omega) only [push_cast, simprocAttr, hS2, hrb2, hgb2, hpb2, hgg2, hmm2, hk2', hg2, hx2, hfr2, hax', hay, z1, hQ1, yD]); (repeat (refine hJ.frame _ _ _ _ ?_ (by omega))); exact hp22) (show n0 ≤ s2.nx + 1 by omega) (by omega)) ?_
      rintro _ H3 nx3 ⟨rfl, hJ3, hn3, hf3⟩
      replace hn3 : s2.nx + 1 ≤ nx3 := hn3
      try simp only [List.append_assoc, List.cons_append, List.nil_append] at hJ3
      have g1 : Pg.rowAt H3 nx = some { k := 12, es := [eSession r.s], ty := 32 } := (rowAt_eqH (hf3 nx (by omega) (show nx < s2.nx + 1 by omega))).trans (by simp (disch := omega) only [push_cast, simprocAttr, hS2, hrb2, hgb2, hpb2, hgg2, hmm2, hk2', hg2, hx2, hfr2, hax', hay, z1, hQ1, yD] <;> rfl)
      have g2 : Pg.rowAt H3 s1.nx = some { k := 1, es := [[ai x]], ty := 3 } := (rowAt_eqH (hf3 s1.nx (by omega) (show s1.nx < s2.nx + 1 by omega))).trans (by simp (disch := omega) only [push_cast, simprocAttr, hS2, hrb2, hgb2, hpb2, hgg2, hmm2, hk2', hg2, hx2, hfr2, hax', hay, z1, hQ1, yD] <;> rfl)
      repeat' first
        | ((first | (apply jK kO; decide) | (apply jN; rfl; decide)); (simp (disch := (first | omega | (simp only [vC, rwI_len, rowT_len, spanT_len, bothL_len]; omega))) only [push_cast, simprocAttr, hS2, hrb2, hgb2, hpb2, hgg2, hmm2, hk2', hg2, hx2, hfr2, hax', hay, z1, hQ1, yD] <;> rfl); all_goals try ((with_reducible intro hI); try first | (cases hI; done) | (simp only [INTS, zL] at hI; try first | (exfalso; omega) | (have hT : True := hI; clear hT hI))))

      refine W.yield (by decide) (by simp (disch := omega) only [push_cast, simprocAttr, hS2, hrb2, hgb2, hpb2, hgg2, hmm2, hk2', hg2, hx2, hfr2, hax', hay, z1, hQ1, yD] <;> rfl) (va := [.agg (eLink ⟨B, A, -(Q1 + SL)⟩)]) (by simp (disch := omega) only [push_cast, simprocAttr, hS2, hrb2, hgb2, hpb2, hgg2, hmm2, hk2', hg2, hx2, hfr2, hax', hay, z1, hQ1, yD] <;> rfl) (hJ.y (dn2 ++ [⟨A, B, Q2 + SH⟩]) _ _ ⟨B, A, -(Q1 + SL)⟩ (by (try simp (disch := omega) only [push_cast, simprocAttr, hS2, hrb2, hgb2, hpb2, hgg2, hmm2, hk2', hg2, hx2, hfr2, hax', hay, z1, hQ1, yD]); (repeat (refine hJ.frame _ _ _ _ ?_ (by omega))); exact hJ3) (show n0 ≤ nx3 by omega) (by simp only [List.length_append, List.length_cons, List.length_nil]; omega)) ?_
      rintro _ H4 nx4 ⟨rfl, hJ4, hn4, hf4⟩
      replace hn4 : nx3 ≤ nx4 := hn4
      try simp only [List.append_assoc, List.cons_append, List.nil_append] at hJ4
      have g3 : Pg.rowAt H4 nx = some { k := 12, es := [eSession r.s], ty := 32 } := (rowAt_eqH (hf4 nx (by omega) (show nx < nx3 by omega))).trans (by simp (disch := omega) only [push_cast, simprocAttr, hS2, hrb2, hgb2, hpb2, hgg2, hmm2, hk2', hg2, hx2, hfr2, hax', hay, z1, hQ1, yD, g1] <;> rfl)
      have g4 : Pg.rowAt H4 s1.nx = some { k := 1, es := [[ai x]], ty := 3 } := (rowAt_eqH (hf4 s1.nx (by omega) (show s1.nx < nx3 by omega))).trans (by simp (disch := omega) only [push_cast, simprocAttr, hS2, hrb2, hgb2, hpb2, hgg2, hmm2, hk2', hg2, hx2, hfr2, hax', hay, z1, hQ1, yD, g2] <;> rfl)
      repeat' first
        | apply jB | apply jE | apply jI
        | ((first | (apply jK kO; decide) | (apply jN; rfl; decide) | apply jR); (simp (disch := (first | omega | (simp only [vC, rwI_len, rowT_len, spanT_len, bothL_len]; omega))) only [push_cast, simprocAttr, hS2, hrb2, hgb2, hpb2, hgg2, hmm2, hk2', hg2, hx2, hfr2, hax', hay, z1, hQ1, yD, g3, g4] <;> rfl); all_goals try ((with_reducible intro hI); try first | (cases hI; done) | (simp only [INTS, zL] at hI; try first | (exfalso; omega) | (have hT : True := hI; clear hT hI))))

      all_goals (refine ⟨ys2.length, ?_, j2 + 1, (dn2 ++ [⟨A, B, Q2 + SH⟩, ⟨B, A, -(Q1 + SL)⟩]), ys2, rfl, hd2, (by rw [← hp12]; simp only [List.append_assoc, List.cons_append, List.nil_append]), (by (try simp (disch := omega) only [push_cast, simprocAttr]); (repeat (refine hJ.frame _ _ _ _ ?_ (by omega))); exact hJ4), ?_, ?_, ?_, ?_, ?_, ?_, ?_, ?_, ?_, ?_, ?_, ?_, ?_, ?_⟩; ((simp only [List.length_cons] at *; omega)); all_goals first | (simp (disch := omega) only [push_cast, simprocAttr, hS2, hrb2, hgb2, hpb2, hgg2, hmm2, hk2', hg2, hx2, hfr2, hax', hay, z1, hQ1, yD, g3, g4] <;> first | rfl | omega) | omega)
end Go.Proofs.Ks

namespace Go.Proofs.Ks
open Go Go.Pg Go.Proofs Go.Proofs.Yt
theorem all1_ok {l n0 rb gb pb g m : Nat} {r : Rec} (hv : r.V) {more : List Int} (hml : more.length ≤ 8) (hmb : ∀ a ∈ more, 0 ≤ a ∧ a ≤ 43200) {J : List Lk → (Nat → Option AO) → Prop} (hJ : Yl l n0 rb gb pb g m r (marksR r more) (nodesR r more) J)
    (h1 : rb < n0) (h2 : gb < n0) (h3 : pb < n0) (h4 : g < n0) (h5 : m < n0) {H : Nat → Option AO} {nx : Nat} (hnx : n0 ≤ nx) (hJ0 : J [] H) {Q : AV → (Nat → Option AO) → Nat → Prop} (hQ : ∀ H n, J (linksR r more) H → nx ≤ n → Q (.tup []) H n) :
    OKm cx 82 [.v (.func (.yield l) #[] #[]), .ptr rb 0 0 1, .ptr gb 0 0 1, .ptr pb 0 0 1] H nx Q :=
  all1_a hv hml hmb hJ h1 h2 h3 h4 h5 hnx hJ0 fun s hs => all1_b hv hml hmb hJ h1 h2 h3 h4 h5 hnx hQ hs
end Go.Proofs.Ks

namespace Go.Proofs
open Go.Shelf
def Tryz.lays189_ren : Go.Shelf.Ren := ⟨fun | 189 => 80 | 125 => 95 | 257 => 94 | 128 => 107 | 129 => 108 | 294 => 98 | 295 => 99 | 296 => 100 | 297 => 101 | 298 => 102 | 299 => 103 | 216 => 104 | 300 => 105 | 301 => 106 | 328 => 117 | 329 => 118 | 330 => 119 | 331 => 120 | 332 => 121 | 215 => 122 | 343 => 126 | n => n, fun | 28 => 40 | 3 => 3 | 46 => 177 | 0 => 0 | 51 => 192 | 53 => 194 | 4 => 4 | 183 => 203 | 182 => 202 | 131 => 155 | 5 => 5 | 9 => 9 | 218 => 213 | 222 => 217 | 228 => 221 | 229 => 82 | n => n, fun | n => n⟩
theorem Tryz.lays189 : Go.Proofs.Lays.n189 Tryz.prog Tryz.lays189_ren := {
  mixed := by kernel_rfl
  f125 := Tryz.func95.trans (congrArg some (by kernel_rfl))
  f128 := Tryz.func107.trans (congrArg some (by kernel_rfl))
  f129 := Tryz.func108.trans (congrArg some (by kernel_rfl))
  f189 := Tryz.func80.trans (congrArg some (by kernel_rfl))
  f215 := Tryz.func122.trans (congrArg some (by kernel_rfl))
  f216 := Tryz.func104.trans (congrArg some (by kernel_rfl))
  f257 := Tryz.func94.trans (congrArg some (by kernel_rfl))
  f294 := Tryz.func98.trans (congrArg some (by kernel_rfl))
  f295 := Tryz.func99.trans (congrArg some (by kernel_rfl))
  f296 := Tryz.func100.trans (congrArg some (by kernel_rfl))
  f297 := Tryz.func101.trans (congrArg some (by kernel_rfl))
  f298 := Tryz.func102.trans (congrArg some (by kernel_rfl))
  f299 := Tryz.func103.trans (congrArg some (by kernel_rfl))
  f300 := Tryz.func105.trans (congrArg some (by kernel_rfl))
  f301 := Tryz.func106.trans (congrArg some (by kernel_rfl))
  f328 := Tryz.func117.trans (congrArg some (by kernel_rfl))
  f329 := Tryz.func118.trans (congrArg some (by kernel_rfl))
  f330 := Tryz.func119.trans (congrArg some (by kernel_rfl))
  f331 := Tryz.func120.trans (congrArg some (by kernel_rfl))
  f332 := Tryz.func121.trans (congrArg some (by kernel_rfl))
  f343 := Tryz.func126.trans (congrArg some (by kernel_rfl))
  t0 := Tryz.underlying0
  a0 := Tryz.isAgg0
  z0 := Tryz.sizeOf0
  v0 := Tryz.zeroValue0
  t3 := Tryz.underlying3
  a3 := Tryz.isAgg3
  z3 := Tryz.sizeOf3
  v3 := Tryz.zeroValue3
  t4 := Tryz.underlying4
  a4 := Tryz.isAgg4
  z4 := Tryz.sizeOf4
  v4 := Tryz.zeroValue4
  t5 := Tryz.underlying5
  a5 := Tryz.isAgg5
  z5 := Tryz.sizeOf5
  v5 := Tryz.zeroValue5
  t9 := Tryz.underlying9
  a9 := Tryz.isAgg9
  z9 := Tryz.sizeOf9
  v9 := Tryz.zeroValue9
  t28 := Tryz.underlying40
  a28 := Tryz.isAgg40
  z28 := Tryz.sizeOf40
  v28 := Tryz.zeroValue40
  t46 := Tryz.underlying177
  a46 := Tryz.isAgg177
  z46 := Tryz.sizeOf177
  v46 := Tryz.zeroValue177
  t51 := Tryz.underlying192
  a51 := Tryz.isAgg192
  z51 := Tryz.sizeOf192
  v51 := Tryz.zeroValue192
  t53 := Tryz.underlying194
  a53 := Tryz.isAgg194
  z53 := Tryz.sizeOf194
  v53 := Tryz.zeroValue194
  t131 := Tryz.underlying155
  a131 := Tryz.isAgg155
  z131 := Tryz.sizeOf155
  v131 := Tryz.zeroValue155
  t182 := Tryz.underlying202
  a182 := Tryz.isAgg202
  z182 := Tryz.sizeOf202
  v182 := Tryz.zeroValue202
  t183 := Tryz.underlying203
  a183 := Tryz.isAgg203
  z183 := Tryz.sizeOf203
  v183 := Tryz.zeroValue203
  t218 := Tryz.underlying213
  a218 := Tryz.isAgg213
  z218 := Tryz.sizeOf213
  v218 := Tryz.zeroValue213
  t222 := Tryz.underlying217
  a222 := Tryz.isAgg217
  z222 := Tryz.sizeOf217
  v222 := Tryz.zeroValue217
  t228 := Tryz.underlying221
  a228 := Tryz.isAgg221
  z228 := Tryz.sizeOf221
  v228 := Tryz.zeroValue221
  t229 := Tryz.underlying82
  a229 := Tryz.isAgg82
  z229 := Tryz.sizeOf82
  v229 := Tryz.zeroValue82 }
open Go.Sort Go.RowKit in
theorem Tryz.slices_Sort_int (blk off cap : Nat) (zs : List Int) (w : World) (hH : Holds (Value.int .i64) w blk off zs.toArray) (hblk : blk < w.heap.size) (hsz : zs.length < 4611686018427387904) :
    Calls Tryz.prog 80 #[.slice (some ⟨blk, off, none⟩) zs.length cap] w fun e w' =>
      e = .returned (.tuple #[]) ∧ ∃ n os, w' = grow (putRow (Value.int .i64) (Sort.ahead w n) blk off (zs.mergeSort fun x y => decide (x ≤ y)).toArray) os := Any.slices_Sort_int Tryz.lays189 blk off cap zs w hH hblk hsz
def Tryz.laysNm220_ren : Go.Shelf.Ren := ⟨fun | 20 => 81 | n => n, fun | 22 => 40 | 3 => 3 | 4 => 4 | 0 => 0 | n => n, fun | n => n⟩
theorem Tryz.laysNm220 : Go.Proofs.Lays2.n20 Tryz.prog Tryz.laysNm220_ren := {
  mixed := by kernel_rfl
  f20 := Tryz.func81.trans (congrArg some (by kernel_rfl))
  t0 := Tryz.underlying0
  a0 := Tryz.isAgg0
  z0 := Tryz.sizeOf0
  v0 := Tryz.zeroValue0
  t3 := Tryz.underlying3
  a3 := Tryz.isAgg3
  z3 := Tryz.sizeOf3
  v3 := Tryz.zeroValue3
  t4 := Tryz.underlying4
  a4 := Tryz.isAgg4
  z4 := Tryz.sizeOf4
  v4 := Tryz.zeroValue4
  t22 := Tryz.underlying40
  a22 := Tryz.isAgg40
  z22 := Tryz.sizeOf40
  v22 := Tryz.zeroValue40
  i3 := by kernel_rfl }
open Go.RowKit Go.Lib Go.Sort in
theorem Tryz.slices_Compact_int (blk off cap : Nat) (zs : List Int) (w : World) (hH : Holds (Value.int .i64) w blk off zs.toArray) (hsz : zs.length ≤ 9223372036854775807) (hcap : zs.length ≤ cap) :
    Calls Tryz.prog 81 #[.slice (some ⟨blk, off, none⟩) zs.length cap] w fun e w' => e = .returned (.slice (some ⟨blk, off, none⟩) (Lib.compact zs).length cap) ∧ ∃ q, w' = putRow (Value.int .i64) (Sort.ahead w q) blk off (Lib.compact zs ++ List.replicate (zs.length - (Lib.compact zs).length) 0).toArray := Any.slices_Compact_int Tryz.laysNm220 blk off cap zs w hH hsz hcap
end Go.Proofs

namespace Go.Proofs.Ks
open Go Go.Pg Go.Proofs Go.Proofs.Yt
attribute [local push_cast] Bool.and_self Bool.and_true Bool.false_eq_true List.all_append List.all_cons List.all_nil List.isEmpty_cons List.length_append List.length_cons List.length_drop List.length_nil List.length_take List.mem_cons List.not_mem_nil List.take_length List.take_of_length_le Nat.add_assoc TyD.isAgg and_self and_true dropM isEmpty_map leT natNe pureA pureL takeM true_and
def markP (r : Rec) (more : List Int) (k : Nat) : List Int := [r.s.zero.lo, r.s.zero.hi + 1, r.s.fin.lo, r.s.fin.hi + 1] ++ (more ++ (r.strikes.take k).flatMap fun x => [x.pos.lo, x.pos.hi + 1])
theorem markP_succ {r : Rec} {more : List Int} {k : Nat} {x : Strike} {rest : List Strike} (h : r.strikes.drop k = x :: rest) : markP r more (k + 1) = markP r more k ++ [x.pos.lo, x.pos.hi + 1] := by
  unfold markP
  rw [take_snoc h, List.flatMap_append]
  simp
theorem markP_len {r : Rec} {more : List Int} : ∀ {k : Nat}, k ≤ r.strikes.length → (markP r more k).length = 4 + more.length + 2 * k := by
  intro k hk
  unfold markP
  have : ∀ l : List Strike, (l.flatMap fun x => [x.pos.lo, x.pos.hi + 1]).length = 2 * l.length := by
    intro l
    induction l with
    | nil => rfl
    | cons y l ih => rw [List.flatMap_cons, List.length_append, ih]; simp only [List.length_cons, List.length_nil]; omega
  rw [List.length_append, List.length_append, this, List.length_take, Nat.min_eq_left hk]
  simp only [List.length_cons, List.length_nil]; omega
theorem markP_all (r : Rec) (more : List Int) : markP r more r.strikes.length = markL r more := by
  unfold markP markL
  rw [List.take_length]
theorem marked0_ok (r : Rec) (more : List Int) (hv : r.V) (hm : more.length ≤ 8) (hs : SortC cx.P 80) (hc : CompactC cx.P 81) : OKv cx 69 [.agg (eRec r), lInt more] (lInt (marksR r more)) := by
  obtain ⟨z1, z2, z3⟩ := hv.z
  obtain ⟨f1, f2, f3⟩ := hv.f
  have hns := hv.nstrikes
  have hl0 := markP_len (r := r) (more := more) (Nat.zero_le _)
  refine OKat.of_body (rs := [4]) Tryz.func69 rfl (by decide +kernel) rfl (by simp [Tryz.ntmps69]) ?_
  simp only [Tryz.ntmps69]
  repeat' first
    | apply jA | apply jB | apply jD | apply jI
    | ((first | (apply jK kO; decide) | apply jM kO); (simp (disch := (first | omega | (simp only [vC, markP_len]; omega))) only [push_cast, simprocAttr] <;> rfl))
    | (apply jT kO; decide; rfl; rfl; rfl; decide; (iterate 3 (simp (disch := (first | omega | (simp only [vC, markP_len]; omega))) only [push_cast, simprocAttr] <;> rfl)); (first | (focus (simp; done)) | (intro c hc; obtain ⟨x, _, rfl⟩ := List.mem_map.1 hc; rfl)); ((first | rfl | simp (disch := omega) only [push_cast])); ((try dsimp only); (try simp only [vC, markP_len]); omega); ((try dsimp only); (try simp only [vC, markP_len]); omega))

  refine AW.loop (fun n s => ∃ (k lw : Nat) (rest : List Strike), n = rest.length ∧ (r.strikes.drop k = rest) ∧ (lw ≤ 4 + more.length + 2 * k) ∧ (k ≤ r.strikes.length) ∧ 3 ≤ s.nx ∧ s.tm 2 = .ptr 0 0 0 1 ∧ s.tm 6 = .ref 2 0 (4 + more.length + 2 * k) ∧ s.tm 29 = lStrike r.strikes ∧ s.tm 30 = ai r.strikes.length ∧ s.tm 31 = ai k ∧ Pg.rowAt s.H 2 = some { k := 1, es := (markP r more k).map eInt, ty := 3, lo := lw }) (r.strikes.length) ⟨0, (if more.isEmpty = true then 0 else 4 + more.length), r.strikes, rfl, rfl, (by split <;> omega), (Nat.zero_le _), ?_, ?_, ?_, ?_, ?_, ?_, ?_⟩ ?_
  iterate 7 (first | (simp (disch := omega) only [push_cast, simprocAttr, markP, List.take_zero, List.flatMap_nil, zZ, zY, zX, zW, yB, yA] <;> first | rfl | omega) | omega)
  rintro n s ⟨k, lw, rest, hn, hp0, hp1, hp2, hnl, hS⟩
  have hl := markP_len (r := r) (more := more) hp2
  rcases rest with _ | ⟨x, rest⟩
  rotate_left
  · obtain ⟨hk, hg, hd', hl', hm', hx⟩ := drop_cons hp0 eStrike []
    have hsx := markP_succ (more := more) hp0
    obtain ⟨y1, y2, y3, y4⟩ := hv.strikes x hm'
    repeat' first
      | apply jA | apply jB | apply jD | apply jE | apply jI
      | ((first | (apply jK kO; decide) | apply jM kO | apply jR); (simp (disch := (first | omega | (simp only [vC, hl]; omega))) only [push_cast, simprocAttr, hS, hk, hg, hx, hl] <;> rfl); all_goals try ((with_reducible intro hI); try first | (cases hI; done) | (simp only [INTS, zL] at hI; try first | (exfalso; omega) | (have hT : True := hI; clear hT hI))))
      | (apply jT kO; decide; rfl; rfl; rfl; decide; (iterate 3 (simp (disch := (first | omega | (simp only [vC, hl]; omega))) only [push_cast, simprocAttr, hS, hk, hg, hx, hl] <;> rfl)); (first | (focus (simp; done)) | (intro c hc; obtain ⟨x, _, rfl⟩ := List.mem_map.1 hc; rfl)); ((first | rfl | simp (disch := omega) only [push_cast])); ((try dsimp only); (try simp only [vC, hl]); omega); ((try dsimp only); (try simp only [vC, hl]); omega))

    all_goals (refine ⟨rest.length, ?_, k + 1, (4 + more.length + 2 * k + 2), rest, rfl, hd', (by omega), (by omega), ?_, ?_, ?_, ?_, ?_, ?_, ?_⟩; ((simp only [List.length_cons] at *; omega)); all_goals first | (simp (disch := omega) only [push_cast, simprocAttr, hS, hk, hg, hx, hl, hsx, zY, zX, zW, yB, yA] <;> first | rfl | omega) | omega)
  have hk := drop_nil hp0
  have hkS : k = r.strikes.length := by have := List.drop_eq_nil_iff.1 hp0; omega
  subst hkS
  rw [markP_all] at hS hl
  have hne : markL r more ≠ [] := by unfold markL; simp
  have hmL : (markL r more).length < 4611686018427387904 := by omega
  have hcut := markL_cut r more
  have hsl : ((markL r more).mergeSort fun x y => decide (x ≤ y)).length = (markL r more).length := List.length_mergeSort _
  obtain ⟨SL, hSL⟩ : ∃ z, (markL r more).mergeSort (fun x y => decide (x ≤ y)) = z := ⟨_, rfl⟩
  rw [hSL] at hcut hsl
  have hneS : SL ≠ [] := fun e => by rw [e] at hsl; rw [hl] at hsl; simp only [List.length_nil] at hsl; omega
  have hs1 : ∀ {args : List AV} {H : Nat → Option AO} {nx : Nat}, args = [.ref 2 0 (4 + (more.length + 2 * r.strikes.length))] → Pg.rowAt H 2 = some { k := 1, es := (markL r more).map eInt, ty := 3, lo := lw } →
      OKm cx 80 args H nx (fun v H' nx' => v = .tup [] ∧ H' = updH H 2 (.row { k := 1, es := SL.map eInt, ty := 3, lo := lw }) ∧ nx' = nx) := by
    rintro _ H nx rfl h
    rw [show 4 + (more.length + 2 * r.strikes.length) = (markL r more).length by omega, ← hSL]
    exact OKm.sorts ⟨_, Tryz.func80, by decide +kernel, rfl⟩ hs hne hmL h
  have hc1 : ∀ {args : List AV} {H : Nat → Option AO} {nx : Nat}, args = [.ref 2 0 (4 + (more.length + 2 * r.strikes.length))] → Pg.rowAt H 2 = some { k := 1, es := SL.map eInt, ty := 3, lo := lw } →
      OKm cx 81 args H nx (fun v H' nx' => v = lInt (marksR r more) ∧ (∀ j, j ≠ 2 → H' j = H j) ∧ nx' = nx) := by
    rintro _ H nx rfl h
    rw [show 4 + (more.length + 2 * r.strikes.length) = SL.length by omega, ← hcut]
    exact OKm.compacts ⟨_, Tryz.func81, by decide +kernel, rfl⟩ hc hneS (by omega) h
  repeat' first
    | apply jA | apply jB | apply jF | apply jI
    | ((first | (apply jK kO; decide) | apply jR); (simp (disch := (first | omega | (simp only [vC, hl]; omega))) only [push_cast, simprocAttr, hS, hk] <;> rfl); all_goals try ((with_reducible intro hI); try first | (cases hI; done) | (simp only [INTS, zL] at hI; try first | (exfalso; omega) | (have hT : True := hI; clear hT hI))))

  refine W.callm kO (by decide) (f := 80) (caps := []) (by simp (disch := omega) only [push_cast, simprocAttr, hS, hk] <;> rfl) (hs1 (by simp (disch := omega) only [push_cast, simprocAttr, hS, hk] <;> rfl) (by simp (disch := omega) only [push_cast, simprocAttr, hS, hk] <;> rfl)) ?_
  rintro _ _ _ ⟨rfl, rfl, rfl⟩
  repeat' first
    | apply jA | apply jB | apply jI
    | ((apply jK kO; decide); (simp (disch := (first | omega | (simp only [vC, hl]; omega))) only [push_cast, simprocAttr, hS, hk] <;> rfl))

  refine W.callm kO (by decide) (f := 81) (caps := []) (by simp (disch := omega) only [push_cast, simprocAttr, hS, hk] <;> rfl) (hc1 (by simp (disch := omega) only [push_cast, simprocAttr, hS, hk] <;> rfl) (by simp (disch := omega) only [push_cast, simprocAttr, hS, hk] <;> rfl)) ?_
  rintro _ H3 _ ⟨rfl, hH3, rfl⟩
  repeat' first
    | apply jC | apply jI
    | ((apply jK kO; decide); (simp (disch := (first | omega | (simp only [vC, hl]; omega))) only [push_cast, simprocAttr, hS, hk] <;> rfl))
    | ((apply W.ret1); (iterate 2 (try (simp (disch := (first | omega | (simp only [vC, hl]; omega))) only [push_cast, simprocAttr, hS, hk] <;> rfl))))

  all_goals (show _ = _; rfl)
theorem sort99 : SortC cx.P 80 := fun blk off cap zs w h1 h2 h3 => Tryz.slices_Sort_int blk off cap zs w h1 h2 h3
theorem compact120 : CompactC cx.P 81 := fun blk off cap zs w h1 h2 h3 => Tryz.slices_Compact_int blk off cap zs w h1 h2 h3
theorem marked_ok (r : Rec) (more : List Int) (hv : r.V) (hm : more.length ≤ 8) : OKv cx 69 [.agg (eRec r), lInt more] (lInt (marksR r more)) := marked0_ok r more hv hm sort99 compact120
end Go.Proofs.Ks

namespace Go.Proofs.Ks
open Go Go.Pg Go.Proofs Go.Proofs.Yt
theorem rnd_ok (l : Nat) : (cx.rnd l).OK := ⟨kO.T, kO.eqT, kO.E⟩
theorem rnd_mixed (l : Nat) : (cx.rnd l).P.follows .mixedOrders = true := cx_mixed
theorem new_strike (k : Nat) : (⟨3, (k : Int)⟩ : Node) ∉ nd0 ++ ndS k := by
  intro h
  rcases List.mem_append.1 h with h | h
  · simp [nd0] at h
  · unfold ndS at h
    obtain ⟨i, hi, e⟩ := List.mem_map.1 h
    rw [List.mem_range] at hi
    injection e with _ e2
    omega
theorem new_mark {l : List Int} (hs : l.Pairwise (· < ·)) {k S : Nat} {x : Int} {rest : List Int} (h : l.drop k = x :: rest) : (⟨4, x⟩ : Node) ∉ nd0 ++ ndS S ++ ndM (l.take k) := by
  intro hm
  rcases List.mem_append.1 hm with hm | hm
  · rcases List.mem_append.1 hm with hm | hm
    · simp [nd0] at hm
    · unfold ndS at hm
      obtain ⟨i, hi, e⟩ := List.mem_map.1 hm
      injection e with e1 _
      exact absurd e1 (by decide)
  · unfold ndM at hm
    obtain ⟨y, hy, e⟩ := List.mem_map.1 hm
    injection e with _ e2
    subst e2
    rw [← List.take_append_drop k l, h, List.pairwise_append] at hs
    have := hs.2.2 y hy y (by simp)
    omega
structure Bd (H0 : Nat → Option AO) (nx : Nat) (r : Rec) (N : List Node) (H : Nat → Option AO) : Prop where
  sys : SysB H (nx + 3) (nx + 2) (nx + 4) (nx + 1) N (.ref (nx + 5) 0 0)
  rc : Pg.rowAt H nx = some { k := 14, es := [eRec r], ty := 50 }
  lk : Pg.rowAt H (nx + 5) = some { k := 3, es := [], ty := 171 }
  fr : ∀ j, j < nx → H j = H0 j
theorem addB {H0 H : Nat → Option AO} {nx m : Nat} {r : Rec} {N : List Node} (n : Node) {args : List AV} (ha : args = [.agg (eNode n), .ptr (nx + 3) 0 0 1]) (hB : Bd H0 nx r N H) (hnew : n ∉ N) (hl : N.length ≤ 1000000) (hm : nx + 6 ≤ m) :
    OKm cx 68 args H m (fun _ H' m' => Bd H0 nx r (N ++ [n]) H' ∧ m ≤ m') := by
  subst ha
  refine OKm.mono (add_m N n hl hnew hB.sys ⟨by omega, by omega, by omega⟩ ⟨by omega, by omega, by omega⟩ (by omega) (by omega) (by omega) (by omega)) ?_
  rintro v H' m' ⟨hS, hle, hf⟩
  exact ⟨⟨hS, (rowAt_eqH (hf nx (by omega) (by omega) (by omega) (by omega))).trans hB.rc, (rowAt_eqH (hf (nx + 5) (by omega) (by omega) (by omega) (by omega))).trans hB.lk, fun j hj => (hf j (by omega) (by omega) (by omega) (by omega)).trans (hB.fr j hj)⟩, hle⟩
structure SysM (H : Nat → Option AO) (g nd m lk : Nat) (N : List Node) (L : List Lk) : Prop where
  g : Pg.rowAt H g = some { k := 3, es := [[.ref nd 0 N.length, .map m, .ref lk 0 L.length]], ty := 145 }
  nd : Pg.rowAt H nd = some { k := 2, es := N.map eNode, ty := 147, lo := N.length }
  m : H m = some (.mp (.map .pair) 0 (ixM N))
  lk : ∃ lw, lw ≤ L.length ∧ Pg.rowAt H lk = some { k := 3, es := L.map eLink, ty := 171, lo := lw }
structure JB (H0 : Nat → Option AO) (nx e : Nat) (r : Rec) (PL : List Int) (N : List Node) (l D : Nat) (L : Loop) (tm : Nat → AV) (p : List Lk) (H : Nat → Option AO) : Prop where
  sy : SysY H (e + 1) e (e + 2) (nx + 2) (nx + 1) r PL N
  sm : SysM H (nx + 2) (nx + 4) (nx + 1) (nx + 5) N p
  c : Pg.rowAt H (nx + 3) = some { k := 1, es := [[.ptr (nx + 2) 0 0 1]], ty := 106 }
  fr : ∀ j, j < nx → H j = H0 j
  dfr : H (e + 3) = some (.mp (.dfr D (some [])) 0 [])
  rcd : H (e + 4) = some (.mp (.loop l L) 0 (keepT 66 tm))
theorem JB.frame {H0 : Nat → Option AO} {nx e₀ : Nat} {r : Rec} {PL : List Int} {N : List Node} {l D : Nat} {L : Loop} {tm : Nat → AV} (he : nx + 6 ≤ e₀) (p : List Lk) (H : Nat → Option AO) (id : Nat) (o : AO) (h : JB H0 nx e₀ r PL N l D L tm p H) (hid : e₀ + 5 ≤ id) : JB H0 nx e₀ r PL N l D L tm p (updH H id o) := by
  have e : ∀ j, j < e₀ + 5 → updH H id o j = H j := fun j hj => by simp only [updH]; rw [if_neg (by omega)]
  have eR : ∀ j, j < e₀ + 5 → Pg.rowAt (updH H id o) j = Pg.rowAt H j := fun j hj => rowAt_eqH (e j hj)
  obtain ⟨⟨a1, a2, a3, a4, a5⟩, ⟨b1, b2, b3, lw, b4, b5⟩, h3, h4, h5, h6⟩ := h
  refine ⟨⟨(eR _ (by omega)).trans a1, (eR _ (by omega)).trans a2, (eR _ (by omega)).trans a3, ?_, (e _ (by omega)).trans a5⟩, ⟨(eR _ (by omega)).trans b1, (eR _ (by omega)).trans b2, (e _ (by omega)).trans b3, lw, b4, (eR _ (by omega)).trans b5⟩, (eR _ (by omega)).trans h3, fun j hj => (e _ (by omega)).trans (h4 j hj), (e _ (by omega)).trans h5, (e _ (by omega)).trans h6⟩
  obtain ⟨x, y, hxy⟩ := a4
  exact ⟨x, y, (eR _ (by omega)).trans hxy⟩
def dropS1 : Nat → Code → Code
  | 0, .seq _ b => b
  | n + 1, .seq _ b => dropS1 n b
  | _, c => c
theorem awk_gen {C : Cx} {N : Nat} {y z : Code} {Q : Exit → St → Prop} {s : St} (G : St → Prop) (hG : G s) (h : ∀ t, G t → AWk C N y z Q t) : AWk C N y z Q s := h s hG
noncomputable def tail87 : Code := dropS1 9 (Tryz.f47.body.getD .skip)
end Go.Proofs.Ks
