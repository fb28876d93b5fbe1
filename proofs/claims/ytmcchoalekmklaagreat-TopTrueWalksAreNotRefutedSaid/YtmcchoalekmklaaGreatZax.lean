/-
  Contracts of functions, proved by going through their code. No conditions.
-/
import Derived.Test.YtmcchoalekmklaaGreatZai
import Derived.Test.YtmcchoalekmklaaGreatZaj
import Derived.Test.YtmcchoalekmklaaGreatZak
import Derived.Test.YtmcchoalekmklaaGreatZal
import Derived.Test.YtmcchoalekmklaaGreatZam
set_option linter.unusedVariables false
set_option linter.unusedSimpArgs false
namespace Go.Proofs.Ds
open Go Go.Pg Go.Proofs Go.Proofs.Yt
structure Key where
  id : Int
  track : Int
  pat : Int
  deriving DecidableEq, Inhabited
structure Mark where
  arc : Arc
  track : Int
  seen : Int
  blank : Int
  deriving DecidableEq, Inhabited
structure Ink where
  faint : Int
  stray : Int
  slip : Int
  deriving DecidableEq, Inhabited
structure Blow where
  miss : Int
  dirt : Int
  shift : Int
  deriving DecidableEq, Inhabited
abbrev eArc (x : Arc) : List AV := [ai x.from_, ai x.len]
abbrev lArc (l : List Arc) : AV := .lst (l.map eArc)
abbrev eSpan (s : Span) : List AV := [ai s.lo, ai s.hi]
abbrev lSpan (l : List Span) : AV := .lst (l.map eSpan)
abbrev eKey (k : Key) : List AV := [ai k.id, ai k.track, ai k.pat]
abbrev eMark (m : Mark) : List AV := [ai m.arc.from_, ai m.arc.len, ai m.track, ai m.seen, ai m.blank]
abbrev eInk (i : Ink) : List AV := [ai i.faint, ai i.stray, ai i.slip]
abbrev eBlow (b : Blow) : List AV := [ai b.miss, ai b.dirt, ai b.shift]
abbrev eInt (n : Int) : List AV := [ai n]
abbrev ePair (p : Int × Int) : List AV := [ai p.1, ai p.2]
theorem wrapN {n : Int} (h : -9223372036854775808 ≤ n ∧ n < 9223372036854775808) : IntKind.wrap .i64 n = n := by
  have e : IntKind.wrap .i64 n = if n % 18446744073709551616 ≥ 9223372036854775808 then n % 18446744073709551616 - 18446744073709551616 else n % 18446744073709551616 := by
    simp [IntKind.wrap, IntKind.signed, IntKind.bits]
  rw [e]; split <;> omega
theorem maxN {a b : Int} : (if b > a then b else a) = max a b := by rw [Int.max_def]; split <;> split <;> omega
theorem minN {a b : Int} : (if b < a then b else a) = min a b := by rw [Int.min_def]; split <;> split <;> omega
theorem drop_cons {α β : Type} {l : List α} {k : Nat} {x : α} {rest : List α} (h : l.drop k = x :: rest) (e : α → β) (d : β) :
    ((k : Int) < (l.length : Int)) ∧ (l.map e).getD k d = e x ∧ l.drop (k + 1) = rest ∧ rest.length + k + 1 = l.length ∧ x ∈ l ∧ (l.map e)[k]? = some (e x) := by
  have hlt : k < l.length := by
    rcases Nat.lt_or_ge k l.length with h' | h'
    · exact h'
    · rw [List.drop_eq_nil_of_le h'] at h; cases h
  have h0 : l[k]? = some x := by
    have := congrArg (fun m => m[0]?) h
    simpa using this
  refine ⟨by omega, ?_, ?_, ?_, List.mem_of_getElem? h0, by rw [List.getElem?_map, h0]; rfl⟩
  · rw [List.getD_eq_getElem?_getD, List.getElem?_map, h0]; rfl
  · have : l.drop (k + 1) = (l.drop k).drop 1 := by simp
    rw [this, h]; rfl
  · have := congrArg List.length h
    simp at this; omega
theorem drop_nil {α : Type} {l : List α} {k : Nat} (h : l.drop k = []) : ¬ ((k : Int) < (l.length : Int)) := by
  have := List.drop_eq_nil_iff.1 h
  omega
theorem getD_map {α β : Type} (e : α → β) (l : List α) (k : Nat) (d : β) (d' : α) (h : k < l.length) : (l.map e).getD k d = e (l.getD k d') := by
  rw [List.getD_eq_getElem?_getD, List.getElem?_map, List.getElem?_eq_getElem h, List.getD_eq_getElem?_getD, List.getElem?_eq_getElem h]; rfl
theorem get_map {α β : Type} (e : α → β) (l : List α) (k : Nat) (d' : α) (h : k < l.length) : (l.map e)[k]? = some (e (l.getD k d')) := by
  rw [List.getElem?_map, List.getElem?_eq_getElem h, List.getD_eq_getElem?_getD, List.getElem?_eq_getElem h]; rfl
theorem pure_map {α : Type} {e : α → List AV} (h : ∀ x, pureL (e x) = true) (l : List α) : (l.map e).all pureL = true := by
  rw [List.all_eq_true]
  intro x hx
  obtain ⟨y, _, rfl⟩ := List.mem_map.1 hx
  exact h y
attribute [push_cast] cx T eqT wrapN maxN minN
end Go.Proofs.Ds

set_option maxHeartbeats 8000000
set_option maxRecDepth 10000
namespace Go.Proofs.Ds
open Go Go.Pg Go.Proofs Go.Proofs.Yt
attribute [local push_cast] Bool.and_false Bool.and_self Bool.and_true Bool.false_and Bool.false_eq_true Bool.not_false Bool.not_true Bool.true_and
theorem tmod_bd (a : Int) : -43200 < a.tmod 43200 ∧ a.tmod 43200 < 43200 := by
  have h1 := Int.tmod_lt_of_pos a (b := 43200) (by decide)
  have h2 := Int.lt_tmod_of_pos a (b := 43200) (by decide)
  omega
theorem Angle_ok (a : Int) : OKv cx 62 [ai a] (ai (angF a)) := by
  obtain ⟨h1, h2⟩ := tmod_bd a
  have ha := ang_prog a
  refine OKat.of_body (rs := [2]) Tryz.func62 rfl (by decide +kernel) rfl (by simp [Tryz.ntmps62]) ?_
  simp only [Tryz.ntmps62]
  repeat' first
    | apply jA | apply jB | apply jC | apply jI
    | ((apply jK kO; decide); (simp (disch := omega) only [push_cast, simprocAttr, ha, h1, h2] <;> rfl))
    | ((apply W.ret1); (iterate 2 (try (simp (disch := omega) only [push_cast, simprocAttr, ha, h1, h2] <;> rfl))))

  all_goals (show _ = _; rfl)
theorem ValidArc_ok (x : Arc) : OKv cx 63 [.agg (eArc x)] (ab (validA x)) := by
  refine OKat.of_body (rs := [2]) Tryz.func63 rfl (by decide +kernel) rfl (by simp [Tryz.ntmps63]) ?_
  simp only [Tryz.ntmps63]
  repeat' first
    | apply jA | apply jB | apply jC | apply jI
    | ((first | (apply jK kO; decide) | (apply jN; rfl; decide)); (simp (disch := omega) only [push_cast, simprocAttr] <;> rfl); all_goals try ((with_reducible intro hI); try first | (cases hI; done) | (simp only [INTS, zL] at hI; try first | (exfalso; omega) | (have hT : True := hI; clear hT hI))))
    | ((apply jP; rfl; decide); (simp (disch := omega) only [push_cast, simprocAttr] <;> rfl))
    | ((apply W.ret1); (iterate 2 (try (simp (disch := omega) only [push_cast, simprocAttr] <;> rfl))))

  all_goals (first | (show _ = _; rfl) | (refine congrArg (fun b => ab b) ?_; rw [Bool.eq_iff_iff]; unfold validA; simp only [beq_iff_eq, bne_iff_ne, ne_eq, Bool.and_eq_true, Bool.or_eq_true, Bool.not_eq_true, decide_eq_true_eq, decide_eq_false_iff_not, Bool.false_eq_true, eq_self, true_iff, false_iff, iff_true, iff_false, and_true, true_and, and_false, false_and, or_false, false_or, or_true, true_or, not_true_eq_false, not_false_eq_true]; omega))
def inF (n lo hi : Int) : Bool := decide (lo ≤ n) && decide (n ≤ hi)
end Go.Proofs.Ds

namespace Go.Proofs.Ds
open Go Go.Pg Go.Proofs Go.Proofs.Yt
attribute [local push_cast] Bool.and_false Bool.and_self Bool.and_true Bool.false_and Bool.false_eq_true Bool.not_false Bool.not_true Bool.true_and
theorem grown_ok (x : Arc) (n : Int) (hv : validA x = true) (hn : 0 ≤ n ∧ n ≤ 43200) : OKv cx 43 [.agg (eArc x), ai n] (.agg (eArc (wideF x n))) := by
  obtain ⟨v1, v2, v3, v4, v5⟩ := validA_iff.1 hv
  have c3 := Angle_ok (x.from_ - n)
  unfold wideF
  by_cases hg : 43200 ≤ n
  · rw [if_pos (by omega)]
    refine OKat.of_bodyM kO (rs := [.cell 4 52]) Tryz.func43 rfl (by decide +kernel) rfl (by simp [Tryz.ntmps43]) ?_
    simp only [Tryz.ntmps43]
    repeat' first
      | apply jA | apply jB | apply jC | apply jI
      | ((first | (apply jK kO; decide) | apply jM kO | (apply jN; rfl; decide) | apply jR); (simp (disch := omega) only [push_cast, simprocAttr, hg] <;> rfl); all_goals try ((with_reducible intro hI); try first | (cases hI; done) | (simp only [INTS, zL] at hI; try first | (exfalso; omega) | (have hT : True := hI; clear hT hI))))
      | ((apply W.retM); (iterate 2 (try (simp (disch := omega) only [push_cast, simprocAttr, hg] <;> rfl))))

    all_goals (show _ = _; rfl)
  by_cases hl : 43199 ≤ x.len + 2 * n
  · rw [if_pos hl]
    refine OKat.of_bodyM kO (rs := [.cell 4 52]) Tryz.func43 rfl (by decide +kernel) rfl (by simp [Tryz.ntmps43]) ?_
    simp only [Tryz.ntmps43]
    repeat' first
      | apply jA | apply jB | apply jC | apply jI
      | ((first | (apply jK kO; decide) | apply jM kO | (apply jN; rfl; decide) | apply jR); (simp (disch := omega) only [push_cast, simprocAttr, hl, hg] <;> rfl); all_goals try ((with_reducible intro hI); try first | (cases hI; done) | (simp only [INTS, zL] at hI; try first | (exfalso; omega) | (have hT : True := hI; clear hT hI))))
      | ((apply W.retM); (iterate 2 (try (simp (disch := omega) only [push_cast, simprocAttr, hl, hg] <;> rfl))))

    all_goals (show _ = _; rfl)
  · rw [if_neg hl]
    refine OKat.of_bodyM kO (rs := [.cell 4 52]) Tryz.func43 rfl (by decide +kernel) rfl (by simp [Tryz.ntmps43]) ?_
    simp only [Tryz.ntmps43]
    repeat' first
      | apply jA | apply jB | apply jC | apply jE | apply jI
      | refine AW.draw (id := 3) cx_mixed [11] [] [1] 0 (by decide +kernel) ?_
      | ((first | (apply jK kO; decide) | (apply jL kO; decide; decide) | (apply jN; rfl; decide) | apply jR); (simp (disch := omega) only [push_cast, simprocAttr, hl, hg] <;> rfl); all_goals try ((with_reducible intro hI); try first | (cases hI; done) | (simp only [INTS, zL] at hI; try first | (exfalso; omega) | (have hT : True := hI; clear hT hI))))
      | ((apply D.store kO; decide); (simp (disch := omega) only [push_cast, simprocAttr, hl, hg] <;> rfl); try first | exact .inl rfl | exact .inr (by simp))
      | ((apply jW kO; decide; decide); (iterate 2 (simp (disch := omega) only [push_cast, simprocAttr, hl, hg] <;> rfl)); (with_reducible exact c3); try first | rfl | (simp (disch := omega) only [push_cast, simprocAttr, hl, hg] <;> rfl))
      | ((apply W.retM); (iterate 2 (try (simp (disch := omega) only [push_cast, simprocAttr, hl, hg] <;> rfl))))

    all_goals (show _ = _; rfl)
theorem pins_ok (n : Int) : OKv cx 40 [ai n] (ab (inF n 0 4095)) := by
  refine OKat.of_body (rs := [2]) Tryz.func40 rfl (by decide +kernel) rfl (by simp [Tryz.ntmps40]) ?_
  simp only [Tryz.ntmps40]
  repeat' first
    | apply jA | apply jB | apply jC | apply jI
    | ((first | (apply jK kO; decide) | (apply jN; rfl; decide)); (simp (disch := omega) only [push_cast, simprocAttr] <;> rfl); all_goals try ((with_reducible intro hI); try first | (cases hI; done) | (simp only [INTS, zL] at hI; try first | (exfalso; omega) | (have hT : True := hI; clear hT hI))))
    | ((apply W.ret1); (iterate 2 (try (simp (disch := omega) only [push_cast, simprocAttr] <;> rfl))))

  all_goals (first | (show _ = _; rfl) | (refine congrArg (fun b => ab b) ?_; rw [Bool.eq_iff_iff]; unfold inF; simp only [beq_iff_eq, bne_iff_ne, ne_eq, Bool.and_eq_true, Bool.or_eq_true, Bool.not_eq_true, decide_eq_true_eq, decide_eq_false_iff_not, Bool.false_eq_true, eq_self, true_iff, false_iff, iff_true, iff_false, and_true, true_and, and_false, false_and, or_false, false_or, or_true, true_or, not_true_eq_false, not_false_eq_true]; omega))
def keyV (k : Key) : Bool := inF k.id 1 1099511627776 && inF k.track 0 3 && inF k.pat 1 4095
theorem inF_iff {n lo hi : Int} : inF n lo hi = true ↔ lo ≤ n ∧ n ≤ hi := by unfold inF; simp only [Bool.and_eq_true, decide_eq_true_eq]
theorem keyV_iff {k : Key} : keyV k = true ↔ (1 ≤ k.id ∧ k.id ≤ 1099511627776) ∧ (0 ≤ k.track ∧ k.track ≤ 3) ∧ 1 ≤ k.pat ∧ k.pat ≤ 4095 := by
  unfold keyV
  rw [Bool.and_eq_true, Bool.and_eq_true, inF_iff, inF_iff, inF_iff, and_assoc]
theorem CheckKey_ok (k : Key) : OKv cx 38 [.agg (eKey k)] (ai (if keyV k = true then 0 else 1)) := by
  have c1 := pins_ok k.pat
  by_cases hp : 0 ≤ k.pat ∧ k.pat ≤ 4095
  · rw [show inF k.pat 0 4095 = true from inF_iff.2 hp] at c1
    refine OKat.of_body (rs := [2]) Tryz.func38 rfl (by decide +kernel) rfl (by simp [Tryz.ntmps38]) ?_
    simp only [Tryz.ntmps38]
    repeat' first
      | apply jA | apply jB | apply jC | apply jE | apply jI
      | ((first | (apply jK kO; decide) | (apply jN; rfl; decide) | apply jR); (simp (disch := omega) only [push_cast, simprocAttr] <;> rfl); all_goals try ((with_reducible intro hI); try first | (cases hI; done) | (simp only [INTS, zL] at hI; try first | (exfalso; omega) | (have hT : True := hI; clear hT hI))))
      | ((apply jV kO; decide); (iterate 2 (simp (disch := omega) only [push_cast, simprocAttr] <;> rfl)); (with_reducible exact c1); try first | rfl | (simp (disch := omega) only [push_cast, simprocAttr] <;> rfl))
      | ((apply W.ret1); (iterate 2 (try (simp (disch := omega) only [push_cast, simprocAttr] <;> rfl))))

    all_goals (show _ = _; first | (rw [if_pos (keyV_iff.2 (by omega))]) | (rw [if_neg (fun h => by have := keyV_iff.1 h; omega)]))
  · rw [show inF k.pat 0 4095 = false from Bool.eq_false_iff.2 fun h => hp (inF_iff.1 h)] at c1
    refine OKat.of_body (rs := [2]) Tryz.func38 rfl (by decide +kernel) rfl (by simp [Tryz.ntmps38]) ?_
    simp only [Tryz.ntmps38]
    repeat' first
      | apply jA | apply jB | apply jC | apply jI
      | ((first | (apply jK kO; decide) | (apply jN; rfl; decide) | apply jR); (simp (disch := omega) only [push_cast, simprocAttr] <;> rfl); all_goals try ((with_reducible intro hI); try first | (cases hI; done) | (simp only [INTS, zL] at hI; try first | (exfalso; omega) | (have hT : True := hI; clear hT hI))))
      | ((apply jV kO; decide); (iterate 2 (simp (disch := omega) only [push_cast, simprocAttr] <;> rfl)); (with_reducible exact c1); try first | rfl | (simp (disch := omega) only [push_cast, simprocAttr] <;> rfl))
      | ((apply W.ret1); (iterate 2 (try (simp (disch := omega) only [push_cast, simprocAttr] <;> rfl))))

    all_goals (show _ = _; first | (rw [if_pos (keyV_iff.2 (by omega))]) | (rw [if_neg (fun h => by have := keyV_iff.1 h; omega)]))
def inkV (i : Ink) : Bool := inF i.faint 0 4 && inF i.stray 0 4 && inF i.slip 0 600
theorem inkV_iff {i : Ink} : inkV i = true ↔ (0 ≤ i.faint ∧ i.faint ≤ 4) ∧ (0 ≤ i.stray ∧ i.stray ≤ 4) ∧ 0 ≤ i.slip ∧ i.slip ≤ 600 := by
  unfold inkV
  rw [Bool.and_eq_true, Bool.and_eq_true, inF_iff, inF_iff, inF_iff, and_assoc]
theorem CheckInk_ok (i : Ink) : OKv cx 39 [.agg (eInk i)] (ai (if inkV i = true then 0 else 1)) := by
  refine OKat.of_body (rs := [2]) Tryz.func39 rfl (by decide +kernel) rfl (by simp [Tryz.ntmps39]) ?_
  simp only [Tryz.ntmps39]
  repeat' first
    | apply jA | apply jB | apply jC | apply jE | apply jI
    | ((first | (apply jK kO; decide) | (apply jN; rfl; decide) | apply jR); (simp (disch := omega) only [push_cast, simprocAttr] <;> rfl); all_goals try ((with_reducible intro hI); try first | (cases hI; done) | (simp only [INTS, zL] at hI; try first | (exfalso; omega) | (have hT : True := hI; clear hT hI))))
    | ((apply W.ret1); (iterate 2 (try (simp (disch := omega) only [push_cast, simprocAttr] <;> rfl))))

  all_goals (show _ = _; first | (rw [if_pos (inkV_iff.2 (by omega))]) | (rw [if_neg (fun h => by have := inkV_iff.1 h; omega)]))
theorem andI {p q : Nat} (hp : p < 4611686018427387904) (hq : q < 4611686018427387904) : IntKind.wrap .i64 ((BitVec.ofInt (IntKind.bits .i64) (p : Int) &&& BitVec.ofInt (IntKind.bits .i64) (q : Int)).toNat : Int) = ((p &&& q : Nat) : Int) := andB hp hq
theorem orI {p q : Nat} (hp : p < 4611686018427387904) (hq : q < 4611686018427387904) : IntKind.wrap .i64 ((BitVec.ofInt (IntKind.bits .i64) (p : Int) ||| BitVec.ofInt (IntKind.bits .i64) (q : Int)).toNat : Int) = ((p ||| q : Nat) : Int) := orB hp hq
theorem andNotI {p q : Nat} (hp : p < 4611686018427387904) (hq : q < 4611686018427387904) : IntKind.wrap .i64 ((BitVec.ofInt (IntKind.bits .i64) (p : Int) &&& ~~~ BitVec.ofInt (IntKind.bits .i64) (q : Int)).toNat : Int) = ((dropB p q : Nat) : Int) := andNotB hp hq
theorem bitI {p : Nat} (hp : p < 4611686018427387904) (k : Nat) (hk : k < 64) : IntKind.wrap .i64 ((BitVec.ofInt (IntKind.bits .i64) ((p : Int).fdiv (2 ^ (min k (IntKind.bits .i64)))) &&& BitVec.ofInt (IntKind.bits .i64) 1).toNat : Int) = ((if p.testBit k = true then 1 else 0 : Nat) : Int) := by
  rw [← bit_eq]; exact bitB hp k hk
theorem cnt_step (p k : Nat) : ((cntK p k : Nat) : Int) + ((if p.testBit k = true then 1 else 0 : Nat) : Int) = ((cntK p (k + 1) : Nat) : Int) := by
  rw [cntK]; omega
theorem count_ok (p : Nat) (hp : p < 4611686018427387904) : OKv cx 60 [ai p] (ai (cntF p)) := by
  refine OKat.of_body (rs := [2]) Tryz.func60 rfl (by decide +kernel) rfl (by simp [Tryz.ntmps60]) ?_
  simp only [Tryz.ntmps60]
  repeat' first
    | apply jA | apply jB | apply jD | apply jI
    | ((apply jK kO; decide); (simp (disch := omega) only [push_cast, simprocAttr] <;> rfl))

  refine AW.loop (fun n s => ∃ (k : Nat), n = 12 - k ∧ (k ≤ 12) ∧ s.tm 0 = ai p ∧ s.tm 3 = ai (cntK p k) ∧ s.tm 5 = ai k) (12) ⟨0, rfl, (by omega), ?_, ?_, ?_⟩ ?_
  iterate 3 (first | (simp (disch := omega) only [push_cast, simprocAttr, cntK] <;> first | rfl | omega) | omega)
  rintro n s ⟨k, hn, hp0, hS⟩
  by_cases hk : k < 12
  · have hkI : (k : Int) < 12 := by omega
    have hb := bitI hp k (by omega)
    have hs := cnt_step p k
    have hle := cntK_le p (k + 1)
    repeat' first
      | apply jA | apply jB | apply jD | apply jE | apply jI
      | ((first | (apply jK kO; decide) | apply jR); (simp (disch := omega) only [push_cast, simprocAttr, hS, hkI, hb, hs] <;> rfl); all_goals try ((with_reducible intro hI); try first | (cases hI; done) | (simp only [INTS, zL] at hI; try first | (exfalso; omega) | (have hT : True := hI; clear hT hI))))

    all_goals (refine ⟨12 - (k + 1), ?_, k + 1, rfl, (by omega), ?_, ?_, ?_⟩; (omega); all_goals first | (simp (disch := omega) only [push_cast, simprocAttr, hS, hkI, hb, hs] <;> first | rfl | omega) | omega)
  have hkI : ¬ (k : Int) < 12 := by omega
  have hkS : k = 12 := by omega
  subst hkS
  repeat' first
    | apply jA | apply jB | apply jC | apply jF | apply jI
    | ((first | (apply jK kO; decide) | apply jR); (simp (disch := omega) only [push_cast, simprocAttr, hS, hkI] <;> rfl); all_goals try ((with_reducible intro hI); try first | (cases hI; done) | (simp only [INTS, zL] at hI; try first | (exfalso; omega) | (have hT : True := hI; clear hT hI))))
    | ((apply W.ret1); (iterate 2 (try (simp (disch := omega) only [push_cast, simprocAttr, hS, hkI] <;> rfl))))

  all_goals (show _ = _; rfl)
end Go.Proofs.Ds

namespace Go.Proofs.Ds
open Go Go.Pg Go.Proofs Go.Proofs.Yt
def idxG (p : Arc → Bool) : Nat → List Arc → Int
  | _, [] => -1
  | k, x :: l => if p x = true then (k : Int) else idxG p (k + 1) l
theorem idxG_ge (p : Arc → Bool) : ∀ (l : List Arc) (k : Nat), (0 ≤ idxG p k l ↔ l.any p = true) ∧ (idxG p k l = -1 ∨ (k : Int) ≤ idxG p k l)
  | [], k => by simp [idxG]
  | x :: l, k => by
    have ih := idxG_ge p l (k + 1)
    unfold idxG
    by_cases h : p x = true
    · rw [if_pos h]
      refine ⟨?_, .inr (Int.le_refl _)⟩
      simp [h]
    · rw [if_neg h, List.any_cons, Bool.eq_false_iff.2 h, Bool.false_or]
      exact ⟨ih.1, ih.2.imp id (fun h => by omega)⟩
theorem indexA_ok (l : List Arc) (f : FuncId) (p : Arc → Bool) (hl : l.length ≤ 1099511627776) (hp : ∀ x ∈ l, OKv cx f [.agg (eArc x)] (ab (p x))) : OKv cx 75 [lArc l, .clo f []] (ai (idxG p 0 l)) := by
  obtain ⟨R, hR⟩ : ∃ z, idxG p 0 l = z := ⟨_, rfl⟩
  rw [hR]
  refine OKat.of_body (rs := [4]) Tryz.func75 rfl (by decide +kernel) rfl (by simp [Tryz.ntmps75]) ?_
  simp only [Tryz.ntmps75]
  repeat' first
    | apply jA | apply jB | apply jD | apply jI
    | ((apply jK kO; decide); (simp (disch := omega) only [push_cast, simprocAttr] <;> rfl))

  refine AW.loop (fun n s => ∃ (k : Nat) (rest : List Arc), n = rest.length ∧ (l.drop k = rest) ∧ (idxG p k rest = R) ∧ s.tm 0 = lArc l ∧ s.tm 1 = .clo f [] ∧ s.tm 7 = lArc l ∧ s.tm 8 = ai l.length ∧ s.tm 9 = ai k) (l.length) ⟨0, l, rfl, rfl, hR, ?_, ?_, ?_, ?_, ?_⟩ ?_
  iterate 5 (first | (simp (disch := omega) only [push_cast, simprocAttr] <;> first | rfl | omega) | omega)
  rintro n s ⟨k, rest, hn, hp0, hp1, hS⟩
  rcases rest with _ | ⟨x, rest⟩
  · have hk := drop_nil hp0
    unfold idxG at hp1
    subst hp1
    repeat' first
      | apply jA | apply jB | apply jC | apply jF | apply jI
      | ((first | (apply jK kO; decide) | apply jR); (simp (disch := omega) only [push_cast, simprocAttr, hS, hk] <;> rfl); all_goals try ((with_reducible intro hI); try first | (cases hI; done) | (simp only [INTS, zL] at hI; try first | (exfalso; omega) | (have hT : True := hI; clear hT hI))))
      | ((apply W.ret1); (iterate 2 (try (simp (disch := omega) only [push_cast, simprocAttr, hS, hk] <;> rfl))))

    all_goals (show _ = _; rfl)
  · obtain ⟨hk, hg, hd', hl', hm', hx⟩ := drop_cons hp0 eArc []
    have hc := hp x hm'
    unfold idxG at hp1
    cases hq : p x with
    | true =>
      rw [hq, if_pos rfl] at hp1
      rw [hq] at hc
      subst hp1
      repeat' first
        | apply jA | apply jB | apply jC | apply jD | apply jE | apply jI
        | ((first | (apply jK kO; decide) | apply jM kO | apply jR); (simp (disch := omega) only [push_cast, simprocAttr, hS, hk, hg, hx, natNe, zI, zG, TyD.isAgg, zJ] <;> rfl); all_goals try ((with_reducible intro hI); try first | (cases hI; done) | (simp only [INTS, zL] at hI; try first | (exfalso; omega) | (have hT : True := hI; clear hT hI))))
        | ((apply jV kO; decide); (iterate 2 (simp (disch := omega) only [push_cast, simprocAttr, hS, hk, hg, hx, natNe, zI, zG, TyD.isAgg, zJ] <;> rfl)); (with_reducible exact hc); try first | rfl | (simp (disch := omega) only [push_cast, simprocAttr, hS, hk, hg, hx, natNe, zI, zG, TyD.isAgg, zJ] <;> rfl))
        | ((apply W.ret1); (iterate 2 (try (simp (disch := omega) only [push_cast, simprocAttr, hS, hk, hg, hx, natNe, zI, zG, TyD.isAgg, zJ] <;> rfl))))

      all_goals (show _ = _; rfl)
    | false =>
      rw [hq, if_neg (by decide)] at hp1
      rw [hq] at hc
      repeat' first
        | apply jA | apply jB | apply jD | apply jE | apply jI
        | ((first | (apply jK kO; decide) | apply jM kO | apply jR); (simp (disch := omega) only [push_cast, simprocAttr, hS, hk, hg, hx, natNe, zI, zG, TyD.isAgg, zJ] <;> rfl); all_goals try ((with_reducible intro hI); try first | (cases hI; done) | (simp only [INTS, zL] at hI; try first | (exfalso; omega) | (have hT : True := hI; clear hT hI))))
        | ((apply jV kO; decide); (iterate 2 (simp (disch := omega) only [push_cast, simprocAttr, hS, hk, hg, hx, natNe, zI, zG, TyD.isAgg, zJ] <;> rfl)); (with_reducible exact hc); try first | rfl | (simp (disch := omega) only [push_cast, simprocAttr, hS, hk, hg, hx, natNe, zI, zG, TyD.isAgg, zJ] <;> rfl))

      all_goals (refine ⟨rest.length, ?_, k + 1, rest, rfl, hd', hp1, ?_, ?_, ?_, ?_, ?_⟩; ((simp only [List.length_cons] at *; omega)); all_goals first | (simp (disch := omega) only [push_cast, simprocAttr, hS, hk, hg, hx, natNe, zI, zG, TyD.isAgg, zJ] <;> first | rfl | omega) | omega)
theorem accept1_ok (x : Arc) : OKv cx 76 [.agg (eArc x)] (ab (!validA x)) := by
  have c1 := ValidArc_ok x
  refine OKat.of_body (rs := [2]) Tryz.func76 rfl (by decide +kernel) rfl (by simp [Tryz.ntmps76]) ?_
  simp only [Tryz.ntmps76]
  repeat' first
    | apply jA | apply jB | apply jC | apply jI
    | ((apply jK kO; decide); (simp (disch := omega) only [push_cast, simprocAttr] <;> rfl))
    | ((apply jV kO; decide); (iterate 2 (simp (disch := omega) only [push_cast, simprocAttr] <;> rfl)); (with_reducible exact c1); try first | rfl | (simp (disch := omega) only [push_cast, simprocAttr] <;> rfl))
    | ((apply W.ret1); (iterate 2 (try (simp (disch := omega) only [push_cast, simprocAttr] <;> rfl))))

  all_goals (show _ = _; rfl)
def checkL (l : List Arc) : Int := if 200 < l.length then 2 else if l.all validA = true then 0 else 1
theorem acceptable_ok (l : List Arc) (hl : l.length ≤ 1099511627776) : OKv cx 65 [lArc l] (ai (checkL l)) := by
  have c1 := indexA_ok l 76 (fun x => !validA x) hl fun x _ => accept1_ok x
  unfold checkL
  by_cases h : 200 < l.length
  · have hI : (200 : Int) < (l.length : Int) := by omega
    rw [if_pos h]
    refine OKat.of_body (rs := [2]) Tryz.func65 rfl (by decide +kernel) rfl (by simp [Tryz.ntmps65]) ?_
    simp only [Tryz.ntmps65]
    repeat' first
      | apply jA | apply jB | apply jC | apply jI
      | ((first | (apply jK kO; decide) | apply jR); (simp (disch := omega) only [push_cast, simprocAttr, hI] <;> rfl); all_goals try ((with_reducible intro hI); try first | (cases hI; done) | (simp only [INTS, zL] at hI; try first | (exfalso; omega) | (have hT : True := hI; clear hT hI))))
      | ((apply W.ret1); (iterate 2 (try (simp (disch := omega) only [push_cast, simprocAttr, hI] <;> rfl))))

    all_goals (show _ = _; rfl)
  · have hI : ¬ (200 : Int) < (l.length : Int) := by omega
    rw [if_neg h]
    obtain ⟨g1, g2⟩ := idxG_ge (fun x => !validA x) l 0
    obtain ⟨R, hR⟩ : ∃ z, idxG (fun x => !validA x) 0 l = z := ⟨_, rfl⟩
    rw [hR] at c1 g1 g2
    have hall : (l.any fun x => !validA x) = !l.all validA := by rw [List.not_all_eq_any_not]
    rw [hall] at g1
    by_cases hq : 0 ≤ R
    · have ha : l.all validA = false := by simpa using g1.1 hq
      rw [ha, if_neg (by decide)]
      refine OKat.of_body (rs := [2]) Tryz.func65 rfl (by decide +kernel) rfl (by simp [Tryz.ntmps65]) ?_
      simp only [Tryz.ntmps65]
      repeat' first
        | apply jA | apply jB | apply jC | apply jE | apply jI
        | ((first | (apply jK kO; decide) | apply jR); (simp (disch := omega) only [push_cast, simprocAttr, hI, hq] <;> rfl); all_goals try ((with_reducible intro hI); try first | (cases hI; done) | (simp only [INTS, zL] at hI; try first | (exfalso; omega) | (have hT : True := hI; clear hT hI))))
        | ((apply jV kO; decide); (iterate 2 (simp (disch := omega) only [push_cast, simprocAttr, hI, hq] <;> rfl)); (with_reducible exact c1); try first | rfl | (simp (disch := omega) only [push_cast, simprocAttr, hI, hq] <;> rfl))
        | ((apply W.ret1); (iterate 2 (try (simp (disch := omega) only [push_cast, simprocAttr, hI, hq] <;> rfl))))

      all_goals (show _ = _; rfl)
    · have ha : l.all validA = true := by
        cases hv : l.all validA with
        | true => rfl
        | false => rw [hv] at g1; exact absurd (g1.2 rfl) hq
      rw [ha, if_pos rfl]
      refine OKat.of_body (rs := [2]) Tryz.func65 rfl (by decide +kernel) rfl (by simp [Tryz.ntmps65]) ?_
      simp only [Tryz.ntmps65]
      repeat' first
        | apply jA | apply jB | apply jC | apply jE | apply jI
        | ((first | (apply jK kO; decide) | apply jR); (simp (disch := omega) only [push_cast, simprocAttr, hI, hq] <;> rfl); all_goals try ((with_reducible intro hI); try first | (cases hI; done) | (simp only [INTS, zL] at hI; try first | (exfalso; omega) | (have hT : True := hI; clear hT hI))))
        | ((apply jV kO; decide); (iterate 2 (simp (disch := omega) only [push_cast, simprocAttr, hI, hq] <;> rfl)); (with_reducible exact c1); try first | rfl | (simp (disch := omega) only [push_cast, simprocAttr, hI, hq] <;> rfl))
        | ((apply W.ret1); (iterate 2 (try (simp (disch := omega) only [push_cast, simprocAttr, hI, hq] <;> rfl))))

      all_goals (show _ = _; rfl)
end Go.Proofs.Ds

namespace Go.Proofs.Ds
open Go Go.Pg Go.Proofs Go.Proofs.Yt
theorem viewLL_ints (H : Nat → Option AO) (l : List Int) : viewLL H (l.map eInt) = some (l.map eInt) := viewLL_map H eInt (fun _ => rfl) l
theorem pure_ints (l : List Int) : (l.map eInt).all pureL = true := pure_map (fun _ => rfl) l
theorem idsLL_ints (l : List Int) : idsLL (l.map eInt) = [] := idsLL_map eInt (fun _ => rfl) l
theorem all_ints (l : List Int) : (∀ c ∈ l.map eInt, c.length = 1) = True := eq_true fun c hc => by obtain ⟨x, _, rfl⟩ := List.mem_map.1 hc; rfl
theorem viewLL_arcs (H : Nat → Option AO) (l : List Arc) : viewLL H (l.map eArc) = some (l.map eArc) := viewLL_map H eArc (fun _ => rfl) l
theorem pure_arcs (l : List Arc) : (l.map eArc).all pureL = true := pure_map (fun _ => rfl) l
theorem idsLL_arcs (l : List Arc) : idsLL (l.map eArc) = [] := idsLL_map eArc (fun _ => rfl) l
theorem all_arcs (l : List Arc) : (∀ c ∈ l.map eArc, c.length = 2) = True := eq_true fun c hc => by obtain ⟨x, _, rfl⟩ := List.mem_map.1 hc; rfl
theorem viewLL_spans (H : Nat → Option AO) (l : List Span) : viewLL H (l.map eSpan) = some (l.map eSpan) := viewLL_map H eSpan (fun _ => rfl) l
theorem pure_spans (l : List Span) : (l.map eSpan).all pureL = true := pure_map (fun _ => rfl) l
theorem idsLL_spans (l : List Span) : idsLL (l.map eSpan) = [] := idsLL_map eSpan (fun _ => rfl) l
theorem all_spans (l : List Span) : (∀ c ∈ l.map eSpan, c.length = 2) = True := eq_true fun c hc => by obtain ⟨x, _, rfl⟩ := List.mem_map.1 hc; rfl
theorem viewLL_keys (H : Nat → Option AO) (l : List Key) : viewLL H (l.map eKey) = some (l.map eKey) := viewLL_map H eKey (fun _ => rfl) l
theorem pure_keys (l : List Key) : (l.map eKey).all pureL = true := pure_map (fun _ => rfl) l
theorem idsLL_keys (l : List Key) : idsLL (l.map eKey) = [] := idsLL_map eKey (fun _ => rfl) l
theorem all_keys (l : List Key) : (∀ c ∈ l.map eKey, c.length = 3) = True := eq_true fun c hc => by obtain ⟨x, _, rfl⟩ := List.mem_map.1 hc; rfl
theorem viewLL_marks (H : Nat → Option AO) (l : List Mark) : viewLL H (l.map eMark) = some (l.map eMark) := viewLL_map H eMark (fun _ => rfl) l
theorem pure_marks (l : List Mark) : (l.map eMark).all pureL = true := pure_map (fun _ => rfl) l
theorem idsLL_marks (l : List Mark) : idsLL (l.map eMark) = [] := idsLL_map eMark (fun _ => rfl) l
theorem all_marks (l : List Mark) : (∀ c ∈ l.map eMark, c.length = 5) = True := eq_true fun c hc => by obtain ⟨x, _, rfl⟩ := List.mem_map.1 hc; rfl
theorem viewLL_pairs (H : Nat → Option AO) (l : List (Int × Int)) : viewLL H (l.map ePair) = some (l.map ePair) := viewLL_map H ePair (fun _ => rfl) l
theorem pure_pairs (l : List (Int × Int)) : (l.map ePair).all pureL = true := pure_map (fun _ => rfl) l
theorem idsLL_pairs (l : List (Int × Int)) : idsLL (l.map ePair) = [] := idsLL_map ePair (fun _ => rfl) l
theorem all_pairs (l : List (Int × Int)) : (∀ c ∈ l.map ePair, c.length = 2) = True := eq_true fun c hc => by obtain ⟨x, _, rfl⟩ := List.mem_map.1 hc; rfl
theorem takeM {α β : Type} (f : α → β) (l : List α) (k : Nat) : (l.map f).take k = (l.take k).map f := List.map_take.symm
theorem dropM {α β : Type} (f : α → β) (l : List α) (k : Nat) : (l.map f).drop k = (l.drop k).map f := List.map_drop.symm
theorem getD_eInt (l : List Int) (k : Nat) (h : k < l.length) : (l.map eInt).getD k [] = [ai (l.getD k 0)] := getD_map eInt l k [] 0 h
theorem get_eInt (l : List Int) (k : Nat) (h : k < l.length) : (l.map eInt)[k]? = some [ai (l.getD k 0)] := get_map eInt l k 0 h
theorem rowAt_frzG (H : Nat → Option AO) (ids : List Nat) (j : Nat) : Pg.rowAt (frz' H ids) j = if j ∈ ids then (Pg.rowAt H j).map (fun r => { r with fro := true }) else Pg.rowAt H j := by
  unfold frz' frz Pg.rowAt
  cases ids with
  | nil => simp
  | cons i ids =>
    simp only [List.isEmpty_cons, Bool.false_eq_true, if_false]
    by_cases h : j ∈ i :: ids
    · simp only [h, if_true]
      cases hh : H j with
      | none => rfl
      | some o => cases o <;> rfl
    · simp only [h, if_false]
theorem isEmpty_map {α β : Type} (f : α → β) (l : List α) : (l.map f).isEmpty = l.isEmpty := by cases l <;> rfl
theorem lo_len {α : Type} (l : List α) : (if l.isEmpty = true then 0 else l.length) = l.length := by cases l <;> rfl
theorem lo_gen {α : Type} (l : List α) (a b : Nat) (h : l.length = 0 → a = b) : (if l.isEmpty = true then a else b) = b := by
  split
  · rename_i he; exact h (by rw [List.isEmpty_iff.1 he]; rfl)
  · rfl
theorem leT {a b : Nat} (h : a ≤ b) : (a ≤ b) = True := eq_true h
theorem maxNx (a : Nat) : max a (a + 1) = a + 1 := by omega
attribute [push_cast] all_ints viewLL_ints pure_ints idsLL_ints all_arcs viewLL_arcs pure_arcs idsLL_arcs all_spans viewLL_spans pure_spans idsLL_spans all_keys viewLL_keys pure_keys idsLL_keys all_marks viewLL_marks pure_marks idsLL_marks all_pairs viewLL_pairs pure_pairs idsLL_pairs maxNx get_eInt getD_eInt isEmpty_map lo_len lo_gen rowAt_frzG List.map_set List.length_set List.drop_zero Nat.zero_le List.mem_cons List.not_mem_nil or_false or_self Nat.add_assoc List.length_append List.map_append List.append_assoc List.isEmpty_cons List.isEmpty_nil List.map_cons List.map_nil List.length_cons List.length_nil List.nil_append List.cons_append
theorem rowAt_eqH {H H' : Nat → Option AO} {i : Nat} (h : H' i = H i) : Pg.rowAt H' i = Pg.rowAt H i := by unfold Pg.rowAt; rw [h]
end Go.Proofs.Ds
