/-
  Contracts of functions, proved by going through their code. No conditions.
-/
import Derived.Lib.LaidTab
import Derived.Lib.ItoaNum
import Derived.Shelf.Strconv.Itoa3
import Derived.Test.YtkdiplkmcilkmaaGreatDoorTab
import Derived.Test.YtkdiplkmcilkmaaGreatDoorTag
import Derived.Test.YtkdiplkmcilkmaaGreatDoorTak
import Derived.Test.YtkdiplkmcilkmaaGreatDoorTal
set_option linter.unusedVariables false
set_option linter.unusedSimpArgs false
namespace Go.Proofs.Ds
theorem piecesF_arcS {s : Span} (h : s.hi ≤ 43199) : piecesF (arcS s) = [s] := by
  obtain ⟨lo, hi⟩ := s
  unfold piecesF arcS
  dsimp only at h ⊢
  rw [if_pos (by omega)]
  have : lo + (hi - lo) = hi := by omega
  rw [this]
theorem arcS_valid {s : Span} (h0 : 0 ≤ s.lo) (h1 : s.lo ≤ s.hi) (h2 : s.hi ≤ 43199) : validA (arcS s) = true :=
  validA_iff.2 ⟨h0, by unfold arcS; dsimp only; omega, by unfold arcS; dsimp only; omega, by unfold arcS; dsimp only; omega, by unfold arcS; dsimp only; omega⟩
theorem bumpF_spec {h : Int} (hh : 0 ≤ h) : ∀ l : List Span, l ≠ [] → canon l → inC l → (∀ s ∈ l, h + 1 < s.lo) → (l.getD (l.length - 1) default).hi = 43199 →
    (∀ x ∈ bumpF h l, validA x = true) ∧ ∀ x, memS x (piecesL (bumpF h l)) ↔ memS x l ∨ (0 ≤ x ∧ x ≤ h)
  | [], hn, _, _, _, _ => absurd rfl hn
  | [s], _, hc, hi, hs, hl => by
    have h1 := hs s (by simp)
    have h2 : s.hi = 43199 := hl
    have h3 := (canon_cons.1 hc).1
    refine ⟨fun x hx => ?_, fun x => ?_⟩
    · simp [bumpF] at hx
      subst hx
      exact validA_iff.2 ⟨by dsimp only; omega, by dsimp only; omega, by dsimp only; omega, by dsimp only; omega, .inl (by dsimp only; omega)⟩
    · have e : piecesL (bumpF h [s]) = [⟨s.lo, 43199⟩, ⟨0, h⟩] := by
        unfold piecesL bumpF piecesF
        simp only [List.flatMap_cons, List.flatMap_nil, List.append_nil]
        rw [if_neg (by omega)]
        have : s.lo + (s.hi - s.lo + 1 + h) - 43200 = h := by omega
        rw [this]
      rw [e, memS_cons, memS_cons, memS_cons]
      dsimp only
      rw [h2]
      constructor
      · rintro (g | g | g)
        · exact .inl (.inl g)
        · exact .inr g
        · exact absurd g memS_nil
      · rintro ((g | g) | g)
        · exact .inl g
        · exact absurd g memS_nil
        · exact .inr (.inl g)
  | s :: t :: l, _, hc, hi, hs, hl => by
    obtain ⟨c1, c2, c3⟩ := canon_cons.1 hc
    obtain ⟨h1, h2⟩ := bumpF_spec hh (t :: l) (by simp) c3 (fun u hu => hi u (by simp [hu])) (fun u hu => hs u (by simp [hu])) (by simpa using hl)
    have hsi := hi s (by simp)
    refine ⟨fun x hx => ?_, fun x => ?_⟩
    · rw [bumpF] at hx
      rcases List.mem_cons.1 hx with rfl | hx
      · exact arcS_valid hsi.1 c1 hsi.2
      · exact h1 x hx
    · have e : piecesL (bumpF h (s :: t :: l)) = s :: piecesL (bumpF h (t :: l)) := by
        unfold piecesL
        rw [bumpF, List.flatMap_cons, piecesF_arcS hsi.2]; rfl
      rw [e, memS_cons, h2, memS_cons (s := s)]
      constructor
      · rintro (g | g | g)
        · exact .inl (.inl g)
        · exact .inl (.inr g)
        · exact .inr g
      · rintro ((g | g) | g)
        · exact .inl g
        · exact .inr (.inl g)
        · exact .inr (.inr g)
theorem piecesL_map : ∀ {l : List Span}, inC l → piecesL (l.map arcS) = l
  | [], _ => rfl
  | s :: l, h => by
    unfold piecesL
    rw [List.map_cons, List.flatMap_cons, piecesF_arcS (h s (by simp)).2]
    have := piecesL_map (l := l) fun t ht => h t (by simp [ht])
    unfold piecesL at this
    rw [this]; rfl
theorem arcsF_spec {l : List Span} (hc : canon l) (hi : inC l) : (∀ x ∈ arcsF l, validA x = true) ∧ ∀ x, memS x (piecesL (arcsF l)) ↔ memS x l := by
  unfold arcsF
  by_cases e : around l = true
  · rw [if_pos e]
    unfold around at e
    simp only [Bool.and_eq_true, decide_eq_true_eq] at e
    obtain ⟨⟨e1, e2⟩, e3⟩ := e
    match l, e1, e2, e3, hc, hi with
    | s :: t :: l, _, e2, e3, hc, hi =>
      have e2' : s.lo = 0 := e2
      obtain ⟨c1, c2, c3⟩ := canon_cons.1 hc
      have hs0 : (s :: t :: l).getD 0 default = s := rfl
      rw [hs0]
      obtain ⟨h1, h2⟩ := bumpF_spec (h := s.hi) (by omega) (t :: l) (by simp) c3 (fun u hu => hi u (by simp [hu])) c2 (by simpa using e3)
      refine ⟨h1, fun x => ?_⟩
      show memS x (piecesL (bumpF s.hi (t :: l))) ↔ _
      rw [h2, memS_cons (s := s), e2']
      exact Or.comm
  · rw [if_neg e]
    refine ⟨fun x hx => ?_, fun x => by rw [piecesL_map hi]⟩
    obtain ⟨s, hs, rfl⟩ := List.mem_map.1 hx
    exact arcS_valid (hi s hs).1 (hc.2 s hs) (hi s hs).2
theorem spans_arcs {l : List Span} (hc : canon l) (hi : inC l) : spansS (arcsF l) = l := by
  obtain ⟨h1, h2⟩ := arcsF_spec hc hi
  obtain ⟨g1, _, g3⟩ := spans_spec h1
  exact canon_ext g1 hc fun x => by rw [g3, h2]
theorem hasF_iff {x : Arc} (h : validA x = true) (a : Int) : hasF x a = true ↔ memS (angF a) (piecesF x) := by
  obtain ⟨h1, h2, h3, h4, h5⟩ := validA_iff.1 h
  unfold hasF
  rw [h, Bool.true_and, decide_eq_true_iff]
  have ha := angF_bd a
  have hf : angF x.from_ = x.from_ := by unfold angF; omega
  have hah : aheadF x.from_ a = if x.from_ ≤ angF a then angF a - x.from_ else angF a - x.from_ + 43200 := by
    unfold aheadF
    rw [hf]
    unfold angF at ha ⊢
    split <;> omega
  rw [hah]
  unfold piecesF
  by_cases e : x.from_ + x.len < 43200
  · rw [if_pos e, memS_cons]
    constructor
    · intro g; left; dsimp only; split at g <;> omega
    · rintro (g | g)
      · dsimp only at g; rw [if_pos g.1]; omega
      · exact absurd g memS_nil
  · rw [if_neg e, memS_cons, memS_cons]
    constructor
    · intro g
      dsimp only
      split at g
      · left; omega
      · right; left; omega
    · rintro (g | g | g)
      · dsimp only at g; rw [if_pos g.1]; omega
      · dsimp only at g
        split <;> omega
      · exact absurd g memS_nil
end Go.Proofs.Ds

namespace Go.Proofs.Ds
open Go
theorem wrapN0 {n : Int} (h : -9223372036854775808 ≤ n ∧ n < 9223372036854775808) : IntKind.wrap .i64 n = n := by
  have e : IntKind.wrap .i64 n = if n % 18446744073709551616 ≥ 9223372036854775808 then n % 18446744073709551616 - 18446744073709551616 else n % 18446744073709551616 := by
    simp [IntKind.wrap, IntKind.signed, IntKind.bits]
  rw [e]; split <;> omega
def dropB (p q : Nat) : Nat := p &&& (p ^^^ q)
theorem dropB_bit (p q k : Nat) : (dropB p q).testBit k = (p.testBit k && !q.testBit k) := by
  unfold dropB
  rw [Nat.testBit_and, Nat.testBit_xor]
  cases p.testBit k <;> cases q.testBit k <;> rfl
theorem dropB_le (p q : Nat) : dropB p q ≤ p := Nat.and_le_left
theorem ofInt_nat (p : Nat) : BitVec.ofInt 64 (p : Int) = BitVec.ofNat 64 p := BitVec.ofInt_natCast 64 p
theorem toNat_ofNat64 {p : Nat} (h : p < 18446744073709551616) : (BitVec.ofNat 64 p).toNat = p := by
  rw [BitVec.toNat_ofNat]; exact Nat.mod_eq_of_lt h
theorem andB {p q : Nat} (hp : p < 4611686018427387904) (hq : q < 4611686018427387904) : IntKind.wrap .i64 ((BitVec.ofInt 64 (p : Int) &&& BitVec.ofInt 64 (q : Int)).toNat : Int) = ((p &&& q : Nat) : Int) := by
  rw [ofInt_nat, ofInt_nat, BitVec.toNat_and, toNat_ofNat64 (by omega), toNat_ofNat64 (by omega)]
  have := Nat.and_le_left (n := p) (m := q)
  exact wrapN0 (by omega)
theorem orB {p q : Nat} (hp : p < 4611686018427387904) (hq : q < 4611686018427387904) : IntKind.wrap .i64 ((BitVec.ofInt 64 (p : Int) ||| BitVec.ofInt 64 (q : Int)).toNat : Int) = ((p ||| q : Nat) : Int) := by
  rw [ofInt_nat, ofInt_nat, BitVec.toNat_or, toNat_ofNat64 (by omega), toNat_ofNat64 (by omega)]
  have := Nat.or_lt_two_pow (n := 62) (x := p) (y := q) (by omega) (by omega)
  exact wrapN0 (by omega)
theorem andNotB {p q : Nat} (hp : p < 4611686018427387904) (hq : q < 4611686018427387904) : IntKind.wrap .i64 ((BitVec.ofInt 64 (p : Int) &&& ~~~ BitVec.ofInt 64 (q : Int)).toNat : Int) = ((dropB p q : Nat) : Int) := by
  have e : (BitVec.ofInt 64 (p : Int) &&& ~~~ BitVec.ofInt 64 (q : Int)).toNat = dropB p q := by
    rw [ofInt_nat, ofInt_nat]
    apply Nat.eq_of_testBit_eq
    intro i
    rw [dropB_bit]
    by_cases hi : i < 64
    · rw [BitVec.testBit_toNat, BitVec.getLsbD_and, BitVec.getLsbD_not]
      simp only [hi, decide_true, Bool.true_and]
      rw [BitVec.getLsbD_ofNat, BitVec.getLsbD_ofNat]
      simp [hi]
    · rw [BitVec.testBit_toNat, BitVec.getLsbD_of_ge _ _ (by omega)]
      have : p.testBit i = false := Nat.testBit_lt_two_pow (Nat.lt_of_lt_of_le (by omega : p < 2 ^ 62) (Nat.pow_le_pow_right (by decide) (by omega)))
      rw [this]; rfl
  rw [e]
  have := dropB_le p q
  exact wrapN0 (by omega)
theorem bitB {p : Nat} (hp : p < 4611686018427387904) (k : Nat) (hk : k < 64) : IntKind.wrap .i64 ((BitVec.ofInt 64 ((p : Int).fdiv (2 ^ (min k 64))) &&& BitVec.ofInt 64 1).toNat : Int) = ((p >>> k &&& 1 : Nat) : Int) := by
  have e : (p : Int).fdiv (2 ^ (min k 64)) = ((p >>> k : Nat) : Int) := by
    rw [Nat.min_eq_left (by omega), Nat.shiftRight_eq_div_pow, Int.fdiv_eq_ediv_of_nonneg _ (by exact_mod_cast Nat.zero_le _)]
    norm_cast
  have h1 : p >>> k ≤ p := Nat.shiftRight_le _ _
  rw [e]
  exact andB (q := 1) (by omega) (by decide)
def cntK (p : Nat) : Nat → Nat
  | 0 => 0
  | k + 1 => cntK p k + (if p.testBit k = true then 1 else 0)
def cntF (p : Nat) : Nat := cntK p 12
theorem bit_eq (p k : Nat) : (p >>> k &&& 1 : Nat) = if p.testBit k = true then 1 else 0 := by
  rw [Nat.testBit_eq_decide_div_mod_eq, Nat.shiftRight_eq_div_pow, Nat.and_one_is_mod]
  rcases Nat.mod_two_eq_zero_or_one (p / 2 ^ k) with h | h <;> simp [h]
theorem cntK_le (p : Nat) : ∀ k, cntK p k ≤ k
  | 0 => Nat.le_refl _
  | k + 1 => by
    have := cntK_le p k
    unfold cntK
    split <;> omega
end Go.Proofs.Ds

namespace Go.Proofs.Ds
open Go
theorem and_lt {p q : Nat} (h : p < 4096) : p &&& q < 4096 := Nat.lt_of_le_of_lt Nat.and_le_left h
theorem drop_lt {p q : Nat} (h : p < 4096) : dropB p q < 4096 := Nat.lt_of_le_of_lt (dropB_le p q) h
end Go.Proofs.Ds

namespace Go.Proofs.Dz
open Go Go.Pg Go.Proofs Go.Proofs.Ds
def Tabs (w : World) : Prop := Lib.TabIs Tryz.prog w "internal/strconv.uint64pow10" .u64 Lib.pow10Tab
theorem Tabs.mono {w w' : World} (hb : RowKit.Below w.heap.size w w') (h : Tabs w) : Tabs w' := by
  unfold Tabs Lib.TabIs World.var? at h ⊢
  cases hg : Tryz.prog.globalNamed "internal/strconv.uint64pow10" with
  | none => rw [hg] at h; cases h
  | some g =>
    rw [hg] at h
    simp only [Option.bind_some] at h ⊢
    have hlt : g < w.heap.size := by
      rcases Nat.lt_or_ge g w.heap.size with h' | h'
      · exact h'
      · rw [Array.getElem?_eq_none h'] at h; cases h
    rw [hb.block g hlt]; exact h
noncomputable def cx : Cx := { P := Tryz.prog, T := T, eqT := eqT, E := Tabs }
instance : Cx.Wide cx := ⟨rfl⟩
theorem cx_ok : cx.OK := ⟨T_ok, eqT_ok, fun _ _ hb h => h.mono hb⟩
theorem cx_mixed : cx.P.follows .mixedOrders = true := rfl
abbrev ai (n : Int) : AV := .v (.int .i64 n)
abbrev ab (b : Bool) : AV := .v (.bool b)
abbrev at_ (b : ByteArray) : AV := .v (.string b)
structure Key where
  id : Int
  track : Int
  pat : Int
  deriving DecidableEq, Inhabited
structure Mark where
  arc : Arc
  track : Int
  seen : Int
  blank : Int
  deriving DecidableEq, Inhabited
structure Ink where
  faint : Int
  stray : Int
  slip : Int
  deriving DecidableEq, Inhabited
structure Blow where
  miss : Int
  dirt : Int
  shift : Int
  deriving DecidableEq, Inhabited
abbrev eArc (x : Arc) : List AV := [ai x.from_, ai x.len]
abbrev lArc (l : List Arc) : AV := .lst (l.map eArc)
abbrev eSpan (s : Span) : List AV := [ai s.lo, ai s.hi]
abbrev lSpan (l : List Span) : AV := .lst (l.map eSpan)
abbrev eKey (k : Key) : List AV := [ai k.id, ai k.track, ai k.pat]
abbrev eMark (m : Mark) : List AV := [ai m.arc.from_, ai m.arc.len, ai m.track, ai m.seen, ai m.blank]
abbrev lMark (l : List Mark) : AV := .lst (l.map eMark)
abbrev eInk (i : Ink) : List AV := [ai i.faint, ai i.stray, ai i.slip]
abbrev eBlow (b : Blow) : List AV := [ai b.miss, ai b.dirt, ai b.shift]
abbrev eInt (n : Int) : List AV := [ai n]
abbrev ePair (p : Int × Int) : List AV := [ai p.1, ai p.2]
theorem wrapN {n : Int} (h : -9223372036854775808 ≤ n ∧ n < 9223372036854775808) : IntKind.wrap .i64 n = n := by
  have e : IntKind.wrap .i64 n = if n % 18446744073709551616 ≥ 9223372036854775808 then n % 18446744073709551616 - 18446744073709551616 else n % 18446744073709551616 := by
    simp [IntKind.wrap, IntKind.signed, IntKind.bits]
  rw [e]; split <;> omega
theorem maxN {a b : Int} : (if b > a then b else a) = max a b := by rw [Int.max_def]; split <;> split <;> omega
theorem minN {a b : Int} : (if b < a then b else a) = min a b := by rw [Int.min_def]; split <;> split <;> omega
theorem drop_cons {α β : Type} {l : List α} {k : Nat} {x : α} {rest : List α} (h : l.drop k = x :: rest) (e : α → β) (d : β) :
    ((k : Int) < (l.length : Int)) ∧ (l.map e).getD k d = e x ∧ l.drop (k + 1) = rest ∧ rest.length + k + 1 = l.length ∧ x ∈ l ∧ (l.map e)[k]? = some (e x) := by
  have hlt : k < l.length := by
    rcases Nat.lt_or_ge k l.length with h' | h'
    · exact h'
    · rw [List.drop_eq_nil_of_le h'] at h; cases h
  have h0 : l[k]? = some x := by
    have := congrArg (fun m => m[0]?) h
    simpa using this
  refine ⟨by omega, ?_, ?_, ?_, List.mem_of_getElem? h0, by rw [List.getElem?_map, h0]; rfl⟩
  · rw [List.getD_eq_getElem?_getD, List.getElem?_map, h0]; rfl
  · have : l.drop (k + 1) = (l.drop k).drop 1 := by simp
    rw [this, h]; rfl
  · have := congrArg List.length h
    simp at this; omega
theorem drop_nil {α : Type} {l : List α} {k : Nat} (h : l.drop k = []) : ¬ ((k : Int) < (l.length : Int)) := by
  have := List.drop_eq_nil_iff.1 h
  omega
theorem getD_map {α β : Type} (e : α → β) (l : List α) (k : Nat) (d : β) (d' : α) (h : k < l.length) : (l.map e).getD k d = e (l.getD k d') := by
  rw [List.getD_eq_getElem?_getD, List.getElem?_map, List.getElem?_eq_getElem h, List.getD_eq_getElem?_getD, List.getElem?_eq_getElem h]; rfl
theorem get_map {α β : Type} (e : α → β) (l : List α) (k : Nat) (d' : α) (h : k < l.length) : (l.map e)[k]? = some (e (l.getD k d')) := by
  rw [List.getElem?_map, List.getElem?_eq_getElem h, List.getD_eq_getElem?_getD, List.getElem?_eq_getElem h]; rfl
theorem pure_map {α : Type} {e : α → List AV} (h : ∀ x, pureL (e x) = true) (l : List α) : (l.map e).all pureL = true := by
  rw [List.all_eq_true]
  intro x hx
  obtain ⟨y, _, rfl⟩ := List.mem_map.1 hx
  exact h y
attribute [push_cast] cx T eqT wrapN maxN minN
end Go.Proofs.Dz

set_option maxHeartbeats 8000000
set_option maxRecDepth 10000
namespace Go.Proofs.Dz
open Go Go.Pg Go.Proofs Go.Proofs.Ds
theorem tmod_bd (a : Int) : -43200 < a.tmod 43200 ∧ a.tmod 43200 < 43200 := by
  have h1 := Int.tmod_lt_of_pos a (b := 43200) (by decide)
  have h2 := Int.lt_tmod_of_pos a (b := 43200) (by decide)
  omega
theorem Angle_ok (a : Int) : OKv cx 69 [ai a] (ai (angF a)) := by
  obtain ⟨h1, h2⟩ := tmod_bd a
  have ha := ang_prog a
  refine OKat.of_body (rs := [2]) Tryz.func69 rfl (by decide +kernel) rfl (by simp [Tryz.ntmps69]) ?_
  simp only [Tryz.ntmps69]
  repeat' first
    | apply AW.seq | apply AW.region | apply AW.ret | apply AW.block | apply AW.skip | apply AW.exit | apply AW.scope | apply AW.label | apply AWL.nil
    | ((first | (apply W.step cx_ok; decide) | apply AW.cond); (simp (disch := omega) only [push_cast, simprocAttr, ha, h1, h2] <;> rfl); all_goals try ((with_reducible intro hI); try first | (cases hI; done) | (simp only [INTS, not_true_eq_false] at hI; try first | (exfalso; omega) | (have hT : True := hI; clear hT hI))))
    | ((first | apply W.ret1 | apply W.end1); (iterate 2 (try (simp (disch := omega) only [push_cast, simprocAttr, ha, h1, h2] <;> rfl))))

  all_goals (show _ = _; rfl)
theorem Ahead_ok (a b : Int) : OKv cx 32 [ai a, ai b] (ai (aheadF a b)) := by
  have h1 := angF_bd a
  have h2 := angF_bd b
  have c1 := Angle_ok a
  have c2 := Angle_ok b
  have c3 := Angle_ok (angF b - angF a)
  refine OKat.of_body (rs := [4]) Tryz.func32 rfl (by decide +kernel) rfl (by simp [Tryz.ntmps32]) ?_
  simp only [Tryz.ntmps32]
  repeat' first
    | apply AW.seq | apply AW.region | apply AW.ret | apply AW.block | apply AW.skip | apply AW.exit | apply AW.scope | apply AW.label | apply AWL.nil
    | ((first | (apply W.step cx_ok; decide) | apply AW.cond); (simp (disch := omega) only [push_cast, simprocAttr] <;> rfl); all_goals try ((with_reducible intro hI); try first | (cases hI; done) | (simp only [INTS, not_true_eq_false] at hI; try first | (exfalso; omega) | (have hT : True := hI; clear hT hI))))
    | ((apply W.callv cx_ok; decide); (iterate 2 (simp (disch := omega) only [push_cast, simprocAttr] <;> rfl)); (with_reducible first | exact c1 | exact c2 | exact c3); try first | rfl | (simp (disch := omega) only [push_cast, simprocAttr] <;> rfl))
    | ((first | apply W.ret1 | apply W.end1); (iterate 2 (try (simp (disch := omega) only [push_cast, simprocAttr] <;> rfl))))

  all_goals (show _ = _; rfl)
theorem Apart_ok (a b : Int) : OKv cx 33 [ai a, ai b] (ai (apartF a b)) := by
  have c1 := Ahead_ok a b
  have c2 := Ahead_ok b a
  refine OKat.of_body (rs := [4]) Tryz.func33 rfl (by decide +kernel) rfl (by simp [Tryz.ntmps33]) ?_
  simp only [Tryz.ntmps33]
  repeat' first
    | apply AW.seq | apply AW.region | apply AW.ret | apply AW.block | apply AW.skip | apply AW.exit | apply AW.scope | apply AW.label | apply AWL.nil
    | ((first | (apply W.step cx_ok; decide) | apply AW.cond); (simp (disch := omega) only [push_cast, simprocAttr] <;> rfl); all_goals try ((with_reducible intro hI); try first | (cases hI; done) | (simp only [INTS, not_true_eq_false] at hI; try first | (exfalso; omega) | (have hT : True := hI; clear hT hI))))
    | ((apply W.callv cx_ok; decide); (iterate 2 (simp (disch := omega) only [push_cast, simprocAttr] <;> rfl)); (with_reducible first | exact c1 | exact c2); try first | rfl | (simp (disch := omega) only [push_cast, simprocAttr] <;> rfl))
    | ((first | apply W.ret1 | apply W.end1); (iterate 2 (try (simp (disch := omega) only [push_cast, simprocAttr] <;> rfl))))

  all_goals (show _ = _; rfl)
theorem ValidArc_ok (x : Arc) : OKv cx 70 [.agg (eArc x)] (ab (validA x)) := by
  refine OKat.of_body (rs := [2]) Tryz.func70 rfl (by decide +kernel) rfl (by simp [Tryz.ntmps70]) ?_
  simp only [Tryz.ntmps70]
  repeat' first
    | apply AW.seq | apply AW.region | apply AW.ret | apply AW.block | apply AW.skip | apply AW.exit | apply AW.scope | apply AW.label | apply AWL.nil
    | ((first | (apply W.step cx_ok; decide) | (apply W.gS; rfl; decide) | apply AW.cond); (simp (disch := omega) only [push_cast, simprocAttr, Bool.and_self, Bool.and_true, Bool.true_and, Bool.false_and, Bool.and_false, Bool.not_true, Bool.not_false, Bool.false_eq_true] <;> rfl); all_goals try ((with_reducible intro hI); try first | (cases hI; done) | (simp only [INTS, not_true_eq_false] at hI; try first | (exfalso; omega) | (have hT : True := hI; clear hT hI))))
    | ((apply W.gU; rfl; decide); (simp (disch := omega) only [push_cast, simprocAttr, Bool.and_self, Bool.and_true, Bool.true_and, Bool.false_and, Bool.and_false, Bool.not_true, Bool.not_false, Bool.false_eq_true] <;> rfl))
    | ((first | apply W.ret1 | apply W.end1); (iterate 2 (try (simp (disch := omega) only [push_cast, simprocAttr, Bool.and_self, Bool.and_true, Bool.true_and, Bool.false_and, Bool.and_false, Bool.not_true, Bool.not_false, Bool.false_eq_true] <;> rfl))))

  all_goals (first | (show _ = _; rfl) | (refine congrArg (fun b => ab b) ?_; rw [Bool.eq_iff_iff]; unfold validA; simp only [beq_iff_eq, bne_iff_ne, ne_eq, Bool.and_eq_true, Bool.or_eq_true, Bool.not_eq_true, decide_eq_true_eq, decide_eq_false_iff_not, Bool.false_eq_true, eq_self, true_iff, false_iff, iff_true, iff_false, and_true, true_and, and_false, false_and, or_false, false_or, or_true, true_or, not_true_eq_false, not_false_eq_true]; omega))
def inF (n lo hi : Int) : Bool := decide (lo ≤ n) && decide (n ≤ hi)
theorem In_ok (n lo hi : Int) : OKv cx 44 [ai n, ai lo, ai hi] (ab (inF n lo hi)) := by
  refine OKat.of_body (rs := [6]) Tryz.func44 rfl (by decide +kernel) rfl (by simp [Tryz.ntmps44]) ?_
  simp only [Tryz.ntmps44]
  repeat' first
    | apply AW.seq | apply AW.region | apply AW.ret | apply AW.block | apply AW.skip | apply AW.exit | apply AW.scope | apply AW.label | apply AWL.nil
    | ((first | (apply W.step cx_ok; decide) | (apply W.gS; rfl; decide) | apply AW.cond); (simp (disch := omega) only [push_cast, simprocAttr, Bool.and_self, Bool.and_true, Bool.true_and, Bool.false_and, Bool.and_false, Bool.not_true, Bool.not_false, Bool.false_eq_true] <;> rfl); all_goals try ((with_reducible intro hI); try first | (cases hI; done) | (simp only [INTS, not_true_eq_false] at hI; try first | (exfalso; omega) | (have hT : True := hI; clear hT hI))))
    | ((first | apply W.ret1 | apply W.end1); (iterate 2 (try (simp (disch := omega) only [push_cast, simprocAttr, Bool.and_self, Bool.and_true, Bool.true_and, Bool.false_and, Bool.and_false, Bool.not_true, Bool.not_false, Bool.false_eq_true] <;> rfl))))

  all_goals (first | (show _ = _; rfl) | (refine congrArg (fun b => ab b) ?_; rw [Bool.eq_iff_iff]; unfold inF; simp only [beq_iff_eq, bne_iff_ne, ne_eq, Bool.and_eq_true, Bool.or_eq_true, Bool.not_eq_true, decide_eq_true_eq, decide_eq_false_iff_not, Bool.false_eq_true, eq_self, true_iff, false_iff, iff_true, iff_false, and_true, true_and, and_false, false_and, or_false, false_or, or_true, true_or, not_true_eq_false, not_false_eq_true]; omega))
theorem RValidArc_ok (x : Arc) : OKv cx 43 [.agg (eArc x)] (ab (validA x)) := by
  have c1 := In_ok x.from_ 0 43199
  have c2 := In_ok x.len 0 43199
  have hv : validA x = (inF x.from_ 0 43199 && inF x.len 0 43199 && (decide (x.len < 43199) || decide (x.from_ = 0))) := by
    rw [Bool.eq_iff_iff, validA_iff]
    unfold inF
    simp only [Bool.and_eq_true, Bool.or_eq_true, decide_eq_true_eq]
    omega
  rw [hv]
  clear hv
  cases h1 : inF x.from_ 0 43199 <;> rw [h1] at c1 <;> cases h2 : inF x.len 0 43199 <;> rw [h2] at c2
  all_goals
    refine OKat.of_body (rs := [2]) Tryz.func43 rfl (by decide +kernel) rfl (by simp [Tryz.ntmps43]) ?_
    simp only [Tryz.ntmps43]
    repeat' first
      | apply AW.seq | apply AW.region | apply AW.ret | apply AW.block | apply AW.skip | apply AW.exit | apply AW.scope | apply AW.label | apply AWL.nil
      | ((first | (apply W.step cx_ok; decide) | (apply W.gS; rfl; decide) | apply AW.cond); (simp (disch := omega) only [push_cast, simprocAttr, Bool.and_self, Bool.and_true, Bool.true_and, Bool.false_and, Bool.and_false, Bool.not_true, Bool.not_false, Bool.false_eq_true] <;> rfl); all_goals try ((with_reducible intro hI); try first | (cases hI; done) | (simp only [INTS, not_true_eq_false] at hI; try first | (exfalso; omega) | (have hT : True := hI; clear hT hI))))
      | ((apply W.gU; rfl; decide); (simp (disch := omega) only [push_cast, simprocAttr, Bool.and_self, Bool.and_true, Bool.true_and, Bool.false_and, Bool.and_false, Bool.not_true, Bool.not_false, Bool.false_eq_true] <;> rfl))
      | ((apply W.callv cx_ok; decide); (iterate 2 (simp (disch := omega) only [push_cast, simprocAttr, Bool.and_self, Bool.and_true, Bool.true_and, Bool.false_and, Bool.and_false, Bool.not_true, Bool.not_false, Bool.false_eq_true] <;> rfl)); (with_reducible first | exact c1 | exact c2); try first | rfl | (simp (disch := omega) only [push_cast, simprocAttr, Bool.and_self, Bool.and_true, Bool.true_and, Bool.false_and, Bool.and_false, Bool.not_true, Bool.not_false, Bool.false_eq_true] <;> rfl))
      | ((first | apply W.ret1 | apply W.end1); (iterate 2 (try (simp (disch := omega) only [push_cast, simprocAttr, Bool.and_self, Bool.and_true, Bool.true_and, Bool.false_and, Bool.and_false, Bool.not_true, Bool.not_false, Bool.false_eq_true] <;> rfl))))

    all_goals (first | (show _ = _; rfl) | (refine congrArg (fun b => ab b) ?_; rw [Bool.eq_iff_iff]; simp only [beq_iff_eq, bne_iff_ne, ne_eq, Bool.and_eq_true, Bool.or_eq_true, Bool.not_eq_true, decide_eq_true_eq, decide_eq_false_iff_not, Bool.false_eq_true, eq_self, true_iff, false_iff, iff_true, iff_false, and_true, true_and, and_false, false_and, or_false, false_or, or_true, true_or, not_true_eq_false, not_false_eq_true]; omega))
end Go.Proofs.Dz

namespace Go.Pg
open Go Go.RowKit
section
variable {B0 : Nat} {S0 : Fr} {w w' : World} {H : Nat → Option AO} {σ : Sg}
def flatE (es : List (List AV)) : Prop := ∀ e ∈ es, ∀ c ∈ e, ∃ x, c = .v x
theorem repL_flat {σ1 σ2 : Sg} {w1 w2 : World} {cs : List AV} {f : Nat → Option Value} (hf : ∀ c ∈ cs, ∃ x, c = .v x) (h : RepL σ1 w1 cs f) : RepL σ2 w2 cs f := by
  rw [repL_iff'] at h ⊢
  intro i c hc
  obtain ⟨u, h1, h2⟩ := h i c hc
  refine ⟨u, h1, ?_⟩
  obtain ⟨x, rfl⟩ := hf c (List.mem_of_getElem? hc)
  simpa [Rep] using h2
theorem Inv.le_take (hi : Inv B0 S0 w H σ) {id b n k cap : Nat} (hf : H id = none) (hw : Below w.heap.size w w') (hb : w.heap.size ≤ b) : Le σ (σ.push b id n k cap) w w' := by
  refine ⟨fun _ h => h, fun b h => hw.block b (hi.S_lt b h).1, fun b' i h => ?_, fun _ h => .inr h, fun i ha => ?_⟩
  · have hb' := (hi.own_lt b' i h).2
    have hne : i ≠ id := fun e => (hi.fresh id hf).2 b' (e ▸ h)
    refine ⟨hi.al_of_own h, ?_, ?_, ?_⟩
    · simp only [Sg.push]; rw [if_neg (by omega)]; exact h
    · simp only [Sg.push]; rw [if_neg hne]
    · simp only [Sg.push]; rw [if_neg (by omega)]; exact Nat.le_refl _
  · have hne : i ≠ id := fun e => by subst e; exact (hi.al i).1 ha hf
    refine .inl ⟨by simp only [Sg.push]; rw [if_neg hne], by simp only [Sg.push]; rw [if_neg hne], fun b' hb' => ?_⟩
    have hlt : b' < w.heap.size := by
      cases ho : H i with
      | none => exact absurd ho ((hi.al i).1 ha)
      | some o =>
        cases o with
        | row r => exact (hi.own_lt b' i ((hi.row i r ho).cur b' hb').1).2
        | mp kt et es =>
          obtain ⟨b2, _, _, a1, a2, _⟩ := (hi.mp i kt et es ho).cur
          rw [a1] at hb'; cases hb'
          exact (hi.own_lt b' i a2).2
    simp only [Sg.push]; rw [if_neg (by omega)]
theorem Inv.take (hi : Inv B0 S0 w H σ) {id b : Nat} (hf : H id = none) (hB : B0 ≤ w.heap.size) (hw : Below w.heap.size w w') (hb1 : w.heap.size ≤ b) (hb2 : b < w'.heap.size) (r : Row) (cap : Nat) (arr : Array Value)
    (hbl : w'.heap[b]? = some (.cells arr r.ty (0, 0))) (hcap : r.es.length ≤ cap) (hmax : cap ≤ maxLen) (hsz : arr.size = cap * r.k) (hg : r.fro = false) (hlo : r.lo ≤ r.es.length)
    (each : ∀ e ∈ r.es, e.length = r.k ∧ ∀ c ∈ e, c.cell = true) (hflat : flatE r.es)
    {σ' : Sg} (hcon : ∀ i (hi : i < r.es.length), RepL σ' w' r.es[i] (fun j => w'.cell? ⟨b, i * r.k + j, none⟩)) :
    Inv B0 S0 w' (updH H id (.row r)) (σ.push b id r.es.length r.k cap) := by
  have hle := hi.le_take (n := r.es.length) (k := r.k) (cap := cap) hf hw hb1
  have hS : ¬ σ.S b := fun h => by have := (hi.S_lt _ h).1; omega
  have hsize := hw.size
  refine ⟨fun i => ?_, fun i hn => ?_, fun b h => ⟨by have := (hi.S_lt b h).1; omega, (hi.S_lt b h).2⟩, fun b' i h => ?_, fun i r' h => ?_, fun i kt et es h => ?_, S0.mono _ _ _ _ hle hi.fr⟩
  · simp only [Sg.push, updH]
    by_cases e : i = id
    · simp [e]
    · simp [e, hi.al]
  · simp only [updH] at hn
    have e : i ≠ id := fun e => by simp [e] at hn
    rw [if_neg e] at hn
    obtain ⟨h1, h2⟩ := hi.fresh i hn
    refine ⟨by simp only [Sg.push]; rw [if_neg e]; exact h1, fun b' hb => ?_⟩
    simp only [Sg.push] at hb
    split at hb
    · injection hb with hb; exact e hb.symm
    · exact h2 b' hb
  · simp only [Sg.push] at h
    split at h
    · subst b'; exact ⟨by omega, hb2⟩
    · have := hi.own_lt b' i h; exact ⟨this.1, by omega⟩
  · simp only [updH] at h
    by_cases e : i = id
    · subst e
      rw [if_pos rfl] at h; injection h with h; injection h with h; subst h
      have hnew : ∀ b', (σ.push b i r.es.length r.k cap).own b' = some i → b' = b := fun b' hb => by
        simp only [Sg.push] at hb
        split at hb
        · assumption
        · exact absurd hb ((hi.fresh i hf).2 b')
      refine ⟨by simp [Sg.push], by simp [Sg.push], each, hlo, fun b' hb => ?_, fun hc => by simp [Sg.push] at hc, fun b' hb => ?_, fun b' hb j h1 => ?_⟩
      · simp only [Sg.push, if_true] at hb; injection hb with hb; subst hb
        exact ⟨by simp [Sg.push], by simp [Sg.push], by simpa [Sg.push] using hcap, by simpa [Sg.push] using hmax, arr, hbl, by simpa [Sg.push] using hsz⟩
      · have := hnew b' hb; subst this
        exact ⟨.inl (by simp [Sg.push]), by simp [Sg.push], fun h => (by rw [hg] at h; cases h), fun _ => hS⟩
      · simp only [Sg.push, if_true] at hb; injection hb with hb; subst hb
        exact repL_flat (hflat _ (List.getElem_mem h1)) (hcon j h1)
    · rw [if_neg e] at h
      have hr := hi.row i r' h
      have hown : ∀ b', (σ.push b id r.es.length r.k cap).own b' = some i → σ.own b' = some i ∧ b' ≠ b := fun b' hb => by
        simp only [Sg.push] at hb
        split at hb
        · injection hb with hb; exact absurd hb.symm e
        · exact ⟨hb, by assumption⟩
      have hx : ∀ b', b' ≠ b → (σ.push b id r.es.length r.k cap).ext b' = σ.ext b' := fun b' hb => by simp only [Sg.push]; rw [if_neg hb]
      have hcx : (σ.push b id r.es.length r.k cap).cur i = σ.cur i := by simp only [Sg.push]; rw [if_neg e]
      have hax : ∀ b', b' ≠ b → (σ.push b id r.es.length r.k cap).cap b' = σ.cap b' := fun b' hb => by simp only [Sg.push]; rw [if_neg hb]
      refine ⟨by simp only [Sg.push]; rw [if_neg e]; exact hr.len, by simp only [Sg.push]; rw [if_neg e]; exact hr.k, hr.each, hr.lo, fun b' hb => ?_, fun hc => hr.empty (by rw [← hcx]; exact hc), fun b' hb => ?_, fun b' hb j h1 => ?_⟩
      · rw [hcx] at hb
        obtain ⟨a1, a2, a3, a4, ar, a5, a6⟩ := hr.cur b' hb
        have hlt := (hi.own_lt b' i a1).2
        exact ⟨by simp only [Sg.push]; rw [if_neg (by omega)]; exact a1, by rw [hx b' (by omega)]; exact a2, by rw [hax b' (by omega)]; exact a3, by rw [hax b' (by omega)]; exact a4, ar, (hw.block b' hlt).trans a5, by rw [hax b' (by omega)]; exact a6⟩
      · obtain ⟨h1, h2⟩ := hown b' hb
        rw [hx b' h2, hcx]; exact hr.own b' h1
      · rw [hcx] at hb
        refine RepL.mono hle _ _ _ (fun m u hu => ?_) (hr.con b' hb j h1)
        rw [cell_of_heap (w := w) (hw.block b' (hi.own_lt b' i (hr.cur b' hb).1).2)]; exact hu
  · simp only [updH] at h
    by_cases e : i = id
    · subst e; simp at h
    · rw [if_neg e] at h
      have hm := hi.mp i kt et es h
      obtain ⟨b', clock, xs, a1, a2, a3, a4, a5, a6⟩ := hm.cur
      have hlt := (hi.own_lt b' i a2).2
      refine ⟨by simp only [Sg.push]; rw [if_neg e]; exact hm.len, ⟨b', clock, xs, by simp only [Sg.push]; rw [if_neg e]; exact a1, by simp only [Sg.push]; rw [if_neg (by omega)]; exact a2, a3, (hw.block b' hlt).trans a4, a5, RepL.mono hle _ _ _ (fun _ _ h => h) a6⟩, fun b2 hb => ?_⟩
      simp only [Sg.push] at hb
      split at hb
      · injection hb with hb; exact absurd hb.symm e
      · rename_i hne
        obtain ⟨h1, h2⟩ := hm.one b2 hb
        exact ⟨by simp only [Sg.push]; rw [if_neg e]; exact h1, by simp only [Sg.push]; rw [if_neg hne]; exact h2⟩
end
section
variable {C : Cx} {N : Nat} {Q : Exit → St → Prop} {s : St} {ops : Array Oper} {rest : List Oper} {o : Oper}
def NewRow (Qr : Row → Prop) (r : AV) (H : Nat → Option AO) (_ : Nat) : Prop := ∃ i row, r = .ref i 0 row.es.length ∧ rowAt H i = some row ∧ row.fro = false ∧ flatE row.es ∧ row.es ≠ [] ∧ Qr row
end
end Go.Pg

namespace Go.Pg
open Go Go.RowKit
section
variable {B0 : Nat} {S0 : Fr} {w : World} {H : Nat → Option AO} {σ : Sg}
end
section
variable {C : Cx} {N : Nat} {Q : Exit → St → Prop} {s : St}
inductive Told (H : Nat → Option AO) : AV → AV → Prop where
  | view {c d : AV} (h : viewA H c = some d) : Told H c d
  | map {id : Nat} {sh : KSh} {et : TypeId} {es : List (Key × AV)} (h : H id = some (.mp (.fmap sh) et es)) (hp : pureL (es.map (·.2)) = true) : Told H (.map id) (.lmap sh (es.map (·.1)) (es.map (·.2)))
end
end Go.Pg

namespace Go.Pg
open Go Go.RowKit
section
variable {C : Cx} {N : Nat} {Q : Exit → St → Prop} {s : St} {ops : Array Oper} {rest : List Oper} {ty : TypeId} {ps : String} {af : Array Edge} {d : Nat}
variable {H0 : Nat → Option AO} {b : Nat} {tg mk av : List Nat} {Fin : St → Prop} {i : Nat}
theorem natNe {a b : Nat} (h : a ≠ b) : (a = b) = False := eq_false h
end
end Go.Pg
