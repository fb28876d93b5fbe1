/-
  Contracts of functions, proved by going through their code. No conditions.
-/
import Derived.Test.YtmcchoalekmklaaGreatZai
import Derived.Test.YtmcchoalekmklaaGreatZam
set_option linter.unusedVariables false
set_option linter.unusedSimpArgs false
namespace Go.Proofs.Hs
open Go Go.Pg Go.Proofs Go.Proofs.Yt
structure Span where
  lo : Int
  hi : Int
  deriving DecidableEq
structure Room where
  name : ByteArray
  floor : Int
structure Door where
  hours : List Span
  shut : List Span
  deriving DecidableEq
structure Way where
  a : Int
  b : Int
  secs : Int
  back : Int
  door : Int
  deriving DecidableEq
structure House where
  rooms : List Room
  doors : List Door
  ways : List Way
structure Step where
  way : Int
  back : Bool
  at' : Int
  deriving DecidableEq
abbrev eSpan (s : Span) : List AV := [ai s.lo, ai s.hi]
abbrev lSpan (l : List Span) : AV := .lst (l.map eSpan)
abbrev eRoom (r : Room) : List AV := [at_ r.name, ai r.floor]
abbrev eDoor (d : Door) : List AV := [lSpan d.hours, lSpan d.shut]
abbrev eWay (w : Way) : List AV := [ai w.a, ai w.b, ai w.secs, ai w.back, ai w.door]
abbrev eHouse (h : House) : List AV := [.lst (h.rooms.map eRoom), .lst (h.doors.map eDoor), .lst (h.ways.map eWay)]
abbrev eStep (s : Step) : List AV := [ai s.way, ab s.back, ai s.at']
abbrev eInt (n : Int) : List AV := [ai n]
abbrev lInt (l : List Int) : AV := .lst (l.map eInt)
theorem wrapN {n : Int} (h : -9223372036854775808 ≤ n ∧ n < 9223372036854775808) : IntKind.wrap .i64 n = n := by
  have e : IntKind.wrap .i64 n = if n % 18446744073709551616 ≥ 9223372036854775808 then n % 18446744073709551616 - 18446744073709551616 else n % 18446744073709551616 := by
    simp [IntKind.wrap, IntKind.signed, IntKind.bits]
  rw [e]; split <;> omega
theorem tdivN {a b : Int} (h : 0 ≤ a) : a.tdiv b = a / b := Int.tdiv_eq_ediv_of_nonneg h
theorem tmodN {a b : Int} (h : 0 ≤ a) : a.tmod b = a % b := Int.tmod_eq_emod_of_nonneg h
theorem maxN {a b : Int} : (if b > a then b else a) = max a b := by rw [Int.max_def]; split <;> split <;> omega
theorem minN {a b : Int} : (if b < a then b else a) = min a b := by rw [Int.min_def]; split <;> split <;> omega
structure Door.OK (d : Door) : Prop where
  hours : ∀ s ∈ d.hours, 0 ≤ s.lo ∧ s.lo ≤ s.hi ∧ s.hi ≤ 86399
  shut : ∀ s ∈ d.shut, 0 ≤ s.lo ∧ s.lo ≤ s.hi ∧ s.hi ≤ 1073741823
  nh : d.hours.length ≤ 8
  ns : d.shut.length ≤ 8
theorem drop_cons {α β : Type} {l : List α} {k : Nat} {x : α} {rest : List α} (h : l.drop k = x :: rest) (e : α → β) (d : β) :
    ((k : Int) < (l.length : Int)) ∧ (l.map e).getD k d = e x ∧ l.drop (k + 1) = rest ∧ rest.length + k + 1 = l.length ∧ x ∈ l ∧ (l.map e)[k]? = some (e x) := by
  have hlt : k < l.length := by
    rcases Nat.lt_or_ge k l.length with h' | h'
    · exact h'
    · rw [List.drop_eq_nil_of_le h'] at h; cases h
  have h0 : l[k]? = some x := by
    have := congrArg (fun m => m[0]?) h
    simpa using this
  refine ⟨by omega, ?_, ?_, ?_, List.mem_of_getElem? h0, by rw [List.getElem?_map, h0]; rfl⟩
  · rw [List.getD_eq_getElem?_getD, List.getElem?_map, h0]; rfl
  · have : l.drop (k + 1) = (l.drop k).drop 1 := by simp
    rw [this, h]; rfl
  · have := congrArg List.length h
    simp at this; omega
theorem drop_rev {α β : Type} {l : List α} {k : Nat} {x : α} {rest : List α} (h : l.reverse.drop k = x :: rest) (e : α → β) (d : β) :
    ((rest.length : Int) < (l.length : Int)) ∧ (l.map e).getD rest.length d = e x ∧ l.reverse.drop (k + 1) = rest ∧ rest.length + k + 1 = l.length ∧ x ∈ l := by
  obtain ⟨_, _, h3, h4, h5, h6⟩ := drop_cons h e d
  simp only [List.length_reverse] at h4
  refine ⟨by omega, ?_, h3, h4, by simpa using h5⟩
  have : (l.reverse.map e)[k]? = some (e x) := h6
  rw [List.getD_eq_getElem?_getD]
  have h7 : l.reverse[k]? = l[l.length - 1 - k]? := by rw [List.getElem?_reverse (by omega)]
  rw [List.getElem?_map, h7] at this
  rw [List.getElem?_map, show rest.length = l.length - 1 - k by omega, this]; rfl
theorem drop_nil {α : Type} {l : List α} {k : Nat} (h : l.drop k = []) : ¬ ((k : Int) < (l.length : Int)) := by
  have := List.drop_eq_nil_iff.1 h
  omega
attribute [push_cast] cx T eqT eSpan lSpan eRoom eDoor eWay eHouse eStep eInt lInt wrapN tdivN tmodN maxN minN
end Go.Proofs.Hs

set_option maxHeartbeats 8000000
set_option maxRecDepth 10000
namespace Go.Proofs.Hs
open Go Go.Pg Go.Proofs Go.Proofs.Yt
theorem time_ok (t : Int) : OKv cx 32 [ai t] (ab (decide (0 ≤ t) && decide (t ≤ 1073741823))) := by
  refine OKat.of_body (rs := [2]) Tryz.func32 rfl (by decide +kernel) rfl (by simp [Tryz.ntmps32]) ?_
  simp only [Tryz.ntmps32]
  repeat' first
    | apply jA | apply jB | apply jC | apply jI
    | ((first | (apply jK kO; decide) | (apply jN; rfl; decide)); (simp (disch := omega) only [push_cast, simprocAttr] <;> rfl); all_goals try ((with_reducible intro hI); try first | (cases hI; done) | (simp only [INTS] at hI; try first | (exfalso; omega) | (have hT : True := hI; clear hT hI))))
    | ((apply W.ret1); (iterate 2 (try (simp (disch := omega) only [push_cast, simprocAttr] <;> rfl))))
  all_goals (show _ = _; first | (simp [*]; done) | (simp; omega))
theorem index_ok (n m : Int) : OKv cx 51 [ai n, ai m] (ab (decide (0 ≤ n) && decide (n < m))) := by
  refine OKat.of_body (rs := [4]) Tryz.func51 rfl (by decide +kernel) rfl (by simp [Tryz.ntmps51]) ?_
  simp only [Tryz.ntmps51]
  repeat' first
    | apply jA | apply jB | apply jC | apply jI
    | ((first | (apply jK kO; decide) | (apply jN; rfl; decide)); (simp (disch := omega) only [push_cast, simprocAttr] <;> rfl); all_goals try ((with_reducible intro hI); try first | (cases hI; done) | (simp only [INTS] at hI; try first | (exfalso; omega) | (have hT : True := hI; clear hT hI))))
    | ((apply W.ret1); (iterate 2 (try (simp (disch := omega) only [push_cast, simprocAttr] <;> rfl))))
  all_goals (show _ = _; first | (simp [*]; done) | (simp; omega))
end Go.Proofs.Hs

namespace Go.Proofs.Hs
open Go Go.Pg Go.Proofs Go.Proofs.Yt
def over : List Span → Int → Span × Bool
  | [], _ => (⟨0, 0⟩, false)
  | x :: rest, n => if x.lo ≤ n ∧ n ≤ x.hi then (x, true) else over rest n
theorem over_ok (l : List Span) (n0 : Int) (hl : l.length ≤ 1048576) : OKv cx 59 [lSpan l, ai n0] (.tup [.agg (eSpan (over l n0).1), ab (over l n0).2]) := by
  refine OKat.of_bodyC kO (rs := [.cell 4 29, .tmp 5]) Tryz.func59 rfl (by decide +kernel) rfl (by decide) (by simp [Tryz.ntmps59]) ?_
  simp only [Tryz.ntmps59]
  repeat' first
    | apply jA | apply jB | apply jD | apply jI
    | ((apply jK kO; decide); (simp (disch := omega) only [push_cast, simprocAttr] <;> rfl))
  refine AW.loop (fun n s => ∃ (k : Nat) (rest : List Span), n = rest.length ∧ (l.drop k = rest) ∧ (over rest n0 = over l n0) ∧ 1 ≤ s.nx ∧ s.tm 1 = ai n0 ∧ s.tm 4 = .ptr 0 0 0 1 ∧ s.tm 8 = lSpan l ∧ s.tm 9 = ai l.length ∧ s.tm 10 = ai k ∧ Pg.rowAt s.H (0) = some ({ k := 2, es := [[ai 0, ai 0]], ty := 29 })) (l.length) ⟨0, l, rfl, rfl, rfl, ?_, ?_, ?_, ?_, ?_, ?_, ?_⟩ ?_
  iterate 7 (first | (simp (disch := omega) only [push_cast, simprocAttr] <;> first | rfl | omega) | omega)
  rintro n s ⟨k, rest, hn, hp0, hp1, hnl, hS⟩
  have hZ : (0 : Nat) ≠ s.nx ∧ s.nx ≠ (0 : Nat) := by omega
  rcases rest with _ | ⟨x, rest⟩
  · have hk := drop_nil hp0
    repeat' first
      | apply jA | apply jB | apply jC | apply jF | apply jI
      | ((first | (apply jK kO; decide) | apply jM kO | apply jR); (simp (disch := omega) only [push_cast, simprocAttr, hS, hZ, hk] <;> rfl); all_goals try ((with_reducible intro hI); try first | (cases hI; done) | (simp only [INTS] at hI; try first | (exfalso; omega) | (have hT : True := hI; clear hT hI))))
      | ((apply W.retC); (iterate 2 (try (simp (disch := omega) only [push_cast, simprocAttr, hS, hZ, hk] <;> rfl))))
    all_goals (show _ = _; rw [← hp1]; simp [over])
  · obtain ⟨hk, hg, hd', hl', hm, hx⟩ := drop_cons hp0 eSpan []
    repeat' first
      | apply jA | apply jB | apply jC | apply jD | apply jE | apply jI
      | ((first | (apply jK kO; decide) | apply jM kO | (apply jN; rfl; decide) | apply jR); (simp (disch := omega) only [push_cast, simprocAttr, hS, hZ, hk, hg] <;> rfl); all_goals try ((with_reducible intro hI); try first | (cases hI; done) | (simp only [INTS] at hI; try first | (exfalso; omega) | (have hT : True := hI; clear hT hI))))
      | ((apply W.retC); (iterate 2 (try (simp (disch := omega) only [push_cast, simprocAttr, hS, hZ, hk, hg] <;> rfl))))
    all_goals first
      | (show _ = _; rw [← hp1, over, if_pos (by first | omega | (simp_all; done))]; done)
      | (rw [over, if_neg (by first | omega | (simp_all; omega) | (simp_all; done))] at hp1
         (refine ⟨rest.length, ?_, k + 1, rest, rfl, hd', hp1, ?_, ?_, ?_, ?_, ?_, ?_, ?_⟩; ((simp only [List.length_cons] at *; omega)); all_goals first | (simp (disch := omega) only [push_cast, simprocAttr, hS, hZ, hg, hk] <;> first | rfl | omega) | omega))
end Go.Proofs.Hs

namespace Go.Proofs.Hs
open Go Go.Pg Go.Proofs Go.Proofs.Yt
def firstL (t day : Int) : List Span → Option Int
  | [] => none
  | x :: rest => if max t (day + x.lo) ≤ day + x.hi ∧ max t (day + x.lo) ≤ 1073741823 then some (max t (day + x.lo)) else firstL t day rest
def firstD (t : Int) (hours : List Span) : List Int → Option Int
  | [] => none
  | day :: ds => match firstL t day hours with | some n => some n | none => firstD t hours ds
def first (d : Door) (t : Int) : Option Int := firstD t d.hours [t / 86400 * 86400, (t / 86400 + 1) * 86400]
abbrev eOpt (o : Option Int) : AV := .tup [ai (o.getD 0), ab o.isSome]
theorem first_ok (d : Door) (t : Int) (hd : d.OK) (h0 : 0 ≤ t) (h1 : t ≤ 1073741824) : OKv cx 58 [.agg (eDoor d), ai t] (eOpt (first d t)) := by
  have hlen := hd.nh
  refine OKat.of_body (rs := [4, 5]) Tryz.func58 rfl (by decide +kernel) rfl (by simp [Tryz.ntmps58]) ?_
  simp only [Tryz.ntmps58]
  repeat' first
    | apply jA | apply jB | apply jD | apply jI
    | ((apply jK kO; decide); (simp (disch := omega) only [push_cast, simprocAttr, Int.reduceEq] <;> rfl))
  refine AW.loop (fun n s => ∃ (j : Nat) (ds : List Int), n = ds.length ∧ ([t / 86400 * 86400, (t / 86400 + 1) * 86400].drop j = ds) ∧ (firstD t d.hours ds = first d t) ∧ 1 ≤ s.nx ∧ s.tm 1 = ai t ∧ s.tm 2 = .ptr 0 0 0 1 ∧ s.tm 18 = .agg [ai (t / 86400 * 86400), ai ((t / 86400 + 1) * 86400)] ∧ s.tm 19 = ai j ∧ Pg.rowAt s.H (0) = some ({ k := 2, es := [eDoor d], ty := 129 })) (2) ⟨0, _, rfl, rfl, rfl, ?_, ?_, ?_, ?_, ?_, ?_⟩ ?_
  iterate 6 (first | (simp (disch := omega) only [push_cast, simprocAttr, Int.reduceEq] <;> first | rfl | omega) | omega)
  rintro n s ⟨j, ds, hn, hp0, hp1, hnl, hS⟩
  have hZ : (0 : Nat) ≠ s.nx ∧ s.nx ≠ (0 : Nat) := by omega
  rcases ds with _ | ⟨y, ds⟩
  · have hj : ¬ ((j : Int) < 2) := by have := drop_nil hp0; simpa using this
    repeat' first
      | apply jA | apply jB | apply jC | apply jF | apply jI
      | ((first | (apply jK kO; decide) | apply jR); (simp (disch := omega) only [push_cast, simprocAttr, hS, hZ, hj] <;> rfl); all_goals try ((with_reducible intro hI); try first | (cases hI; done) | (simp only [INTS] at hI; try first | (exfalso; omega) | (have hT : True := hI; clear hT hI))))
      | ((apply W.ret2); (iterate 2 (try (simp (disch := omega) only [push_cast, simprocAttr, hS, hZ, hj] <;> rfl))))
    all_goals (show _ = _; rw [← hp1]; rfl)
  · obtain ⟨hj', _, hdj, hlj, hmj, hxj⟩ := drop_cons hp0 ai .junk
    have hj : (j : Int) < 2 := by simpa using hj'
    have hj2 : (j : Int) < ((2 : Nat) : Int) := hj
    have hy : 0 ≤ y ∧ y ≤ 1073913600 := by simp at hmj; omega
    simp only [List.map_cons, List.map_nil] at hxj
    repeat' first
      | apply jA | apply jB | apply jD | apply jE | apply jI
      | ((first | (apply jK kO; decide) | apply jR); (simp (disch := omega) only [push_cast, simprocAttr, hS, hZ, Nat.mul_one, hj, hj2, hxj] <;> rfl); all_goals try ((with_reducible intro hI); try first | (cases hI; done) | (simp only [INTS] at hI; try first | (exfalso; omega) | (have hT : True := hI; clear hT hI))))
    refine AW.loop (fun n s => ∃ (k : Nat) (rest : List Span), n = rest.length ∧ (d.hours.drop k = rest) ∧ ((match firstL t y rest with | some n => some n | none => firstD t d.hours ds) = first d t) ∧ 1 ≤ s.nx ∧ s.tm 1 = ai t ∧ s.tm 2 = .ptr 0 0 0 1 ∧ s.tm 7 = ai y ∧ s.tm 18 = .agg [ai (t / 86400 * 86400), ai ((t / 86400 + 1) * 86400)] ∧ s.tm 19 = ai j ∧ s.tm 23 = lSpan d.hours ∧ s.tm 24 = ai d.hours.length ∧ s.tm 25 = ai k ∧ Pg.rowAt s.H (0) = some ({ k := 2, es := [eDoor d], ty := 129 })) (d.hours.length) ⟨0, _, rfl, rfl, hp1, ?_, ?_, ?_, ?_, ?_, ?_, ?_, ?_, ?_, ?_⟩ ?_
    iterate 10 (first | (simp (disch := omega) only [push_cast, simprocAttr, hS, hZ, Nat.mul_one, hj, hj2, hxj] <;> first | rfl | omega) | omega)
    rintro n2 s2 ⟨k2, rest2, hn2, hp02, hp12, hnl2, hS2⟩
    have hZ2 : (0 : Nat) ≠ s2.nx ∧ s2.nx ≠ (0 : Nat) := by omega
    rcases rest2 with _ | ⟨x2, rest2⟩
    · have hk2 := drop_nil hp02
      repeat' first
        | apply jA | apply jB | apply jF | apply jI
        | ((first | (apply jK kO; decide) | apply jR); (simp (disch := omega) only [push_cast, simprocAttr, hS2, hZ2, hk2] <;> rfl); all_goals try ((with_reducible intro hI); try first | (cases hI; done) | (simp only [INTS] at hI; try first | (exfalso; omega) | (have hT : True := hI; clear hT hI))))
      all_goals
        (have hp1' : firstD t d.hours ds = first d t := hp12
         (refine ⟨ds.length, ?_, j + 1, ds, rfl, hdj, hp1', ?_, ?_, ?_, ?_, ?_, ?_⟩; ((simp only [List.length_cons] at *; omega)); all_goals first | (simp (disch := omega) only [push_cast, simprocAttr, hS2, hZ2] <;> first | rfl | omega) | omega))
    · obtain ⟨hk2, hg2, hd'2, hl'2, hm2, hx2⟩ := drop_cons hp02 eSpan []
      have hb := hd.hours _ hm2
      repeat' first
        | apply jA | apply jB | apply jC | apply jD | apply jE | apply jI
        | ((first | (apply jK kO; decide) | apply jM kO | (apply jN; rfl; decide) | apply jR); (simp (disch := omega) only [push_cast, simprocAttr, hS2, hZ2, hk2, hg2] <;> rfl); all_goals try ((with_reducible intro hI); try first | (cases hI; done) | (simp only [INTS] at hI; try first | (exfalso; omega) | (have hT : True := hI; clear hT hI))))
        | ((apply W.ret2); (iterate 2 (try (simp (disch := omega) only [push_cast, simprocAttr, hS2, hZ2, hk2, hg2] <;> rfl))))
      all_goals first
        | (show _ = _; rw [← hp12, firstL, if_pos (by first | omega | (simp_all; done))]; rfl)
        | (rw [firstL, if_neg (by first | omega | (simp_all; omega) | (simp_all; done))] at hp12
           (refine ⟨rest2.length, ?_, k2 + 1, rest2, rfl, hd'2, hp12, ?_, ?_, ?_, ?_, ?_, ?_, ?_, ?_, ?_, ?_⟩; ((simp only [List.length_cons] at *; omega)); all_goals first | (simp (disch := omega) only [push_cast, simprocAttr, hS2, hZ2, hg2, hk2] <;> first | rfl | omega) | omega))
theorem over_mem : ∀ (l : List Span) (n : Int), (over l n).2 = true → (over l n).1 ∈ l ∧ (over l n).1.lo ≤ n ∧ n ≤ (over l n).1.hi
  | [], n, h => by simp [over] at h
  | x :: l, n, h => by
    unfold over at h ⊢
    split
    · rename_i hc; exact ⟨by simp, hc⟩
    · rename_i hc; rw [if_neg hc] at h; have := over_mem l n h; exact ⟨by simp [this.1], this.2⟩
def nextL (d : Door) : Nat → Int → Int
  | 0, _ => 1073741824
  | f + 1, t => if (first d t).isSome = true then (if (over d.shut ((first d t).getD 0)).2 = true then nextL d f ((over d.shut ((first d t).getD 0)).1.hi + 1) else (first d t).getD 0) else 1073741824
def next (d : Door) (t : Int) : Int := nextL d 17 t
theorem next_ok (d : Door) (t : Int) (hd : d.OK) (h0 : 0 ≤ t) (h1 : t ≤ 1073741824) : OKv cx 37 [.agg (eDoor d), ai t] (ai (next d t)) := by
  have hlen := hd.ns
  refine OKat.of_body (rs := [4]) Tryz.func37 rfl (by decide +kernel) rfl (by simp [Tryz.ntmps37]) ?_
  simp only [Tryz.ntmps37]
  repeat' first
    | apply jA | apply jB | apply jD | apply jI
    | ((apply jK kO; decide); (simp (disch := omega) only [push_cast, simprocAttr] <;> rfl))
  refine AW.loop (fun n s => ∃ (f : Nat) (u : Int) (i : Int), n = f ∧ (i + f = 17) ∧ (0 ≤ i ∧ 0 ≤ u ∧ u ≤ 1073741824) ∧ (nextL d f u = next d t) ∧ 1 ≤ s.nx ∧ s.tm 1 = ai u ∧ s.tm 2 = .ptr 0 0 0 1 ∧ s.tm 5 = ai i ∧ Pg.rowAt s.H (0) = some ({ k := 2, es := [eDoor d], ty := 129 })) (17) ⟨17, t, 0, rfl, by omega, by omega, rfl, ?_, ?_, ?_, ?_, ?_⟩ ?_
  iterate 5 (first | (simp (disch := omega) only [push_cast, simprocAttr] <;> first | rfl | omega) | omega)
  rintro n s ⟨f, u, i, hn, hp0, hp1, hp2, hnl, hS⟩
  have hZ : (0 : Nat) ≠ s.nx ∧ s.nx ≠ (0 : Nat) := by omega
  rcases f with _ | f
  · have hi : ¬ (i ≤ 16) := by omega
    repeat' first
      | apply jA | apply jB | apply jC | apply jF | apply jI
      | ((first | (apply jK kO; decide) | apply jR); (simp (disch := omega) only [push_cast, simprocAttr, hS, hZ, hi] <;> rfl); all_goals try ((with_reducible intro hI); try first | (cases hI; done) | (simp only [INTS] at hI; try first | (exfalso; omega) | (have hT : True := hI; clear hT hI))))
      | ((apply W.ret1); (iterate 2 (try (simp (disch := omega) only [push_cast, simprocAttr, hS, hZ, hi] <;> rfl))))
    all_goals (show _ = _; rw [← hp2]; rfl)
  · have hi : i ≤ 16 := by omega
    have hu : 0 ≤ u ∧ u ≤ 1073741824 := hp1.2
    repeat' first
      | apply jA | apply jB | apply jC | apply jD | apply jE | apply jI
      | ((first | (apply jK kO; decide) | apply jM kO | apply jR); (simp (disch := omega) only [push_cast, simprocAttr, hS, hZ, hi] <;> rfl); all_goals try ((with_reducible intro hI); try first | (cases hI; done) | (simp only [INTS] at hI; try first | (exfalso; omega) | (have hT : True := hI; clear hT hI))))
      | ((apply jV kO; decide); (iterate 2 (simp (disch := omega) only [push_cast, simprocAttr, hS, hZ, hi] <;> rfl)); (with_reducible first | exact first_ok _ _ hd hu.1 hu.2 | exact over_ok _ _ (by omega)); try first | rfl | (simp (disch := omega) only [push_cast, simprocAttr, hS, hZ, hi] <;> rfl))
      | ((apply W.ret1); (iterate 2 (try (simp (disch := omega) only [push_cast, simprocAttr, hS, hZ, hi] <;> rfl))))
    all_goals first
      | (show _ = _; rw [← hp2]; simp [nextL, *]; done)
      | (have ho := over_mem d.shut ((first d u).getD 0) (by assumption)
         have hb := hd.shut _ ho.1
         have hp2' : nextL d f ((over d.shut ((first d u).getD 0)).1.hi + 1) = next d t := by rw [← hp2]; simp [nextL, *]
         (refine ⟨f, ?_, f, _, i + 1, rfl, (by omega), (by omega), hp2', ?_, ?_, ?_, ?_, ?_⟩; (omega); all_goals first | (simp (disch := omega) only [push_cast, simprocAttr, hS, hZ, hi] <;> first | rfl | omega) | omega))
end Go.Proofs.Hs

namespace Go.Proofs.Hs
open Go Go.Pg Go.Proofs Go.Proofs.Yt
def inS : List Span → Int → Bool
  | [], _ => false
  | x :: rest, n => if x.lo ≤ n ∧ n ≤ x.hi then true else inS rest n
def openR (d : Door) (t : Int) : Bool := inS d.hours (t.tmod 86400) && !inS d.shut t
end Go.Proofs.Hs

namespace Go.Proofs.Hs
open Go Go.Pg Go.Proofs Go.Proofs.Yt
def orderlyL (most : Int) (n : Nat) : List Span → Int → Bool
  | [], _ => decide ((n : Int) ≤ 8)
  | x :: rest, least => if x.lo < least ∨ x.hi < x.lo ∨ most < x.hi then false else orderlyL most n rest (IntKind.wrap .i64 (x.hi + 2))
def orderly (l : List Span) (most : Int) : Bool := orderlyL most l.length l 0
theorem orderly_ok (l : List Span) (most : Int) (hl : l.length ≤ 9223372036854775807) : OKv cx 72 [lSpan l, ai most] (ab (orderly l most)) := by
  refine OKat.of_body (rs := [4]) Tryz.func72 rfl (by decide +kernel) rfl (by simp [Tryz.ntmps72]) ?_
  simp only [Tryz.ntmps72]
  repeat' first
    | apply jA | apply jB | apply jD | apply jI
    | ((apply jK kO; decide); (simp (disch := omega) only [push_cast, simprocAttr] <;> rfl))
  refine AW.loop (fun n s => ∃ (k : Nat) (rest : List Span) (least : Int), n = rest.length ∧ (l.drop k = rest) ∧ (orderlyL most l.length rest least = orderly l most) ∧ s.tm 0 = lSpan l ∧ s.tm 1 = ai most ∧ s.tm 5 = ai least ∧ s.tm 8 = lSpan l ∧ s.tm 9 = ai l.length ∧ s.tm 10 = ai k) (l.length) ⟨0, l, 0, rfl, rfl, rfl, ?_, ?_, ?_, ?_, ?_, ?_⟩ ?_
  iterate 6 (first | (simp (disch := omega) only [push_cast, simprocAttr] <;> first | rfl | omega) | omega)
  rintro n s ⟨k, rest, least, hn, hp0, hp1, hS⟩
  rcases rest with _ | ⟨x, rest⟩
  · have hk := drop_nil hp0
    repeat' first
      | apply jA | apply jB | apply jC | apply jF | apply jI
      | ((first | (apply jK kO; decide) | apply jR); (simp (disch := omega) only [push_cast, simprocAttr, hS, hk] <;> rfl); all_goals try ((with_reducible intro hI); try first | (cases hI; done) | (simp only [INTS] at hI; try first | (exfalso; omega) | (have hT : True := hI; clear hT hI))))
      | ((apply W.ret1); (iterate 2 (try (simp (disch := omega) only [push_cast, simprocAttr, hS, hk] <;> rfl))))
    all_goals (show _ = _; rw [← hp1]; simp [orderlyL])
  · obtain ⟨hk, hg, hd', hl', hm, hx⟩ := drop_cons hp0 eSpan []
    repeat' first
      | apply jA | apply jB | apply jC | apply jD | apply jE | apply jI
      | ((first | (apply jK kO; decide) | apply jM kO | (apply jN; rfl; decide) | apply jR); (simp (disch := omega) only [push_cast, simprocAttr, hS, hk, hg] <;> rfl); all_goals try ((with_reducible intro hI); try first | (cases hI; done) | (simp only [INTS] at hI; try first | (exfalso; omega) | (have hT : True := hI; clear hT hI))))
      | ((apply W.ret1); (iterate 2 (try (simp (disch := omega) only [push_cast, simprocAttr, hS, hk, hg] <;> rfl))))
    all_goals first
      | (show _ = _; rw [← hp1]; simp [orderlyL, *]; done)
      | (have hq : ¬ (x.lo < least ∨ x.hi < x.lo ∨ most < x.hi) := by omega
         rw [orderlyL, if_neg hq] at hp1
         (refine ⟨rest.length, ?_, k + 1, rest, _, rfl, hd', hp1, ?_, ?_, ?_, ?_, ?_, ?_⟩; ((simp only [List.length_cons] at *; omega)); all_goals first | (simp (disch := omega) only [push_cast, simprocAttr, hS, hg, hk] <;> first | rfl | omega) | omega))
end Go.Proofs.Hs

namespace Go.Proofs.Hs
open Go Go.Pg Go.Proofs Go.Proofs.Yt
def goodC (b : UInt8) : Bool := (decide (97 ≤ (b.toNat : Int)) && decide ((b.toNat : Int) ≤ 122)) || (decide (48 ≤ (b.toNat : Int)) && decide ((b.toNat : Int) ≤ 57))
def namedL (n : Nat) : List UInt8 → Bool
  | [] => decide (1 ≤ (n : Int)) && decide ((n : Int) ≤ 16)
  | b :: rest => if goodC b = true then namedL n rest else false
def named (s : ByteArray) : Bool := namedL s.size s.data.toList
theorem drop_bytes {s : ByteArray} {k : Nat} {x : UInt8} {rest : List UInt8} (h : s.data.toList.drop k = x :: rest) : ((k : Int) < (s.size : Int)) ∧ s.data.toList.getD k 0 = x ∧ s.data.toList.drop (k + 1) = rest ∧ rest.length + k + 1 = s.size := by
  have := drop_cons h id 0
  simp only [List.map_id] at this
  exact ⟨this.1, this.2.1, this.2.2.1, this.2.2.2.1⟩
theorem drop_bytes_nil {s : ByteArray} {k : Nat} (h : s.data.toList.drop k = []) : ¬ ((k : Int) < (s.size : Int)) := drop_nil h
theorem named_ok (s0 : ByteArray) (hs : s0.size ≤ 9223372036854775807) : OKv cx 71 [.v (.string s0)] (ab (named s0)) := by
  refine OKat.of_body (rs := [2]) Tryz.func71 rfl (by decide +kernel) rfl (by simp [Tryz.ntmps71]) ?_
  simp only [Tryz.ntmps71]
  repeat' first
    | apply jA | apply jB | apply jD | apply jI
    | ((apply jK kO; decide); (simp (disch := omega) only [push_cast, simprocAttr] <;> rfl))
  refine AW.loop (fun n s => ∃ (k : Nat) (rest : List UInt8), n = rest.length ∧ (s0.data.toList.drop k = rest) ∧ (namedL s0.size rest = named s0) ∧ s.tm 0 = .v (.string s0) ∧ s.tm 4 = .v (.string s0) ∧ s.tm 5 = ai (s0.size : Nat) ∧ s.tm 6 = ai k) (s0.data.toList.length) ⟨0, _, rfl, rfl, rfl, ?_, ?_, ?_, ?_⟩ ?_
  iterate 4 (first | (simp (disch := omega) only [push_cast, simprocAttr] <;> first | rfl | omega) | omega)
  rintro n s ⟨k, rest, hn, hp0, hp1, hS⟩
  rcases rest with _ | ⟨x, rest⟩
  · have hk := drop_bytes_nil hp0
    repeat' first
      | apply jA | apply jB | apply jC | apply jF | apply jI
      | ((first | (apply jK kO; decide) | (apply jN; rfl; decide) | apply jR); (simp (disch := omega) only [push_cast, simprocAttr, hS, hk] <;> rfl); all_goals try ((with_reducible intro hI); try first | (cases hI; done) | (simp only [INTS] at hI; try first | (exfalso; omega) | (have hT : True := hI; clear hT hI))))
      | ((apply W.ret1); (iterate 2 (try (simp (disch := omega) only [push_cast, simprocAttr, hS, hk] <;> rfl))))
    all_goals (show _ = _; rw [← hp1]; simp only [namedL]; first | (simp [*]; done) | (simp; omega))
  · obtain ⟨hk, hg, hd', hl'⟩ := drop_bytes hp0
    repeat' first
      | apply jA | apply jB | apply jC | apply jD | apply jE | apply jI
      | ((first | (apply jK kO; decide) | (apply jN; rfl; decide) | apply jR); (simp (disch := omega) only [push_cast, simprocAttr, hS, hk, hg] <;> rfl); all_goals try ((with_reducible intro hI); try first | (cases hI; done) | (simp only [INTS] at hI; try first | (exfalso; omega) | (have hT : True := hI; clear hT hI))))
      | ((apply jP; rfl; decide); (simp (disch := omega) only [push_cast, simprocAttr, hS, hk, hg] <;> rfl))
      | ((apply W.ret1); (iterate 2 (try (simp (disch := omega) only [push_cast, simprocAttr, hS, hk, hg] <;> rfl))))
    all_goals first
      | (have hq : goodC x = true := by
           simp only [goodC, Bool.or_eq_true, Bool.and_eq_true, decide_eq_true_eq]; omega
         rw [namedL, if_pos hq] at hp1
         (refine ⟨rest.length, ?_, k + 1, rest, rfl, hd', hp1, ?_, ?_, ?_, ?_⟩; ((simp only [List.length_cons] at *; omega)); all_goals first | (simp (disch := omega) only [push_cast, simprocAttr, hS, hg, hk] <;> first | rfl | omega) | omega))
      | (have hq : ¬ goodC x = true := by
           simp only [goodC, Bool.or_eq_true, Bool.and_eq_true, decide_eq_true_eq]; omega
         show _ = _
         rw [← hp1, namedL, if_neg hq]; done)
end Go.Proofs.Hs
