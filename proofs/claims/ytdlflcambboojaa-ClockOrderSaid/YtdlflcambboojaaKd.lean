/-
  Contracts of functions, proved by going through their code. No conditions.
-/
import Derived.Lib.SlicesCompact
import Derived.Sort.Grow
import Derived.Shelf.Sort.Plain
import Derived.Shelf.Slices.Reverse
import Derived.Shelf.Slices.CompactI
import Derived.Shelf.Slices.In.SortNone
import Derived.Test.YtdlflcambboojaaProg
import Derived.Test.YtdlflcambboojaaKa
import Derived.Test.YtdlflcambboojaaKb
import Derived.Test.YtdlflcambboojaaKc
set_option linter.unusedSimpArgs false
namespace Go.Proofs.Ks
open Go Go.Proofs
theorem take_snoc {α : Type} {l : List α} {k : Nat} {x : α} {rest : List α} (h : l.drop k = x :: rest) : l.take (k + 1) = l.take k ++ [x] := by
  have h0 : l[k]? = some x := by
    have := congrArg (fun m => m[0]?) h
    simpa using this
  rw [List.take_add_one, h0]; rfl
theorem sorted_ext : ∀ {a b : List Int}, a.Pairwise (· < ·) → b.Pairwise (· < ·) → (∀ x, x ∈ a ↔ x ∈ b) → a = b
  | [], [], _, _, _ => rfl
  | [], y :: b, _, _, h => absurd ((h y).2 (by simp)) (by simp)
  | x :: a, [], _, _, h => absurd ((h x).1 (by simp)) (by simp)
  | x :: a, y :: b, ha, hb, h => by
    rw [List.pairwise_cons] at ha hb
    have hxy : x = y := by
      have h1 := (h x).1 (by simp)
      have h2 := (h y).2 (by simp)
      rw [List.mem_cons] at h1 h2
      rcases h1 with h1 | h1
      · exact h1
      · rcases h2 with h2 | h2
        · exact h2.symm
        · have := hb.1 x h1; have := ha.1 y h2; omega
    subst hxy
    rw [sorted_ext ha.2 hb.2 fun z => ?_]
    have hz := h z
    rw [List.mem_cons, List.mem_cons] at hz
    constructor
    · intro hm
      rcases hz.1 (.inr hm) with e | e
      · have := ha.1 z hm; omega
      · exact e
    · intro hm
      rcases hz.2 (.inr hm) with e | e
      · have := hb.1 z hm; omega
      · exact e
theorem get_b (l : List Int) (i : Nat) (h : i < l.length) : l.toArray[i]! = l[i] := by
  rw [getElem!_pos _ i (by simpa using h)]; simp
theorem compact_mem {l : List Int} {a : Int} : a ∈ Lib.compact l ↔ a ∈ l := by
  unfold Lib.compact Lib.compactUpTo
  simp only [List.mem_map, List.mem_filter, List.mem_range]
  constructor
  · rintro ⟨i, ⟨hi, _⟩, rfl⟩
    rw [get_b l i hi]; exact List.getElem_mem hi
  · intro h
    obtain ⟨i, hi, rfl⟩ := List.getElem_of_mem h
    have key : ∀ (n i : Nat), i < n → (hi : i < l.length) → ∃ j, (j < l.length ∧ Lib.keeps l.toArray j = true) ∧ l.toArray[j]! = l[i] := by
      intro n
      induction n with
      | zero => intro i h; omega
      | succ n ih =>
        intro i hn hi
        by_cases hk : Lib.keeps l.toArray i = true
        · exact ⟨i, ⟨hi, hk⟩, get_b l i hi⟩
        · simp only [Lib.keeps, decide_eq_true_eq, not_or, ne_eq, Decidable.not_not] at hk
          obtain ⟨j, h1, h2⟩ := ih (i - 1) (by omega) (by omega)
          refine ⟨j, h1, h2.trans ?_⟩
          have := hk.2
          rw [get_b l i hi, get_b l (i - 1) (by omega)] at this
          exact this.symm
    exact key (i + 1) i (by omega) hi
theorem compact_sorted {l : List Int} (h : l.Pairwise (· ≤ ·)) : (Lib.compact l).Pairwise (· < ·) := by
  unfold Lib.compact Lib.compactUpTo
  rw [List.pairwise_map]
  have h0 : ((List.range l.length).filter (Lib.keeps l.toArray)).Pairwise (· < ·) := List.Pairwise.filter _ List.pairwise_lt_range
  refine List.Pairwise.imp_of_mem (fun {i j} hi hj hij => ?_) h0
  simp only [List.mem_filter, List.mem_range] at hi hj
  obtain ⟨hj, hk⟩ := hj
  simp only [Lib.keeps, decide_eq_true_eq] at hk
  have hk' := hk.resolve_left (by omega)
  rw [get_b l j hj, get_b l (j - 1) (by omega)] at hk'
  rw [get_b l i hi.1, get_b l j hj]
  have h1 : l[j - 1]'(by omega) ≤ l[j] := List.pairwise_iff_getElem.1 h (j - 1) j (by omega) hj (by omega)
  have h2 : l[i]'(hi.1) ≤ l[j - 1]'(by omega) := by
    by_cases e : i = j - 1
    · subst e; exact Int.le_refl _
    · exact List.pairwise_iff_getElem.1 h i (j - 1) hi.1 (by omega) (by omega)
  omega
theorem sort_sorted (l : List Int) : (l.mergeSort fun x y => decide (x ≤ y)).Pairwise (· ≤ ·) := by
  have h := List.pairwise_mergeSort (le := fun (x y : Int) => decide (x ≤ y)) (fun a b c h1 h2 => by simp only [decide_eq_true_eq] at *; omega) (fun a b => by simp only [Bool.or_eq_true, decide_eq_true_eq]; omega) l
  exact h.imp fun h => by simpa using h
theorem cut_eq {l m : List Int} (hm : m.Pairwise (· < ·)) (h : ∀ a, a ∈ m ↔ a ∈ l) : Lib.compact (l.mergeSort fun x y => decide (x ≤ y)) = m :=
  sorted_ext (compact_sorted (sort_sorted l)) hm fun x => by rw [compact_mem, List.mem_mergeSort, h]
def markL (r : Rec) (more : List Int) : List Int := [r.s.zero.lo, r.s.zero.hi + 1, r.s.fin.lo, r.s.fin.hi + 1] ++ (more ++ r.strikes.flatMap fun x => [x.pos.lo, x.pos.hi + 1])
theorem markL_cut (r : Rec) (more : List Int) : Lib.compact ((markL r more).mergeSort fun x y => decide (x ≤ y)) = marksR r more :=
  cut_eq (marksR_sorted r more) fun a => by
    rw [marksR_mem]
    unfold markL
    simp only [List.mem_append, List.mem_cons, List.not_mem_nil, or_false, List.mem_flatMap]
    constructor
    · rintro (h | ⟨x, hx, h⟩ | h)
      · exact .inl h
      · exact .inr (.inr ⟨x, hx, h⟩)
      · exact .inr (.inl h)
    · rintro (h | h | ⟨x, hx, h⟩)
      · exact .inl h
      · exact .inr (.inr h)
      · exact .inr (.inl ⟨x, hx, h⟩)
end Go.Proofs.Ks

set_option linter.unusedVariables false
namespace Go.Proofs.Ks
open Go Go.Pg Go.Proofs
theorem node_strike {r : Rec} {more : List Int} {i : Nat} (h : i < r.strikes.length) : (nodesR r more).getD (3 + i) default = ⟨3, (i : Int)⟩ := by
  unfold nodesR
  rw [List.getD_eq_getElem?_getD, List.append_assoc, List.getElem?_append_right (by rw [nd0_len]; omega), nd0_len, show 3 + i - 3 = i by omega, List.getElem?_append_left (by rw [ndS_len]; exact h)]
  unfold ndS
  rw [List.getElem?_map, List.getElem?_range h]; rfl
theorem nd0_at {r : Rec} {more : List Int} {j : Nat} (h : j < 3) : (nodesR r more).getD j default = ⟨(j : Int), 0⟩ := by
  unfold nodesR
  rw [List.getD_eq_getElem?_getD, List.append_assoc, List.getElem?_append_left (by rw [nd0_len]; exact h)]
  match j, h with
  | 0, _ => rfl
  | 1, _ => rfl
  | 2, _ => rfl
theorem atP_strike {r : Rec} {more : List Int} {i : Nat} (h : i < r.strikes.length) : atP 3 i (nodesR r more) = 3 + (i : Int) := by
  have key : atI 3 i 0 (nodesR r more) = 3 + (i : Int) := by
    rcases atI_case 3 i (nodesR r more) 0 with ⟨_, h2⟩ | ⟨j, h1, h2, h3⟩
    · exfalso
      refine h2 ⟨3, i⟩ ?_ ⟨rfl, rfl⟩
      unfold nodesR ndS
      exact List.mem_append_left _ (List.mem_append_right _ (List.mem_map.2 ⟨i, List.mem_range.2 h, rfl⟩))
    · have hl := nodesR_len r more
      rcases Nat.lt_or_ge j 3 with h4 | h4
      · rw [nd0_at h4] at h3
        injection h3 with h5 h6; omega
      · rcases Nat.lt_or_ge j (3 + r.strikes.length) with h5 | h5
        · have := node_strike (r := r) (more := more) (i := j - 3) (by omega)
          rw [show 3 + (j - 3) = j by omega, h3] at this
          injection this with _ h6
          rw [h2]; omega
        · have := node_mark (r := r) (more := more) (j := j - (3 + r.strikes.length)) (by omega)
          rw [show 3 + r.strikes.length + (j - (3 + r.strikes.length)) = j by omega, h3] at this
          injection this with h6 _
          exact absurd h6 (by decide)
  unfold atP; rw [key, if_neg (by omega)]
theorem atP_in (r : Rec) (more : List Int) : atP 1 0 (nodesR r more) = 1 := rfl
theorem atP_out (r : Rec) (more : List Int) : atP 2 0 (nodesR r more) = 2 := rfl
theorem atP_mark {r : Rec} {more : List Int} {p : Int} (h : p ∈ marksR r more) : atP 4 p (nodesR r more) = atI 4 p 0 (nodesR r more) := by
  unfold atP; rw [if_neg (by have := (at_mark h).1; omega)]
theorem getD_inj {l : List Int} (h : l.Pairwise (· < ·)) {i j : Nat} (hi : i < l.length) (hj : j < l.length) (e : l.getD i 0 = l.getD j 0) : i = j := by
  rw [List.getD_eq_getElem?_getD, List.getD_eq_getElem?_getD, List.getElem?_eq_getElem hi, List.getElem?_eq_getElem hj] at e
  simp only [Option.getD_some] at e
  rcases Nat.lt_trichotomy i j with h1 | h1 | h1
  · have := List.pairwise_iff_getElem.1 h i j hi hj h1; omega
  · exact h1
  · have := List.pairwise_iff_getElem.1 h j i hj hi h1; omega
theorem at_mark_ix {r : Rec} {more : List Int} {j : Nat} {x : Int} (h : j < (marksR r more).length) (hx : (marksR r more).getD j 0 = x) : atP 4 x (nodesR r more) = 3 + (r.strikes.length : Int) + (j : Int) := by
  have hm : x ∈ marksR r more := by
    rw [← hx, List.getD_eq_getElem?_getD, List.getElem?_eq_getElem h]; exact List.getElem_mem h
  rw [atP_mark hm]
  obtain ⟨g1, g2⟩ := at_mark_ge hm
  rcases atI_case 4 x (nodesR r more) 0 with ⟨h1, _⟩ | ⟨i, h1, h2, h3⟩
  · rw [h1] at g1; omega
  · rw [h2] at g1 g2 ⊢
    have hl := nodesR_len r more
    have h4 := node_mark (r := r) (more := more) (j := i - (3 + r.strikes.length)) (by omega)
    rw [show 3 + r.strikes.length + (i - (3 + r.strikes.length)) = i by omega, h3] at h4
    injection h4 with _ h5
    have := getD_inj (marksR_sorted r more) h (by omega) (hx.trans h5)
    omega
def rwI (k : Nat) : List Int := 1 :: (List.range k).map fun (i : Nat) => 3 + (i : Int)
theorem rwI_succ (k : Nat) : rwI (k + 1) = rwI k ++ [3 + (k : Int)] := by unfold rwI; rw [List.range_succ, List.map_append]; rfl
theorem rwI_len (k : Nat) : (rwI k).length = k + 1 := by simp [rwI]
def idM : Nat → List Strike → List (Key × AV)
  | _, [] => []
  | i, x :: l => (.int x.id, ai (3 + (i : Int))) :: idM (i + 1) l
theorem idM_snoc (x : Strike) : ∀ (l : List Strike) (i : Nat), idM i (l ++ [x]) = idM i l ++ [(.int x.id, ai (3 + ((i + l.length : Nat) : Int)))]
  | [], i => rfl
  | y :: l, i => by
    simp only [List.cons_append, idM, idM_snoc x l (i + 1), List.length_cons]
    rw [show i + 1 + l.length = i + (l.length + 1) by omega]
theorem putM_id (x : Int) (v : AV) : ∀ (l : List Strike) (i : Nat), ¬ x ∈ l.map (·.id) → putM (.int x) v (idM i l) = idM i l ++ [(.int x, v)]
  | [], _, _ => rfl
  | y :: l, i, h => by
    simp only [List.map_cons, List.mem_cons, not_or] at h
    have hs : Key.same (.int x) (.int y.id) = false := by simp [Key.same, h.1]
    simp only [idM, putM, hs, Bool.false_eq_true, if_false, putM_id x v l (i + 1) h.2, List.cons_append]
theorem find_id (x : Int) : ∀ (l : List Strike) (i : Nat), x ∈ l.map (·.id) → findM (.int x) (idM i l) = some (ai (3 + strikeI x i l))
  | [], _, h => by simp at h
  | y :: l, i, h => by
    simp only [idM, findM]
    by_cases hxy : x = y.id
    · have hs : Key.same (.int x) (.int y.id) = true := by simp [Key.same, hxy]
      simp only [hs, if_true]
      unfold strikeI; rw [if_pos hxy.symm]
    · have hs : Key.same (.int x) (.int y.id) = false := by simp [Key.same, hxy]
      simp only [List.map_cons, List.mem_cons] at h
      simp only [hs, Bool.false_eq_true, if_false]
      rw [find_id x l (i + 1) (h.resolve_left hxy)]
      rw [strikeI, if_neg (fun e => hxy e.symm)]
theorem new_id {r : Rec} (hv : r.V) {k : Nat} {x : Strike} {rest : List Strike} (h : r.strikes.drop k = x :: rest) : ¬ x.id ∈ (r.strikes.take k).map (·.id) := by
  have hd := hv.ids
  rw [← List.take_append_drop k r.strikes, h, List.map_append, List.nodup_append] at hd
  intro hm
  exact hd.2.2 _ hm x.id (by simp) rfl
theorem putM_step {r : Rec} (hv : r.V) {k : Nat} {x : Strike} {rest : List Strike} (h : r.strikes.drop k = x :: rest) : putM (.int x.id) (ai (3 + (k : Int))) (idM 0 (r.strikes.take k)) = idM 0 (r.strikes.take (k + 1)) := by
  have hk : k < r.strikes.length := by
    rcases Nat.lt_or_ge k r.strikes.length with h' | h'
    · exact h'
    · rw [List.drop_eq_nil_of_le h'] at h; cases h
  rw [putM_id _ _ _ _ (new_id hv h), take_snoc h, idM_snoc, List.length_take, Nat.min_eq_left (by omega), Nat.zero_add]
def linksN (nd : List Node) : List Int → List Span → List Lk
  | a :: l, x :: m => needleL nd a.toNat x ++ linksN nd l m
  | _, _ => []
def rowT (S : Nat) : List Int := rwI S ++ [2]
def spanT (r : Rec) : List Span := r.s.zero :: (r.strikes.map (·.pos) ++ [r.s.fin])
theorem linksN_strikes (nd : List Node) (fin : Span) : ∀ (l : List Strike) (i : Nat), linksN nd ((List.range' i l.length).map (fun (j : Nat) => 3 + (j : Int)) ++ [2]) (l.map (·.pos) ++ [fin]) = ndL nd i l ++ needleL nd 2 fin
  | [], i => by simp [linksN, ndL]
  | x :: l, i => by
    simp only [List.length_cons, List.range'_succ, List.map_cons, List.cons_append, linksN, ndL, List.append_assoc]
    rw [linksN_strikes nd fin l (i + 1)]
    rw [show (3 + (i : Int)).toNat = 3 + i by omega]
theorem linksN_all (nd : List Node) (r : Rec) : linksN nd (rowT r.strikes.length) (spanT r) = needleL nd 1 r.s.zero ++ (ndL nd 0 r.strikes ++ needleL nd 2 r.s.fin) := by
  unfold rowT spanT rwI
  rw [List.cons_append, linksN, List.range_eq_range', linksN_strikes]
  rfl
theorem rowT_len (S : Nat) : (rowT S).length = S + 2 := by simp [rowT, rwI_len]
theorem spanT_len (r : Rec) : (spanT r).length = r.strikes.length + 2 := by simp [spanT]
theorem rowT_at (S k : Nat) (h : k < S + 2) : (rowT S).getD k 0 = if k = 0 then 1 else if k ≤ S then 2 + (k : Int) else 2 := by
  unfold rowT rwI
  rw [List.getD_eq_getElem?_getD]
  rcases k with _ | k
  · rfl
  · rw [if_neg (by omega), List.cons_append, List.getElem?_cons_succ]
    by_cases hk : k + 1 ≤ S
    · rw [if_pos hk, List.getElem?_append_left (by simp; omega), List.getElem?_map, List.getElem?_range (by omega)]
      simp; omega
    · rw [if_neg hk, List.getElem?_append_right (by simp; omega)]
      simp only [List.length_map, List.length_range]
      rw [show k - S = 0 by omega]; rfl
theorem rowT_nonneg {S : Nat} (a : Int) (h : a ∈ rowT S) : 0 ≤ a := by
  unfold rowT rwI at h
  simp only [List.cons_append, List.mem_cons, List.mem_append, List.mem_map, List.mem_range, List.not_mem_nil, or_false] at h
  rcases h with rfl | ⟨i, _, rfl⟩ | rfl <;> omega
theorem rowK_at {S k : Nat} (h : k ≤ S) : (rowT S).getD (k + 1) 0 = ((rowK S k).a : Int) ∧ (rowT S).getD k 0 = ((rowK S k).b : Int) ∧ (rowK S k).m = 0 := by
  refine ⟨?_, ?_, rfl⟩
  · rw [rowT_at S (k + 1) (by omega), if_neg (by omega)]
    unfold rowK; dsimp only
    by_cases hk : k < S
    · rw [if_pos (by omega), if_pos hk]; omega
    · rw [if_neg (by omega), if_neg hk]; rfl
  · rw [rowT_at S k (by omega)]
    unfold rowK; dsimp only
    by_cases hk : k = 0
    · rw [if_pos hk, if_neg (by omega)]; rfl
    · rw [if_neg hk, if_pos h, if_pos (by omega)]; omega
def linksA (r : Rec) (nd : List Node) : List Lk := bothL 1 r.s.inn ++ (bothL 2 r.s.out ++ (sgL r r.sights ++ (rwL r.strikes.length (r.strikes.length + 1) 0 ++ linksN nd (rowT r.strikes.length) (spanT r))))
theorem linksR_eq (r : Rec) (more : List Int) : linksR r more = linksA r (nodesR r more) ++ pairsL r.s (3 + r.strikes.length) (marksR r more) := by
  unfold linksR linksA
  rw [linksN_all]
  simp only [List.append_assoc]
theorem mem_spanT {r : Rec} {more : List Int} (hv : r.V) {x : Span} (h : x ∈ spanT r) : x.lo ∈ marksR r more ∧ x.hi + 1 ∈ marksR r more ∧ 0 ≤ x.lo ∧ x.lo ≤ x.hi ∧ x.hi ≤ 43199 := by
  have hz := hv.z
  have hf := hv.f
  have hzf := hv.zf
  unfold spanT at h
  rw [List.mem_cons, List.mem_append, List.mem_singleton] at h
  rcases h with rfl | h | rfl
  · exact ⟨marksR_mem.2 (.inl (.inl rfl)), marksR_mem.2 (.inl (.inr (.inl rfl))), by omega, by omega, by omega⟩
  · obtain ⟨y, hy, rfl⟩ := List.mem_map.1 h
    have := hv.strikes y hy
    exact ⟨marksR_mem.2 (.inr (.inl ⟨y, hy, .inl rfl⟩)), marksR_mem.2 (.inr (.inl ⟨y, hy, .inr rfl⟩)), by omega, by omega, by omega⟩
  · exact ⟨marksR_mem.2 (.inl (.inr (.inr (.inl rfl)))), marksR_mem.2 (.inl (.inr (.inr (.inr rfl)))), by omega, by omega, by omega⟩
end Go.Proofs.Ks

namespace Go.Proofs.Ks
open Go Go.Proofs
def Sat (f : Nat → Int) (L : List Lk) : Prop := ∀ l ∈ L, f l.b ≤ f l.a + l.m
theorem sat_append {f : Nat → Int} {L M : List Lk} : Sat f (L ++ M) ↔ Sat f L ∧ Sat f M := by
  unfold Sat
  constructor
  · intro h; exact ⟨fun l hl => h l (List.mem_append_left _ hl), fun l hl => h l (List.mem_append_right _ hl)⟩
  · rintro ⟨h1, h2⟩ l hl
    rcases List.mem_append.1 hl with hl | hl
    · exact h1 l hl
    · exact h2 l hl
theorem sat_nil {f : Nat → Int} : Sat f [] := fun l hl => by cases hl
theorem sat_cons {f : Nat → Int} {l : Lk} {L : List Lk} : Sat f (l :: L) ↔ f l.b ≤ f l.a + l.m ∧ Sat f L := by
  unfold Sat; simp
theorem sat_both {f : Nat → Int} {k : Nat} {x : Span} : Sat f (bothL k x) ↔ x.lo ≤ f k - f 0 ∧ f k - f 0 ≤ x.hi := by
  unfold bothL
  rw [sat_cons, sat_cons]
  constructor
  · rintro ⟨h1, h2, _⟩; dsimp only at h1 h2; omega
  · rintro ⟨h1, h2⟩; refine ⟨?_, ?_, sat_nil⟩ <;> dsimp only <;> omega
theorem sat_needle {f : Nat → Int} {nd : List Node} {k : Nat} {x : Span} : Sat f (needleL nd k x) ↔ f (atI 4 x.lo 0 nd).toNat ≤ f k ∧ f k ≤ f (atI 4 (x.hi + 1) 0 nd).toNat := by
  unfold needleL
  rw [sat_cons, sat_cons]
  constructor
  · rintro ⟨h1, h2, _⟩; dsimp only at h1 h2; omega
  · rintro ⟨h1, h2⟩; refine ⟨?_, ?_, sat_nil⟩ <;> dsimp only <;> omega
theorem sat_sg {f : Nat → Int} {r : Rec} : ∀ {l : List Sight}, Sat f (sgL r l) ↔ ∀ x ∈ l, x.seen.lo ≤ f (3 + strikeI x.strike 0 r.strikes).toNat - f 0 ∧ f (3 + strikeI x.strike 0 r.strikes).toNat - f 0 ≤ x.seen.hi
  | [] => by simp [sgL, sat_nil]
  | y :: l => by
    rw [sgL, sat_append, sat_both, sat_sg]
    simp
theorem sat_rw {f : Nat → Int} {S : Nat} : ∀ {c i : Nat}, Sat f (rwL S c i) ↔ ∀ j, i ≤ j → j < i + c → f (if 0 < j then 2 + j else 1) ≤ f (if j < S then 3 + j else 2)
  | 0, i => by simp only [rwL]; exact ⟨fun _ j h1 h2 => by omega, fun _ => sat_nil⟩
  | c + 1, i => by
    rw [rwL, sat_cons, sat_rw]
    unfold rowK; dsimp only
    constructor
    · rintro ⟨h1, h2⟩ j hj1 hj2
      by_cases e : j = i
      · subst e; omega
      · exact h2 j (by omega) (by omega)
    · intro h
      refine ⟨?_, fun j hj1 hj2 => h j (by omega) (by omega)⟩
      have := h i (Nat.le_refl _) (by omega)
      omega
theorem sat_nd {f : Nat → Int} {nd : List Node} : ∀ {l : List Strike} {i : Nat}, Sat f (ndL nd i l) ↔ ∀ j x, l[j]? = some x → f (atI 4 x.pos.lo 0 nd).toNat ≤ f (3 + (i + j)) ∧ f (3 + (i + j)) ≤ f (atI 4 (x.pos.hi + 1) 0 nd).toNat
  | [], i => by simp [ndL, sat_nil]
  | y :: l, i => by
    rw [ndL, sat_append, sat_needle, sat_nd]
    constructor
    · rintro ⟨h1, h2⟩ j x hx
      cases j with
      | zero => simp only [List.getElem?_cons_zero, Option.some.injEq] at hx; subst hx; exact h1
      | succ j =>
        simp only [List.getElem?_cons_succ] at hx
        have := h2 j x hx
        rwa [show i + 1 + j = i + (j + 1) by omega] at this
    · intro h
      refine ⟨h 0 y rfl, fun j x hx => ?_⟩
      have := h (j + 1) x (by simpa using hx)
      rwa [show i + (j + 1) = i + 1 + j by omega] at this
theorem sat_pair {f : Nat → Int} {s : Session} {i : Nat} {x : Int} : ∀ {l : List Int} {k : Nat}, Sat f (pairL s i x k l) ↔ ∀ j y, l[j]? = some y → (leastR s x y).1 ≤ f (k + j) - f i ∧ f (k + j) - f i ≤ (leastR s x y).2
  | [], k => by simp [pairL, sat_nil]
  | z :: l, k => by
    rw [pairL, sat_cons, sat_cons, sat_pair]
    dsimp only
    constructor
    · rintro ⟨h1, h2, h3⟩ j y hy
      cases j with
      | zero => simp only [List.getElem?_cons_zero, Option.some.injEq] at hy; subst hy; simp only [Nat.add_zero]; omega
      | succ j =>
        simp only [List.getElem?_cons_succ] at hy
        have := h3 j y hy
        rwa [show k + 1 + j = k + (j + 1) by omega] at this
    · intro h
      have h0 := h 0 z rfl
      simp only [Nat.add_zero] at h0
      refine ⟨by omega, by omega, fun j y hy => ?_⟩
      have := h (j + 1) y (by simpa using hy)
      rwa [show k + (j + 1) = k + 1 + j by omega] at this
theorem sat_pairs {f : Nat → Int} {s : Session} : ∀ {l : List Int} {i : Nat}, Sat f (pairsL s i l) ↔ ∀ j j' x y, j < j' → l[j]? = some x → l[j']? = some y → (leastR s x y).1 ≤ f (i + j') - f (i + j) ∧ f (i + j') - f (i + j) ≤ (leastR s x y).2
  | [], i => by simp [pairsL, sat_nil]
  | z :: l, i => by
    rw [pairsL, sat_append, sat_pair, sat_pairs]
    constructor
    · rintro ⟨h1, h2⟩ j j' x y hj hx hy
      cases j' with
      | zero => omega
      | succ j' =>
        simp only [List.getElem?_cons_succ] at hy
        cases j with
        | zero =>
          simp only [List.getElem?_cons_zero, Option.some.injEq] at hx; subst hx
          have := h1 j' y hy
          rwa [show i + 1 + j' = i + (j' + 1) by omega] at this
        | succ j =>
          simp only [List.getElem?_cons_succ] at hx
          have := h2 j j' x y (by omega) hx hy
          rwa [show i + 1 + j' = i + (j' + 1) by omega, show i + 1 + j = i + (j + 1) by omega] at this
    · intro h
      refine ⟨fun j y hy => ?_, fun j j' x y hj hx hy => ?_⟩
      · have := h 0 (j + 1) z y (by omega) rfl (by simpa using hy)
        rwa [show i + (j + 1) = i + 1 + j by omega] at this
      · have := h (j + 1) (j' + 1) x y (by omega) (by simpa using hx) (by simpa using hy)
        rwa [show i + (j' + 1) = i + 1 + j' by omega, show i + (j + 1) = i + 1 + j by omega] at this
structure Tim (r : Rec) (M : List Int) (o ti te : Int) (ts : Nat → Int) (P : Int → Int) : Prop where
  inn : r.s.inn.lo ≤ ti - o ∧ ti - o ≤ r.s.inn.hi
  out : r.s.out.lo ≤ te - o ∧ te - o ≤ r.s.out.hi
  sights : ∀ x ∈ r.sights, x.seen.lo ≤ ts (strikeI x.strike 0 r.strikes).toNat - o ∧ ts (strikeI x.strike 0 r.strikes).toNat - o ≤ x.seen.hi
  row : ∀ j, j < r.strikes.length + 1 → (if 0 < j then ts (j - 1) else ti) ≤ (if j < r.strikes.length then ts j else te)
  zero : P r.s.zero.lo ≤ ti ∧ ti ≤ P (r.s.zero.hi + 1)
  fin : P r.s.fin.lo ≤ te ∧ te ≤ P (r.s.fin.hi + 1)
  strikes : ∀ j x, r.strikes[j]? = some x → P x.pos.lo ≤ ts j ∧ ts j ≤ P (x.pos.hi + 1)
  pairs : ∀ x ∈ M, ∀ y ∈ M, x < y → (leastR r.s x y).1 ≤ P y - P x ∧ P y - P x ≤ (leastR r.s x y).2
theorem strikeI_nn {r : Rec} (hv : r.V) {x : Sight} (hx : x ∈ r.sights) : 0 ≤ strikeI x.strike 0 r.strikes ∧ strikeI x.strike 0 r.strikes < (r.strikes.length : Int) := by
  obtain ⟨_, _, _, b4⟩ := hv.sights x hx
  rcases strikeI_case x.strike r.strikes 0 with ⟨h, _⟩ | ⟨i, h1, h, _⟩
  · exact absurd b4 h
  · rw [h]; omega
theorem sat_iff {f : Nat → Int} (r : Rec) (more : List Int) : Sat f (linksR r more) ↔
    (r.s.inn.lo ≤ f 1 - f 0 ∧ f 1 - f 0 ≤ r.s.inn.hi) ∧ (r.s.out.lo ≤ f 2 - f 0 ∧ f 2 - f 0 ≤ r.s.out.hi) ∧
    (∀ x ∈ r.sights, x.seen.lo ≤ f (3 + strikeI x.strike 0 r.strikes).toNat - f 0 ∧ f (3 + strikeI x.strike 0 r.strikes).toNat - f 0 ≤ x.seen.hi) ∧
    (∀ j, 0 ≤ j → j < 0 + (r.strikes.length + 1) → f (if 0 < j then 2 + j else 1) ≤ f (if j < r.strikes.length then 3 + j else 2)) ∧
    (f (atI 4 r.s.zero.lo 0 (nodesR r more)).toNat ≤ f 1 ∧ f 1 ≤ f (atI 4 (r.s.zero.hi + 1) 0 (nodesR r more)).toNat) ∧
    (∀ j x, r.strikes[j]? = some x → f (atI 4 x.pos.lo 0 (nodesR r more)).toNat ≤ f (3 + (0 + j)) ∧ f (3 + (0 + j)) ≤ f (atI 4 (x.pos.hi + 1) 0 (nodesR r more)).toNat) ∧
    (f (atI 4 r.s.fin.lo 0 (nodesR r more)).toNat ≤ f 2 ∧ f 2 ≤ f (atI 4 (r.s.fin.hi + 1) 0 (nodesR r more)).toNat) ∧
    (∀ j j' x y, j < j' → (marksR r more)[j]? = some x → (marksR r more)[j']? = some y → (leastR r.s x y).1 ≤ f (3 + r.strikes.length + j') - f (3 + r.strikes.length + j) ∧ f (3 + r.strikes.length + j') - f (3 + r.strikes.length + j) ≤ (leastR r.s x y).2) := by
  unfold linksR
  rw [sat_append, sat_append, sat_append, sat_append, sat_append, sat_append, sat_append, sat_both, sat_both, sat_sg, sat_rw, sat_needle, sat_nd, sat_needle, sat_pairs]
theorem mark_get {r : Rec} {more : List Int} {x : Int} (h : x ∈ marksR r more) : ∃ j, (marksR r more)[j]? = some x ∧ (atI 4 x 0 (nodesR r more)).toNat = 3 + r.strikes.length + j := by
  obtain ⟨j, hj, hx⟩ := List.getElem_of_mem h
  have hg : (marksR r more)[j]? = some x := by rw [List.getElem?_eq_getElem hj, hx]
  have := at_mark_ix (r := r) (more := more) (j := j) (x := x) hj (by rw [List.getD_eq_getElem?_getD, hg]; rfl)
  rw [atP_mark h] at this
  exact ⟨j, hg, by omega⟩
theorem getElem_lt {l : List Int} (hs : l.Pairwise (· < ·)) {j j' : Nat} {x y : Int} (hx : l[j]? = some x) (hy : l[j']? = some y) : j < j' ↔ x < y := by
  obtain ⟨h1, rfl⟩ := List.getElem?_eq_some_iff.1 hx
  obtain ⟨h2, rfl⟩ := List.getElem?_eq_some_iff.1 hy
  rcases Nat.lt_trichotomy j j' with h | h | h
  · exact ⟨fun _ => List.pairwise_iff_getElem.1 hs j j' h1 h2 h, fun _ => h⟩
  · subst h; constructor <;> intro h <;> omega
  · have := List.pairwise_iff_getElem.1 hs j' j h2 h1 h
    constructor <;> intro h <;> omega
theorem tim_of {r : Rec} (hv : r.V) {more : List Int} {f : Nat → Int} (h : Sat f (linksR r more)) :
    Tim r (marksR r more) (f 0) (f 1) (f 2) (fun i => f (3 + i)) (fun p => f (atI 4 p 0 (nodesR r more)).toNat) := by
  obtain ⟨h1, h2, h3, h4, h5, h6, h7, h8⟩ := (sat_iff r more).1 h
  refine ⟨h1, h2, fun x hx => ?_, fun j hj => ?_, h5, h7, fun j x hx => ?_, fun x hx y hy hxy => ?_⟩
  · have := strikeI_nn hv hx
    have h9 := h3 x hx
    rwa [show (3 + strikeI x.strike 0 r.strikes).toNat = 3 + (strikeI x.strike 0 r.strikes).toNat by omega] at h9
  · have := h4 j (Nat.zero_le _) (by omega)
    by_cases hz : 0 < j
    · rw [if_pos hz] at this ⊢
      rw [show 3 + (j - 1) = 2 + j by omega]
      split at this <;> simp [*]
    · rw [if_neg hz] at this ⊢
      split at this <;> simp [*]
  · have := h6 j x hx
    rwa [Nat.zero_add] at this
  · obtain ⟨j, g1, g2⟩ := mark_get hx
    obtain ⟨j', g3, g4⟩ := mark_get hy
    have := h8 j j' x y ((getElem_lt (marksR_sorted r more) g1 g3).2 hxy) g1 g3
    rw [g2, g4]; exact this
def potOf (r : Rec) (M : List Int) (o ti te : Int) (ts : Nat → Int) (P : Int → Int) (k : Nat) : Int :=
  if k = 0 then o else if k = 1 then ti else if k = 2 then te else if k < 3 + r.strikes.length then ts (k - 3) else P (M.getD (k - (3 + r.strikes.length)) 0)
theorem pot_strike {r : Rec} {M : List Int} {o ti te : Int} {ts : Nat → Int} {P : Int → Int} {i : Nat} (h : i < r.strikes.length) : potOf r M o ti te ts P (3 + i) = ts i := by
  unfold potOf
  rw [if_neg (by omega), if_neg (by omega), if_neg (by omega), if_pos (by omega), show 3 + i - 3 = i by omega]
theorem pot_mark {r : Rec} {M : List Int} {o ti te : Int} {ts : Nat → Int} {P : Int → Int} {j : Nat} {x : Int} (h : M[j]? = some x) : potOf r M o ti te ts P (3 + r.strikes.length + j) = P x := by
  unfold potOf
  rw [if_neg (by omega), if_neg (by omega), if_neg (by omega), if_neg (by omega), show 3 + r.strikes.length + j - (3 + r.strikes.length) = j by omega, List.getD_eq_getElem?_getD, h]; rfl
theorem sat_of {r : Rec} (hv : r.V) {more : List Int} {o ti te : Int} {ts : Nat → Int} {P : Int → Int} (h : Tim r (marksR r more) o ti te ts P) : Sat (potOf r (marksR r more) o ti te ts P) (linksR r more) := by
  have hat : ∀ {x : Int}, x ∈ marksR r more → potOf r (marksR r more) o ti te ts P (atI 4 x 0 (nodesR r more)).toNat = P x := fun {x} hx => by
    obtain ⟨j, g1, g2⟩ := mark_get hx
    rw [g2]; exact pot_mark g1
  have hmem := fun {a : Int} => marksR_mem (r := r) (more := more) (a := a)
  have e0 : potOf r (marksR r more) o ti te ts P 0 = o := rfl
  have e1 : potOf r (marksR r more) o ti te ts P 1 = ti := rfl
  have e2 : potOf r (marksR r more) o ti te ts P 2 = te := rfl
  rw [sat_iff]
  rw [e0, e1, e2, hat (hmem.2 (.inl (.inl rfl))), hat (hmem.2 (.inl (.inr (.inl rfl)))), hat (hmem.2 (.inl (.inr (.inr (.inl rfl))))), hat (hmem.2 (.inl (.inr (.inr (.inr rfl)))))]
  refine ⟨h.inn, h.out, fun x hx => ?_, fun j _ hj => ?_, h.zero, fun j x hx => ?_, h.fin, fun j j' x y hj hx hy => ?_⟩
  · have hs := strikeI_nn hv hx
    rw [show (3 + strikeI x.strike 0 r.strikes).toNat = 3 + (strikeI x.strike 0 r.strikes).toNat by omega, pot_strike (by omega)]
    exact h.sights x hx
  · have := h.row j (by omega)
    have a1 : potOf r (marksR r more) o ti te ts P (if 0 < j then 2 + j else 1) = if 0 < j then ts (j - 1) else ti := by
      split
      · rw [show 2 + j = 3 + (j - 1) by omega, pot_strike (by omega)]
      · rfl
    have a2 : potOf r (marksR r more) o ti te ts P (if j < r.strikes.length then 3 + j else 2) = if j < r.strikes.length then ts j else te := by
      split
      · rename_i hjs; rw [pot_strike hjs]
      · rfl
    rw [a1, a2]; exact this
  · have hj := (List.getElem?_eq_some_iff.1 hx).1
    have hxm : x ∈ r.strikes := List.mem_of_getElem? hx
    rw [Nat.zero_add, pot_strike hj, hat (hmem.2 (.inr (.inl ⟨x, hxm, .inl rfl⟩))), hat (hmem.2 (.inr (.inl ⟨x, hxm, .inr rfl⟩)))]
    exact h.strikes j x hx
  · rw [pot_mark hx, pot_mark hy]
    exact h.pairs x (List.mem_of_getElem? hx) y (List.mem_of_getElem? hy) ((getElem_lt (marksR_sorted r more) hx hy).1 hj)
end Go.Proofs.Ks

namespace Go.Proofs.Ks
open Go Go.Proofs
theorem fl_iff {a d q : Int} (hd : 0 < d) : q ≤ a / d ↔ q * d ≤ a := Int.le_ediv_iff_mul_le hd
theorem ce_iff {a d q : Int} (hd : 0 < d) : (a + d - 1) / d ≤ q ↔ a ≤ q * d := by
  have h := Int.ediv_lt_iff_lt_mul (a := a + d - 1) (b := q + 1) (c := d) hd
  rw [Int.add_mul, Int.one_mul] at h
  constructor
  · intro h1; have := h.1 (by omega); omega
  · intro h1; have := h.2 (by omega); omega
theorem fl_mul {a d : Int} (hd : 0 < d) : a / d * d ≤ a := (fl_iff hd).1 (Int.le_refl _)
theorem ce_mul {a d : Int} (hd : 0 < d) : a ≤ (a + d - 1) / d * d := (ce_iff hd).1 (Int.le_refl _)
theorem fl_nn {a d : Int} (ha : 0 ≤ a) (hd : 0 < d) : 0 ≤ a / d := (fl_iff hd).2 (by simpa using ha)
theorem ce_nn {a d : Int} (ha : 0 ≤ a) (hd : 0 < d) : 0 ≤ (a + d - 1) / d := Int.ediv_nonneg (by omega) (by omega)
theorem fl_add {a b d : Int} (hd : 0 < d) : a / d + b / d ≤ (a + b) / d := by
  rw [fl_iff hd, Int.add_mul]
  have := fl_mul (a := a) hd
  have := fl_mul (a := b) hd
  omega
theorem ce_add {a b d : Int} (hd : 0 < d) : (a + b + d - 1) / d ≤ (a + d - 1) / d + (b + d - 1) / d := by
  rw [show a + b + d - 1 = (a + b) + d - 1 by omega, ce_iff hd, Int.add_mul]
  have := ce_mul (a := a) hd
  have := ce_mul (a := b) hd
  omega
theorem fl_ce {a b d e : Int} (hb : 0 ≤ b) (he : 0 < e) (hd : e ≤ d) : (a + b) / d ≤ a / d + (b + e - 1) / e := by
  have hd0 : 0 < d := by omega
  have h1 : (a + b) / d - (b + e - 1) / e ≤ a / d := by
    rw [fl_iff hd0, Int.sub_mul]
    have h2 := fl_mul (a := a + b) hd0
    have h3 := ce_mul (a := b) he
    have h4 := Int.mul_le_mul_of_nonneg_left hd (ce_nn (a := b) hb he)
    omega
  omega
theorem ce_fl {a b d e : Int} (hb : 0 ≤ b) (he : 0 < e) (hd : e ≤ d) : (a + e - 1) / e + b / d ≤ (a + b + e - 1) / e := by
  have hd0 : 0 < d := by omega
  have h1 : (a + e - 1) / e ≤ (a + b + e - 1) / e - b / d := by
    rw [ce_iff he, Int.sub_mul]
    have h2 := ce_mul (a := a + b) he
    have h3 := fl_mul (a := b) hd0
    have h4 := Int.mul_le_mul_of_nonneg_left hd (fl_nn (a := b) hb hd0)
    omega
  omega
theorem sumS_go (f : Stop → Int) (x y : Int) : ∀ (l : List Stop) (n : Int), sumS f x y l n = n + sumS f x y l 0
  | [], n => by simp [sumS]
  | t :: l, n => by
    unfold sumS
    by_cases hc : x ≤ t.pos ∧ t.pos < y
    · simp only [if_pos hc]; rw [sumS_go f x y l (n + f t), sumS_go f x y l (0 + f t)]; omega
    · simp only [if_neg hc]; exact sumS_go f x y l n
theorem sumS_add (f : Stop → Int) {x p y : Int} (h1 : x ≤ p) (h2 : p ≤ y) : ∀ l : List Stop, sumS f x y l 0 = sumS f x p l 0 + sumS f p y l 0
  | [] => by simp [sumS]
  | t :: l => by
    have ih := sumS_add f h1 h2 l
    unfold sumS
    by_cases a : x ≤ t.pos
    · by_cases b : t.pos < p
      · rw [if_pos ⟨a, by omega⟩, if_pos ⟨a, b⟩, if_neg (by omega), sumS_go f x y l, sumS_go f x p l]; omega
      · by_cases c : t.pos < y
        · rw [if_pos ⟨a, c⟩, if_neg (by omega), if_pos ⟨by omega, c⟩, sumS_go f x y l, sumS_go f p y l]; omega
        · rw [if_neg (by omega), if_neg (by omega), if_neg (by omega)]; exact ih
    · rw [if_neg (by omega), if_neg (by omega), if_neg (by omega)]; exact ih
theorem sumS_le {f g : Stop → Int} {x y : Int} : ∀ {l : List Stop}, (∀ t ∈ l, f t ≤ g t) → sumS f x y l 0 ≤ sumS g x y l 0
  | [], _ => Int.le_refl _
  | t :: l, h => by
    have ih := sumS_le (x := x) (y := y) (fun t ht => h t (List.mem_cons_of_mem _ ht))
    have h0 := h t (by simp)
    unfold sumS
    split
    · rw [sumS_go f x y l, sumS_go g x y l]; omega
    · exact ih
theorem leastR_eq (s : Session) (x y : Int) : (leastR s x y).1 = (y - x) * 1000000 / s.rate.hi + sumS (·.secs.lo) x y s.stops 0 ∧ (leastR s x y).2 = ((y - x) * 1000000 + s.rate.lo - 1) / s.rate.lo + sumS (·.secs.hi) x y s.stops 0 := by
  unfold leastR
  rw [addS_sum]
  exact ⟨rfl, rfl⟩
section
variable {s : Session} (hs : s.R) {x p y : Int} (h1 : x ≤ p) (h2 : p ≤ y)
include hs h1 h2
theorem low_add : (leastR s x p).1 + (leastR s p y).1 ≤ (leastR s x y).1 := by
  obtain ⟨r1, r2, r3⟩ := hs.rate
  rw [(leastR_eq s x p).1, (leastR_eq s p y).1, (leastR_eq s x y).1, sumS_add _ h1 h2]
  have := fl_add (a := (p - x) * 1000000) (b := (y - p) * 1000000) (d := s.rate.hi) (by omega)
  rw [← Int.add_mul, show p - x + (y - p) = y - x by omega] at this
  omega
theorem high_add : (leastR s x y).2 ≤ (leastR s x p).2 + (leastR s p y).2 := by
  obtain ⟨r1, r2, r3⟩ := hs.rate
  rw [(leastR_eq s x p).2, (leastR_eq s p y).2, (leastR_eq s x y).2, sumS_add _ h1 h2]
  have := ce_add (a := (p - x) * 1000000) (b := (y - p) * 1000000) (d := s.rate.lo) (by omega)
  rw [← Int.add_mul, show p - x + (y - p) = y - x by omega] at this
  omega
theorem low_high : (leastR s x y).1 ≤ (leastR s x p).1 + (leastR s p y).2 := by
  obtain ⟨r1, r2, r3⟩ := hs.rate
  rw [(leastR_eq s x p).1, (leastR_eq s p y).2, (leastR_eq s x y).1, sumS_add _ h1 h2]
  have := fl_ce (a := (p - x) * 1000000) (b := (y - p) * 1000000) (d := s.rate.hi) (e := s.rate.lo) (by omega) (by omega) r2
  rw [← Int.add_mul, show p - x + (y - p) = y - x by omega] at this
  have := sumS_le (f := (·.secs.lo)) (g := (·.secs.hi)) (x := p) (y := y) (l := s.stops) (fun t ht => (hs.stops t ht).2.1)
  omega
theorem high_low : (leastR s x y).1 ≤ (leastR s x p).2 + (leastR s p y).1 := by
  obtain ⟨r1, r2, r3⟩ := hs.rate
  rw [(leastR_eq s x p).2, (leastR_eq s p y).1, (leastR_eq s x y).1, sumS_add _ h1 h2]
  have := fl_ce (a := (y - p) * 1000000) (b := (p - x) * 1000000) (d := s.rate.hi) (e := s.rate.lo) (by omega) (by omega) r2
  rw [← Int.add_mul, show y - p + (p - x) = y - x by omega] at this
  have := sumS_le (f := (·.secs.lo)) (g := (·.secs.hi)) (x := x) (y := p) (l := s.stops) (fun t ht => (hs.stops t ht).2.1)
  omega
theorem high_ge1 : (leastR s x p).2 + (leastR s p y).1 ≤ (leastR s x y).2 := by
  obtain ⟨r1, r2, r3⟩ := hs.rate
  rw [(leastR_eq s x p).2, (leastR_eq s p y).1, (leastR_eq s x y).2, sumS_add _ h1 h2]
  have := ce_fl (a := (p - x) * 1000000) (b := (y - p) * 1000000) (d := s.rate.hi) (e := s.rate.lo) (by omega) (by omega) r2
  rw [← Int.add_mul, show p - x + (y - p) = y - x by omega] at this
  have := sumS_le (f := (·.secs.lo)) (g := (·.secs.hi)) (x := p) (y := y) (l := s.stops) (fun t ht => (hs.stops t ht).2.1)
  omega
theorem high_ge2 : (leastR s x p).1 + (leastR s p y).2 ≤ (leastR s x y).2 := by
  obtain ⟨r1, r2, r3⟩ := hs.rate
  rw [(leastR_eq s x p).1, (leastR_eq s p y).2, (leastR_eq s x y).2, sumS_add _ h1 h2]
  have := ce_fl (a := (y - p) * 1000000) (b := (p - x) * 1000000) (d := s.rate.hi) (e := s.rate.lo) (by omega) (by omega) r2
  rw [← Int.add_mul, show y - p + (p - x) = y - x by omega] at this
  have := sumS_le (f := (·.secs.lo)) (g := (·.secs.hi)) (x := x) (y := p) (l := s.stops) (fun t ht => (hs.stops t ht).2.1)
  omega
end
theorem low_le_high {s : Session} (hs : s.R) {x y : Int} (h : x ≤ y) : (leastR s x y).1 ≤ (leastR s x y).2 := by
  obtain ⟨r1, r2, r3⟩ := hs.rate
  rw [(leastR_eq s x y).1, (leastR_eq s x y).2]
  have h1 := fl_ce (a := 0) (b := (y - x) * 1000000) (d := s.rate.hi) (e := s.rate.lo) (by omega) (by omega) r2
  rw [Int.zero_add, Int.zero_ediv, Int.zero_add] at h1
  have := sumS_le (f := (·.secs.lo)) (g := (·.secs.hi)) (x := x) (y := y) (l := s.stops) (fun t ht => (hs.stops t ht).2.1)
  omega
theorem max_of : ∀ (l : List Int), l ≠ [] → ∃ v ∈ l, ∀ a ∈ l, a ≤ v
  | [], h => absurd rfl h
  | [a], _ => ⟨a, by simp, fun b hb => by simp at hb; omega⟩
  | a :: b :: l, _ => by
    obtain ⟨v, hv, hm⟩ := max_of (b :: l) (by simp)
    by_cases h : a ≤ v
    · exact ⟨v, List.mem_cons_of_mem _ hv, fun c hc => by
        rcases List.mem_cons.1 hc with rfl | hc
        · exact h
        · exact hm c hc⟩
    · exact ⟨a, by simp, fun c hc => by
        rcases List.mem_cons.1 hc with rfl | hc
        · exact Int.le_refl _
        · have := hm c hc; omega⟩
theorem one_more {s : Session} (hs : s.R) {M : List Int} {P : Int → Int} (hpr : ∀ x ∈ M, ∀ y ∈ M, x < y → (leastR s x y).1 ≤ P y - P x ∧ P y - P x ≤ (leastR s x y).2) {p : Int} (hp : p ∉ M) (hne : M ≠ []) :
    ∃ v, (∀ x ∈ M, x < p → (leastR s x p).1 ≤ v - P x ∧ v - P x ≤ (leastR s x p).2) ∧ ∀ y ∈ M, p < y → (leastR s p y).1 ≤ P y - v ∧ P y - v ≤ (leastR s p y).2 := by
  obtain ⟨v, hv, hmax⟩ := max_of (M.map fun x => if x < p then P x + (leastR s x p).1 else P x - (leastR s p x).2) (by simpa using hne)
  obtain ⟨z, hz, rfl⟩ := List.mem_map.1 hv
  have hzp : z ≠ p := fun e => hp (e ▸ hz)
  have hlow : ∀ x ∈ M, (if x < p then P x + (leastR s x p).1 else P x - (leastR s p x).2) ≤ (if z < p then P z + (leastR s z p).1 else P z - (leastR s p z).2) := fun x hx => hmax _ (List.mem_map_of_mem hx)
  refine ⟨if z < p then P z + (leastR s z p).1 else P z - (leastR s p z).2, fun x hx hxp => ⟨?_, ?_⟩, fun y hy hpy => ⟨?_, ?_⟩⟩
  · have := hlow x hx
    rw [if_pos hxp] at this; omega
  · -- an upper bound from below
    by_cases h : z < p
    · rw [if_pos h]
      rcases Int.lt_trichotomy z x with hzx | hzx | hzx
      · have h1 := hpr z hz x hx hzx
        have h2 := low_high hs (x := z) (p := x) (y := p) (by omega) (by omega)
        omega
      · subst hzx
        have := low_le_high hs (x := z) (y := p) (by omega); omega
      · have h1 := hpr x hx z hz hzx
        have h2 := high_ge1 hs (x := x) (p := z) (y := p) (by omega) (by omega)
        omega
    · rw [if_neg h]
      have h1 := hpr x hx z hz (by omega)
      have h2 := high_add hs (x := x) (p := p) (y := z) (by omega) (by omega)
      omega
  · by_cases h : z < p
    · rw [if_pos h]
      have h1 := hpr z hz y hy (by omega)
      have h2 := low_add hs (x := z) (p := p) (y := y) (by omega) (by omega)
      omega
    · rw [if_neg h]
      rcases Int.lt_trichotomy z y with hzy | hzy | hzy
      · have h1 := hpr z hz y hy hzy
        have h2 := high_low hs (x := p) (p := z) (y := y) (by omega) (by omega)
        omega
      · subst hzy
        have := low_le_high hs (x := p) (y := z) (by omega); omega
      · have h1 := hpr y hy z hz hzy
        have h2 := high_ge2 hs (x := p) (p := y) (y := z) (by omega) (by omega)
        omega
  · have := hlow y hy
    rw [if_neg (show ¬ y < p by omega)] at this; omega
theorem Tim.more {r : Rec} (hs : r.s.R) {M M' : List Int} {p o ti te : Int} {ts : Nat → Int} {P : Int → Int} (h : Tim r M o ti te ts P) (hp : p ∉ M) (hM : ∀ a ∈ M', a ∈ M ∨ a = p)
    (m1 : r.s.zero.lo ∈ M) (m2 : r.s.zero.hi + 1 ∈ M) (m3 : r.s.fin.lo ∈ M) (m4 : r.s.fin.hi + 1 ∈ M) (m5 : ∀ x ∈ r.strikes, x.pos.lo ∈ M ∧ x.pos.hi + 1 ∈ M) : ∃ v, Tim r M' o ti te ts (fun q => if q = p then v else P q) := by
  obtain ⟨v, h1, h2⟩ := one_more hs h.pairs hp (fun e => by rw [e] at m1; cases m1)
  have e : ∀ q ∈ M, (if q = p then v else P q) = P q := fun q hq => by rw [if_neg]; rintro rfl; exact hp hq
  refine ⟨v, h.inn, h.out, h.sights, h.row, ?_, ?_, fun j x hx => ?_, fun x hx y hy hxy => ?_⟩
  · rw [e _ m1, e _ m2]; exact h.zero
  · rw [e _ m3, e _ m4]; exact h.fin
  · obtain ⟨a, b⟩ := m5 x (List.mem_of_getElem? hx)
    rw [e _ a, e _ b]; exact h.strikes j x hx
  · rcases hM x hx with hx | rfl
    · rcases hM y hy with hy | rfl
      · rw [e _ hx, e _ hy]; exact h.pairs x hx y hy hxy
      · rw [e _ hx, if_pos rfl]; exact h1 x hx hxy
    · rcases hM y hy with hy | rfl
      · rw [e _ hy, if_pos rfl]; exact h2 y hy hxy
      · omega
theorem Tim.less {r : Rec} {M M' : List Int} {o ti te : Int} {ts : Nat → Int} {P : Int → Int} (h : Tim r M o ti te ts P) (hM : ∀ a ∈ M', a ∈ M) : Tim r M' o ti te ts P :=
  ⟨h.inn, h.out, h.sights, h.row, h.zero, h.fin, h.strikes, fun x hx y hy => h.pairs x (hM x hx) y (hM y hy)⟩
end Go.Proofs.Ks

set_option maxHeartbeats 8000000
set_option maxRecDepth 10000
namespace Go.Proofs.Ks
open Go Go.Pg Go.Proofs
structure Yl (l n0 rb gb pb g m : Nat) (r : Rec) (pl : List Int) (N : List Node) (J : List Lk → (Nat → Option AO) → Prop) : Prop where
  frame : ∀ p H id o, J p H → n0 ≤ id → J p (updH H id o)
  sys : ∀ p H, J p H → SysY H rb gb pb g m r pl N
  y : ∀ p H nx (x : Lk), J p H → n0 ≤ nx → p.length < 20000 → YOK cx l [.agg (eLink x)] H nx (fun b H' nx' => b = true ∧ J (p ++ [x]) H' ∧ nx ≤ nx' ∧ ∀ id, n0 ≤ id → id < nx → H' id = H id)
def dropS : Nat → Code → Code
  | n + 1, .seq _ b => dropS n b
  | _, c => c
def T1_ (r : Rec) (nd : List Node) : List Lk := rwL r.strikes.length (r.strikes.length + 1) 0 ++ linksN nd (rowT r.strikes.length) (spanT r)
noncomputable def tail121 : Code := dropS 14 (Try.f121.body.getD .skip)
structure MidA (l n0 gb pb nx : Nat) (r : Rec) (nd : List Node) (J : List Lk → (Nat → Option AO) → Prop) (s : St) : Prop where
  t0 : s.tm 0 = .v (.func (.yield l) #[] #[])
  t2 : s.tm 2 = .ptr gb 0 0 1
  t3 : s.tm 3 = .ptr pb 0 0 1
  t5 : s.tm 5 = .ptr nx 0 0 1
  t8 : s.tm 8 = .ptr (nx + 1) 0 0 1
  S : Pg.rowAt s.H nx = some { k := 12, es := [eSession r.s], ty := 26 }
  lb : Pg.rowAt s.H (nx + 1) = some { k := 1, es := [[.ref (nx + 4) 0 (linksA r nd).length]], ty := 62 }
  lo : ∃ lw, lw ≤ (linksA r nd).length ∧ Pg.rowAt s.H (nx + 4) = some { k := 3, es := (linksA r nd).map eLink, ty := 66, lo := lw }
  j : J [] s.H
  n : nx + 10 ≤ s.nx
end Go.Proofs.Ks

namespace Go.Proofs.Ks
open Go Go.Pg Go.Proofs
theorem all1_a {l n0 rb gb pb g m : Nat} {r : Rec} (hv : r.V) {more : List Int} (hml : more.length ≤ 8) (hmb : ∀ a ∈ more, 0 ≤ a ∧ a ≤ 43200) {J : List Lk → (Nat → Option AO) → Prop} (hJ : Yl l n0 rb gb pb g m r (marksR r more) (nodesR r more) J)
    (h1 : rb < n0) (h2 : gb < n0) (h3 : pb < n0) (h4 : g < n0) (h5 : m < n0) {H : Nat → Option AO} {nx : Nat} (hnx : n0 ≤ nx) (hJ0 : J [] H) {Q : AV → (Nat → Option AO) → Nat → Prop}
    (hK : ∀ s, MidA l n0 gb pb nx r (nodesR r more) J s → AW cx 232 tail121 (endM cx [] Q) s) :
    OKm cx 121 [.v (.func (.yield l) #[] #[]), .ptr rb 0 0 1, .ptr gb 0 0 1, .ptr pb 0 0 1] H nx Q := by
  have hns := hv.nstrikes
  have hng := hv.nsights
  obtain ⟨i1, i2, i3⟩ := hv.inn
  obtain ⟨o1, o2, o3⟩ := hv.out
  have hin := atP_in r more
  have hout := atP_out r more
  obtain ⟨hrb0, hgb0, hpb0, ⟨ga0, gl0, hgg0⟩, hmm0⟩ := hJ.sys _ _ hJ0
  refine OKm.of_body cx_ok (rs := []) Try.func121 rfl (by decide +kernel) rfl (by simp [Try.ntmps121]) ?_
  simp only [Try.ntmps121]
  refine AW.fresh fun hfr0 => ?_
  have hfr : ∀ id, nx ≤ id → H id = none := hfr0
  repeat' first
    | ((first | (apply W.callr cx_ok; decide) | (apply D.callr cx_ok; decide; decide)); (iterate 2 (simp (disch := (first | omega | (simp only [zE, zF, zD, zC, zA, zB, rwI_len, rowT_len, spanT_len, bothL_len]; omega))) only [push_cast, simprocAttr, takeM, dropM, zK, zA, zB, zN, zQ, zR, zO, zP, zT, zS, zU, leT, zH, pureL, pureA, natNe, zI, zG, TyD.isAgg, zJ, hrb0, hgb0, hpb0, hgg0, hmm0, hfr, hin, hout] <;> rfl)); (exact at_r (nodesR r more) _ _ (by simp (disch := (first | omega | (simp only [zE, zF, zD, zC, zA, zB, rwI_len, rowT_len, spanT_len, bothL_len]; omega))) only [push_cast, simprocAttr, takeM, dropM, zK, zA, zB, zN, zQ, zR, zO, zP, zT, zS, zU, leT, zH, pureL, pureA, natNe, zI, zG, TyD.isAgg, zJ, hrb0, hgb0, hpb0, hgg0, hmm0, hfr, hin, hout] <;> rfl) (by simp (disch := (first | omega | (simp only [zE, zF, zD, zC, zA, zB, rwI_len, rowT_len, spanT_len, bothL_len]; omega))) only [push_cast, simprocAttr, takeM, dropM, zK, zA, zB, zN, zQ, zR, zO, zP, zT, zS, zU, leT, zH, pureL, pureA, natNe, zI, zG, TyD.isAgg, zJ, hrb0, hgb0, hpb0, hgg0, hmm0, hfr, hin, hout] <;> rfl)))
    | apply AW.seq | apply AW.region | apply AW.ret | apply AW.block | apply AW.skip | apply AW.exit | apply AW.scope | apply AW.label | apply AWL.nil | apply D.nil
    | refine AW.draw (id := 1) cx_mixed [5] [] [] 0 (by decide +kernel) ?_
    | refine W.draw cx_mixed (by decide +kernel) ?_
    | ((first | (apply W.step cx_ok; decide) | (apply D.step cx_ok; decide; decide) | apply W.store cx_ok | (apply W.gS; rfl; decide) | (apply D.gS; rfl; decide; decide) | apply AW.cond | apply W.mapUpdate cx_ok); (simp (disch := (first | omega | (simp only [zE, zF, zD, zC, zA, zB, rwI_len, rowT_len, spanT_len, bothL_len]; omega))) only [push_cast, simprocAttr, takeM, dropM, zK, zA, zB, zN, zQ, zR, zO, zP, zT, zS, zU, leT, zH, pureL, pureA, natNe, zI, zG, TyD.isAgg, zJ, hrb0, hgb0, hpb0, hgg0, hmm0, hfr, hin, hout] <;> rfl); all_goals try ((with_reducible intro hI); try first | (cases hI; done) | (simp only [INTS, zL] at hI; try first | (exfalso; omega) | (have hT : True := hI; clear hT hI))))
    | ((first | (apply D.store cx_ok; decide) | (apply D.stept cx_ok; decide; decide) | (apply D.mapUpdate cx_ok; decide) | (apply D.stepm cx_ok; decide; decide)); (simp (disch := (first | omega | (simp only [zE, zF, zD, zC, zA, zB, rwI_len, rowT_len, spanT_len, bothL_len]; omega))) only [push_cast, simprocAttr, takeM, dropM, zK, zA, zB, zN, zQ, zR, zO, zP, zT, zS, zU, leT, zH, pureL, pureA, natNe, zI, zG, TyD.isAgg, zJ, hrb0, hgb0, hpb0, hgg0, hmm0, hfr, hin, hout] <;> rfl); try first | exact .inl rfl | exact .inr (by simp))
    | (refine W.makeMap cx_ok (by simp only [push_cast, simprocAttr] <;> rfl) (by decide) ?_)
    | ((apply D.alloct cx_ok; decide; decide); (simp (disch := (first | omega | (simp only [zE, zF, zD, zC, zA, zB, rwI_len, rowT_len, spanT_len, bothL_len]; omega))) only [push_cast, simprocAttr, takeM, dropM, zK, zA, zB, zN, zQ, zR, zO, zP, zT, zS, zU, leT, zH, pureL, pureA, natNe, zI, zG, TyD.isAgg, zJ, hrb0, hgb0, hpb0, hgg0, hmm0, hfr, hin, hout] <;> rfl); first | exact .inl rfl | exact .inr (by simp))
    | (apply W.append cx_ok; decide; rfl; rfl; rfl; decide; (iterate 3 (simp (disch := (first | omega | (simp only [zE, zF, zD, zC, zA, zB, rwI_len, rowT_len, spanT_len, bothL_len]; omega))) only [push_cast, simprocAttr, takeM, dropM, zK, zA, zB, zN, zQ, zR, zO, zP, zT, zS, zU, leT, zH, pureL, pureA, natNe, zI, zG, TyD.isAgg, zJ, hrb0, hgb0, hpb0, hgg0, hmm0, hfr, hin, hout] <;> rfl)); (first | (focus (simp; done)) | (intro c hc; obtain ⟨x, _, rfl⟩ := List.mem_map.1 hc; rfl)); ((first | rfl | simp (disch := omega) only [push_cast])); ((try dsimp only); (try simp only [zF, zE, zD, zC, zA, zB, rwI_len, rowT_len, spanT_len, bothL_len]); omega); ((try dsimp only); (try simp only [zF, zE, zD, zC, zA, zB, rwI_len, rowT_len, spanT_len, bothL_len]); omega))

  refine W.callm cx_ok (by decide) (f := 122) (caps := [.ptr (nx + 1) 0 0 1]) (by simp (disch := omega) only [push_cast, simprocAttr, natNe, zI, zG, TyD.isAgg, zJ, hrb0, hgb0, hpb0, hgg0, hmm0, hfr, hin, hout] <;> rfl) (between0_m 1 r.s.inn (by decide) ⟨by omega, by omega⟩ (lb := nx + 1) (by dsimp only [St.put, nxA]; omega) (by simp (disch := omega) only [push_cast, simprocAttr, natNe, zI, zG, TyD.isAgg, zJ, hrb0, hgb0, hpb0, hgg0, hmm0, hfr, hin, hout] <;> rfl) (by simp (disch := omega) only [push_cast, simprocAttr, natNe, zI, zG, TyD.isAgg, zJ, hrb0, hgb0, hpb0, hgg0, hmm0, hfr, hin, hout] <;> rfl)) ?_
  rintro _ _ _ ⟨rfl, rfl, rfl⟩
  repeat' first
    | apply AW.seq | apply AW.region | apply AW.ret | apply AW.block | apply AW.skip | apply AW.exit | apply AW.scope | apply AW.label | apply AWL.nil | apply D.nil
    | refine W.draw cx_mixed (by decide +kernel) ?_
    | ((first | (apply W.step cx_ok; decide) | (apply D.step cx_ok; decide; decide) | apply W.store cx_ok | (apply W.gS; rfl; decide) | (apply D.gS; rfl; decide; decide) | apply AW.cond | apply W.mapUpdate cx_ok); (simp (disch := (first | omega | (simp only [zE, zF, zD, zC, zA, zB, rwI_len, rowT_len, spanT_len, bothL_len]; omega))) only [push_cast, simprocAttr, takeM, dropM, zK, zA, zB, zN, zQ, zR, zO, zP, zT, zS, zU, leT, zH, pureL, pureA, natNe, zI, zG, TyD.isAgg, zJ, hrb0, hgb0, hpb0, hgg0, hmm0, hfr, hin, hout] <;> rfl); all_goals try ((with_reducible intro hI); try first | (cases hI; done) | (simp only [INTS, zL] at hI; try first | (exfalso; omega) | (have hT : True := hI; clear hT hI))))
    | (refine W.makeMap cx_ok (by simp only [push_cast, simprocAttr] <;> rfl) (by decide) ?_)
    | (apply W.append cx_ok; decide; rfl; rfl; rfl; decide; (iterate 3 (simp (disch := (first | omega | (simp only [zE, zF, zD, zC, zA, zB, rwI_len, rowT_len, spanT_len, bothL_len]; omega))) only [push_cast, simprocAttr, takeM, dropM, zK, zA, zB, zN, zQ, zR, zO, zP, zT, zS, zU, leT, zH, pureL, pureA, natNe, zI, zG, TyD.isAgg, zJ, hrb0, hgb0, hpb0, hgg0, hmm0, hfr, hin, hout] <;> rfl)); (first | (focus (simp; done)) | (intro c hc; obtain ⟨x, _, rfl⟩ := List.mem_map.1 hc; rfl)); ((first | rfl | simp (disch := omega) only [push_cast])); ((try dsimp only); (try simp only [zF, zE, zD, zC, zA, zB, rwI_len, rowT_len, spanT_len, bothL_len]); omega); ((try dsimp only); (try simp only [zF, zE, zD, zC, zA, zB, rwI_len, rowT_len, spanT_len, bothL_len]); omega))

  refine W.callm cx_ok (by decide) (f := 122) (caps := [.ptr (nx + 1) 0 0 1]) (by simp (disch := omega) only [push_cast, simprocAttr, natNe, zI, zG, TyD.isAgg, zJ, hrb0, hgb0, hpb0, hgg0, hmm0, hfr, hin, hout] <;> rfl) (between_m 2 r.s.out (by decide) ⟨by omega, by omega⟩ (bothL 1 r.s.inn) (lb := nx + 1) (lo := nx + 4) (lw := 2) (by simp [bothL_len]) (by omega) (by dsimp only [St.put, nxA]; omega) (by dsimp only [St.put, nxA]; omega) (by simp (disch := omega) only [push_cast, simprocAttr, natNe, zI, zG, TyD.isAgg, zJ, hrb0, hgb0, hpb0, hgg0, hmm0, hfr, hin, hout] <;> rfl) (by simp (disch := omega) only [push_cast, simprocAttr, natNe, zI, zG, TyD.isAgg, zJ, hrb0, hgb0, hpb0, hgg0, hmm0, hfr, hin, hout] <;> rfl) (by simp (disch := omega) only [push_cast, simprocAttr, natNe, zI, zG, TyD.isAgg, zJ, hrb0, hgb0, hpb0, hgg0, hmm0, hfr, hin, hout] <;> rfl) (Nat.le_refl _)) ?_
  rintro _ _ _ ⟨rfl, rfl, rfl⟩
  repeat' first
    | apply AW.seq | apply AW.region | apply AW.ret | apply AW.block | apply AW.skip | apply AW.exit | apply AW.scope | apply AW.label | apply AWL.nil | apply D.nil
    | refine W.draw cx_mixed (by decide +kernel) ?_
    | ((first | (apply W.step cx_ok; decide) | (apply D.step cx_ok; decide; decide) | apply W.store cx_ok | (apply W.gS; rfl; decide) | (apply D.gS; rfl; decide; decide) | apply AW.cond | apply W.mapUpdate cx_ok); (simp (disch := (first | omega | (simp only [zE, zF, zD, zC, zA, zB, rwI_len, rowT_len, spanT_len, bothL_len]; omega))) only [push_cast, simprocAttr, takeM, dropM, zK, zA, zB, zN, zQ, zR, zO, zP, zT, zS, zU, leT, zH, pureL, pureA, natNe, zI, zG, TyD.isAgg, zJ, hrb0, hgb0, hpb0, hgg0, hmm0, hfr, hin, hout] <;> rfl); all_goals try ((with_reducible intro hI); try first | (cases hI; done) | (simp only [INTS, zL] at hI; try first | (exfalso; omega) | (have hT : True := hI; clear hT hI))))
    | (refine W.makeMap cx_ok (by simp only [push_cast, simprocAttr] <;> rfl) (by decide) ?_)
    | (apply W.append cx_ok; decide; rfl; rfl; rfl; decide; (iterate 3 (simp (disch := (first | omega | (simp only [zE, zF, zD, zC, zA, zB, rwI_len, rowT_len, spanT_len, bothL_len]; omega))) only [push_cast, simprocAttr, takeM, dropM, zK, zA, zB, zN, zQ, zR, zO, zP, zT, zS, zU, leT, zH, pureL, pureA, natNe, zI, zG, TyD.isAgg, zJ, hrb0, hgb0, hpb0, hgg0, hmm0, hfr, hin, hout] <;> rfl)); (first | (focus (simp; done)) | (intro c hc; obtain ⟨x, _, rfl⟩ := List.mem_map.1 hc; rfl)); ((first | rfl | simp (disch := omega) only [push_cast])); ((try dsimp only); (try simp only [zF, zE, zD, zC, zA, zB, rwI_len, rowT_len, spanT_len, bothL_len]); omega); ((try dsimp only); (try simp only [zF, zE, zD, zC, zA, zB, rwI_len, rowT_len, spanT_len, bothL_len]); omega))

  refine AW.loop (fun n s => ∃ (k lr ls : Nat) (rest : List Strike), n = rest.length ∧ (r.strikes.drop k = rest) ∧ (lr ≤ k + 1) ∧ (ls ≤ k + 1) ∧ (k ≤ r.strikes.length) ∧ (J [] s.H) ∧ nx + 10 ≤ s.nx ∧ s.tm 0 = .v (.func (.yield l) #[] #[]) ∧ s.tm 1 = .ptr rb 0 0 1 ∧ s.tm 2 = .ptr gb 0 0 1 ∧ s.tm 3 = .ptr pb 0 0 1 ∧ s.tm 5 = .ptr nx 0 0 1 ∧ s.tm 8 = .ptr (nx + 1) 0 0 1 ∧ s.tm 9 = .clo 122 [.ptr (nx + 1) 0 0 1] ∧ s.tm 10 = .map (nx + 7) ∧ s.tm 7 = ai 2 ∧ s.tm 11 = .ref (nx + 8) 0 (k + 1) ∧ s.tm 12 = .ref (nx + 9) 0 (k + 1) ∧ s.tm 57 = lStrike r.strikes ∧ s.tm 58 = ai r.strikes.length ∧ s.tm 59 = ai k ∧ Pg.rowAt s.H nx = some { k := 12, es := [eSession r.s], ty := 26 } ∧ Pg.rowAt s.H (nx + 1) = some { k := 1, es := [[.ref (nx + 4) 0 (bothL 1 r.s.inn ++ bothL 2 r.s.out).length]], ty := 62 } ∧ Pg.rowAt s.H (nx + 4) = some { k := 3, es := (bothL 1 r.s.inn ++ bothL 2 r.s.out).map eLink, ty := 66, lo := 4 } ∧ Pg.rowAt s.H (nx + 8) = some { k := 1, es := (rwI k).map eInt, ty := 3, lo := lr } ∧ Pg.rowAt s.H (nx + 9) = some { k := 2, es := (r.s.zero :: (r.strikes.take k).map (·.pos)).map eSpan, ty := 23, lo := ls } ∧ s.H (nx + 7) = some (.mp (.map .int) 0 (idM 0 (r.strikes.take k)))) (r.strikes.length) ⟨0, _, _, r.strikes, rfl, rfl, (Nat.zero_le _), (Nat.zero_le _), (Nat.zero_le _), (by (try simp (disch := omega) only [push_cast, simprocAttr, natNe, zI, zG, TyD.isAgg, zJ, hrb0, hgb0, hpb0, hgg0, hmm0, hfr, hin, hout]); (repeat (refine hJ.frame _ _ _ _ ?_ (by omega))); exact hJ0), ?_, ?_, ?_, ?_, ?_, ?_, ?_, ?_, ?_, ?_, ?_, ?_, ?_, ?_, ?_, ?_, ?_, ?_, ?_, ?_, ?_⟩ ?_
  iterate 21 (first | (simp (disch := omega) only [push_cast, simprocAttr, natNe, zI, zG, TyD.isAgg, zJ, hrb0, hgb0, hpb0, hgg0, hmm0, hfr, hin, hout, bothL_len, zY, zE] <;> first | rfl | omega) | omega)
  rintro n s ⟨k, lr, ls, rest, hn, hp0, hp1, hp2, hp3, hp4, hnl, hS⟩
  refine AW.fresh fun hfr => ?_
  obtain ⟨hrb, hgb, hpb, ⟨ga, gl, hgg⟩, hmm⟩ := hJ.sys _ _ hp4
  rcases rest with _ | ⟨x, rest⟩
  rotate_left
  · obtain ⟨hk, hg, hd', hl', hm, hx⟩ := drop_cons hp0 eStrike []
    have hat : atP 3 (k : Int) (nodesR r more) = 3 + (k : Int) := atP_strike (by omega)
    have hput := putM_step hv hp0
    have htk := take_snoc hp0
    have hmin : min k r.strikes.length = k := Nat.min_eq_left hp3
    repeat' first
      | ((first | (apply W.callr cx_ok; decide) | (apply D.callr cx_ok; decide; decide)); (iterate 2 (simp (disch := (first | omega | (simp only [zE, zF, zD, zC, zA, zB, rwI_len, rowT_len, spanT_len, bothL_len]; omega))) only [push_cast, simprocAttr, takeM, dropM, zK, zA, zB, zN, zQ, zR, zO, zP, zT, zS, zU, leT, zH, pureL, pureA, natNe, zI, zG, TyD.isAgg, zJ, hS, hrb, hgb, hpb, hgg, hmm, hfr, hk, hg, hx, hat, hput, hmin, rwI_len] <;> rfl)); (exact at_r (nodesR r more) _ _ (by simp (disch := (first | omega | (simp only [zE, zF, zD, zC, zA, zB, rwI_len, rowT_len, spanT_len, bothL_len]; omega))) only [push_cast, simprocAttr, takeM, dropM, zK, zA, zB, zN, zQ, zR, zO, zP, zT, zS, zU, leT, zH, pureL, pureA, natNe, zI, zG, TyD.isAgg, zJ, hS, hrb, hgb, hpb, hgg, hmm, hfr, hk, hg, hx, hat, hput, hmin, rwI_len] <;> rfl) (by simp (disch := (first | omega | (simp only [zE, zF, zD, zC, zA, zB, rwI_len, rowT_len, spanT_len, bothL_len]; omega))) only [push_cast, simprocAttr, takeM, dropM, zK, zA, zB, zN, zQ, zR, zO, zP, zT, zS, zU, leT, zH, pureL, pureA, natNe, zI, zG, TyD.isAgg, zJ, hS, hrb, hgb, hpb, hgg, hmm, hfr, hk, hg, hx, hat, hput, hmin, rwI_len] <;> rfl)))
      | ((apply D.buildL cx_ok; decide; decide); (iterate 3 (simp (disch := (first | omega | (simp only [zE, zF, zD, zC, zA, zB, rwI_len, rowT_len, spanT_len, bothL_len]; omega))) only [push_cast, simprocAttr, takeM, dropM, zK, zA, zB, zN, zQ, zR, zO, zP, zT, zS, zU, leT, zH, pureL, pureA, natNe, zI, zG, TyD.isAgg, zJ, hS, hrb, hgb, hpb, hgg, hmm, hfr, hk, hg, hx, hat, hput, hmin, rwI_len, pur, pureA, pureL, ite_true, zP] <;> rfl)); exact Nat.zero_le _)
      | apply AW.seq | apply AW.region | apply AW.ret | apply AW.block | apply AW.skip | apply AW.exit | apply AW.scope | apply AW.label | apply AWL.nil | apply D.nil
      | refine AW.draw (id := 14) cx_mixed [3, 8, 9, 10] [4, 5, 6, 7] [nx + 8, nx + 9] 11 (by decide +kernel) ?_
      | refine W.draw cx_mixed (by decide +kernel) ?_
      | ((first | (apply W.step cx_ok; decide) | (apply D.step cx_ok; decide; decide) | apply W.store cx_ok | (apply W.gS; rfl; decide) | (apply D.gS; rfl; decide; decide) | apply AW.cond | apply W.mapUpdate cx_ok); (simp (disch := (first | omega | (simp only [zE, zF, zD, zC, zA, zB, rwI_len, rowT_len, spanT_len, bothL_len]; omega))) only [push_cast, simprocAttr, takeM, dropM, zK, zA, zB, zN, zQ, zR, zO, zP, zT, zS, zU, leT, zH, pureL, pureA, natNe, zI, zG, TyD.isAgg, zJ, hS, hrb, hgb, hpb, hgg, hmm, hfr, hk, hg, hx, hat, hput, hmin, rwI_len] <;> rfl); all_goals try ((with_reducible intro hI); try first | (cases hI; done) | (simp only [INTS, zL] at hI; try first | (exfalso; omega) | (have hT : True := hI; clear hT hI))))
      | ((first | (apply D.store cx_ok; decide) | (apply D.stept cx_ok; decide; decide) | (apply D.mapUpdate cx_ok; decide) | (apply D.stepm cx_ok; decide; decide)); (simp (disch := (first | omega | (simp only [zE, zF, zD, zC, zA, zB, rwI_len, rowT_len, spanT_len, bothL_len]; omega))) only [push_cast, simprocAttr, takeM, dropM, zK, zA, zB, zN, zQ, zR, zO, zP, zT, zS, zU, leT, zH, pureL, pureA, natNe, zI, zG, TyD.isAgg, zJ, hS, hrb, hgb, hpb, hgg, hmm, hfr, hk, hg, hx, hat, hput, hmin, rwI_len] <;> rfl); try first | exact .inl rfl | exact .inr (by simp))
      | (refine W.makeMap cx_ok (by simp only [push_cast, simprocAttr] <;> rfl) (by decide) ?_)
      | ((apply D.alloc cx_ok; decide; decide); (simp (disch := (first | omega | (simp only [zE, zF, zD, zC, zA, zB, rwI_len, rowT_len, spanT_len, bothL_len]; omega))) only [push_cast, simprocAttr, takeM, dropM, zK, zA, zB, zN, zQ, zR, zO, zP, zT, zS, zU, leT, zH, pureL, pureA, natNe, zI, zG, TyD.isAgg, zJ, hS, hrb, hgb, hpb, hgg, hmm, hfr, hk, hg, hx, hat, hput, hmin, rwI_len] <;> rfl); (simp (disch := (first | omega | (simp only [zE, zF, zD, zC, zA, zB, rwI_len, rowT_len, spanT_len, bothL_len]; omega))) only [push_cast, simprocAttr, takeM, dropM, zK, zA, zB, zN, zQ, zR, zO, zP, zT, zS, zU, leT, zH, pureL, pureA, natNe, zI, zG, TyD.isAgg, zJ, hS, hrb, hgb, hpb, hgg, hmm, hfr, hk, hg, hx, hat, hput, hmin, rwI_len, updH_at, zJ]); (simp (disch := (first | omega | (simp only [zE, zF, zD, zC, zA, zB, rwI_len, rowT_len, spanT_len, bothL_len]; omega))) only [push_cast, simprocAttr, takeM, dropM, zK, zA, zB, zN, zQ, zR, zO, zP, zT, zS, zU, leT, zH, pureL, pureA, natNe, zI, zG, TyD.isAgg, zJ, hS, hrb, hgb, hpb, hgg, hmm, hfr, hk, hg, hx, hat, hput, hmin, rwI_len] <;> omega))
      | ((apply D.alloct cx_ok; decide; decide); (simp (disch := (first | omega | (simp only [zE, zF, zD, zC, zA, zB, rwI_len, rowT_len, spanT_len, bothL_len]; omega))) only [push_cast, simprocAttr, takeM, dropM, zK, zA, zB, zN, zQ, zR, zO, zP, zT, zS, zU, leT, zH, pureL, pureA, natNe, zI, zG, TyD.isAgg, zJ, hS, hrb, hgb, hpb, hgg, hmm, hfr, hk, hg, hx, hat, hput, hmin, rwI_len] <;> rfl); first | exact .inl rfl | exact .inr (by simp))
      | (apply W.append cx_ok; decide; rfl; rfl; rfl; decide; (iterate 3 (simp (disch := (first | omega | (simp only [zE, zF, zD, zC, zA, zB, rwI_len, rowT_len, spanT_len, bothL_len]; omega))) only [push_cast, simprocAttr, takeM, dropM, zK, zA, zB, zN, zQ, zR, zO, zP, zT, zS, zU, leT, zH, pureL, pureA, natNe, zI, zG, TyD.isAgg, zJ, hS, hrb, hgb, hpb, hgg, hmm, hfr, hk, hg, hx, hat, hput, hmin, rwI_len] <;> rfl)); (first | (focus (simp; done)) | (intro c hc; obtain ⟨x, _, rfl⟩ := List.mem_map.1 hc; rfl)); ((first | rfl | simp (disch := omega) only [push_cast])); ((try dsimp only); (try simp only [zF, zE, zD, zC, zA, zB, rwI_len, rowT_len, spanT_len, bothL_len]); omega); ((try dsimp only); (try simp only [zF, zE, zD, zC, zA, zB, rwI_len, rowT_len, spanT_len, bothL_len]); omega))
      | (apply D.append cx_ok; decide; decide; rfl; rfl; rfl; decide; (iterate 3 (simp (disch := (first | omega | (simp only [zE, zF, zD, zC, zA, zB, rwI_len, rowT_len, spanT_len, bothL_len]; omega))) only [push_cast, simprocAttr, takeM, dropM, zK, zA, zB, zN, zQ, zR, zO, zP, zT, zS, zU, leT, zH, pureL, pureA, natNe, zI, zG, TyD.isAgg, zJ, hS, hrb, hgb, hpb, hgg, hmm, hfr, hk, hg, hx, hat, hput, hmin, rwI_len] <;> rfl)); (first | (focus (simp; done)) | (intro c hc; obtain ⟨x, _, rfl⟩ := List.mem_map.1 hc; rfl)); ((first | rfl | (simp (disch := omega) only [push_cast]; done))); ((try dsimp only); (try simp only [zF, zE, zD, zC, zA, zB, rwI_len, rowT_len, spanT_len, bothL_len]); omega); ((try dsimp only); (try simp only [zF, zE, zD, zC, zA, zB, rwI_len, rowT_len, spanT_len, bothL_len]); omega); first | exact .inl rfl | exact .inr (by simp))

    all_goals (refine ⟨rest.length, ?_, k + 1, (k + 1 + 1), (k + 1 + 1), rest, rfl, hd', (Nat.le_refl _), (Nat.le_refl _), (by omega), (by (try simp (disch := omega) only [push_cast, simprocAttr, natNe, zI, zG, TyD.isAgg, zJ, hS]); (repeat (refine hJ.frame _ _ _ _ ?_ (by omega))); exact hp4), ?_, ?_, ?_, ?_, ?_, ?_, ?_, ?_, ?_, ?_, ?_, ?_, ?_, ?_, ?_, ?_, ?_, ?_, ?_, ?_, ?_⟩; ((simp only [List.length_cons] at *; omega)); all_goals first | (simp (disch := omega) only [push_cast, simprocAttr, hS, natNe, zI, zG, TyD.isAgg, zJ, hrb, hgb, hpb, hgg, hmm, hk, hg, hx, hat, hput, hmin, htk, rwI_succ, rwI_len, zA, zY, zX, zW, zE, zD, zC, List.append_assoc, yB, yA, isEmpty_map, zV, zM, yC] <;> first | rfl | omega) | omega)
  have hk := drop_nil hp0
  have hkS : k = r.strikes.length := by have := List.drop_eq_nil_iff.1 hp0; omega
  subst hkS
  rw [List.take_length] at hS
  repeat' first
    | ((first | (apply W.callr cx_ok; decide) | (apply D.callr cx_ok; decide; decide)); (iterate 2 (simp (disch := (first | omega | (simp only [zE, zF, zD, zC, zA, zB, rwI_len, rowT_len, spanT_len, bothL_len]; omega))) only [push_cast, simprocAttr, takeM, dropM, zK, zA, zB, zN, zQ, zR, zO, zP, zT, zS, zU, leT, zH, pureL, pureA, natNe, zI, zG, TyD.isAgg, zJ, hS, hrb, hgb, hpb, hgg, hmm, hfr, hk, rwI_len] <;> rfl)); (exact at_r (nodesR r more) _ _ (by simp (disch := (first | omega | (simp only [zE, zF, zD, zC, zA, zB, rwI_len, rowT_len, spanT_len, bothL_len]; omega))) only [push_cast, simprocAttr, takeM, dropM, zK, zA, zB, zN, zQ, zR, zO, zP, zT, zS, zU, leT, zH, pureL, pureA, natNe, zI, zG, TyD.isAgg, zJ, hS, hrb, hgb, hpb, hgg, hmm, hfr, hk, rwI_len] <;> rfl) (by simp (disch := (first | omega | (simp only [zE, zF, zD, zC, zA, zB, rwI_len, rowT_len, spanT_len, bothL_len]; omega))) only [push_cast, simprocAttr, takeM, dropM, zK, zA, zB, zN, zQ, zR, zO, zP, zT, zS, zU, leT, zH, pureL, pureA, natNe, zI, zG, TyD.isAgg, zJ, hS, hrb, hgb, hpb, hgg, hmm, hfr, hk, rwI_len] <;> rfl)))
    | ((apply D.buildL cx_ok; decide; decide); (iterate 3 (simp (disch := (first | omega | (simp only [zE, zF, zD, zC, zA, zB, rwI_len, rowT_len, spanT_len, bothL_len]; omega))) only [push_cast, simprocAttr, takeM, dropM, zK, zA, zB, zN, zQ, zR, zO, zP, zT, zS, zU, leT, zH, pureL, pureA, natNe, zI, zG, TyD.isAgg, zJ, hS, hrb, hgb, hpb, hgg, hmm, hfr, hk, rwI_len, pur, pureA, pureL, ite_true, zP] <;> rfl)); exact Nat.zero_le _)
    | apply AW.seq | apply AW.region | apply AW.ret | apply AW.block | apply AW.skip | apply AW.exit | apply AW.scope | apply AW.label | apply AWL.nil | apply D.nil
    | refine AW.draw (id := 16) cx_mixed [3, 8, 9, 10] [4, 5, 6, 7] [nx + 8, nx + 9] 11 (by decide +kernel) ?_
    | refine W.draw cx_mixed (by decide +kernel) ?_
    | ((first | (apply W.step cx_ok; decide) | (apply D.step cx_ok; decide; decide) | apply W.store cx_ok | (apply W.gS; rfl; decide) | (apply D.gS; rfl; decide; decide) | apply AW.cond | apply W.mapUpdate cx_ok); (simp (disch := (first | omega | (simp only [zE, zF, zD, zC, zA, zB, rwI_len, rowT_len, spanT_len, bothL_len]; omega))) only [push_cast, simprocAttr, takeM, dropM, zK, zA, zB, zN, zQ, zR, zO, zP, zT, zS, zU, leT, zH, pureL, pureA, natNe, zI, zG, TyD.isAgg, zJ, hS, hrb, hgb, hpb, hgg, hmm, hfr, hk, rwI_len] <;> rfl); all_goals try ((with_reducible intro hI); try first | (cases hI; done) | (simp only [INTS, zL] at hI; try first | (exfalso; omega) | (have hT : True := hI; clear hT hI))))
    | ((first | (apply D.store cx_ok; decide) | (apply D.stept cx_ok; decide; decide) | (apply D.mapUpdate cx_ok; decide) | (apply D.stepm cx_ok; decide; decide)); (simp (disch := (first | omega | (simp only [zE, zF, zD, zC, zA, zB, rwI_len, rowT_len, spanT_len, bothL_len]; omega))) only [push_cast, simprocAttr, takeM, dropM, zK, zA, zB, zN, zQ, zR, zO, zP, zT, zS, zU, leT, zH, pureL, pureA, natNe, zI, zG, TyD.isAgg, zJ, hS, hrb, hgb, hpb, hgg, hmm, hfr, hk, rwI_len] <;> rfl); try first | exact .inl rfl | exact .inr (by simp))
    | (refine W.makeMap cx_ok (by simp only [push_cast, simprocAttr] <;> rfl) (by decide) ?_)
    | ((apply D.alloc cx_ok; decide; decide); (simp (disch := (first | omega | (simp only [zE, zF, zD, zC, zA, zB, rwI_len, rowT_len, spanT_len, bothL_len]; omega))) only [push_cast, simprocAttr, takeM, dropM, zK, zA, zB, zN, zQ, zR, zO, zP, zT, zS, zU, leT, zH, pureL, pureA, natNe, zI, zG, TyD.isAgg, zJ, hS, hrb, hgb, hpb, hgg, hmm, hfr, hk, rwI_len] <;> rfl); (simp (disch := (first | omega | (simp only [zE, zF, zD, zC, zA, zB, rwI_len, rowT_len, spanT_len, bothL_len]; omega))) only [push_cast, simprocAttr, takeM, dropM, zK, zA, zB, zN, zQ, zR, zO, zP, zT, zS, zU, leT, zH, pureL, pureA, natNe, zI, zG, TyD.isAgg, zJ, hS, hrb, hgb, hpb, hgg, hmm, hfr, hk, rwI_len, updH_at, zJ]); (simp (disch := (first | omega | (simp only [zE, zF, zD, zC, zA, zB, rwI_len, rowT_len, spanT_len, bothL_len]; omega))) only [push_cast, simprocAttr, takeM, dropM, zK, zA, zB, zN, zQ, zR, zO, zP, zT, zS, zU, leT, zH, pureL, pureA, natNe, zI, zG, TyD.isAgg, zJ, hS, hrb, hgb, hpb, hgg, hmm, hfr, hk, rwI_len] <;> omega))
    | ((apply D.alloct cx_ok; decide; decide); (simp (disch := (first | omega | (simp only [zE, zF, zD, zC, zA, zB, rwI_len, rowT_len, spanT_len, bothL_len]; omega))) only [push_cast, simprocAttr, takeM, dropM, zK, zA, zB, zN, zQ, zR, zO, zP, zT, zS, zU, leT, zH, pureL, pureA, natNe, zI, zG, TyD.isAgg, zJ, hS, hrb, hgb, hpb, hgg, hmm, hfr, hk, rwI_len] <;> rfl); first | exact .inl rfl | exact .inr (by simp))
    | (apply W.append cx_ok; decide; rfl; rfl; rfl; decide; (iterate 3 (simp (disch := (first | omega | (simp only [zE, zF, zD, zC, zA, zB, rwI_len, rowT_len, spanT_len, bothL_len]; omega))) only [push_cast, simprocAttr, takeM, dropM, zK, zA, zB, zN, zQ, zR, zO, zP, zT, zS, zU, leT, zH, pureL, pureA, natNe, zI, zG, TyD.isAgg, zJ, hS, hrb, hgb, hpb, hgg, hmm, hfr, hk, rwI_len] <;> rfl)); (first | (focus (simp; done)) | (intro c hc; obtain ⟨x, _, rfl⟩ := List.mem_map.1 hc; rfl)); ((first | rfl | simp (disch := omega) only [push_cast])); ((try dsimp only); (try simp only [zF, zE, zD, zC, zA, zB, rwI_len, rowT_len, spanT_len, bothL_len]); omega); ((try dsimp only); (try simp only [zF, zE, zD, zC, zA, zB, rwI_len, rowT_len, spanT_len, bothL_len]); omega))
    | (apply D.append cx_ok; decide; decide; rfl; rfl; rfl; decide; (iterate 3 (simp (disch := (first | omega | (simp only [zE, zF, zD, zC, zA, zB, rwI_len, rowT_len, spanT_len, bothL_len]; omega))) only [push_cast, simprocAttr, takeM, dropM, zK, zA, zB, zN, zQ, zR, zO, zP, zT, zS, zU, leT, zH, pureL, pureA, natNe, zI, zG, TyD.isAgg, zJ, hS, hrb, hgb, hpb, hgg, hmm, hfr, hk, rwI_len] <;> rfl)); (first | (focus (simp; done)) | (intro c hc; obtain ⟨x, _, rfl⟩ := List.mem_map.1 hc; rfl)); ((first | rfl | (simp (disch := omega) only [push_cast]; done))); ((try dsimp only); (try simp only [zF, zE, zD, zC, zA, zB, rwI_len, rowT_len, spanT_len, bothL_len]); omega); ((try dsimp only); (try simp only [zF, zE, zD, zC, zA, zB, rwI_len, rowT_len, spanT_len, bothL_len]); omega); first | exact .inl rfl | exact .inr (by simp))

  refine AW.loop (fun n s => ∃ (k lw : Nat) (M : List Lk) (rest : List Sight), n = rest.length ∧ (r.sights.drop k = rest) ∧ (M ++ (sgL r rest ++ T1_ r (nodesR r more)) = linksA r (nodesR r more)) ∧ (lw ≤ M.length) ∧ (M.length ≤ 4 + 2 * k) ∧ (k ≤ r.sights.length) ∧ (J [] s.H) ∧ nx + 10 ≤ s.nx ∧ s.tm 0 = .v (.func (.yield l) #[] #[]) ∧ s.tm 1 = .ptr rb 0 0 1 ∧ s.tm 2 = .ptr gb 0 0 1 ∧ s.tm 3 = .ptr pb 0 0 1 ∧ s.tm 5 = .ptr nx 0 0 1 ∧ s.tm 8 = .ptr (nx + 1) 0 0 1 ∧ s.tm 9 = .clo 122 [.ptr (nx + 1) 0 0 1] ∧ s.tm 10 = .map (nx + 7) ∧ s.tm 11 = .ref (nx + 8) 0 (r.strikes.length + 2) ∧ s.tm 12 = .ref (nx + 9) 0 (r.strikes.length + 2) ∧ s.tm 91 = lSight r.sights ∧ s.tm 92 = ai r.sights.length ∧ s.tm 93 = ai k ∧ Pg.rowAt s.H nx = some { k := 12, es := [eSession r.s], ty := 26 } ∧ Pg.rowAt s.H (nx + 1) = some { k := 1, es := [[.ref (nx + 4) 0 (M).length]], ty := 62 } ∧ Pg.rowAt s.H (nx + 4) = some { k := 3, es := (M).map eLink, ty := 66, lo := lw } ∧ Pg.rowAt s.H (nx + 8) = some { k := 1, es := (rowT r.strikes.length).map eInt, ty := 3, lo := r.strikes.length + 2 } ∧ Pg.rowAt s.H (nx + 9) = some { k := 2, es := (spanT r).map eSpan, ty := 23, lo := r.strikes.length + 2 } ∧ s.H (nx + 7) = some (.mp (.map .int) 0 (idM 0 (r.strikes)))) (r.sights.length) ⟨0, 4, (bothL 1 r.s.inn ++ bothL 2 r.s.out), r.sights, rfl, rfl, (by simp only [T1_, linksA, List.append_assoc]), (Nat.le_refl _), (Nat.le_refl _), (Nat.zero_le _), (by (try simp (disch := omega) only [push_cast, simprocAttr, natNe, zI, zG, TyD.isAgg, zJ, hS]); (repeat (refine hJ.frame _ _ _ _ ?_ (by omega))); exact hp4), ?_, ?_, ?_, ?_, ?_, ?_, ?_, ?_, ?_, ?_, ?_, ?_, ?_, ?_, ?_, ?_, ?_, ?_, ?_, ?_⟩ ?_
  iterate 20 (first | (simp (disch := omega) only [push_cast, simprocAttr, natNe, zI, zG, TyD.isAgg, zJ, hrb, hgb, hpb, hgg, hmm, hS, hk, rwI_len, rowT, spanT, zY, zX, zW, zE, zD, zC, List.append_assoc, yB, yA, isEmpty_map, zV, zM, yC, bothL_len] <;> first | rfl | omega) | omega)
  rintro n1 s1 ⟨k1, lw1, M1, rest1, hn1, hp01, hp11, hp21, hp31, hp41, hp51, hnl1, hS1⟩
  refine AW.fresh fun hfr1 => ?_
  obtain ⟨hrb1, hgb1, hpb1, ⟨ga1, gl1, hgg1⟩, hmm1⟩ := hJ.sys _ _ hp51
  rcases rest1 with _ | ⟨x, rest1⟩
  rotate_left
  · obtain ⟨hk1, hg1, hd1, hl1, hm1, hx1⟩ := drop_cons hp01 eSight []
    obtain ⟨b1, b2, b3, b4⟩ := hv.sights x hm1
    have hfi := find_id x.strike r.strikes 0 b4
    have hsi : 0 ≤ 3 + strikeI x.strike 0 r.strikes := by rcases strikeI_case x.strike r.strikes 0 with ⟨h, _⟩ | ⟨i, _, h, _⟩; exact absurd b4 h; rw [h]; omega
    repeat' first
      | apply AW.seq | apply AW.region | apply AW.ret | apply AW.block | apply AW.skip | apply AW.exit | apply AW.scope | apply AW.label | apply AWL.nil | apply D.nil
      | refine W.draw cx_mixed (by decide +kernel) ?_
      | ((first | (apply W.step cx_ok; decide) | (apply D.step cx_ok; decide; decide) | apply W.store cx_ok | (apply W.gS; rfl; decide) | (apply D.gS; rfl; decide; decide) | apply AW.cond | apply W.mapUpdate cx_ok); (simp (disch := (first | omega | (simp only [zE, zF, zD, zC, zA, zB, rwI_len, rowT_len, spanT_len, bothL_len]; omega))) only [push_cast, simprocAttr, takeM, dropM, zK, zA, zB, zN, zQ, zR, zO, zP, zT, zS, zU, leT, zH, pureL, pureA, natNe, zI, zG, TyD.isAgg, zJ, hS1, hrb1, hgb1, hpb1, hgg1, hmm1, hk1, hg1, hx1, hfi, pickM] <;> rfl); all_goals try ((with_reducible intro hI); try first | (cases hI; done) | (simp only [INTS, zL] at hI; try first | (exfalso; omega) | (have hT : True := hI; clear hT hI))))
      | (refine W.makeMap cx_ok (by simp only [push_cast, simprocAttr] <;> rfl) (by decide) ?_)
      | (apply W.append cx_ok; decide; rfl; rfl; rfl; decide; (iterate 3 (simp (disch := (first | omega | (simp only [zE, zF, zD, zC, zA, zB, rwI_len, rowT_len, spanT_len, bothL_len]; omega))) only [push_cast, simprocAttr, takeM, dropM, zK, zA, zB, zN, zQ, zR, zO, zP, zT, zS, zU, leT, zH, pureL, pureA, natNe, zI, zG, TyD.isAgg, zJ, hS1, hrb1, hgb1, hpb1, hgg1, hmm1, hk1, hg1, hx1, hfi, pickM] <;> rfl)); (first | (focus (simp; done)) | (intro c hc; obtain ⟨x, _, rfl⟩ := List.mem_map.1 hc; rfl)); ((first | rfl | simp (disch := omega) only [push_cast])); ((try dsimp only); (try simp only [zF, zE, zD, zC, zA, zB, rwI_len, rowT_len, spanT_len, bothL_len]); omega); ((try dsimp only); (try simp only [zF, zE, zD, zC, zA, zB, rwI_len, rowT_len, spanT_len, bothL_len]); omega))

    refine W.callm cx_ok (by decide) (f := 122) (caps := [.ptr (nx + 1) 0 0 1]) (by simp (disch := omega) only [push_cast, simprocAttr, natNe, zI, zG, TyD.isAgg, zJ, hS1, hrb1, hgb1, hpb1, hgg1, hmm1, hk1, hg1, hx1, hfi, pickM] <;> rfl) (between_m (3 + strikeI x.strike 0 r.strikes) x.seen hsi ⟨by omega, by omega⟩ M1 (lb := nx + 1) (lo := nx + 4) (lw := lw1) (by omega) (by omega) (by dsimp only [St.put, nxA]; omega) (by dsimp only [St.put, nxA]; omega) (by simp (disch := omega) only [push_cast, simprocAttr, natNe, zI, zG, TyD.isAgg, zJ, hS1, hrb1, hgb1, hpb1, hgg1, hmm1, hk1, hg1, hx1, hfi, pickM] <;> rfl) (by simp (disch := omega) only [push_cast, simprocAttr, natNe, zI, zG, TyD.isAgg, zJ, hS1, hrb1, hgb1, hpb1, hgg1, hmm1, hk1, hg1, hx1, hfi, pickM] <;> rfl) (by simp (disch := omega) only [push_cast, simprocAttr, natNe, zI, zG, TyD.isAgg, zJ, hS1, hrb1, hgb1, hpb1, hgg1, hmm1, hk1, hg1, hx1, hfi, pickM] <;> rfl) hp21) ?_
    rintro _ _ _ ⟨rfl, rfl, rfl⟩
    repeat' first
      | apply AW.seq | apply AW.region | apply AW.ret | apply AW.block | apply AW.skip | apply AW.exit | apply AW.scope | apply AW.label | apply AWL.nil | apply D.nil
      | refine W.draw cx_mixed (by decide +kernel) ?_
      | ((first | (apply W.step cx_ok; decide) | (apply D.step cx_ok; decide; decide) | apply W.store cx_ok | (apply W.gS; rfl; decide) | (apply D.gS; rfl; decide; decide) | apply AW.cond | apply W.mapUpdate cx_ok); (simp (disch := (first | omega | (simp only [zE, zF, zD, zC, zA, zB, rwI_len, rowT_len, spanT_len, bothL_len]; omega))) only [push_cast, simprocAttr, takeM, dropM, zK, zA, zB, zN, zQ, zR, zO, zP, zT, zS, zU, leT, zH, pureL, pureA, natNe, zI, zG, TyD.isAgg, zJ, hS1, hrb1, hgb1, hpb1, hgg1, hmm1, hk1, hg1, hx1, hfi, pickM] <;> rfl); all_goals try ((with_reducible intro hI); try first | (cases hI; done) | (simp only [INTS, zL] at hI; try first | (exfalso; omega) | (have hT : True := hI; clear hT hI))))
      | (refine W.makeMap cx_ok (by simp only [push_cast, simprocAttr] <;> rfl) (by decide) ?_)
      | (apply W.append cx_ok; decide; rfl; rfl; rfl; decide; (iterate 3 (simp (disch := (first | omega | (simp only [zE, zF, zD, zC, zA, zB, rwI_len, rowT_len, spanT_len, bothL_len]; omega))) only [push_cast, simprocAttr, takeM, dropM, zK, zA, zB, zN, zQ, zR, zO, zP, zT, zS, zU, leT, zH, pureL, pureA, natNe, zI, zG, TyD.isAgg, zJ, hS1, hrb1, hgb1, hpb1, hgg1, hmm1, hk1, hg1, hx1, hfi, pickM] <;> rfl)); (first | (focus (simp; done)) | (intro c hc; obtain ⟨x, _, rfl⟩ := List.mem_map.1 hc; rfl)); ((first | rfl | simp (disch := omega) only [push_cast])); ((try dsimp only); (try simp only [zF, zE, zD, zC, zA, zB, rwI_len, rowT_len, spanT_len, bothL_len]); omega); ((try dsimp only); (try simp only [zF, zE, zD, zC, zA, zB, rwI_len, rowT_len, spanT_len, bothL_len]); omega))

    all_goals (refine ⟨rest1.length, ?_, k1 + 1, (M1.length + 2), (M1 ++ bothL (3 + strikeI x.strike 0 r.strikes).toNat x.seen), rest1, rfl, hd1, (by rw [List.append_assoc]; exact hp11), (by simp [bothL_len]), (by simp [bothL_len]; omega), (by omega), (by (try simp (disch := omega) only [push_cast, simprocAttr, natNe, zI, zG, TyD.isAgg, zJ, hS1]); (repeat (refine hJ.frame _ _ _ _ ?_ (by omega))); exact hp51), ?_, ?_, ?_, ?_, ?_, ?_, ?_, ?_, ?_, ?_, ?_, ?_, ?_, ?_, ?_, ?_, ?_, ?_, ?_, ?_⟩; ((simp only [List.length_cons] at *; omega)); all_goals first | (simp (disch := omega) only [push_cast, simprocAttr, hS1, natNe, zI, zG, TyD.isAgg, zJ, hrb1, hgb1, hpb1, hgg1, hmm1, hk1, hg1, hx1, hfi, pickM, zY, zX, zW, zE, zD, zC, List.append_assoc, yB, yA, isEmpty_map, zV, zM, yC, bothL_len] <;> first | rfl | omega) | omega)
  have hk1 := drop_nil hp01
  simp only [sgL, List.nil_append] at hp11
  unfold T1_ at hp11
  repeat' first
    | apply AW.seq | apply AW.region | apply AW.ret | apply AW.block | apply AW.skip | apply AW.exit | apply AW.scope | apply AW.label | apply AWL.nil | apply D.nil
    | refine W.draw cx_mixed (by decide +kernel) ?_
    | ((first | (apply W.step cx_ok; decide) | (apply D.step cx_ok; decide; decide) | apply W.store cx_ok | (apply W.gS; rfl; decide) | (apply D.gS; rfl; decide; decide) | apply AW.cond | apply W.mapUpdate cx_ok); (simp (disch := (first | omega | (simp only [zE, zF, zD, zC, zA, zB, rwI_len, rowT_len, spanT_len, bothL_len]; omega))) only [push_cast, simprocAttr, takeM, dropM, zK, zA, zB, zN, zQ, zR, zO, zP, zT, zS, zU, leT, zH, pureL, pureA, natNe, zI, zG, TyD.isAgg, zJ, hS1, hrb1, hgb1, hpb1, hgg1, hmm1, hk1, rowT_len] <;> rfl); all_goals try ((with_reducible intro hI); try first | (cases hI; done) | (simp only [INTS, zL] at hI; try first | (exfalso; omega) | (have hT : True := hI; clear hT hI))))
    | (refine W.makeMap cx_ok (by simp only [push_cast, simprocAttr] <;> rfl) (by decide) ?_)
    | (apply W.append cx_ok; decide; rfl; rfl; rfl; decide; (iterate 3 (simp (disch := (first | omega | (simp only [zE, zF, zD, zC, zA, zB, rwI_len, rowT_len, spanT_len, bothL_len]; omega))) only [push_cast, simprocAttr, takeM, dropM, zK, zA, zB, zN, zQ, zR, zO, zP, zT, zS, zU, leT, zH, pureL, pureA, natNe, zI, zG, TyD.isAgg, zJ, hS1, hrb1, hgb1, hpb1, hgg1, hmm1, hk1, rowT_len] <;> rfl)); (first | (focus (simp; done)) | (intro c hc; obtain ⟨x, _, rfl⟩ := List.mem_map.1 hc; rfl)); ((first | rfl | simp (disch := omega) only [push_cast])); ((try dsimp only); (try simp only [zF, zE, zD, zC, zA, zB, rwI_len, rowT_len, spanT_len, bothL_len]); omega); ((try dsimp only); (try simp only [zF, zE, zD, zC, zA, zB, rwI_len, rowT_len, spanT_len, bothL_len]); omega))

  refine AW.loop (fun n s => ∃ (k lw : Nat) (M : List Lk), n = r.strikes.length + 1 - k ∧ (k ≤ r.strikes.length + 1) ∧ (M ++ (rwL r.strikes.length (r.strikes.length + 1 - k) k ++ linksN (nodesR r more) (rowT r.strikes.length) (spanT r)) = linksA r (nodesR r more)) ∧ (lw ≤ M.length) ∧ (M.length ≤ 28 + k) ∧ (J [] s.H) ∧ nx + 10 ≤ s.nx ∧ s.tm 0 = .v (.func (.yield l) #[] #[]) ∧ s.tm 1 = .ptr rb 0 0 1 ∧ s.tm 2 = .ptr gb 0 0 1 ∧ s.tm 3 = .ptr pb 0 0 1 ∧ s.tm 5 = .ptr nx 0 0 1 ∧ s.tm 8 = .ptr (nx + 1) 0 0 1 ∧ s.tm 9 = .clo 122 [.ptr (nx + 1) 0 0 1] ∧ s.tm 10 = .map (nx + 7) ∧ s.tm 11 = .ref (nx + 8) 0 (r.strikes.length + 2) ∧ s.tm 12 = .ref (nx + 9) 0 (r.strikes.length + 2) ∧ s.tm 18 = ai ((k : Int) + 1) ∧ Pg.rowAt s.H nx = some { k := 12, es := [eSession r.s], ty := 26 } ∧ Pg.rowAt s.H (nx + 1) = some { k := 1, es := [[.ref (nx + 4) 0 (M).length]], ty := 62 } ∧ Pg.rowAt s.H (nx + 4) = some { k := 3, es := (M).map eLink, ty := 66, lo := lw } ∧ Pg.rowAt s.H (nx + 8) = some { k := 1, es := (rowT r.strikes.length).map eInt, ty := 3, lo := r.strikes.length + 2 } ∧ Pg.rowAt s.H (nx + 9) = some { k := 2, es := (spanT r).map eSpan, ty := 23, lo := r.strikes.length + 2 }) (r.strikes.length + 1) ⟨0, lw1, M1, rfl, (Nat.zero_le _), hp11, hp21, (by omega), (by (try simp (disch := omega) only [push_cast, simprocAttr, natNe, zI, zG, TyD.isAgg, zJ, hS1]); (repeat (refine hJ.frame _ _ _ _ ?_ (by omega))); exact hp51), ?_, ?_, ?_, ?_, ?_, ?_, ?_, ?_, ?_, ?_, ?_, ?_, ?_, ?_, ?_, ?_, ?_⟩ ?_
  iterate 17 (first | (simp (disch := omega) only [push_cast, simprocAttr, natNe, zI, zG, TyD.isAgg, zJ, hrb1, hgb1, hpb1, hgg1, hmm1, hS1, hk1, Int.natCast_zero, Int.zero_add] <;> first | rfl | omega) | omega)
  rintro n2 s2 ⟨k2, lw2, M2, hn2, hp02, hp12, hp22, hp32, hp42, hnl2, hS2⟩
  refine AW.fresh fun hfr2 => ?_
  obtain ⟨hrb2, hgb2, hpb2, ⟨ga2, gl2, hgg2⟩, hmm2⟩ := hJ.sys _ _ hp42
  by_cases hle : k2 ≤ r.strikes.length
  · have hle1 : (k2 : Int) + 1 < (r.strikes.length : Int) + 1 + 1 := by omega
    have hle0 : (k2 : Int) < (r.strikes.length : Int) + 1 + 1 := by omega
    have q0 : (0 : Int) ≤ (k2 : Int) + 1 := by omega
    have q1 : ((k2 : Int) + 1).toNat = k2 + 1 := by omega
    obtain ⟨ra, rb', rm⟩ := rowK_at hle
    have ra1 : ((rowT r.strikes.length).map eInt).getD (k2 + 1) [] = [ai ((rowK r.strikes.length k2).a : Int)] := by rw [getD_eInt _ _ (by rw [rowT_len]; omega), ra]
    have rb1 : ((rowT r.strikes.length).map eInt).getD k2 [] = [ai ((rowK r.strikes.length k2).b : Int)] := by rw [getD_eInt _ _ (by rw [rowT_len]; omega), rb']
    have ra2 : ((rowT r.strikes.length).map eInt)[k2 + 1]? = some [ai ((rowK r.strikes.length k2).a : Int)] := by rw [get_eInt _ _ (by rw [rowT_len]; omega), ra]
    have rb2 : ((rowT r.strikes.length).map eInt)[k2]? = some [ai ((rowK r.strikes.length k2).b : Int)] := by rw [get_eInt _ _ (by rw [rowT_len]; omega), rb']
    rw [show r.strikes.length + 1 - k2 = r.strikes.length - k2 + 1 by omega, rwL] at hp12
    repeat' first
      | apply AW.seq | apply AW.region | apply AW.ret | apply AW.block | apply AW.skip | apply AW.exit | apply AW.scope | apply AW.label | apply AWL.nil | apply D.nil
      | refine AW.draw (id := 25) cx_mixed [12, 13] [] [] 14 (by decide +kernel) ?_
      | refine W.draw cx_mixed (by decide +kernel) ?_
      | ((first | (apply W.step cx_ok; decide) | (apply D.step cx_ok; decide; decide) | apply W.store cx_ok | (apply W.gS; rfl; decide) | (apply D.gS; rfl; decide; decide) | apply AW.cond | apply W.mapUpdate cx_ok); (simp (disch := (first | omega | (simp only [zE, zF, zD, zC, zA, zB, rwI_len, rowT_len, spanT_len, bothL_len]; omega))) only [push_cast, simprocAttr, takeM, dropM, zK, zA, zB, zN, zQ, zR, zO, zP, zT, zS, zU, leT, zH, pureL, pureA, natNe, zI, zG, TyD.isAgg, zJ, hS2, hrb2, hgb2, hpb2, hgg2, hmm2, hfr2, hle1, hle0, q0, q1, ra1, rb1, ra2, rb2, rm, rowT_len, Int.add_sub_cancel] <;> rfl); all_goals try ((with_reducible intro hI); try first | (cases hI; done) | (simp only [INTS, zL] at hI; try first | (exfalso; omega) | (have hT : True := hI; clear hT hI))))
      | ((first | (apply D.store cx_ok; decide) | (apply D.stept cx_ok; decide; decide) | (apply D.mapUpdate cx_ok; decide) | (apply D.stepm cx_ok; decide; decide)); (simp (disch := (first | omega | (simp only [zE, zF, zD, zC, zA, zB, rwI_len, rowT_len, spanT_len, bothL_len]; omega))) only [push_cast, simprocAttr, takeM, dropM, zK, zA, zB, zN, zQ, zR, zO, zP, zT, zS, zU, leT, zH, pureL, pureA, natNe, zI, zG, TyD.isAgg, zJ, hS2, hrb2, hgb2, hpb2, hgg2, hmm2, hfr2, hle1, hle0, q0, q1, ra1, rb1, ra2, rb2, rm, rowT_len, Int.add_sub_cancel] <;> rfl); try first | exact .inl rfl | exact .inr (by simp))
      | (refine W.makeMap cx_ok (by simp only [push_cast, simprocAttr] <;> rfl) (by decide) ?_)
      | ((apply D.alloc cx_ok; decide; decide); (simp (disch := (first | omega | (simp only [zE, zF, zD, zC, zA, zB, rwI_len, rowT_len, spanT_len, bothL_len]; omega))) only [push_cast, simprocAttr, takeM, dropM, zK, zA, zB, zN, zQ, zR, zO, zP, zT, zS, zU, leT, zH, pureL, pureA, natNe, zI, zG, TyD.isAgg, zJ, hS2, hrb2, hgb2, hpb2, hgg2, hmm2, hfr2, hle1, hle0, q0, q1, ra1, rb1, ra2, rb2, rm, rowT_len, Int.add_sub_cancel] <;> rfl); (simp (disch := (first | omega | (simp only [zE, zF, zD, zC, zA, zB, rwI_len, rowT_len, spanT_len, bothL_len]; omega))) only [push_cast, simprocAttr, takeM, dropM, zK, zA, zB, zN, zQ, zR, zO, zP, zT, zS, zU, leT, zH, pureL, pureA, natNe, zI, zG, TyD.isAgg, zJ, hS2, hrb2, hgb2, hpb2, hgg2, hmm2, hfr2, hle1, hle0, q0, q1, ra1, rb1, ra2, rb2, rm, rowT_len, Int.add_sub_cancel, updH_at, zJ]); (simp (disch := (first | omega | (simp only [zE, zF, zD, zC, zA, zB, rwI_len, rowT_len, spanT_len, bothL_len]; omega))) only [push_cast, simprocAttr, takeM, dropM, zK, zA, zB, zN, zQ, zR, zO, zP, zT, zS, zU, leT, zH, pureL, pureA, natNe, zI, zG, TyD.isAgg, zJ, hS2, hrb2, hgb2, hpb2, hgg2, hmm2, hfr2, hle1, hle0, q0, q1, ra1, rb1, ra2, rb2, rm, rowT_len, Int.add_sub_cancel] <;> omega))
      | ((apply D.alloct cx_ok; decide; decide); (simp (disch := (first | omega | (simp only [zE, zF, zD, zC, zA, zB, rwI_len, rowT_len, spanT_len, bothL_len]; omega))) only [push_cast, simprocAttr, takeM, dropM, zK, zA, zB, zN, zQ, zR, zO, zP, zT, zS, zU, leT, zH, pureL, pureA, natNe, zI, zG, TyD.isAgg, zJ, hS2, hrb2, hgb2, hpb2, hgg2, hmm2, hfr2, hle1, hle0, q0, q1, ra1, rb1, ra2, rb2, rm, rowT_len, Int.add_sub_cancel] <;> rfl); first | exact .inl rfl | exact .inr (by simp))
      | (apply W.append cx_ok; decide; rfl; rfl; rfl; decide; (iterate 3 (simp (disch := (first | omega | (simp only [zE, zF, zD, zC, zA, zB, rwI_len, rowT_len, spanT_len, bothL_len]; omega))) only [push_cast, simprocAttr, takeM, dropM, zK, zA, zB, zN, zQ, zR, zO, zP, zT, zS, zU, leT, zH, pureL, pureA, natNe, zI, zG, TyD.isAgg, zJ, hS2, hrb2, hgb2, hpb2, hgg2, hmm2, hfr2, hle1, hle0, q0, q1, ra1, rb1, ra2, rb2, rm, rowT_len, Int.add_sub_cancel] <;> rfl)); (first | (focus (simp; done)) | (intro c hc; obtain ⟨x, _, rfl⟩ := List.mem_map.1 hc; rfl)); ((first | rfl | simp (disch := omega) only [push_cast])); ((try dsimp only); (try simp only [zF, zE, zD, zC, zA, zB, rwI_len, rowT_len, spanT_len, bothL_len]); omega); ((try dsimp only); (try simp only [zF, zE, zD, zC, zA, zB, rwI_len, rowT_len, spanT_len, bothL_len]); omega))
      | (apply D.append cx_ok; decide; decide; rfl; rfl; rfl; decide; (iterate 3 (simp (disch := (first | omega | (simp only [zE, zF, zD, zC, zA, zB, rwI_len, rowT_len, spanT_len, bothL_len]; omega))) only [push_cast, simprocAttr, takeM, dropM, zK, zA, zB, zN, zQ, zR, zO, zP, zT, zS, zU, leT, zH, pureL, pureA, natNe, zI, zG, TyD.isAgg, zJ, hS2, hrb2, hgb2, hpb2, hgg2, hmm2, hfr2, hle1, hle0, q0, q1, ra1, rb1, ra2, rb2, rm, rowT_len, Int.add_sub_cancel] <;> rfl)); (first | (focus (simp; done)) | (intro c hc; obtain ⟨x, _, rfl⟩ := List.mem_map.1 hc; rfl)); ((first | rfl | (simp (disch := omega) only [push_cast]; done))); ((try dsimp only); (try simp only [zF, zE, zD, zC, zA, zB, rwI_len, rowT_len, spanT_len, bothL_len]); omega); ((try dsimp only); (try simp only [zF, zE, zD, zC, zA, zB, rwI_len, rowT_len, spanT_len, bothL_len]); omega); first | exact .inl rfl | exact .inr (by simp))

    all_goals (refine ⟨r.strikes.length + 1 - (k2 + 1), ?_, k2 + 1, (M2.length + 1), (M2 ++ [rowK r.strikes.length k2]), rfl, (by omega), (by rw [show r.strikes.length + 1 - (k2 + 1) = r.strikes.length - k2 by omega, List.append_assoc]; exact hp12), (by simp), (by simp; omega), (by (try simp (disch := omega) only [push_cast, simprocAttr, natNe, zI, zG, TyD.isAgg, zJ, hS2]); (repeat (refine hJ.frame _ _ _ _ ?_ (by omega))); exact hp42), ?_, ?_, ?_, ?_, ?_, ?_, ?_, ?_, ?_, ?_, ?_, ?_, ?_, ?_, ?_, ?_, ?_⟩; (omega); all_goals first | (simp (disch := omega) only [push_cast, simprocAttr, hS2, natNe, zI, zG, TyD.isAgg, zJ, hrb2, hgb2, hpb2, hgg2, hmm2, hfr2, hle1, hle0, q0, q1, ra1, rb1, ra2, rb2, rm, rowT_len, Int.add_sub_cancel, zY, zX, zW, zE, zD, zC, List.append_assoc, yB, yA, isEmpty_map, zV, zM, yC] <;> first | rfl | omega) | omega)
  have hle1 : ¬ (k2 : Int) + 1 < (r.strikes.length : Int) + 1 + 1 := by omega
  rw [show r.strikes.length + 1 - k2 = 0 by omega, rwL, List.nil_append] at hp12
  repeat' first
    | apply AW.seq | apply AW.region | apply AW.ret | apply AW.block | apply AW.skip | apply AW.exit | apply AW.scope | apply AW.label | apply AWL.nil | apply D.nil
    | refine W.draw cx_mixed (by decide +kernel) ?_
    | ((first | (apply W.step cx_ok; decide) | (apply D.step cx_ok; decide; decide) | apply W.store cx_ok | (apply W.gS; rfl; decide) | (apply D.gS; rfl; decide; decide) | apply AW.cond | apply W.mapUpdate cx_ok); (simp (disch := (first | omega | (simp only [zE, zF, zD, zC, zA, zB, rwI_len, rowT_len, spanT_len, bothL_len]; omega))) only [push_cast, simprocAttr, takeM, dropM, zK, zA, zB, zN, zQ, zR, zO, zP, zT, zS, zU, leT, zH, pureL, pureA, natNe, zI, zG, TyD.isAgg, zJ, hS2, hrb2, hgb2, hpb2, hgg2, hmm2, hle1, rowT_len] <;> rfl); all_goals try ((with_reducible intro hI); try first | (cases hI; done) | (simp only [INTS, zL] at hI; try first | (exfalso; omega) | (have hT : True := hI; clear hT hI))))
    | (refine W.makeMap cx_ok (by simp only [push_cast, simprocAttr] <;> rfl) (by decide) ?_)
    | (apply W.append cx_ok; decide; rfl; rfl; rfl; decide; (iterate 3 (simp (disch := (first | omega | (simp only [zE, zF, zD, zC, zA, zB, rwI_len, rowT_len, spanT_len, bothL_len]; omega))) only [push_cast, simprocAttr, takeM, dropM, zK, zA, zB, zN, zQ, zR, zO, zP, zT, zS, zU, leT, zH, pureL, pureA, natNe, zI, zG, TyD.isAgg, zJ, hS2, hrb2, hgb2, hpb2, hgg2, hmm2, hle1, rowT_len] <;> rfl)); (first | (focus (simp; done)) | (intro c hc; obtain ⟨x, _, rfl⟩ := List.mem_map.1 hc; rfl)); ((first | rfl | simp (disch := omega) only [push_cast])); ((try dsimp only); (try simp only [zF, zE, zD, zC, zA, zB, rwI_len, rowT_len, spanT_len, bothL_len]); omega); ((try dsimp only); (try simp only [zF, zE, zD, zC, zA, zB, rwI_len, rowT_len, spanT_len, bothL_len]); omega))

  refine AW.loop (fun n s => ∃ (k lw : Nat) (M : List Lk) (rest : List Int) (sps : List Span), n = rest.length ∧ ((rowT r.strikes.length).drop k = rest) ∧ ((spanT r).drop k = sps) ∧ (M ++ linksN (nodesR r more) rest sps = linksA r (nodesR r more)) ∧ (lw ≤ M.length) ∧ (M.length ≤ 42 + 2 * k) ∧ (k ≤ r.strikes.length + 2) ∧ (J [] s.H) ∧ nx + 10 ≤ s.nx ∧ s.tm 0 = .v (.func (.yield l) #[] #[]) ∧ s.tm 1 = .ptr rb 0 0 1 ∧ s.tm 2 = .ptr gb 0 0 1 ∧ s.tm 3 = .ptr pb 0 0 1 ∧ s.tm 5 = .ptr nx 0 0 1 ∧ s.tm 8 = .ptr (nx + 1) 0 0 1 ∧ s.tm 9 = .clo 122 [.ptr (nx + 1) 0 0 1] ∧ s.tm 10 = .map (nx + 7) ∧ s.tm 11 = .ref (nx + 8) 0 (r.strikes.length + 2) ∧ s.tm 12 = .ref (nx + 9) 0 (r.strikes.length + 2) ∧ s.tm 125 = .ref (nx + 8) 0 (r.strikes.length + 2) ∧ s.tm 126 = ai ((r.strikes.length : Int) + 1 + 1) ∧ s.tm 127 = ai k ∧ Pg.rowAt s.H nx = some { k := 12, es := [eSession r.s], ty := 26 } ∧ Pg.rowAt s.H (nx + 1) = some { k := 1, es := [[.ref (nx + 4) 0 (M).length]], ty := 62 } ∧ Pg.rowAt s.H (nx + 4) = some { k := 3, es := (M).map eLink, ty := 66, lo := lw } ∧ Pg.rowAt s.H (nx + 8) = some { k := 1, es := (rowT r.strikes.length).map eInt, ty := 3, lo := r.strikes.length + 2 } ∧ Pg.rowAt s.H (nx + 9) = some { k := 2, es := (spanT r).map eSpan, ty := 23, lo := r.strikes.length + 2 }) ((rowT r.strikes.length).length) ⟨0, lw2, M2, rowT r.strikes.length, spanT r, by simp, rfl, rfl, hp12, hp22, (by omega), (Nat.zero_le _), (by (try simp (disch := omega) only [push_cast, simprocAttr, natNe, zI, zG, TyD.isAgg, zJ, hS2]); (repeat (refine hJ.frame _ _ _ _ ?_ (by omega))); exact hp42), ?_, ?_, ?_, ?_, ?_, ?_, ?_, ?_, ?_, ?_, ?_, ?_, ?_, ?_, ?_, ?_, ?_, ?_, ?_⟩ ?_
  iterate 19 (first | (simp (disch := omega) only [push_cast, simprocAttr, natNe, zI, zG, TyD.isAgg, zJ, hrb2, hgb2, hpb2, hgg2, hmm2, hS2, hle1, rowT_len] <;> first | rfl | omega) | omega)
  rintro n3 s3 ⟨k3, lw3, M3, rest3, sps3, hn3, hp03, hp13, hp23, hp33, hp43, hp53, hp63, hnl3, hS3⟩
  refine AW.fresh fun hfr3 => ?_
  obtain ⟨hrb3, hgb3, hpb3, ⟨ga3, gl3, hgg3⟩, hmm3⟩ := hJ.sys _ _ hp63
  have hlrow := rowT_len r.strikes.length
  have hlspan := spanT_len r
  rcases rest3 with _ | ⟨a, rest3⟩
  rotate_left
  · rcases sps3 with _ | ⟨x, sps3⟩
    · exfalso
      have e1 := drop_cons hp03 eInt []
      have e2 := List.drop_eq_nil_iff.1 hp13
      omega
    obtain ⟨hk3, hg3, hd3, hl3, hm3, hx3⟩ := drop_cons hp03 eInt []
    obtain ⟨hk3', hg3', hd3', hl3', hm3', hx3'⟩ := drop_cons hp13 eSpan []
    obtain ⟨m1, m2, m3, m4, m5⟩ := mem_spanT (more := more) hv hm3'
    have ha0 := rowT_nonneg a hm3
    have ha1 : ((a.toNat : Nat) : Int) = a := Int.toNat_of_nonneg ha0
    have hA : atP 4 x.lo (nodesR r more) = (((atI 4 x.lo 0 (nodesR r more)).toNat : Nat) : Int) := by rw [atP_mark m1]; have := (at_mark m1).1; omega
    have hB : atP 4 (x.hi + 1) (nodesR r more) = (((atI 4 (x.hi + 1) 0 (nodesR r more)).toNat : Nat) : Int) := by rw [atP_mark m2]; have := (at_mark m2).1; omega
    have hq3 : (k3 : Int) < (r.strikes.length : Int) + 1 + 1 := by omega
    simp only [linksN] at hp23
    repeat' first
      | ((first | (apply W.callr cx_ok; decide) | (apply D.callr cx_ok; decide; decide)); (iterate 2 (simp (disch := (first | omega | (simp only [zE, zF, zD, zC, zA, zB, rwI_len, rowT_len, spanT_len, bothL_len]; omega))) only [push_cast, simprocAttr, takeM, dropM, zK, zA, zB, zN, zQ, zR, zO, zP, zT, zS, zU, leT, zH, pureL, pureA, natNe, zI, zG, TyD.isAgg, zJ, hS3, hrb3, hgb3, hpb3, hgg3, hmm3, hfr3, hq3, hg3, hx3, hg3', hx3', hA, hB, rowT_len, spanT_len] <;> rfl)); (exact at_r (nodesR r more) _ _ (by simp (disch := (first | omega | (simp only [zE, zF, zD, zC, zA, zB, rwI_len, rowT_len, spanT_len, bothL_len]; omega))) only [push_cast, simprocAttr, takeM, dropM, zK, zA, zB, zN, zQ, zR, zO, zP, zT, zS, zU, leT, zH, pureL, pureA, natNe, zI, zG, TyD.isAgg, zJ, hS3, hrb3, hgb3, hpb3, hgg3, hmm3, hfr3, hq3, hg3, hx3, hg3', hx3', hA, hB, rowT_len, spanT_len] <;> rfl) (by simp (disch := (first | omega | (simp only [zE, zF, zD, zC, zA, zB, rwI_len, rowT_len, spanT_len, bothL_len]; omega))) only [push_cast, simprocAttr, takeM, dropM, zK, zA, zB, zN, zQ, zR, zO, zP, zT, zS, zU, leT, zH, pureL, pureA, natNe, zI, zG, TyD.isAgg, zJ, hS3, hrb3, hgb3, hpb3, hgg3, hmm3, hfr3, hq3, hg3, hx3, hg3', hx3', hA, hB, rowT_len, spanT_len] <;> rfl)))
      | apply AW.seq | apply AW.region | apply AW.ret | apply AW.block | apply AW.skip | apply AW.exit | apply AW.scope | apply AW.label | apply AWL.nil | apply D.nil
      | refine AW.draw (id := 29) cx_mixed [21, 22] [] [] 23 (by decide +kernel) ?_
      | refine W.draw cx_mixed (by decide +kernel) ?_
      | ((first | (apply W.step cx_ok; decide) | (apply D.step cx_ok; decide; decide) | apply W.store cx_ok | (apply W.gS; rfl; decide) | (apply D.gS; rfl; decide; decide) | apply AW.cond | apply W.mapUpdate cx_ok); (simp (disch := (first | omega | (simp only [zE, zF, zD, zC, zA, zB, rwI_len, rowT_len, spanT_len, bothL_len]; omega))) only [push_cast, simprocAttr, takeM, dropM, zK, zA, zB, zN, zQ, zR, zO, zP, zT, zS, zU, leT, zH, pureL, pureA, natNe, zI, zG, TyD.isAgg, zJ, hS3, hrb3, hgb3, hpb3, hgg3, hmm3, hfr3, hq3, hg3, hx3, hg3', hx3', hA, hB, rowT_len, spanT_len] <;> rfl); all_goals try ((with_reducible intro hI); try first | (cases hI; done) | (simp only [INTS, zL] at hI; try first | (exfalso; omega) | (have hT : True := hI; clear hT hI))))
      | ((first | (apply D.store cx_ok; decide) | (apply D.stept cx_ok; decide; decide) | (apply D.mapUpdate cx_ok; decide) | (apply D.stepm cx_ok; decide; decide)); (simp (disch := (first | omega | (simp only [zE, zF, zD, zC, zA, zB, rwI_len, rowT_len, spanT_len, bothL_len]; omega))) only [push_cast, simprocAttr, takeM, dropM, zK, zA, zB, zN, zQ, zR, zO, zP, zT, zS, zU, leT, zH, pureL, pureA, natNe, zI, zG, TyD.isAgg, zJ, hS3, hrb3, hgb3, hpb3, hgg3, hmm3, hfr3, hq3, hg3, hx3, hg3', hx3', hA, hB, rowT_len, spanT_len] <;> rfl); try first | exact .inl rfl | exact .inr (by simp))
      | (refine W.makeMap cx_ok (by simp only [push_cast, simprocAttr] <;> rfl) (by decide) ?_)
      | ((apply D.alloc cx_ok; decide; decide); (simp (disch := (first | omega | (simp only [zE, zF, zD, zC, zA, zB, rwI_len, rowT_len, spanT_len, bothL_len]; omega))) only [push_cast, simprocAttr, takeM, dropM, zK, zA, zB, zN, zQ, zR, zO, zP, zT, zS, zU, leT, zH, pureL, pureA, natNe, zI, zG, TyD.isAgg, zJ, hS3, hrb3, hgb3, hpb3, hgg3, hmm3, hfr3, hq3, hg3, hx3, hg3', hx3', hA, hB, rowT_len, spanT_len] <;> rfl); (simp (disch := (first | omega | (simp only [zE, zF, zD, zC, zA, zB, rwI_len, rowT_len, spanT_len, bothL_len]; omega))) only [push_cast, simprocAttr, takeM, dropM, zK, zA, zB, zN, zQ, zR, zO, zP, zT, zS, zU, leT, zH, pureL, pureA, natNe, zI, zG, TyD.isAgg, zJ, hS3, hrb3, hgb3, hpb3, hgg3, hmm3, hfr3, hq3, hg3, hx3, hg3', hx3', hA, hB, rowT_len, spanT_len, updH_at, zJ]); (simp (disch := (first | omega | (simp only [zE, zF, zD, zC, zA, zB, rwI_len, rowT_len, spanT_len, bothL_len]; omega))) only [push_cast, simprocAttr, takeM, dropM, zK, zA, zB, zN, zQ, zR, zO, zP, zT, zS, zU, leT, zH, pureL, pureA, natNe, zI, zG, TyD.isAgg, zJ, hS3, hrb3, hgb3, hpb3, hgg3, hmm3, hfr3, hq3, hg3, hx3, hg3', hx3', hA, hB, rowT_len, spanT_len] <;> omega))
      | ((apply D.alloct cx_ok; decide; decide); (simp (disch := (first | omega | (simp only [zE, zF, zD, zC, zA, zB, rwI_len, rowT_len, spanT_len, bothL_len]; omega))) only [push_cast, simprocAttr, takeM, dropM, zK, zA, zB, zN, zQ, zR, zO, zP, zT, zS, zU, leT, zH, pureL, pureA, natNe, zI, zG, TyD.isAgg, zJ, hS3, hrb3, hgb3, hpb3, hgg3, hmm3, hfr3, hq3, hg3, hx3, hg3', hx3', hA, hB, rowT_len, spanT_len] <;> rfl); first | exact .inl rfl | exact .inr (by simp))
      | (apply W.append cx_ok; decide; rfl; rfl; rfl; decide; (iterate 3 (simp (disch := (first | omega | (simp only [zE, zF, zD, zC, zA, zB, rwI_len, rowT_len, spanT_len, bothL_len]; omega))) only [push_cast, simprocAttr, takeM, dropM, zK, zA, zB, zN, zQ, zR, zO, zP, zT, zS, zU, leT, zH, pureL, pureA, natNe, zI, zG, TyD.isAgg, zJ, hS3, hrb3, hgb3, hpb3, hgg3, hmm3, hfr3, hq3, hg3, hx3, hg3', hx3', hA, hB, rowT_len, spanT_len] <;> rfl)); (first | (focus (simp; done)) | (intro c hc; obtain ⟨x, _, rfl⟩ := List.mem_map.1 hc; rfl)); ((first | rfl | simp (disch := omega) only [push_cast])); ((try dsimp only); (try simp only [zF, zE, zD, zC, zA, zB, rwI_len, rowT_len, spanT_len, bothL_len]); omega); ((try dsimp only); (try simp only [zF, zE, zD, zC, zA, zB, rwI_len, rowT_len, spanT_len, bothL_len]); omega))
      | (apply D.append cx_ok; decide; decide; rfl; rfl; rfl; decide; (iterate 3 (simp (disch := (first | omega | (simp only [zE, zF, zD, zC, zA, zB, rwI_len, rowT_len, spanT_len, bothL_len]; omega))) only [push_cast, simprocAttr, takeM, dropM, zK, zA, zB, zN, zQ, zR, zO, zP, zT, zS, zU, leT, zH, pureL, pureA, natNe, zI, zG, TyD.isAgg, zJ, hS3, hrb3, hgb3, hpb3, hgg3, hmm3, hfr3, hq3, hg3, hx3, hg3', hx3', hA, hB, rowT_len, spanT_len] <;> rfl)); (first | (focus (simp; done)) | (intro c hc; obtain ⟨x, _, rfl⟩ := List.mem_map.1 hc; rfl)); ((first | rfl | (simp (disch := omega) only [push_cast]; done))); ((try dsimp only); (try simp only [zF, zE, zD, zC, zA, zB, rwI_len, rowT_len, spanT_len, bothL_len]); omega); ((try dsimp only); (try simp only [zF, zE, zD, zC, zA, zB, rwI_len, rowT_len, spanT_len, bothL_len]); omega); first | exact .inl rfl | exact .inr (by simp))

    all_goals (refine ⟨rest3.length, ?_, k3 + 1, (M3.length + 2), (M3 ++ needleL (nodesR r more) a.toNat x), rest3, sps3, rfl, hd3, hd3', (by rw [List.append_assoc]; exact hp23), (by simp [needleL_len]), (by simp [needleL_len]; omega), (by omega), (by (try simp (disch := omega) only [push_cast, simprocAttr, natNe, zI, zG, TyD.isAgg, zJ, hS3]); (repeat (refine hJ.frame _ _ _ _ ?_ (by omega))); exact hp63), ?_, ?_, ?_, ?_, ?_, ?_, ?_, ?_, ?_, ?_, ?_, ?_, ?_, ?_, ?_, ?_, ?_, ?_, ?_⟩; ((simp only [List.length_cons] at *; omega)); all_goals first | (simp (disch := omega) only [push_cast, simprocAttr, hS3, natNe, zI, zG, TyD.isAgg, zJ, hrb3, hgb3, hpb3, hgg3, hmm3, hfr3, hq3, hg3, hx3, hg3', hx3', hA, hB, rowT_len, spanT_len, needleL, ha1, needleL_len, zY, zX, zW, zE, zD, zC, List.append_assoc, yB, yA, isEmpty_map, zV, zM, yC] <;> first | rfl | omega) | omega)
  have hq3 : ¬ (k3 : Int) < (r.strikes.length : Int) + 1 + 1 := by have := List.drop_eq_nil_iff.1 hp03; omega
  have hp23' : M3 = linksA r (nodesR r more) := by
    rw [← hp23]
    cases sps3 <;> simp [linksN]
  rw [hp23'] at hp33
  rw [hp23'] at hS3
  delta tail121 at hK
  simp only [Try.f121, Option.getD_some, dropS] at hK
  refine AW.seq ?_
  repeat' first
    | refine AW.region ?_ | refine AW.ret ?_ | refine AW.block ?_ | refine AW.skip ?_ | refine AW.exit ?_ | refine AW.scope ?_ | refine AW.label ?_ | refine AWL.nil ?_ | refine D.nil ?_
    | refine W.draw cx_mixed (by decide +kernel) ?_
    | ((first | (apply W.step cx_ok; decide) | (apply D.step cx_ok; decide; decide) | apply W.store cx_ok | (apply W.gS; rfl; decide) | (apply D.gS; rfl; decide; decide) | apply AW.cond | apply W.mapUpdate cx_ok); (simp (disch := (first | omega | (simp only [zE, zF, zD, zC, zA, zB, rwI_len, rowT_len, spanT_len, bothL_len]; omega))) only [push_cast, simprocAttr, takeM, dropM, zK, zA, zB, zN, zQ, zR, zO, zP, zT, zS, zU, leT, zH, pureL, pureA, natNe, zI, zG, TyD.isAgg, zJ, hS3, hrb3, hgb3, hpb3, hgg3, hmm3, hq3] <;> rfl); all_goals try ((with_reducible intro hI); try first | (cases hI; done) | (simp only [INTS, zL] at hI; try first | (exfalso; omega) | (have hT : True := hI; clear hT hI))))
    | (refine W.makeMap cx_ok (by simp only [push_cast, simprocAttr] <;> rfl) (by decide) ?_)
    | (apply W.append cx_ok; decide; rfl; rfl; rfl; decide; (iterate 3 (simp (disch := (first | omega | (simp only [zE, zF, zD, zC, zA, zB, rwI_len, rowT_len, spanT_len, bothL_len]; omega))) only [push_cast, simprocAttr, takeM, dropM, zK, zA, zB, zN, zQ, zR, zO, zP, zT, zS, zU, leT, zH, pureL, pureA, natNe, zI, zG, TyD.isAgg, zJ, hS3, hrb3, hgb3, hpb3, hgg3, hmm3, hq3] <;> rfl)); (first | (focus (simp; done)) | (intro c hc; obtain ⟨x, _, rfl⟩ := List.mem_map.1 hc; rfl)); ((first | rfl | simp (disch := omega) only [push_cast])); ((try dsimp only); (try simp only [zF, zE, zD, zC, zA, zB, rwI_len, rowT_len, spanT_len, bothL_len]); omega); ((try dsimp only); (try simp only [zF, zE, zD, zC, zA, zB, rwI_len, rowT_len, spanT_len, bothL_len]); omega))

  refine AW.seq ?_
  repeat' first
    | refine AW.region ?_ | refine AW.ret ?_ | refine AW.block ?_ | refine AW.skip ?_ | refine AW.exit ?_ | refine AW.scope ?_ | refine AW.label ?_ | refine AWL.nil ?_ | refine D.nil ?_
    | refine W.draw cx_mixed (by decide +kernel) ?_
    | ((first | (apply W.step cx_ok; decide) | (apply D.step cx_ok; decide; decide) | apply W.store cx_ok | (apply W.gS; rfl; decide) | (apply D.gS; rfl; decide; decide) | apply AW.cond | apply W.mapUpdate cx_ok); (simp (disch := (first | omega | (simp only [zE, zF, zD, zC, zA, zB, rwI_len, rowT_len, spanT_len, bothL_len]; omega))) only [push_cast, simprocAttr, takeM, dropM, zK, zA, zB, zN, zQ, zR, zO, zP, zT, zS, zU, leT, zH, pureL, pureA, natNe, zI, zG, TyD.isAgg, zJ, hS3, hrb3, hgb3, hpb3, hgg3, hmm3, hq3] <;> rfl); all_goals try ((with_reducible intro hI); try first | (cases hI; done) | (simp only [INTS, zL] at hI; try first | (exfalso; omega) | (have hT : True := hI; clear hT hI))))
    | (refine W.makeMap cx_ok (by simp only [push_cast, simprocAttr] <;> rfl) (by decide) ?_)
    | (apply W.append cx_ok; decide; rfl; rfl; rfl; decide; (iterate 3 (simp (disch := (first | omega | (simp only [zE, zF, zD, zC, zA, zB, rwI_len, rowT_len, spanT_len, bothL_len]; omega))) only [push_cast, simprocAttr, takeM, dropM, zK, zA, zB, zN, zQ, zR, zO, zP, zT, zS, zU, leT, zH, pureL, pureA, natNe, zI, zG, TyD.isAgg, zJ, hS3, hrb3, hgb3, hpb3, hgg3, hmm3, hq3] <;> rfl)); (first | (focus (simp; done)) | (intro c hc; obtain ⟨x, _, rfl⟩ := List.mem_map.1 hc; rfl)); ((first | rfl | simp (disch := omega) only [push_cast])); ((try dsimp only); (try simp only [zF, zE, zD, zC, zA, zB, rwI_len, rowT_len, spanT_len, bothL_len]); omega); ((try dsimp only); (try simp only [zF, zE, zD, zC, zA, zB, rwI_len, rowT_len, spanT_len, bothL_len]); omega))

  refine hK _ ?_
  refine ⟨?_, ?_, ?_, ?_, ?_, ?_, ?_, ⟨lw3, hp33, ?_⟩, (by (try simp (disch := omega) only [push_cast, simprocAttr, natNe, zI, zG, TyD.isAgg, zJ, hS3]); (repeat (refine hJ.frame _ _ _ _ ?_ (by omega))); exact hp63), ?_⟩
  all_goals first | (simp (disch := omega) only [push_cast, simprocAttr, natNe, zI, zG, TyD.isAgg, zJ, hS3, hrb3, hgb3, hpb3, hgg3, hmm3] <;> first | rfl | omega) | omega
end Go.Proofs.Ks

namespace Go.Proofs.Ks
open Go Go.Pg Go.Proofs
theorem rowAt_eqH {H H' : Nat → Option AO} {i : Nat} (h : H' i = H i) : Pg.rowAt H' i = Pg.rowAt H i := by unfold Pg.rowAt; rw [h]
theorem drop_at {l : List Int} {k : Nat} {x : Int} {rest : List Int} (h : l.drop k = x :: rest) : l.getD k 0 = x := by
  have h0 : l[k]? = some x := by
    have := congrArg (fun m => m[0]?) h
    simpa using this
  rw [List.getD_eq_getElem?_getD, h0]; rfl
theorem drop_succ {l : List Int} {k : Nat} {x : Int} {rest : List Int} (h : l.drop k = x :: rest) : l.drop (k + 1) = rest := by
  have := congrArg (List.drop 1) h
  rw [List.drop_drop] at this
  simpa using this
theorem drop_lt {l : List Int} (hs : l.Pairwise (· < ·)) {k : Nat} {x : Int} {rest : List Int} (h : l.drop k = x :: rest) : ∀ y ∈ rest, x < y := by
  have h1 := hs.drop (i := k)
  rw [h, List.pairwise_cons] at h1
  exact h1.1
theorem drop_mem {l : List Int} {k : Nat} {rest : List Int} (h : l.drop k = rest) : ∀ y ∈ rest, y ∈ l := fun y hy => List.mem_of_mem_drop (h ▸ hy)
theorem all1_b {l n0 rb gb pb g m nx : Nat} {r : Rec} (hv : r.V) {more : List Int} (hml : more.length ≤ 8) (hmb : ∀ a ∈ more, 0 ≤ a ∧ a ≤ 43200) {J : List Lk → (Nat → Option AO) → Prop} (hJ : Yl l n0 rb gb pb g m r (marksR r more) (nodesR r more) J)
    (h1 : rb < n0) (h2 : gb < n0) (h3 : pb < n0) (h4 : g < n0) (h5 : m < n0) (hnx : n0 ≤ nx) {Q : AV → (Nat → Option AO) → Nat → Prop} (hQ : ∀ H n, J (linksR r more) H → nx ≤ n → Q (.tup []) H n) {s0 : St} (hs : MidA l n0 gb pb nx r (nodesR r more) J s0) :
    AW cx 232 tail121 (endM cx [] Q) s0 := by
  obtain ⟨t0, t2, t3, t5, t8, hSes, hlb, ⟨lw, hlw, hlo⟩, hj, hn0⟩ := hs
  obtain ⟨r1, r2, r3⟩ := hv.r.rate
  have hns4 := hv.r.nstops
  have hst := hv.r.stops
  obtain ⟨_, hk2, hnl⟩ := linksR_ok hv hml hmb
  have hat := fun (j : Nat) (x : Int) => @at_mark_ix r more j x
  have hso := marksR_sorted r more
  have hbd := fun (a : Int) => @marksR_bound r hv more hmb a
  have hndl := nodesR_len r more
  have hRA := linksR_eq r more
  obtain ⟨LA, hLA⟩ : ∃ z, linksA r (nodesR r more) = z := ⟨_, rfl⟩
  obtain ⟨RES, hRES⟩ : ∃ z, linksR r more = z := ⟨_, rfl⟩
  rw [hLA] at hlb hlo hRA hlw
  rw [hRES] at hk2 hRA hQ
  obtain ⟨PL, hPL⟩ : ∃ z, marksR r more = z := ⟨_, rfl⟩
  rw [hPL] at hJ hat hso hbd hRA hndl
  have hlen : LA.length ≤ 10000 := by have := congrArg List.length hRA; rw [List.length_append] at this; omega
  have hpl : PL.length ≤ 100 := by omega
  delta tail121
  simp only [Try.f121, Option.getD_some, dropS]
  obtain ⟨hrb0, hgb0, hpb0, ⟨ga0, gl0, hgg0⟩, hmm0⟩ := hJ.sys _ _ hj
  repeat' first
    | apply AW.seq | apply AW.region | apply AW.ret | apply AW.block | apply AW.skip | apply AW.exit | apply AW.scope | apply AW.label | apply AWL.nil | apply D.nil
    | refine W.draw cx_mixed (by decide +kernel) ?_
    | ((first | (apply W.step cx_ok; decide) | (apply D.step cx_ok; decide; decide) | apply W.store cx_ok | (apply W.gS; rfl; decide) | (apply D.gS; rfl; decide; decide) | apply AW.cond | apply W.mapUpdate cx_ok); (simp (disch := (first | omega | (simp only [zE, zF, zD, zC, zA, zB, rwI_len, rowT_len, spanT_len, bothL_len]; omega))) only [push_cast, simprocAttr, takeM, dropM, zK, zA, zB, zN, zQ, zR, zO, zP, zT, zS, zU, leT, zH, pureL, pureA, natNe, zI, zG, TyD.isAgg, zJ, hrb0, hgb0, hpb0, hgg0, hmm0, t0, t2, t3, t5, t8, hSes, hlb, hlo, hlen] <;> rfl); all_goals try ((with_reducible intro hI); try first | (cases hI; done) | (simp only [INTS, zL] at hI; try first | (exfalso; omega) | (have hT : True := hI; clear hT hI))))
    | ((first | (apply W.gU; rfl; decide) | (apply D.gU; rfl; decide; decide)); (simp (disch := (first | omega | (simp only [zE, zF, zD, zC, zA, zB, rwI_len, rowT_len, spanT_len, bothL_len]; omega))) only [push_cast, simprocAttr, takeM, dropM, zK, zA, zB, zN, zQ, zR, zO, zP, zT, zS, zU, leT, zH, pureL, pureA, natNe, zI, zG, TyD.isAgg, zJ, hrb0, hgb0, hpb0, hgg0, hmm0, t0, t2, t3, t5, t8, hSes, hlb, hlo, hlen] <;> rfl))
    | (refine W.makeMap cx_ok (by simp only [push_cast, simprocAttr] <;> rfl) (by decide) ?_)
    | (apply W.append cx_ok; decide; rfl; rfl; rfl; decide; (iterate 3 (simp (disch := (first | omega | (simp only [zE, zF, zD, zC, zA, zB, rwI_len, rowT_len, spanT_len, bothL_len]; omega))) only [push_cast, simprocAttr, takeM, dropM, zK, zA, zB, zN, zQ, zR, zO, zP, zT, zS, zU, leT, zH, pureL, pureA, natNe, zI, zG, TyD.isAgg, zJ, hrb0, hgb0, hpb0, hgg0, hmm0, t0, t2, t3, t5, t8, hSes, hlb, hlo, hlen] <;> rfl)); (first | (focus (simp; done)) | (intro c hc; obtain ⟨x, _, rfl⟩ := List.mem_map.1 hc; rfl)); ((first | rfl | simp (disch := omega) only [push_cast])); ((try dsimp only); (try simp only [zF, zE, zD, zC, zA, zB, rwI_len, rowT_len, spanT_len, bothL_len]); omega); ((try dsimp only); (try simp only [zF, zE, zD, zC, zA, zB, rwI_len, rowT_len, spanT_len, bothL_len]); omega))

  refine AW.loop (fun n s => ∃ (k : Nat) (rest : List Lk), n = rest.length ∧ (LA.drop k = rest) ∧ (J (LA.take k) s.H) ∧ (k ≤ LA.length) ∧ nx + 10 ≤ s.nx ∧ s.tm 0 = .v (.func (.yield l) #[] #[]) ∧ s.tm 2 = .ptr gb 0 0 1 ∧ s.tm 3 = .ptr pb 0 0 1 ∧ s.tm 5 = .ptr nx 0 0 1 ∧ s.tm 155 = .ref (nx + 4) 0 LA.length ∧ s.tm 156 = ai LA.length ∧ s.tm 157 = ai k ∧ Pg.rowAt s.H nx = some { k := 12, es := [eSession r.s], ty := 26 } ∧ Pg.rowAt s.H (nx + 4) = some { k := 3, es := LA.map eLink, ty := 66, lo := lw }) (LA.length) ⟨0, LA, rfl, rfl, (by (try simp (disch := omega) only [push_cast, simprocAttr, natNe, zI, zG, TyD.isAgg, zJ, hrb0, hgb0, hpb0, hgg0, hmm0, t0, t2, t3, t5, t8, hSes, hlb, hlo, hlen]); (repeat (refine hJ.frame _ _ _ _ ?_ (by omega))); exact hj), (Nat.zero_le _), ?_, ?_, ?_, ?_, ?_, ?_, ?_, ?_, ?_, ?_⟩ ?_
  iterate 10 (first | (simp (disch := omega) only [push_cast, simprocAttr, natNe, zI, zG, TyD.isAgg, zJ, hrb0, hgb0, hpb0, hgg0, hmm0, t0, t2, t3, t5, t8, hSes, hlb, hlo, hlen] <;> first | rfl | omega) | omega)
  rintro n s ⟨k, rest, hn, hp0, hp1, hp2, hnl, hS⟩
  refine AW.fresh fun hfr => ?_
  obtain ⟨hrb, hgb, hpb, ⟨ga, gl, hgg⟩, hmm⟩ := hJ.sys _ _ hp1
  rcases rest with _ | ⟨x, rest⟩
  rotate_left
  · obtain ⟨hk, hg, hd', hl', hm, hx⟩ := drop_cons hp0 eLink []
    have hln : (LA.take k).length < 20000 := by rw [List.length_take]; omega
    repeat' first
      | apply AW.seq | apply AW.region | apply AW.ret | apply AW.block | apply AW.skip | apply AW.exit | apply AW.scope | apply AW.label | apply AWL.nil | apply D.nil
      | refine W.draw cx_mixed (by decide +kernel) ?_
      | ((first | (apply W.step cx_ok; decide) | (apply D.step cx_ok; decide; decide) | apply W.store cx_ok | (apply W.gS; rfl; decide) | (apply D.gS; rfl; decide; decide) | apply AW.cond | apply W.mapUpdate cx_ok); (simp (disch := (first | omega | (simp only [zE, zF, zD, zC, zA, zB, rwI_len, rowT_len, spanT_len, bothL_len]; omega))) only [push_cast, simprocAttr, takeM, dropM, zK, zA, zB, zN, zQ, zR, zO, zP, zT, zS, zU, leT, zH, pureL, pureA, natNe, zI, zG, TyD.isAgg, zJ, hS, hrb, hgb, hpb, hgg, hmm, hk, hg, hx, hfr] <;> rfl); all_goals try ((with_reducible intro hI); try first | (cases hI; done) | (simp only [INTS, zL] at hI; try first | (exfalso; omega) | (have hT : True := hI; clear hT hI))))
      | ((first | (apply W.gU; rfl; decide) | (apply D.gU; rfl; decide; decide)); (simp (disch := (first | omega | (simp only [zE, zF, zD, zC, zA, zB, rwI_len, rowT_len, spanT_len, bothL_len]; omega))) only [push_cast, simprocAttr, takeM, dropM, zK, zA, zB, zN, zQ, zR, zO, zP, zT, zS, zU, leT, zH, pureL, pureA, natNe, zI, zG, TyD.isAgg, zJ, hS, hrb, hgb, hpb, hgg, hmm, hk, hg, hx, hfr] <;> rfl))
      | (refine W.makeMap cx_ok (by simp only [push_cast, simprocAttr] <;> rfl) (by decide) ?_)
      | (apply W.append cx_ok; decide; rfl; rfl; rfl; decide; (iterate 3 (simp (disch := (first | omega | (simp only [zE, zF, zD, zC, zA, zB, rwI_len, rowT_len, spanT_len, bothL_len]; omega))) only [push_cast, simprocAttr, takeM, dropM, zK, zA, zB, zN, zQ, zR, zO, zP, zT, zS, zU, leT, zH, pureL, pureA, natNe, zI, zG, TyD.isAgg, zJ, hS, hrb, hgb, hpb, hgg, hmm, hk, hg, hx, hfr] <;> rfl)); (first | (focus (simp; done)) | (intro c hc; obtain ⟨x, _, rfl⟩ := List.mem_map.1 hc; rfl)); ((first | rfl | simp (disch := omega) only [push_cast])); ((try dsimp only); (try simp only [zF, zE, zD, zC, zA, zB, rwI_len, rowT_len, spanT_len, bothL_len]); omega); ((try dsimp only); (try simp only [zF, zE, zD, zC, zA, zB, rwI_len, rowT_len, spanT_len, bothL_len]); omega))

    refine W.yield (by decide) (by simp (disch := omega) only [push_cast, simprocAttr, natNe, zI, zG, TyD.isAgg, zJ, hS, hrb, hgb, hpb, hgg, hmm, hk, hg, hx, hfr] <;> rfl) (va := [.agg (eLink x)]) (by simp (disch := omega) only [push_cast, simprocAttr, natNe, zI, zG, TyD.isAgg, zJ, hS, hrb, hgb, hpb, hgg, hmm, hk, hg, hx, hfr] <;> rfl) (hJ.y (LA.take k) _ _ x (by (try simp (disch := omega) only [push_cast, simprocAttr, natNe, zI, zG, TyD.isAgg, zJ, hS, hrb, hgb, hpb, hgg, hmm, hk, hg, hx, hfr]); (repeat (refine hJ.frame _ _ _ _ ?_ (by omega))); exact hp1) (show n0 ≤ s.nx + 1 by omega) hln) ?_
    rintro _ H2 nx2 ⟨rfl, hJ2, hn2, hf2⟩
    replace hn2 : s.nx + 1 ≤ nx2 := hn2
    try simp only [List.append_assoc, List.cons_append, List.nil_append] at hJ2
    have g1 : Pg.rowAt H2 nx = some { k := 12, es := [eSession r.s], ty := 26 } := (rowAt_eqH (hf2 nx (by omega) (show nx < s.nx + 1 by omega))).trans (by simp (disch := omega) only [push_cast, simprocAttr, natNe, zI, zG, TyD.isAgg, zJ, hS] <;> rfl)
    have g2 : Pg.rowAt H2 (nx + 4) = some { k := 3, es := LA.map eLink, ty := 66, lo := lw } := (rowAt_eqH (hf2 (nx + 4) (by omega) (show nx + 4 < s.nx + 1 by omega))).trans (by simp (disch := omega) only [push_cast, simprocAttr, natNe, zI, zG, TyD.isAgg, zJ, hS] <;> rfl)
    repeat' first
      | apply AW.seq | apply AW.region | apply AW.ret | apply AW.block | apply AW.skip | apply AW.exit | apply AW.scope | apply AW.label | apply AWL.nil | apply D.nil
      | refine W.draw cx_mixed (by decide +kernel) ?_
      | ((first | (apply W.step cx_ok; decide) | (apply D.step cx_ok; decide; decide) | apply W.store cx_ok | (apply W.gS; rfl; decide) | (apply D.gS; rfl; decide; decide) | apply AW.cond | apply W.mapUpdate cx_ok); (simp (disch := (first | omega | (simp only [zE, zF, zD, zC, zA, zB, rwI_len, rowT_len, spanT_len, bothL_len]; omega))) only [push_cast, simprocAttr, takeM, dropM, zK, zA, zB, zN, zQ, zR, zO, zP, zT, zS, zU, leT, zH, pureL, pureA, natNe, zI, zG, TyD.isAgg, zJ, hS, hk, hg, hx, g1, g2] <;> rfl); all_goals try ((with_reducible intro hI); try first | (cases hI; done) | (simp only [INTS, zL] at hI; try first | (exfalso; omega) | (have hT : True := hI; clear hT hI))))
      | ((first | (apply W.gU; rfl; decide) | (apply D.gU; rfl; decide; decide)); (simp (disch := (first | omega | (simp only [zE, zF, zD, zC, zA, zB, rwI_len, rowT_len, spanT_len, bothL_len]; omega))) only [push_cast, simprocAttr, takeM, dropM, zK, zA, zB, zN, zQ, zR, zO, zP, zT, zS, zU, leT, zH, pureL, pureA, natNe, zI, zG, TyD.isAgg, zJ, hS, hk, hg, hx, g1, g2] <;> rfl))
      | (refine W.makeMap cx_ok (by simp only [push_cast, simprocAttr] <;> rfl) (by decide) ?_)
      | (apply W.append cx_ok; decide; rfl; rfl; rfl; decide; (iterate 3 (simp (disch := (first | omega | (simp only [zE, zF, zD, zC, zA, zB, rwI_len, rowT_len, spanT_len, bothL_len]; omega))) only [push_cast, simprocAttr, takeM, dropM, zK, zA, zB, zN, zQ, zR, zO, zP, zT, zS, zU, leT, zH, pureL, pureA, natNe, zI, zG, TyD.isAgg, zJ, hS, hk, hg, hx, g1, g2] <;> rfl)); (first | (focus (simp; done)) | (intro c hc; obtain ⟨x, _, rfl⟩ := List.mem_map.1 hc; rfl)); ((first | rfl | simp (disch := omega) only [push_cast])); ((try dsimp only); (try simp only [zF, zE, zD, zC, zA, zB, rwI_len, rowT_len, spanT_len, bothL_len]); omega); ((try dsimp only); (try simp only [zF, zE, zD, zC, zA, zB, rwI_len, rowT_len, spanT_len, bothL_len]); omega))

    all_goals (refine ⟨rest.length, ?_, k + 1, rest, rfl, hd', (by rw [take_snoc hp0]; exact (by (try simp (disch := omega) only [push_cast, simprocAttr, natNe, zI, zG, TyD.isAgg, zJ]); (repeat (refine hJ.frame _ _ _ _ ?_ (by omega))); exact hJ2)), (by omega), ?_, ?_, ?_, ?_, ?_, ?_, ?_, ?_, ?_, ?_⟩; ((simp only [List.length_cons] at *; omega)); all_goals first | (simp (disch := omega) only [push_cast, simprocAttr, hS, natNe, zI, zG, TyD.isAgg, zJ, hk, g1, g2] <;> first | rfl | omega) | omega)
  have hk := drop_nil hp0
  have hkl : LA.take k = LA := List.take_of_length_le (List.drop_eq_nil_iff.1 hp0)
  rw [hkl] at hp1
  repeat' first
    | apply AW.seq | apply AW.region | apply AW.ret | apply AW.block | apply AW.skip | apply AW.exit | apply AW.scope | apply AW.label | apply AWL.nil | apply D.nil
    | refine W.draw cx_mixed (by decide +kernel) ?_
    | ((first | (apply W.step cx_ok; decide) | (apply D.step cx_ok; decide; decide) | apply W.store cx_ok | (apply W.gS; rfl; decide) | (apply D.gS; rfl; decide; decide) | apply AW.cond | apply W.mapUpdate cx_ok); (simp (disch := (first | omega | (simp only [zE, zF, zD, zC, zA, zB, rwI_len, rowT_len, spanT_len, bothL_len]; omega))) only [push_cast, simprocAttr, takeM, dropM, zK, zA, zB, zN, zQ, zR, zO, zP, zT, zS, zU, leT, zH, pureL, pureA, natNe, zI, zG, TyD.isAgg, zJ, hS, hrb, hgb, hpb, hgg, hmm, hk] <;> rfl); all_goals try ((with_reducible intro hI); try first | (cases hI; done) | (simp only [INTS, zL] at hI; try first | (exfalso; omega) | (have hT : True := hI; clear hT hI))))
    | ((first | (apply W.gU; rfl; decide) | (apply D.gU; rfl; decide; decide)); (simp (disch := (first | omega | (simp only [zE, zF, zD, zC, zA, zB, rwI_len, rowT_len, spanT_len, bothL_len]; omega))) only [push_cast, simprocAttr, takeM, dropM, zK, zA, zB, zN, zQ, zR, zO, zP, zT, zS, zU, leT, zH, pureL, pureA, natNe, zI, zG, TyD.isAgg, zJ, hS, hrb, hgb, hpb, hgg, hmm, hk] <;> rfl))
    | (refine W.makeMap cx_ok (by simp only [push_cast, simprocAttr] <;> rfl) (by decide) ?_)
    | (apply W.append cx_ok; decide; rfl; rfl; rfl; decide; (iterate 3 (simp (disch := (first | omega | (simp only [zE, zF, zD, zC, zA, zB, rwI_len, rowT_len, spanT_len, bothL_len]; omega))) only [push_cast, simprocAttr, takeM, dropM, zK, zA, zB, zN, zQ, zR, zO, zP, zT, zS, zU, leT, zH, pureL, pureA, natNe, zI, zG, TyD.isAgg, zJ, hS, hrb, hgb, hpb, hgg, hmm, hk] <;> rfl)); (first | (focus (simp; done)) | (intro c hc; obtain ⟨x, _, rfl⟩ := List.mem_map.1 hc; rfl)); ((first | rfl | simp (disch := omega) only [push_cast])); ((try dsimp only); (try simp only [zF, zE, zD, zC, zA, zB, rwI_len, rowT_len, spanT_len, bothL_len]); omega); ((try dsimp only); (try simp only [zF, zE, zD, zC, zA, zB, rwI_len, rowT_len, spanT_len, bothL_len]); omega))

  refine AW.loop (fun n s => ∃ (k : Nat) (dn : List Lk) (rest : List Int), n = rest.length ∧ (PL.drop k = rest) ∧ (dn ++ pairsL r.s (3 + r.strikes.length + k) rest = RES) ∧ (k ≤ PL.length) ∧ (J dn s.H) ∧ nx + 10 ≤ s.nx ∧ s.tm 0 = .v (.func (.yield l) #[] #[]) ∧ s.tm 2 = .ptr gb 0 0 1 ∧ s.tm 3 = .ptr pb 0 0 1 ∧ s.tm 5 = .ptr nx 0 0 1 ∧ s.tm 166 = lInt PL ∧ s.tm 167 = ai PL.length ∧ s.tm 168 = ai k ∧ Pg.rowAt s.H nx = some { k := 12, es := [eSession r.s], ty := 26 }) (PL.length) ⟨0, LA, PL, rfl, rfl, (by rw [hRA]; rfl), (Nat.zero_le _), (by (try simp (disch := omega) only [push_cast, simprocAttr, natNe, zI, zG, TyD.isAgg, zJ, hS]); (repeat (refine hJ.frame _ _ _ _ ?_ (by omega))); exact hp1), ?_, ?_, ?_, ?_, ?_, ?_, ?_, ?_, ?_⟩ ?_
  iterate 9 (first | (simp (disch := omega) only [push_cast, simprocAttr, natNe, zI, zG, TyD.isAgg, zJ, hrb, hgb, hpb, hgg, hmm, hS, hk] <;> first | rfl | omega) | omega)
  rintro n1 s1 ⟨k1, dn1, rest1, hn1, hp01, hp11, hp21, hp31, hnl1, hS1⟩
  refine AW.fresh fun hfr1 => ?_
  obtain ⟨hrb1, hgb1, hpb1, ⟨ga1, gl1, hgg1⟩, hmm1⟩ := hJ.sys _ _ hp31
  rcases rest1 with _ | ⟨x, rest1⟩
  · have hk1 := drop_nil hp01
    simp only [pairsL, List.append_nil] at hp11
    rw [hp11] at hp31
    repeat' first
      | apply AW.seq | apply AW.region | apply AW.ret | apply AW.block | apply AW.skip | apply AW.exit | apply AW.scope | apply AW.label | apply AWL.nil | apply D.nil
      | refine W.draw cx_mixed (by decide +kernel) ?_
      | ((first | (apply W.step cx_ok; decide) | (apply D.step cx_ok; decide; decide) | apply W.store cx_ok | (apply W.gS; rfl; decide) | (apply D.gS; rfl; decide; decide) | apply AW.cond | apply W.mapUpdate cx_ok); (simp (disch := (first | omega | (simp only [zE, zF, zD, zC, zA, zB, rwI_len, rowT_len, spanT_len, bothL_len]; omega))) only [push_cast, simprocAttr, takeM, dropM, zK, zA, zB, zN, zQ, zR, zO, zP, zT, zS, zU, leT, zH, pureL, pureA, natNe, zI, zG, TyD.isAgg, zJ, hS1, hrb1, hgb1, hpb1, hgg1, hmm1, hk1] <;> rfl); all_goals try ((with_reducible intro hI); try first | (cases hI; done) | (simp only [INTS, zL] at hI; try first | (exfalso; omega) | (have hT : True := hI; clear hT hI))))
      | ((first | (apply W.gU; rfl; decide) | (apply D.gU; rfl; decide; decide)); (simp (disch := (first | omega | (simp only [zE, zF, zD, zC, zA, zB, rwI_len, rowT_len, spanT_len, bothL_len]; omega))) only [push_cast, simprocAttr, takeM, dropM, zK, zA, zB, zN, zQ, zR, zO, zP, zT, zS, zU, leT, zH, pureL, pureA, natNe, zI, zG, TyD.isAgg, zJ, hS1, hrb1, hgb1, hpb1, hgg1, hmm1, hk1] <;> rfl))
      | (refine W.makeMap cx_ok (by simp only [push_cast, simprocAttr] <;> rfl) (by decide) ?_)
      | (apply W.append cx_ok; decide; rfl; rfl; rfl; decide; (iterate 3 (simp (disch := (first | omega | (simp only [zE, zF, zD, zC, zA, zB, rwI_len, rowT_len, spanT_len, bothL_len]; omega))) only [push_cast, simprocAttr, takeM, dropM, zK, zA, zB, zN, zQ, zR, zO, zP, zT, zS, zU, leT, zH, pureL, pureA, natNe, zI, zG, TyD.isAgg, zJ, hS1, hrb1, hgb1, hpb1, hgg1, hmm1, hk1] <;> rfl)); (first | (focus (simp; done)) | (intro c hc; obtain ⟨x, _, rfl⟩ := List.mem_map.1 hc; rfl)); ((first | rfl | simp (disch := omega) only [push_cast])); ((try dsimp only); (try simp only [zF, zE, zD, zC, zA, zB, rwI_len, rowT_len, spanT_len, bothL_len]); omega); ((try dsimp only); (try simp only [zF, zE, zD, zC, zA, zB, rwI_len, rowT_len, spanT_len, bothL_len]); omega))

    all_goals
      ((first | apply W.retX | apply W.endX); (simp (disch := omega) only [push_cast, simprocAttr, natNe, zI, zG, TyD.isAgg, zJ, hS1, hrb1, hgb1, hpb1, hgg1, hmm1, hk1] <;> rfl); exact hQ _ _ (by (try simp (disch := omega) only [push_cast, simprocAttr, natNe, zI, zG, TyD.isAgg, zJ, hS1]); (repeat (refine hJ.frame _ _ _ _ ?_ (by omega))); exact hp31) (by (try (simp (disch := omega) only [push_cast, simprocAttr, natNe, zI, zG, TyD.isAgg, zJ, hS1])); omega))
  · obtain ⟨hk1, hg1, hd1, hl1, hm1, hx1⟩ := drop_cons hp01 eInt []
    have hax := hat k1 x (by omega) (drop_at hp01)
    obtain ⟨bx1, bx2⟩ := hbd x hm1
    have hlt := drop_lt hso hp01
    have hrl : (PL.length : Int) - ((k1 : Int) + 1) = (rest1.length : Int) := by have := congrArg List.length hp01; simp only [List.length_drop, List.length_cons] at this; omega
    have hea : (∀ e ∈ PL.map eInt, e.length = 1) = True := eq_true fun e he => by obtain ⟨y, _, rfl⟩ := List.mem_map.1 he; rfl
    have hkl : k1 + 1 ≤ PL.length := by omega
    have hkn : ((k1 : Int) + 1).toNat = k1 + 1 := by omega
    have hk0 : (0 : Int) ≤ (k1 : Int) + 1 := by omega
    have hrm : (PL.map eInt).drop (k1 + 1) = rest1.map eInt := by rw [← List.map_drop, drop_succ hp01]
    repeat' first
      | apply AW.seq | apply AW.region | apply AW.ret | apply AW.block | apply AW.skip | apply AW.exit | apply AW.scope | apply AW.label | apply AWL.nil | apply D.nil
      | refine W.draw cx_mixed (by decide +kernel) ?_
      | ((first | (apply W.step cx_ok; decide) | (apply D.step cx_ok; decide; decide) | apply W.store cx_ok | (apply W.gS; rfl; decide) | (apply D.gS; rfl; decide; decide) | apply AW.cond | apply W.mapUpdate cx_ok); (simp (disch := (first | omega | (simp only [zE, zF, zD, zC, zA, zB, rwI_len, rowT_len, spanT_len, bothL_len]; omega))) only [push_cast, simprocAttr, takeM, dropM, zK, zA, zB, zN, zQ, zR, zO, zP, zT, zS, zU, leT, zH, pureL, pureA, natNe, zI, zG, TyD.isAgg, zJ, hS1, hrb1, hgb1, hpb1, hgg1, hmm1, hk1, hg1, hx1, hfr1, hrl, hrm, hea, hkl, hkn, hk0] <;> rfl); all_goals try ((with_reducible intro hI); try first | (cases hI; done) | (simp only [INTS, zL] at hI; try first | (exfalso; omega) | (have hT : True := hI; clear hT hI))))
      | ((first | (apply W.gU; rfl; decide) | (apply D.gU; rfl; decide; decide)); (simp (disch := (first | omega | (simp only [zE, zF, zD, zC, zA, zB, rwI_len, rowT_len, spanT_len, bothL_len]; omega))) only [push_cast, simprocAttr, takeM, dropM, zK, zA, zB, zN, zQ, zR, zO, zP, zT, zS, zU, leT, zH, pureL, pureA, natNe, zI, zG, TyD.isAgg, zJ, hS1, hrb1, hgb1, hpb1, hgg1, hmm1, hk1, hg1, hx1, hfr1, hrl, hrm, hea, hkl, hkn, hk0] <;> rfl))
      | (refine W.makeMap cx_ok (by simp only [push_cast, simprocAttr] <;> rfl) (by decide) ?_)
      | (apply W.append cx_ok; decide; rfl; rfl; rfl; decide; (iterate 3 (simp (disch := (first | omega | (simp only [zE, zF, zD, zC, zA, zB, rwI_len, rowT_len, spanT_len, bothL_len]; omega))) only [push_cast, simprocAttr, takeM, dropM, zK, zA, zB, zN, zQ, zR, zO, zP, zT, zS, zU, leT, zH, pureL, pureA, natNe, zI, zG, TyD.isAgg, zJ, hS1, hrb1, hgb1, hpb1, hgg1, hmm1, hk1, hg1, hx1, hfr1, hrl, hrm, hea, hkl, hkn, hk0] <;> rfl)); (first | (focus (simp; done)) | (intro c hc; obtain ⟨x, _, rfl⟩ := List.mem_map.1 hc; rfl)); ((first | rfl | simp (disch := omega) only [push_cast])); ((try dsimp only); (try simp only [zF, zE, zD, zC, zA, zB, rwI_len, rowT_len, spanT_len, bothL_len]); omega); ((try dsimp only); (try simp only [zF, zE, zD, zC, zA, zB, rwI_len, rowT_len, spanT_len, bothL_len]); omega))

    refine AW.loop (fun n s => ∃ (j : Nat) (dn : List Lk) (ys : List Int), n = ys.length ∧ (rest1.drop j = ys) ∧ (dn ++ (pairL r.s (3 + r.strikes.length + k1) x (3 + r.strikes.length + k1 + 1 + j) ys ++ pairsL r.s (3 + r.strikes.length + k1 + 1) rest1) = RES) ∧ (J dn s.H) ∧ s1.nx + 1 ≤ s.nx ∧ s.tm 0 = .v (.func (.yield l) #[] #[]) ∧ s.tm 2 = .ptr gb 0 0 1 ∧ s.tm 3 = .ptr pb 0 0 1 ∧ s.tm 5 = .ptr nx 0 0 1 ∧ s.tm 166 = lInt PL ∧ s.tm 167 = ai PL.length ∧ s.tm 168 = ai k1 ∧ s.tm 24 = .ptr s1.nx 0 0 1 ∧ s.tm 176 = lInt rest1 ∧ s.tm 177 = ai rest1.length ∧ s.tm 178 = ai j ∧ Pg.rowAt s.H nx = some { k := 12, es := [eSession r.s], ty := 26 } ∧ Pg.rowAt s.H s1.nx = some { k := 1, es := [[ai x]], ty := 3 }) (rest1.length) ⟨0, dn1, rest1, rfl, rfl, hp11, (by (try simp (disch := omega) only [push_cast, simprocAttr, natNe, zI, zG, TyD.isAgg, zJ, hS1, hrb1, hgb1, hpb1, hgg1, hmm1, hk1, hg1, hx1, hfr1, hrl, hrm, hea, hkl, hkn, hk0, zS, zT]); (repeat (refine hJ.frame _ _ _ _ ?_ (by omega))); exact hp31), ?_, ?_, ?_, ?_, ?_, ?_, ?_, ?_, ?_, ?_, ?_, ?_, ?_, ?_⟩ ?_
    iterate 14 (first | (simp (disch := omega) only [push_cast, simprocAttr, natNe, zI, zG, TyD.isAgg, zJ, hS1, hrb1, hgb1, hpb1, hgg1, hmm1, hk1, hg1, hx1, hfr1, hrl, hrm, hea, hkl, hkn, hk0, zS, zT] <;> first | rfl | omega) | omega)
    rintro n2 s2 ⟨j2, dn2, ys2, hn2, hp02, hp12, hp22, hnl2, hS2⟩
    refine AW.fresh fun hfr2 => ?_
    obtain ⟨hrb2, hgb2, hpb2, ⟨ga2, gl2, hgg2⟩, hmm2⟩ := hJ.sys _ _ hp22
    rcases ys2 with _ | ⟨y, ys2⟩
    · have hk2' := drop_nil hp02
      simp only [pairL, List.nil_append] at hp12
      repeat' first
        | apply AW.seq | apply AW.region | apply AW.ret | apply AW.block | apply AW.skip | apply AW.exit | apply AW.scope | apply AW.label | apply AWL.nil | apply D.nil
        | refine W.draw cx_mixed (by decide +kernel) ?_
        | ((first | (apply W.step cx_ok; decide) | (apply D.step cx_ok; decide; decide) | apply W.store cx_ok | (apply W.gS; rfl; decide) | (apply D.gS; rfl; decide; decide) | apply AW.cond | apply W.mapUpdate cx_ok); (simp (disch := (first | omega | (simp only [zE, zF, zD, zC, zA, zB, rwI_len, rowT_len, spanT_len, bothL_len]; omega))) only [push_cast, simprocAttr, takeM, dropM, zK, zA, zB, zN, zQ, zR, zO, zP, zT, zS, zU, leT, zH, pureL, pureA, natNe, zI, zG, TyD.isAgg, zJ, hS2, hrb2, hgb2, hpb2, hgg2, hmm2, hk2'] <;> rfl); all_goals try ((with_reducible intro hI); try first | (cases hI; done) | (simp only [INTS, zL] at hI; try first | (exfalso; omega) | (have hT : True := hI; clear hT hI))))
        | ((first | (apply W.gU; rfl; decide) | (apply D.gU; rfl; decide; decide)); (simp (disch := (first | omega | (simp only [zE, zF, zD, zC, zA, zB, rwI_len, rowT_len, spanT_len, bothL_len]; omega))) only [push_cast, simprocAttr, takeM, dropM, zK, zA, zB, zN, zQ, zR, zO, zP, zT, zS, zU, leT, zH, pureL, pureA, natNe, zI, zG, TyD.isAgg, zJ, hS2, hrb2, hgb2, hpb2, hgg2, hmm2, hk2'] <;> rfl))
        | (refine W.makeMap cx_ok (by simp only [push_cast, simprocAttr] <;> rfl) (by decide) ?_)
        | (apply W.append cx_ok; decide; rfl; rfl; rfl; decide; (iterate 3 (simp (disch := (first | omega | (simp only [zE, zF, zD, zC, zA, zB, rwI_len, rowT_len, spanT_len, bothL_len]; omega))) only [push_cast, simprocAttr, takeM, dropM, zK, zA, zB, zN, zQ, zR, zO, zP, zT, zS, zU, leT, zH, pureL, pureA, natNe, zI, zG, TyD.isAgg, zJ, hS2, hrb2, hgb2, hpb2, hgg2, hmm2, hk2'] <;> rfl)); (first | (focus (simp; done)) | (intro c hc; obtain ⟨x, _, rfl⟩ := List.mem_map.1 hc; rfl)); ((first | rfl | simp (disch := omega) only [push_cast])); ((try dsimp only); (try simp only [zF, zE, zD, zC, zA, zB, rwI_len, rowT_len, spanT_len, bothL_len]); omega); ((try dsimp only); (try simp only [zF, zE, zD, zC, zA, zB, rwI_len, rowT_len, spanT_len, bothL_len]); omega))

      all_goals (refine ⟨rest1.length, ?_, k1 + 1, dn2, rest1, rfl, (drop_succ hp01), hp12, (by omega), (by (try simp (disch := omega) only [push_cast, simprocAttr, natNe, zI, zG, TyD.isAgg, zJ, hS2]); (repeat (refine hJ.frame _ _ _ _ ?_ (by omega))); exact hp22), ?_, ?_, ?_, ?_, ?_, ?_, ?_, ?_, ?_⟩; ((simp only [List.length_cons] at *; omega)); all_goals first | (simp (disch := omega) only [push_cast, simprocAttr, hS2, natNe, zI, zG, TyD.isAgg, zJ, hk2'] <;> first | rfl | omega) | omega)
    · obtain ⟨hk2', hg2, hd2, hl2, hm2, hx2⟩ := drop_cons hp02 eInt []
      have hym : y ∈ rest1 := hm2
      have hxy := hlt y hym
      obtain ⟨by1, by2⟩ := hbd y (drop_mem (drop_succ hp01) y hym)
      have hjl : k1 + 1 + j2 < PL.length := by omega
      have hya := hat (k1 + 1 + j2) y hjl (drop_at (by rw [← List.drop_drop, drop_succ hp01]; exact hp02))
      obtain ⟨A, hA⟩ : ∃ z, 3 + r.strikes.length + k1 = z := ⟨_, rfl⟩
      obtain ⟨B, hB⟩ : ∃ z, 3 + r.strikes.length + k1 + 1 + j2 = z := ⟨_, rfl⟩
      have hax' : atP 4 x (nodesR r more) = (A : Int) := by rw [hax]; omega
      have hay : atP 4 y (nodesR r more) = (B : Int) := by rw [hya]; omega
      have hle := leastR_bound r.s x y hv.r bx1 (by omega) by2
      have z1 : (r.s.rate.hi = 0) = False := eq_false (by omega)
      have d1 := div_bound (n := (y - x) * 1000000) (d := r.s.rate.hi) (by omega) (by omega) (by omega)
      have d2 := div_bound (n := (y - x) * 1000000 + r.s.rate.lo - 1) (d := r.s.rate.lo) (by omega) (by omega) (by omega)
      have hLR : leastR r.s x y = _ := addS_sum x y r.s.stops _
      have hce := ceiling_ok ((y - x) * 1000000) r.s.rate.lo (by omega) (by omega)
      have hsh := sumHi_ok r.s.stops x y hns4 hst
      have hsl := sumLo_ok r.s.stops x y hns4 hst
      obtain ⟨Q1, hQ1⟩ : ∃ q, (y - x) * 1000000 / r.s.rate.hi = q := ⟨_, rfl⟩
      obtain ⟨Q2, hQ2⟩ : ∃ q, ((y - x) * 1000000 + r.s.rate.lo - 1) / r.s.rate.lo = q := ⟨_, rfl⟩
      obtain ⟨SH, hSH⟩ : ∃ q, sumS (·.secs.hi) x y r.s.stops 0 = q := ⟨_, rfl⟩
      obtain ⟨SL, hSL⟩ : ∃ q, sumS (·.secs.lo) x y r.s.stops 0 = q := ⟨_, rfl⟩
      rw [hQ1] at d1 hLR
      rw [hQ2] at d2 hLR hce
      rw [hSH] at hsh hLR
      rw [hSL] at hsl hLR
      dsimp only at hLR
      have hpe : pairL r.s (3 + r.strikes.length + k1) x (3 + r.strikes.length + k1 + 1 + j2) (y :: ys2) = ⟨A, B, Q2 + SH⟩ :: ⟨B, A, -(Q1 + SL)⟩ :: pairL r.s (3 + r.strikes.length + k1) x (3 + r.strikes.length + k1 + 1 + (j2 + 1)) ys2 := by
        subst hB; subst hA; simp only [pairL, hLR]; rfl
      rw [hpe] at hp12
      rw [hLR] at hle
      dsimp only at hle
      obtain ⟨e1, e2, e3, e4⟩ := hle
      have hdl : dn2.length + 2 ≤ 10000 := by have := congrArg List.length hp12; simp only [List.length_append, List.length_cons] at this; omega
      repeat' first
        | ((first | (apply W.callr cx_ok; decide) | (apply D.callr cx_ok; decide; decide)); (iterate 2 (simp (disch := (first | omega | (simp only [zE, zF, zD, zC, zA, zB, rwI_len, rowT_len, spanT_len, bothL_len]; omega))) only [push_cast, simprocAttr, takeM, dropM, zK, zA, zB, zN, zQ, zR, zO, zP, zT, zS, zU, leT, zH, pureL, pureA, natNe, zI, zG, TyD.isAgg, zJ, hS2, hrb2, hgb2, hpb2, hgg2, hmm2, hk2', hg2, hx2, hfr2, hax', hay, z1, hQ1, yD] <;> rfl)); (exact at_r (nodesR r more) _ _ (by simp (disch := (first | omega | (simp only [zE, zF, zD, zC, zA, zB, rwI_len, rowT_len, spanT_len, bothL_len]; omega))) only [push_cast, simprocAttr, takeM, dropM, zK, zA, zB, zN, zQ, zR, zO, zP, zT, zS, zU, leT, zH, pureL, pureA, natNe, zI, zG, TyD.isAgg, zJ, hS2, hrb2, hgb2, hpb2, hgg2, hmm2, hk2', hg2, hx2, hfr2, hax', hay, z1, hQ1, yD] <;> rfl) (by simp (disch := (first | omega | (simp only [zE, zF, zD, zC, zA, zB, rwI_len, rowT_len, spanT_len, bothL_len]; omega))) only [push_cast, simprocAttr, takeM, dropM, zK, zA, zB, zN, zQ, zR, zO, zP, zT, zS, zU, leT, zH, pureL, pureA, natNe, zI, zG, TyD.isAgg, zJ, hS2, hrb2, hgb2, hpb2, hgg2, hmm2, hk2', hg2, hx2, hfr2, hax', hay, z1, hQ1, yD] <;> rfl)))
        | apply AW.seq | apply AW.region | apply AW.ret | apply AW.block | apply AW.skip | apply AW.exit | apply AW.scope | apply AW.label | apply AWL.nil | apply D.nil
        | refine AW.draw (id := 44) cx_mixed [10] [] [] 0 (by decide +kernel) ?_
        | refine AW.draw (id := 45) cx_mixed [10] [] [] 0 (by decide +kernel) ?_
        | refine AW.draw (id := 46) cx_mixed [7] [] [] 0 (by decide +kernel) ?_
        | refine W.draw cx_mixed (by decide +kernel) ?_
        | ((first | (apply W.step cx_ok; decide) | (apply D.step cx_ok; decide; decide) | apply W.store cx_ok | (apply W.gS; rfl; decide) | (apply D.gS; rfl; decide; decide) | apply AW.cond | apply W.mapUpdate cx_ok); (simp (disch := (first | omega | (simp only [zE, zF, zD, zC, zA, zB, rwI_len, rowT_len, spanT_len, bothL_len]; omega))) only [push_cast, simprocAttr, takeM, dropM, zK, zA, zB, zN, zQ, zR, zO, zP, zT, zS, zU, leT, zH, pureL, pureA, natNe, zI, zG, TyD.isAgg, zJ, hS2, hrb2, hgb2, hpb2, hgg2, hmm2, hk2', hg2, hx2, hfr2, hax', hay, z1, hQ1, yD] <;> rfl); all_goals try ((with_reducible intro hI); try first | (cases hI; done) | (simp only [INTS, zL] at hI; try first | (exfalso; omega) | (have hT : True := hI; clear hT hI))))
        | ((first | (apply W.gU; rfl; decide) | (apply D.gU; rfl; decide; decide) | (apply D.store cx_ok; decide) | (apply D.stept cx_ok; decide; decide) | (apply D.mapUpdate cx_ok; decide) | (apply D.stepm cx_ok; decide; decide)); (simp (disch := (first | omega | (simp only [zE, zF, zD, zC, zA, zB, rwI_len, rowT_len, spanT_len, bothL_len]; omega))) only [push_cast, simprocAttr, takeM, dropM, zK, zA, zB, zN, zQ, zR, zO, zP, zT, zS, zU, leT, zH, pureL, pureA, natNe, zI, zG, TyD.isAgg, zJ, hS2, hrb2, hgb2, hpb2, hgg2, hmm2, hk2', hg2, hx2, hfr2, hax', hay, z1, hQ1, yD] <;> rfl); try first | exact .inl rfl | exact .inr (by simp))
        | (refine W.makeMap cx_ok (by simp only [push_cast, simprocAttr] <;> rfl) (by decide) ?_)
        | ((apply D.alloct cx_ok; decide; decide); (simp (disch := (first | omega | (simp only [zE, zF, zD, zC, zA, zB, rwI_len, rowT_len, spanT_len, bothL_len]; omega))) only [push_cast, simprocAttr, takeM, dropM, zK, zA, zB, zN, zQ, zR, zO, zP, zT, zS, zU, leT, zH, pureL, pureA, natNe, zI, zG, TyD.isAgg, zJ, hS2, hrb2, hgb2, hpb2, hgg2, hmm2, hk2', hg2, hx2, hfr2, hax', hay, z1, hQ1, yD] <;> rfl); first | exact .inl rfl | exact .inr (by simp))
        | (apply W.append cx_ok; decide; rfl; rfl; rfl; decide; (iterate 3 (simp (disch := (first | omega | (simp only [zE, zF, zD, zC, zA, zB, rwI_len, rowT_len, spanT_len, bothL_len]; omega))) only [push_cast, simprocAttr, takeM, dropM, zK, zA, zB, zN, zQ, zR, zO, zP, zT, zS, zU, leT, zH, pureL, pureA, natNe, zI, zG, TyD.isAgg, zJ, hS2, hrb2, hgb2, hpb2, hgg2, hmm2, hk2', hg2, hx2, hfr2, hax', hay, z1, hQ1, yD] <;> rfl)); (first | (focus (simp; done)) | (intro c hc; obtain ⟨x, _, rfl⟩ := List.mem_map.1 hc; rfl)); ((first | rfl | simp (disch := omega) only [push_cast])); ((try dsimp only); (try simp only [zF, zE, zD, zC, zA, zB, rwI_len, rowT_len, spanT_len, bothL_len]); omega); ((try dsimp only); (try simp only [zF, zE, zD, zC, zA, zB, rwI_len, rowT_len, spanT_len, bothL_len]); omega))
        | ((first | (apply W.callv cx_ok; decide) | (apply D.callv cx_ok; decide; decide) | (apply D.callvt cx_ok; decide; decide)); (iterate 2 (simp (disch := (first | omega | (simp only [zE, zF, zD, zC, zA, zB, rwI_len, rowT_len, spanT_len, bothL_len]; omega))) only [push_cast, simprocAttr, takeM, dropM, zK, zA, zB, zN, zQ, zR, zO, zP, zT, zS, zU, leT, zH, pureL, pureA, natNe, zI, zG, TyD.isAgg, zJ, hS2, hrb2, hgb2, hpb2, hgg2, hmm2, hk2', hg2, hx2, hfr2, hax', hay, z1, hQ1, yD] <;> rfl)); (with_reducible first | exact hce | exact hsh | exact hsl); try first | rfl | (simp (disch := (first | omega | (simp only [zE, zF, zD, zC, zA, zB, rwI_len, rowT_len, spanT_len, bothL_len]; omega))) only [push_cast, simprocAttr, takeM, dropM, zK, zA, zB, zN, zQ, zR, zO, zP, zT, zS, zU, leT, zH, pureL, pureA, natNe, zI, zG, TyD.isAgg, zJ, hS2, hrb2, hgb2, hpb2, hgg2, hmm2, hk2', hg2, hx2, hfr2, hax', hay, z1, hQ1, yD] <;> rfl))

      refine W.yield (by decide) (by simp (disch := omega) only [push_cast, simprocAttr, natNe, zI, zG, TyD.isAgg, zJ, hS2, hrb2, hgb2, hpb2, hgg2, hmm2, hk2', hg2, hx2, hfr2, hax', hay, z1, hQ1, yD] <;> rfl) (va := [.agg (eLink ⟨A, B, Q2 + SH⟩)]) (by simp (disch := omega) only [push_cast, simprocAttr, natNe, zI, zG, TyD.isAgg, zJ, hS2, hrb2, hgb2, hpb2, hgg2, hmm2, hk2', hg2, hx2, hfr2, hax', hay, z1, hQ1, yD] <;> rfl) (hJ.y (dn2) _ _ ⟨A, B, Q2 + SH⟩ (by (try simp (disch := omega) only [push_cast, simprocAttr, natNe, zI, zG, TyD.isAgg, zJ, hS2, hrb2, hgb2, hpb2, hgg2, hmm2, hk2', hg2, hx2, hfr2, hax', hay, z1, hQ1, yD]); (repeat (refine hJ.frame _ _ _ _ ?_ (by omega))); exact hp22) (show n0 ≤ s2.nx + 1 by omega) (by omega)) ?_
      rintro _ H3 nx3 ⟨rfl, hJ3, hn3, hf3⟩
      replace hn3 : s2.nx + 1 ≤ nx3 := hn3
      try simp only [List.append_assoc, List.cons_append, List.nil_append] at hJ3
      have g1 : Pg.rowAt H3 nx = some { k := 12, es := [eSession r.s], ty := 26 } := (rowAt_eqH (hf3 nx (by omega) (show nx < s2.nx + 1 by omega))).trans (by simp (disch := omega) only [push_cast, simprocAttr, natNe, zI, zG, TyD.isAgg, zJ, hS2, hrb2, hgb2, hpb2, hgg2, hmm2, hk2', hg2, hx2, hfr2, hax', hay, z1, hQ1, yD] <;> rfl)
      have g2 : Pg.rowAt H3 s1.nx = some { k := 1, es := [[ai x]], ty := 3 } := (rowAt_eqH (hf3 s1.nx (by omega) (show s1.nx < s2.nx + 1 by omega))).trans (by simp (disch := omega) only [push_cast, simprocAttr, natNe, zI, zG, TyD.isAgg, zJ, hS2, hrb2, hgb2, hpb2, hgg2, hmm2, hk2', hg2, hx2, hfr2, hax', hay, z1, hQ1, yD] <;> rfl)
      repeat' first
        | apply AW.seq | apply AW.region | apply AW.ret | apply AW.block | apply AW.skip | apply AW.exit | apply AW.scope | apply AW.label | apply AWL.nil | apply D.nil
        | refine W.draw cx_mixed (by decide +kernel) ?_
        | ((first | (apply W.step cx_ok; decide) | (apply D.step cx_ok; decide; decide) | apply W.store cx_ok | (apply W.gS; rfl; decide) | (apply D.gS; rfl; decide; decide) | apply AW.cond | apply W.mapUpdate cx_ok); (simp (disch := (first | omega | (simp only [zE, zF, zD, zC, zA, zB, rwI_len, rowT_len, spanT_len, bothL_len]; omega))) only [push_cast, simprocAttr, takeM, dropM, zK, zA, zB, zN, zQ, zR, zO, zP, zT, zS, zU, leT, zH, pureL, pureA, natNe, zI, zG, TyD.isAgg, zJ, hS2, hrb2, hgb2, hpb2, hgg2, hmm2, hk2', hg2, hx2, hfr2, hax', hay, z1, hQ1, yD] <;> rfl); all_goals try ((with_reducible intro hI); try first | (cases hI; done) | (simp only [INTS, zL] at hI; try first | (exfalso; omega) | (have hT : True := hI; clear hT hI))))
        | ((first | (apply W.gU; rfl; decide) | (apply D.gU; rfl; decide; decide)); (simp (disch := (first | omega | (simp only [zE, zF, zD, zC, zA, zB, rwI_len, rowT_len, spanT_len, bothL_len]; omega))) only [push_cast, simprocAttr, takeM, dropM, zK, zA, zB, zN, zQ, zR, zO, zP, zT, zS, zU, leT, zH, pureL, pureA, natNe, zI, zG, TyD.isAgg, zJ, hS2, hrb2, hgb2, hpb2, hgg2, hmm2, hk2', hg2, hx2, hfr2, hax', hay, z1, hQ1, yD] <;> rfl))
        | (refine W.makeMap cx_ok (by simp only [push_cast, simprocAttr] <;> rfl) (by decide) ?_)
        | (apply W.append cx_ok; decide; rfl; rfl; rfl; decide; (iterate 3 (simp (disch := (first | omega | (simp only [zE, zF, zD, zC, zA, zB, rwI_len, rowT_len, spanT_len, bothL_len]; omega))) only [push_cast, simprocAttr, takeM, dropM, zK, zA, zB, zN, zQ, zR, zO, zP, zT, zS, zU, leT, zH, pureL, pureA, natNe, zI, zG, TyD.isAgg, zJ, hS2, hrb2, hgb2, hpb2, hgg2, hmm2, hk2', hg2, hx2, hfr2, hax', hay, z1, hQ1, yD] <;> rfl)); (first | (focus (simp; done)) | (intro c hc; obtain ⟨x, _, rfl⟩ := List.mem_map.1 hc; rfl)); ((first | rfl | simp (disch := omega) only [push_cast])); ((try dsimp only); (try simp only [zF, zE, zD, zC, zA, zB, rwI_len, rowT_len, spanT_len, bothL_len]); omega); ((try dsimp only); (try simp only [zF, zE, zD, zC, zA, zB, rwI_len, rowT_len, spanT_len, bothL_len]); omega))

      refine W.yield (by decide) (by simp (disch := omega) only [push_cast, simprocAttr, natNe, zI, zG, TyD.isAgg, zJ, hS2, hrb2, hgb2, hpb2, hgg2, hmm2, hk2', hg2, hx2, hfr2, hax', hay, z1, hQ1, yD] <;> rfl) (va := [.agg (eLink ⟨B, A, -(Q1 + SL)⟩)]) (by simp (disch := omega) only [push_cast, simprocAttr, natNe, zI, zG, TyD.isAgg, zJ, hS2, hrb2, hgb2, hpb2, hgg2, hmm2, hk2', hg2, hx2, hfr2, hax', hay, z1, hQ1, yD] <;> rfl) (hJ.y (dn2 ++ [⟨A, B, Q2 + SH⟩]) _ _ ⟨B, A, -(Q1 + SL)⟩ (by (try simp (disch := omega) only [push_cast, simprocAttr, natNe, zI, zG, TyD.isAgg, zJ, hS2, hrb2, hgb2, hpb2, hgg2, hmm2, hk2', hg2, hx2, hfr2, hax', hay, z1, hQ1, yD]); (repeat (refine hJ.frame _ _ _ _ ?_ (by omega))); exact hJ3) (show n0 ≤ nx3 by omega) (by simp only [List.length_append, List.length_cons, List.length_nil]; omega)) ?_
      rintro _ H4 nx4 ⟨rfl, hJ4, hn4, hf4⟩
      replace hn4 : nx3 ≤ nx4 := hn4
      try simp only [List.append_assoc, List.cons_append, List.nil_append] at hJ4
      have g3 : Pg.rowAt H4 nx = some { k := 12, es := [eSession r.s], ty := 26 } := (rowAt_eqH (hf4 nx (by omega) (show nx < nx3 by omega))).trans (by simp (disch := omega) only [push_cast, simprocAttr, natNe, zI, zG, TyD.isAgg, zJ, hS2, hrb2, hgb2, hpb2, hgg2, hmm2, hk2', hg2, hx2, hfr2, hax', hay, z1, hQ1, yD, g1] <;> rfl)
      have g4 : Pg.rowAt H4 s1.nx = some { k := 1, es := [[ai x]], ty := 3 } := (rowAt_eqH (hf4 s1.nx (by omega) (show s1.nx < nx3 by omega))).trans (by simp (disch := omega) only [push_cast, simprocAttr, natNe, zI, zG, TyD.isAgg, zJ, hS2, hrb2, hgb2, hpb2, hgg2, hmm2, hk2', hg2, hx2, hfr2, hax', hay, z1, hQ1, yD, g2] <;> rfl)
      repeat' first
        | apply AW.seq | apply AW.region | apply AW.ret | apply AW.block | apply AW.skip | apply AW.exit | apply AW.scope | apply AW.label | apply AWL.nil | apply D.nil
        | refine W.draw cx_mixed (by decide +kernel) ?_
        | ((first | (apply W.step cx_ok; decide) | (apply D.step cx_ok; decide; decide) | apply W.store cx_ok | (apply W.gS; rfl; decide) | (apply D.gS; rfl; decide; decide) | apply AW.cond | apply W.mapUpdate cx_ok); (simp (disch := (first | omega | (simp only [zE, zF, zD, zC, zA, zB, rwI_len, rowT_len, spanT_len, bothL_len]; omega))) only [push_cast, simprocAttr, takeM, dropM, zK, zA, zB, zN, zQ, zR, zO, zP, zT, zS, zU, leT, zH, pureL, pureA, natNe, zI, zG, TyD.isAgg, zJ, hS2, hrb2, hgb2, hpb2, hgg2, hmm2, hk2', hg2, hx2, hfr2, hax', hay, z1, hQ1, yD, g3, g4] <;> rfl); all_goals try ((with_reducible intro hI); try first | (cases hI; done) | (simp only [INTS, zL] at hI; try first | (exfalso; omega) | (have hT : True := hI; clear hT hI))))
        | ((first | (apply W.gU; rfl; decide) | (apply D.gU; rfl; decide; decide)); (simp (disch := (first | omega | (simp only [zE, zF, zD, zC, zA, zB, rwI_len, rowT_len, spanT_len, bothL_len]; omega))) only [push_cast, simprocAttr, takeM, dropM, zK, zA, zB, zN, zQ, zR, zO, zP, zT, zS, zU, leT, zH, pureL, pureA, natNe, zI, zG, TyD.isAgg, zJ, hS2, hrb2, hgb2, hpb2, hgg2, hmm2, hk2', hg2, hx2, hfr2, hax', hay, z1, hQ1, yD, g3, g4] <;> rfl))
        | (refine W.makeMap cx_ok (by simp only [push_cast, simprocAttr] <;> rfl) (by decide) ?_)
        | (apply W.append cx_ok; decide; rfl; rfl; rfl; decide; (iterate 3 (simp (disch := (first | omega | (simp only [zE, zF, zD, zC, zA, zB, rwI_len, rowT_len, spanT_len, bothL_len]; omega))) only [push_cast, simprocAttr, takeM, dropM, zK, zA, zB, zN, zQ, zR, zO, zP, zT, zS, zU, leT, zH, pureL, pureA, natNe, zI, zG, TyD.isAgg, zJ, hS2, hrb2, hgb2, hpb2, hgg2, hmm2, hk2', hg2, hx2, hfr2, hax', hay, z1, hQ1, yD, g3, g4] <;> rfl)); (first | (focus (simp; done)) | (intro c hc; obtain ⟨x, _, rfl⟩ := List.mem_map.1 hc; rfl)); ((first | rfl | simp (disch := omega) only [push_cast])); ((try dsimp only); (try simp only [zF, zE, zD, zC, zA, zB, rwI_len, rowT_len, spanT_len, bothL_len]); omega); ((try dsimp only); (try simp only [zF, zE, zD, zC, zA, zB, rwI_len, rowT_len, spanT_len, bothL_len]); omega))

      all_goals (refine ⟨ys2.length, ?_, j2 + 1, (dn2 ++ [⟨A, B, Q2 + SH⟩, ⟨B, A, -(Q1 + SL)⟩]), ys2, rfl, hd2, (by rw [← hp12]; simp only [List.append_assoc, List.cons_append, List.nil_append]), (by (try simp (disch := omega) only [push_cast, simprocAttr, natNe, zI, zG, TyD.isAgg, zJ]); (repeat (refine hJ.frame _ _ _ _ ?_ (by omega))); exact hJ4), ?_, ?_, ?_, ?_, ?_, ?_, ?_, ?_, ?_, ?_, ?_, ?_, ?_, ?_⟩; ((simp only [List.length_cons] at *; omega)); all_goals first | (simp (disch := omega) only [push_cast, simprocAttr, hS2, natNe, zI, zG, TyD.isAgg, zJ, hrb2, hgb2, hpb2, hgg2, hmm2, hk2', hg2, hx2, hfr2, hax', hay, z1, hQ1, yD, g3, g4] <;> first | rfl | omega) | omega)
end Go.Proofs.Ks

namespace Go.Proofs.Ks
open Go Go.Pg Go.Proofs
theorem all1_ok {l n0 rb gb pb g m : Nat} {r : Rec} (hv : r.V) {more : List Int} (hml : more.length ≤ 8) (hmb : ∀ a ∈ more, 0 ≤ a ∧ a ≤ 43200) {J : List Lk → (Nat → Option AO) → Prop} (hJ : Yl l n0 rb gb pb g m r (marksR r more) (nodesR r more) J)
    (h1 : rb < n0) (h2 : gb < n0) (h3 : pb < n0) (h4 : g < n0) (h5 : m < n0) {H : Nat → Option AO} {nx : Nat} (hnx : n0 ≤ nx) (hJ0 : J [] H) {Q : AV → (Nat → Option AO) → Nat → Prop} (hQ : ∀ H n, J (linksR r more) H → nx ≤ n → Q (.tup []) H n) :
    OKm cx 121 [.v (.func (.yield l) #[] #[]), .ptr rb 0 0 1, .ptr gb 0 0 1, .ptr pb 0 0 1] H nx Q :=
  all1_a hv hml hmb hJ h1 h2 h3 h4 h5 hnx hJ0 fun s hs => all1_b hv hml hmb hJ h1 h2 h3 h4 h5 hnx hQ hs
end Go.Proofs.Ks

namespace Go.Pg
open Go Go.RowKit
section
variable {C : Cx}
theorem leavesXt {S0 : Fr} {B0 : Nat} {fn : Func} {tmps : Array Value} {tm : Nat → AV} {R : Ending → World → Prop} : ∀ (bs : List (Nat × Nat)) (w : World) (H : Nat → Option AO) (σ : Sg), Inv B0 S0 w H σ → (∀ t, Rep σ w (tm t) (tmps.getD t undef)) → Marks bs H →
    (∀ w' H' σ', Inv B0 S0 w' H' σ' → (∀ t, Rep σ' w' (tm t) (tmps.getD t undef)) → Below B0 w w' → (∀ i, rowAt H' i = rowAt H i) → (∀ i, H' i = none ↔ H i = none) → (∀ i, (∀ D ds, H i ≠ some (.mp (.dfr D ds) 0 [])) → H' i = H i) → ∃ v, (results fn tmps).run C.P w' = .ok v w' ∧ R (.returned v) w') →
    LeavesInM Fence.wide 0 C.P fn tmps R (bs.map fun p => mark p.1) .returning w
  | [], w, H, σ, hi, ht, _, fin => fin w H σ hi ht (Below.refl _ _) (fun _ => rfl) (fun _ => Iff.rfl) (fun _ _ => rfl)
  | (D, id) :: bs, w, H, σ, hi, ht, hm, fin => by
    obtain ⟨hm1, hm2⟩ := hm
    have hH : H id = some (.mp (.dfr D (some [])) 0 []) := hm2 (D, id) (by simp)
    obtain ⟨g1, g2⟩ := hi.shut hH
    obtain ⟨f1, f2, f3⟩ := g2 none
    simp only [List.map_cons, List.nodup_cons] at hm1
    refine ⟨by simp, .inl ⟨D, _, rfl, run_takeDeferred g1, ?_⟩⟩
    refine leavesXt bs _ _ σ f2 (fun t => Rep.mono f1 _ _ (ht t)) ⟨hm1.2, fun p hp => ?_⟩ fun w' H' σ' h1 h2 h3 h4 h5 h6 => fin w' H' σ' h1 h2 (f3.trans h3) (fun i => ?_) (fun i => ?_) (fun i hnd => ?_)
    · have hne : p.2 ≠ id := fun e => hm1.1 (e ▸ List.mem_map_of_mem (f := (·.2)) hp)
      simp only [updH]; rw [if_neg hne]; exact hm2 p (by simp [hp])
    · rw [h4, rowAt_updM]
      split
      · rename_i e; subst e; simp [rowAt, hH]
      · rfl
    · rw [h5]
      simp only [updH]
      split
      · rename_i e; subst e; simp [hH]
      · rfl
    · have hne : i ≠ id := fun e => by subst e; exact hnd _ _ hH
      have hu : updH H id (.mp (.dfr D none) 0 []) i = H i := by simp only [updH]; rw [if_neg hne]
      rw [h6 i (fun D' ds' => by rw [hu]; exact hnd D' ds'), hu]
def endXt (C : Cx) (rs : List ResultVar) (Q : AV → (Nat → Option AO) → Nat → Prop) (e : Exit) (s : St) : Prop :=
  ∀ H', (∀ i, rowAt H' i = rowAt s.H i) → (∀ i, (∀ D ds, s.H i ≠ some (.mp (.dfr D ds) 0 [])) → H' i = s.H i) → endM C rs Q e { s with H := H' }
theorem OKm.of_bodyXt [hW : C.Wide] (hC : C.OK) {f : FuncId} {fn : Func} {c : Code} {args : List AV} {rs : List ResultVar} {H : Nat → Option AO} {nx : Nat} {Q : AV → (Nat → Option AO) → Nat → Prop} (hf : C.P.funcs[f]? = some fn) (hb : fn.body = some c) (hn : (fn.name == "runtime.NumGoroutine") = false)
    (hr : fn.results = rs.toArray) (hN : args.length ≤ fn.ntmps) (h : AWx C fn.ntmps c (endXt C rs Q) { tm := fun t => args.getD t .junk, H := H, nx := nx }) : OKm C f args H nx Q := by
  refine ⟨⟨fn, hf, hn, by rw [hb]; rfl⟩, fun S0 w0 w σ vals hE hi hnx hbel hsz hrep => ?_⟩
  refine callsIn_wide.1 (callsIn_of_wp_marks (n := 0) hf hb trivial ?_)
  have hs : Sim (S0.from σ w) w0 fn.ntmps { tmps := vals ++ Array.replicate (fn.ntmps - vals.size) undef, defers := [] } w { tm := fun t => args.getD t .junk, H := H, nx := nx } := by
    refine ⟨σ, hi.from, hnx, fun t => ?_, by simp; omega, rfl, hbel⟩
    show Rep σ w (args.getD t .junk) ((vals ++ Array.replicate (fn.ntmps - vals.size) undef).getD t undef)
    by_cases ht : t < args.length
    · rw [repL_iff] at hrep
      obtain ⟨u, hu, hru⟩ := hrep t ht
      have : (vals ++ Array.replicate (fn.ntmps - vals.size) undef).getD t undef = u := by
        rw [Array.getD_eq_getD_getElem?, Array.getElem?_append_left (by omega), hu]; rfl
      rw [this, List.getD_eq_getElem?_getD, List.getElem?_eq_getElem ht]; exact hru
    · have : args.getD t .junk = .junk := by rw [List.getD_eq_getElem?_getD, List.getElem?_eq_none (by omega)]; rfl
      rw [this]; trivial
  have h2 := h (S0.from σ w) w0 _ w rfl hE hs
  rw [hW.h] at h2
  refine wpIn_mono h2 ?_
  rintro e a' w' ⟨s', bs, ⟨σ', hσ'⟩, hm, hq⟩
  have fin : (∀ H', (∀ i, rowAt H' i = rowAt s'.H i) → (∀ i, (∀ D ds, s'.H i ≠ some (.mp (.dfr D ds) 0 [])) → H' i = s'.H i) → ∃ vs, resVs C.T { s' with H := H' } rs = some vs ∧ Q (bundle vs) H' s'.nx) →
      LeavesInM Fence.wide 0 C.P fn a'.tmps (fun e w' => ∃ v r σ' H' nx', e = .returned v ∧ Q r H' nx' ∧ Below w0.heap.size w0 w' ∧ Inv w0.heap.size S0 w' H' σ' ∧ (∀ id, nx' ≤ id → H' id = none) ∧ Le σ σ' w w' ∧ Rep σ' w' r v) a'.defers .returning w' := by
    intro hq
    rw [show a'.defers = bs.map (fun p => mark p.1) from hσ'.d]
    refine leavesXt bs w' s'.H σ' hσ'.inv hσ'.tm hm fun w2 H2 σ2 h1 h2 h3 h4 h5 h6 => ?_
    obtain ⟨vs, hvs, hq⟩ := hq H2 h4 h6
    have hs2 : SimG { (S0.from σ w) with ds := bs.map (fun p => mark p.1) } w0 fn.ntmps a' w2 { s' with H := H2 } σ2 := ⟨h1, fun id hid => (h5 id).2 (hσ'.nx id hid), h2, hσ'.N, hσ'.d, hσ'.below.trans h3⟩
    obtain ⟨v, hv, hrv⟩ := run_results_of hC hs2 hr hvs
    have hi2 : Inv w0.heap.size (S0.from σ w) w2 H2 σ2 := ⟨h1.al, h1.fresh, h1.S_lt, h1.own_lt, h1.row, h1.mp, h1.fr⟩
    obtain ⟨hi', hle⟩ := hi2.unfrom
    exact ⟨v, hv, v, _, σ2, H2, s'.nx, rfl, hq, hs2.below, hi', hs2.nx, hle, hrv⟩
  cases e with
  | normal => exact fin hq
  | ret => exact fin hq
  | exit id => exact (hq s'.H (fun _ => rfl) (fun _ _ => rfl)).elim
  | goto l => exact (hq s'.H (fun _ => rfl) (fun _ _ => rfl)).elim
  | panic c => exact (hq s'.H (fun _ => rfl) (fun _ _ => rfl)).elim
  | outgrown => exact (hq s'.H (fun _ => rfl) (fun _ _ => rfl)).elim
end
end Go.Pg

namespace Go.Pg
open Go Go.RowKit Go.Sort
def SortC (P : Program) (f : FuncId) : Prop :=
  ∀ (blk off cap : Nat) (zs : List Int) (w : World), Holds (Value.int .i64) w blk off zs.toArray → blk < w.heap.size → zs.length < 4611686018427387904 →
    Calls P f #[.slice (some ⟨blk, off, none⟩) zs.length cap] w fun e w' => e = .returned (.tuple #[]) ∧ ∃ n os, w' = grow (putRow (Value.int .i64) (Sort.ahead w n) blk off (zs.mergeSort fun x y => decide (x ≤ y)).toArray) os
def CompactC (P : Program) (f : FuncId) : Prop :=
  ∀ (blk off cap : Nat) (zs : List Int) (w : World), Holds (Value.int .i64) w blk off zs.toArray → zs.length ≤ 9223372036854775807 → zs.length ≤ cap →
    Calls P f #[.slice (some ⟨blk, off, none⟩) zs.length cap] w fun e w' => e = .returned (.slice (some ⟨blk, off, none⟩) (Lib.compact zs).length cap) ∧ ∃ q, w' = putRow (Value.int .i64) (Sort.ahead w q) blk off (Lib.compact zs ++ List.replicate (zs.length - (Lib.compact zs).length) 0).toArray
theorem arr_get (l : List Int) (i : Nat) (h : i < l.length) : l.toArray[i]! = l[i] := by
  rw [getElem!_pos _ i (by simpa using h)]; simp
theorem compact_len (l : List Int) : (Lib.compact l).length ≤ l.length := by
  unfold Lib.compact Lib.compactUpTo
  rw [List.length_map]
  exact Nat.le_trans (List.length_filter_le _ _) (by simp)
section
variable {B0 : Nat} {S0 : Fr} {w : World} {H : Nat → Option AO} {σ : Sg} {id b lo : Nat} {ty : TypeId} {l : List Int}
theorem Inv.holdsI (hi : Inv B0 S0 w H σ) (h : rowAt H id = some { k := 1, es := l.map fun n => [.v (.int .i64 n)], ty := ty, lo := lo }) (hcur : σ.cur id = some b) : Holds (Value.int .i64) w b 0 l.toArray := by
  have hR := hi.row id _ (rowAt_eq h)
  obtain ⟨a1, a2, a3, a4, arr, a5, a6⟩ := hR.cur b hcur
  intro j hj
  have hj' : j < l.length := by simpa using hj
  refine ⟨?_, ?_⟩
  · have hcon := hR.con b hcur j (by simpa using hj')
    simp only [List.getElem_map, RepL] at hcon
    obtain ⟨⟨u, hu, hru⟩, _⟩ := hcon
    simp only [Rep] at hru
    subst hru
    rw [arr_get l j hj', ← hu]
    simp
  · simp [World.frozen?, a5]
theorem Inv.putInts (hi : Inv B0 S0 w H σ) (h : rowAt H id = some { k := 1, es := l.map fun n => [.v (.int .i64 n)], ty := ty, lo := lo }) (hcur : σ.cur id = some b) {d : List Int} (hsl : d.length = l.length) (n : Nat) (os : Array Obj) :
    Le σ (σ.renew b id l.length (σ.cap b)) w (grow (putRow (Value.int .i64) (Sort.ahead w n) b 0 d.toArray) os) ∧
    Inv B0 S0 (grow (putRow (Value.int .i64) (Sort.ahead w n) b 0 d.toArray) os) (updH H id (.row { k := 1, es := d.map fun n => [.v (.int .i64 n)], ty := ty, lo := lo })) (σ.renew b id l.length (σ.cap b)) ∧
    Below B0 w (grow (putRow (Value.int .i64) (Sort.ahead w n) b 0 d.toArray) os) := by
  have hH := rowAt_eq h
  have hR := hi.row id _ hH
  obtain ⟨a1, a2, a3, a4, arr, a5, a6⟩ := hR.cur b hcur
  have hlt := (hi.own_lt b id a1).2
  have hB := (hi.own_lt b id a1).1
  have hoth : ∀ k, k < w.heap.size → k ≠ b → (grow (putRow (Value.int .i64) (Sort.ahead w n) b 0 d.toArray) os).heap[k]? = w.heap[k]? := by
    intro k hk hne
    simp only [grow, putRow, mapBlock, Sort.ahead]
    rw [Array.getElem?_append_left (by simpa using hk), Array.getElem?_modify, if_neg (fun e => hne e.symm)]
  have hsame : (grow (putRow (Value.int .i64) (Sort.ahead w n) b 0 d.toArray) os).heap[b]? = some (.cells (putCells (Value.int .i64) 0 d.toArray arr) ty (0, 0)) := by
    simp only [grow, putRow, mapBlock, Sort.ahead]
    rw [Array.getElem?_append_left (by simpa using hlt), Array.getElem?_modify, if_pos rfl, a5]
    rfl
  have hsize : w.heap.size ≤ (grow (putRow (Value.int .i64) (Sort.ahead w n) b 0 d.toArray) os).heap.size := by simp [grow, putRow, mapBlock, Sort.ahead]
  have hk := hi.renew (r' := { k := 1, es := d.map fun n => [.v (.int .i64 n)], ty := ty, lo := lo }) (w' := grow (putRow (Value.int .i64) (Sort.ahead w n) b 0 d.toArray) os) hH rfl rfl rfl (.inl hcur) hsame hsize
    (fun k hk _ hne => hoth k hk hne) (.inr ⟨by simp [hsl], rfl, hcur, rfl⟩) (by simpa [hsl] using a3) a4 (by simpa [putCells] using a6)
    (fun e he => by obtain ⟨x, _, rfl⟩ := List.mem_map.1 he; exact ⟨rfl, fun c hc => by simp at hc; subst hc; rfl⟩)
    (fun i hi' => by
      have hi2 : i < d.length := by simpa using hi'
      have hi3 : i < arr.size := by
        have e1 : arr.size = σ.cap b := by simpa using a6
        have e2 : l.length ≤ σ.cap b := by simpa using a3
        omega
      simp only [List.getElem_map, RepL, and_true]
      refine ⟨.int .i64 d[i], ?_, rfl⟩
      simp only [putCells, Array.getElem?_mapIdx, Nat.mul_one, Nat.add_zero]
      rw [Array.getElem?_eq_getElem hi3]
      simp only [Option.map_some, Option.some.injEq]
      rw [if_pos ⟨Nat.zero_le _, by simpa using hi2⟩, Nat.sub_zero, arr_get d i hi2])
  rw [show ({ k := 1, es := d.map fun n => [.v (.int .i64 n)], ty := ty, lo := lo } : Row).es.length = l.length by simp [hsl]] at hk
  exact ⟨hk.1, hk.2, rfl, rfl, rfl, hsize, fun k hk => hoth k (by omega) (by omega)⟩
end
theorem refs_arg {H : Nat → Option AO} {w : World} {B0 : Nat} {S0 : Fr} {σ : Sg} (hi : Inv B0 S0 w H σ) {l : List Int} (hl : l ≠ []) {id lo : Nat} {ty : TypeId} (h : rowAt H id = some { k := 1, es := l.map fun n => [.v (.int .i64 n)], ty := ty, lo := lo })
    {vals : Array Value} (hs : vals.size = 1) (hr : RepL σ w [.ref id 0 l.length] (fun i => vals[i]?)) : ∃ b, σ.cur id = some b ∧ vals = #[.slice (some ⟨b, 0, none⟩) l.length (σ.cap b)] ∧ b < w.heap.size := by
  have hR := hi.row id _ (rowAt_eq h)
  simp only [RepL] at hr
  obtain ⟨⟨u, hu, hru⟩, _⟩ := hr
  simp only [Rep] at hru
  obtain ⟨hal, A, cap, rfl, h1, h2, h3, h4⟩ := hru
  have hpos : l.length ≠ 0 := fun e => hl (List.eq_nil_of_length_eq_zero e)
  obtain ⟨b, hcur, rfl, rfl⟩ := (h4 trivial (by rw [hR.len]; simp)).resolve_left (fun hh => hpos hh.2.1)
  refine ⟨b, hcur, ?_, (hi.own_lt b id (hR.cur b hcur).1).2⟩
  apply Array.ext
  · simpa using hs
  · intro i hi1 hi2
    have : i = 0 := by simp at hi2; omega
    subst this
    rw [Array.getElem?_eq_getElem hi1] at hu
    injection hu
theorem OKm.sorts {C : Cx} {f : FuncId} (hent : Enters C.P f) (hc : SortC C.P f) {l : List Int} (hl : l ≠ []) (hmax : l.length < 4611686018427387904) {id : Nat} {H : Nat → Option AO} {nx lo : Nat} {ty : TypeId}
    (h : rowAt H id = some { k := 1, es := l.map fun n => [.v (.int .i64 n)], ty := ty, lo := lo }) :
    OKm C f [.ref id 0 l.length] H nx (fun v H' nx' => v = .tup [] ∧ H' = updH H id (.row { k := 1, es := (l.mergeSort fun x y => decide (x ≤ y)).map fun n => [.v (.int .i64 n)], ty := ty, lo := lo }) ∧ nx' = nx) := by
  refine ⟨hent, fun S0 w0 w σ vals hE hi hnx hb hs hr => ?_⟩
  obtain ⟨b, hcur, rfl, hlt⟩ := refs_arg hi hl h (by simpa using hs) hr
  refine (hc b 0 (σ.cap b) l w (hi.holdsI h hcur) hlt hmax).mono ?_
  rintro e w' ⟨rfl, n, os, rfl⟩
  have hsl : (l.mergeSort fun x y => decide (x ≤ y)).length = l.length := List.length_mergeSort _
  obtain ⟨hle, hinv, hbel⟩ := hi.putInts h hcur hsl n os
  exact ⟨_, .tup [], _, _, nx, rfl, ⟨rfl, rfl, rfl⟩, hb.trans hbel, hinv, updH_nx hnx (by rw [rowAt_eq h]; simp), hle, by simp [Rep, RepL]⟩
theorem OKm.compacts {C : Cx} {f : FuncId} (hent : Enters C.P f) (hc : CompactC C.P f) {l : List Int} (hl : l ≠ []) (hmax : l.length ≤ 9223372036854775807) {id : Nat} {H : Nat → Option AO} {nx lo : Nat} {ty : TypeId}
    (h : rowAt H id = some { k := 1, es := l.map fun n => [.v (.int .i64 n)], ty := ty, lo := lo }) :
    OKm C f [.ref id 0 l.length] H nx (fun v H' nx' => v = .lst ((Lib.compact l).map fun n => [.v (.int .i64 n)]) ∧ (∀ j, j ≠ id → H' j = H j) ∧ nx' = nx) := by
  refine ⟨hent, fun S0 w0 w σ vals hE hi hnx hb hs hr => ?_⟩
  obtain ⟨b, hcur, rfl, hlt⟩ := refs_arg hi hl h (by simpa using hs) hr
  obtain ⟨a1, a2, a3, a4, arr, a5, a6⟩ := (hi.row id _ (rowAt_eq h)).cur b hcur
  have hcap : l.length ≤ σ.cap b := by simpa using a3
  refine (hc b 0 (σ.cap b) l w (hi.holdsI h hcur) hmax hcap).mono ?_
  rintro e w' ⟨rfl, n, rfl⟩
  have hcl := compact_len l
  have hsl : (Lib.compact l ++ List.replicate (l.length - (Lib.compact l).length) 0).length = l.length := by simp; omega
  obtain ⟨hle, hinv, hbel⟩ := hi.putInts h hcur hsl n #[]
  rw [grow_empty] at hle hinv hbel
  have hget : ∀ i (h : i < (Lib.compact l).length), (Lib.compact l ++ List.replicate (l.length - (Lib.compact l).length) 0)[i]? = some (Lib.compact l)[i] := fun i h => by
    rw [List.getElem?_append_left h, List.getElem?_eq_getElem h]
  generalize Lib.compact l ++ List.replicate (l.length - (Lib.compact l).length) 0 = D at hle hinv hbel hsl hget
  have hrow : ∀ i ∈ [id], ∃ r, rowAt (updH H id (.row { k := 1, es := D.map fun n => [.v (.int .i64 n)], ty := ty, lo := lo })) i = some r := by
    intro i hi'
    rw [List.mem_singleton] at hi'; subst hi'
    exact ⟨{ k := 1, es := D.map fun n => [.v (.int .i64 n)], ty := ty, lo := lo }, by simp [rowAt, updH]⟩
  have hinv2 := hinv.frz hrow
  have hle2 := hle.trans (hinv.le_frz [id])
  refine ⟨_, .lst _, _, _, nx, rfl, ⟨rfl, fun j hj => ?_, rfl⟩, hb.trans hbel, hinv2, fun i hi' => ?_, hle2, ?_⟩
  · simp [Pg.frz, hj, updH]
  · have hne : i ≠ id := fun e => by subst e; have := hnx i hi'; rw [rowAt_eq h] at this; cases this
    simp [Pg.frz, hne, updH, hnx i hi']
  · simp only [Rep]
    refine ⟨some ⟨b, 0, none⟩, σ.cap b, 1, by simp, by simp; omega, a4, fun e he => ?_, fun _ => ⟨b, 0, rfl, .inr ⟨id, by simp, ?_⟩, ?_⟩⟩
    · obtain ⟨x, _, rfl⟩ := List.mem_map.1 he; exact ⟨rfl, fun c hc => by simp at hc; subst hc; rfl⟩
    · simp [Sg.renew]
    · rw [repLL_iff]
      intro i hi'
      have hi2 : i < (Lib.compact l).length := by simpa using hi'
      have hi3 : i < D.length := by omega
      have hR2 := hinv.row id { k := 1, es := D.map fun n => [.v (.int .i64 n)], ty := ty, lo := lo } (by simp [updH])
      have hcon := hR2.con b (by simp [Sg.renew]) i (by simpa using hi3)
      simp only [List.getElem_map, RepL] at hcon ⊢
      obtain ⟨⟨u, hu, hru⟩, _⟩ := hcon
      refine ⟨⟨u, ?_, ?_⟩, trivial⟩
      · rw [← hu]; simp
      · simp only [Rep] at hru ⊢
        have := hget i hi2
        rw [List.getElem?_eq_getElem hi3] at this
        injection this with this
        rw [hru, this]
end Go.Pg

namespace Go.Proofs
open Go.Shelf
def Try.lays189_ren : Go.Shelf.Ren := ⟨fun | 189 => 99 | 125 => 118 | 257 => 117 | 128 => 137 | 129 => 138 | 294 => 128 | 295 => 129 | 296 => 130 | 297 => 131 | 298 => 132 | 299 => 133 | 216 => 134 | 300 => 135 | 301 => 136 | 328 => 139 | 329 => 140 | 330 => 141 | 331 => 142 | 332 => 143 | 215 => 144 | 343 => 145 | n => n, fun | 28 => 41 | 3 => 3 | 46 => 164 | 0 => 0 | 51 => 182 | 53 => 184 | 4 => 4 | 183 => 174 | 182 => 173 | 131 => 179 | 5 => 5 | 9 => 9 | 218 => 185 | 222 => 189 | 228 => 191 | 229 => 114 | n => n, fun | n => n⟩
theorem Try.lays189 : Go.Proofs.Lays.n189 Try.prog Try.lays189_ren := {
  mixed := by kernel_rfl
  f125 := Try.func118.trans (congrArg some (by kernel_rfl))
  f128 := Try.func137.trans (congrArg some (by kernel_rfl))
  f129 := Try.func138.trans (congrArg some (by kernel_rfl))
  f189 := Try.func99.trans (congrArg some (by kernel_rfl))
  f215 := Try.func144.trans (congrArg some (by kernel_rfl))
  f216 := Try.func134.trans (congrArg some (by kernel_rfl))
  f257 := Try.func117.trans (congrArg some (by kernel_rfl))
  f294 := Try.func128.trans (congrArg some (by kernel_rfl))
  f295 := Try.func129.trans (congrArg some (by kernel_rfl))
  f296 := Try.func130.trans (congrArg some (by kernel_rfl))
  f297 := Try.func131.trans (congrArg some (by kernel_rfl))
  f298 := Try.func132.trans (congrArg some (by kernel_rfl))
  f299 := Try.func133.trans (congrArg some (by kernel_rfl))
  f300 := Try.func135.trans (congrArg some (by kernel_rfl))
  f301 := Try.func136.trans (congrArg some (by kernel_rfl))
  f328 := Try.func139.trans (congrArg some (by kernel_rfl))
  f329 := Try.func140.trans (congrArg some (by kernel_rfl))
  f330 := Try.func141.trans (congrArg some (by kernel_rfl))
  f331 := Try.func142.trans (congrArg some (by kernel_rfl))
  f332 := Try.func143.trans (congrArg some (by kernel_rfl))
  f343 := Try.func145.trans (congrArg some (by kernel_rfl))
  t0 := Try.underlying0
  a0 := Try.isAgg0
  z0 := Try.sizeOf0
  v0 := Try.zeroValue0
  t3 := Try.underlying3
  a3 := Try.isAgg3
  z3 := Try.sizeOf3
  v3 := Try.zeroValue3
  t4 := Try.underlying4
  a4 := Try.isAgg4
  z4 := Try.sizeOf4
  v4 := Try.zeroValue4
  t5 := Try.underlying5
  a5 := Try.isAgg5
  z5 := Try.sizeOf5
  v5 := Try.zeroValue5
  t9 := Try.underlying9
  a9 := Try.isAgg9
  z9 := Try.sizeOf9
  v9 := Try.zeroValue9
  t28 := Try.underlying41
  a28 := Try.isAgg41
  z28 := Try.sizeOf41
  v28 := Try.zeroValue41
  t46 := Try.underlying164
  a46 := Try.isAgg164
  z46 := Try.sizeOf164
  v46 := Try.zeroValue164
  t51 := Try.underlying182
  a51 := Try.isAgg182
  z51 := Try.sizeOf182
  v51 := Try.zeroValue182
  t53 := Try.underlying184
  a53 := Try.isAgg184
  z53 := Try.sizeOf184
  v53 := Try.zeroValue184
  t131 := Try.underlying179
  a131 := Try.isAgg179
  z131 := Try.sizeOf179
  v131 := Try.zeroValue179
  t182 := Try.underlying173
  a182 := Try.isAgg173
  z182 := Try.sizeOf173
  v182 := Try.zeroValue173
  t183 := Try.underlying174
  a183 := Try.isAgg174
  z183 := Try.sizeOf174
  v183 := Try.zeroValue174
  t218 := Try.underlying185
  a218 := Try.isAgg185
  z218 := Try.sizeOf185
  v218 := Try.zeroValue185
  t222 := Try.underlying189
  a222 := Try.isAgg189
  z222 := Try.sizeOf189
  v222 := Try.zeroValue189
  t228 := Try.underlying191
  a228 := Try.isAgg191
  z228 := Try.sizeOf191
  v228 := Try.zeroValue191
  t229 := Try.underlying114
  a229 := Try.isAgg114
  z229 := Try.sizeOf114
  v229 := Try.zeroValue114 }
open Go.Sort Go.RowKit in
theorem Try.slices_Sort_int (blk off cap : Nat) (zs : List Int) (w : World) (hH : Holds (Value.int .i64) w blk off zs.toArray) (hblk : blk < w.heap.size) (hsz : zs.length < 4611686018427387904) :
    Calls Try.prog 99 #[.slice (some ⟨blk, off, none⟩) zs.length cap] w fun e w' =>
      e = .returned (.tuple #[]) ∧ ∃ n os, w' = grow (putRow (Value.int .i64) (Sort.ahead w n) blk off (zs.mergeSort fun x y => decide (x ≤ y)).toArray) os := Any.slices_Sort_int Try.lays189 blk off cap zs w hH hblk hsz
def Try.lays112_ren : Go.Shelf.Ren := ⟨fun | 112 => 89 | n => n, fun | 28 => 41 | 3 => 3 | 4 => 4 | 0 => 0 | n => n, fun | n => n⟩
theorem Try.lays112 : Go.Proofs.Lays.n112 Try.prog Try.lays112_ren := {
  mixed := by kernel_rfl
  f112 := Try.func89.trans (congrArg some (by kernel_rfl))
  t0 := Try.underlying0
  a0 := Try.isAgg0
  z0 := Try.sizeOf0
  v0 := Try.zeroValue0
  t3 := Try.underlying3
  a3 := Try.isAgg3
  z3 := Try.sizeOf3
  v3 := Try.zeroValue3
  t4 := Try.underlying4
  a4 := Try.isAgg4
  z4 := Try.sizeOf4
  v4 := Try.zeroValue4
  t28 := Try.underlying41
  a28 := Try.isAgg41
  z28 := Try.sizeOf41
  v28 := Try.zeroValue41 }
open Go.RowKit Go.Lib Go.Sort in
open Go.RowKit Go.Lib Go.Sort in
theorem Try.slices_Reverse_int (blk off cap : Nat) (zs : List Int) (w : World) (hH : Holds (Value.int .i64) w blk off zs.toArray) (hsz : zs.length ≤ 9223372036854775807) :
    Calls Try.prog 89 #[.slice (some ⟨blk, off, none⟩) zs.length cap] w fun e w' => e = .returned (.tuple #[]) ∧ ∃ n, w' = putRow (Value.int .i64) (Sort.ahead w n) blk off zs.reverse.toArray := Any.slices_Reverse_int Try.lays112 blk off cap zs w hH hsz
open Go.RowKit Go.Lib Go.Sort in
def Try.laysNm220_ren : Go.Shelf.Ren := ⟨fun | 20 => 120 | n => n, fun | 22 => 41 | 3 => 3 | 4 => 4 | 0 => 0 | n => n, fun | n => n⟩
theorem Try.laysNm220 : Go.Proofs.Lays2.n20 Try.prog Try.laysNm220_ren := {
  mixed := by kernel_rfl
  f20 := Try.func120.trans (congrArg some (by kernel_rfl))
  t0 := Try.underlying0
  a0 := Try.isAgg0
  z0 := Try.sizeOf0
  v0 := Try.zeroValue0
  t3 := Try.underlying3
  a3 := Try.isAgg3
  z3 := Try.sizeOf3
  v3 := Try.zeroValue3
  t4 := Try.underlying4
  a4 := Try.isAgg4
  z4 := Try.sizeOf4
  v4 := Try.zeroValue4
  t22 := Try.underlying41
  a22 := Try.isAgg41
  z22 := Try.sizeOf41
  v22 := Try.zeroValue41
  i3 := by kernel_rfl }
open Go.RowKit Go.Lib Go.Sort in
open Go.RowKit Go.Lib Go.Sort in
theorem Try.slices_Compact_int (blk off cap : Nat) (zs : List Int) (w : World) (hH : Holds (Value.int .i64) w blk off zs.toArray) (hsz : zs.length ≤ 9223372036854775807) (hcap : zs.length ≤ cap) :
    Calls Try.prog 120 #[.slice (some ⟨blk, off, none⟩) zs.length cap] w fun e w' => e = .returned (.slice (some ⟨blk, off, none⟩) (Lib.compact zs).length cap) ∧ ∃ q, w' = putRow (Value.int .i64) (Sort.ahead w q) blk off (Lib.compact zs ++ List.replicate (zs.length - (Lib.compact zs).length) 0).toArray := Any.slices_Compact_int Try.laysNm220 blk off cap zs w hH hsz hcap
open Go.RowKit Go.Lib Go.Sort in
open Go.RowKit Go.Sort in
theorem Try.slices_Sort_int_none (p : Option Addr) (cap : Nat) (w : World) :
    Calls Try.prog 99 #[.slice p 0 cap] w fun e w' => e = .returned (.tuple #[]) ∧ w' = w := Any.slices_Sort_int_none Try.lays189 p cap w
end Go.Proofs

namespace Go.Proofs.Ks
open Go Go.Pg Go.Proofs
def markP (r : Rec) (more : List Int) (k : Nat) : List Int := [r.s.zero.lo, r.s.zero.hi + 1, r.s.fin.lo, r.s.fin.hi + 1] ++ (more ++ (r.strikes.take k).flatMap fun x => [x.pos.lo, x.pos.hi + 1])
theorem markP_succ {r : Rec} {more : List Int} {k : Nat} {x : Strike} {rest : List Strike} (h : r.strikes.drop k = x :: rest) : markP r more (k + 1) = markP r more k ++ [x.pos.lo, x.pos.hi + 1] := by
  unfold markP
  rw [take_snoc h, List.flatMap_append]
  simp
theorem markP_len {r : Rec} {more : List Int} : ∀ {k : Nat}, k ≤ r.strikes.length → (markP r more k).length = 4 + more.length + 2 * k := by
  intro k hk
  unfold markP
  have : ∀ l : List Strike, (l.flatMap fun x => [x.pos.lo, x.pos.hi + 1]).length = 2 * l.length := by
    intro l
    induction l with
    | nil => rfl
    | cons y l ih => rw [List.flatMap_cons, List.length_append, ih]; simp only [List.length_cons, List.length_nil]; omega
  rw [List.length_append, List.length_append, this, List.length_take, Nat.min_eq_left hk]
  simp only [List.length_cons, List.length_nil]; omega
theorem markP_all (r : Rec) (more : List Int) : markP r more r.strikes.length = markL r more := by
  unfold markP markL
  rw [List.take_length]
theorem marked0_ok (r : Rec) (more : List Int) (hv : r.V) (hm : more.length ≤ 8) (hs : SortC cx.P 99) (hc : CompactC cx.P 120) : OKv cx 112 [.agg (eRec r), lInt more] (lInt (marksR r more)) := by
  obtain ⟨z1, z2, z3⟩ := hv.z
  obtain ⟨f1, f2, f3⟩ := hv.f
  have hns := hv.nstrikes
  have hl0 := markP_len (r := r) (more := more) (Nat.zero_le _)
  refine OKat.of_body (rs := [4]) Try.func112 rfl (by decide +kernel) rfl (by simp [Try.ntmps112]) ?_
  simp only [Try.ntmps112]
  repeat' first
    | apply AW.seq | apply AW.region | apply AW.ret | apply AW.block | apply AW.skip | apply AW.exit | apply AW.scope | apply AW.label | apply AWL.nil
    | ((first | (apply W.step cx_ok; decide) | apply W.store cx_ok | apply AW.cond); (simp (disch := (first | omega | (simp only [zE, zF, zD, zC, zA, zB, markP_len]; omega))) only [push_cast, simprocAttr, takeM, dropM, zK, zA, zB, zN, zQ, zR, zO, zP, zT, zS, zU, leT, zH, pureL, pureA, natNe, zI, zG, TyD.isAgg, zJ, isEmpty_map, zE, zD, zC, zV, zM] <;> rfl); all_goals try ((with_reducible intro hI); try first | (cases hI; done) | (simp only [INTS, zL] at hI; try first | (exfalso; omega) | (have hT : True := hI; clear hT hI))))
    | (apply W.append cx_ok; decide; rfl; rfl; rfl; decide; (iterate 3 (simp (disch := (first | omega | (simp only [zE, zF, zD, zC, zA, zB, markP_len]; omega))) only [push_cast, simprocAttr, takeM, dropM, zK, zA, zB, zN, zQ, zR, zO, zP, zT, zS, zU, leT, zH, pureL, pureA, natNe, zI, zG, TyD.isAgg, zJ, isEmpty_map, zE, zD, zC, zV, zM] <;> rfl)); (first | (focus (simp; done)) | (intro c hc; obtain ⟨x, _, rfl⟩ := List.mem_map.1 hc; rfl)); ((first | rfl | simp (disch := omega) only [push_cast])); ((try dsimp only); (try simp only [zF, zE, zD, zC, zA, zB, markP_len]); omega); ((try dsimp only); (try simp only [zF, zE, zD, zC, zA, zB, markP_len]); omega))
    | ((first | apply W.ret1 | apply W.end1); (iterate 2 (try (simp (disch := (first | omega | (simp only [zE, zF, zD, zC, zA, zB, markP_len]; omega))) only [push_cast, simprocAttr, takeM, dropM, zK, zA, zB, zN, zQ, zR, zO, zP, zT, zS, zU, leT, zH, pureL, pureA, natNe, zI, zG, TyD.isAgg, zJ, isEmpty_map, zE, zD, zC, zV, zM] <;> rfl))))

  refine AW.loop (fun n s => ∃ (k lw : Nat) (rest : List Strike), n = rest.length ∧ (r.strikes.drop k = rest) ∧ (lw ≤ 4 + more.length + 2 * k) ∧ (k ≤ r.strikes.length) ∧ 3 ≤ s.nx ∧ s.tm 2 = .ptr 0 0 0 1 ∧ s.tm 6 = .ref 2 0 (4 + more.length + 2 * k) ∧ s.tm 29 = lStrike r.strikes ∧ s.tm 30 = ai r.strikes.length ∧ s.tm 31 = ai k ∧ Pg.rowAt s.H 2 = some { k := 1, es := (markP r more k).map eInt, ty := 3, lo := lw }) (r.strikes.length) ⟨0, (if more.isEmpty = true then 0 else 4 + more.length), r.strikes, rfl, rfl, (by split <;> omega), (Nat.zero_le _), ?_, ?_, ?_, ?_, ?_, ?_, ?_⟩ ?_
  iterate 7 (first | (simp (disch := omega) only [push_cast, simprocAttr, natNe, zI, zG, TyD.isAgg, zJ, isEmpty_map, zE, zD, zC, zV, zM, markP, List.take_zero, List.flatMap_nil, zZ, zY, zX, zW, yB, yA] <;> first | rfl | omega) | omega)
  rintro n s ⟨k, lw, rest, hn, hp0, hp1, hp2, hnl, hS⟩
  have hl := markP_len (r := r) (more := more) hp2
  rcases rest with _ | ⟨x, rest⟩
  rotate_left
  · obtain ⟨hk, hg, hd', hl', hm', hx⟩ := drop_cons hp0 eStrike []
    have hsx := markP_succ (more := more) hp0
    obtain ⟨y1, y2, y3, y4⟩ := hv.strikes x hm'
    repeat' first
      | apply AW.seq | apply AW.region | apply AW.ret | apply AW.block | apply AW.skip | apply AW.exit | apply AW.scope | apply AW.label | apply AWL.nil
      | ((first | (apply W.step cx_ok; decide) | apply W.store cx_ok | apply AW.cond); (simp (disch := (first | omega | (simp only [zE, zF, zD, zC, zA, zB, hl]; omega))) only [push_cast, simprocAttr, takeM, dropM, zK, zA, zB, zN, zQ, zR, zO, zP, zT, zS, zU, leT, zH, pureL, pureA, natNe, zI, zG, TyD.isAgg, zJ, isEmpty_map, zE, zD, zC, zV, zM, hS, hk, hg, hx, hl] <;> rfl); all_goals try ((with_reducible intro hI); try first | (cases hI; done) | (simp only [INTS, zL] at hI; try first | (exfalso; omega) | (have hT : True := hI; clear hT hI))))
      | (apply W.append cx_ok; decide; rfl; rfl; rfl; decide; (iterate 3 (simp (disch := (first | omega | (simp only [zE, zF, zD, zC, zA, zB, hl]; omega))) only [push_cast, simprocAttr, takeM, dropM, zK, zA, zB, zN, zQ, zR, zO, zP, zT, zS, zU, leT, zH, pureL, pureA, natNe, zI, zG, TyD.isAgg, zJ, isEmpty_map, zE, zD, zC, zV, zM, hS, hk, hg, hx, hl] <;> rfl)); (first | (focus (simp; done)) | (intro c hc; obtain ⟨x, _, rfl⟩ := List.mem_map.1 hc; rfl)); ((first | rfl | simp (disch := omega) only [push_cast])); ((try dsimp only); (try simp only [zF, zE, zD, zC, zA, zB, hl]); omega); ((try dsimp only); (try simp only [zF, zE, zD, zC, zA, zB, hl]); omega))
      | ((first | apply W.ret1 | apply W.end1); (iterate 2 (try (simp (disch := (first | omega | (simp only [zE, zF, zD, zC, zA, zB, hl]; omega))) only [push_cast, simprocAttr, takeM, dropM, zK, zA, zB, zN, zQ, zR, zO, zP, zT, zS, zU, leT, zH, pureL, pureA, natNe, zI, zG, TyD.isAgg, zJ, isEmpty_map, zE, zD, zC, zV, zM, hS, hk, hg, hx, hl] <;> rfl))))

    all_goals (refine ⟨rest.length, ?_, k + 1, (4 + more.length + 2 * k + 2), rest, rfl, hd', (by omega), (by omega), ?_, ?_, ?_, ?_, ?_, ?_, ?_⟩; ((simp only [List.length_cons] at *; omega)); all_goals first | (simp (disch := omega) only [push_cast, simprocAttr, hS, natNe, zI, zG, TyD.isAgg, zJ, isEmpty_map, zE, zD, zC, zV, zM, hk, hg, hx, hl, hsx, zY, zX, zW, yB, yA] <;> first | rfl | omega) | omega)
  have hk := drop_nil hp0
  have hkS : k = r.strikes.length := by have := List.drop_eq_nil_iff.1 hp0; omega
  subst hkS
  rw [markP_all] at hS hl
  have hne : markL r more ≠ [] := by unfold markL; simp
  have hmL : (markL r more).length < 4611686018427387904 := by omega
  have hcut := markL_cut r more
  have hsl : ((markL r more).mergeSort fun x y => decide (x ≤ y)).length = (markL r more).length := List.length_mergeSort _
  obtain ⟨SL, hSL⟩ : ∃ z, (markL r more).mergeSort (fun x y => decide (x ≤ y)) = z := ⟨_, rfl⟩
  rw [hSL] at hcut hsl
  have hneS : SL ≠ [] := fun e => by rw [e] at hsl; rw [hl] at hsl; simp only [List.length_nil] at hsl; omega
  have hs1 : ∀ {args : List AV} {H : Nat → Option AO} {nx : Nat}, args = [.ref 2 0 (4 + (more.length + 2 * r.strikes.length))] → Pg.rowAt H 2 = some { k := 1, es := (markL r more).map eInt, ty := 3, lo := lw } →
      OKm cx 99 args H nx (fun v H' nx' => v = .tup [] ∧ H' = updH H 2 (.row { k := 1, es := SL.map eInt, ty := 3, lo := lw }) ∧ nx' = nx) := by
    rintro _ H nx rfl h
    rw [show 4 + (more.length + 2 * r.strikes.length) = (markL r more).length by omega, ← hSL]
    exact OKm.sorts ⟨_, Try.func99, by decide +kernel, rfl⟩ hs hne hmL h
  have hc1 : ∀ {args : List AV} {H : Nat → Option AO} {nx : Nat}, args = [.ref 2 0 (4 + (more.length + 2 * r.strikes.length))] → Pg.rowAt H 2 = some { k := 1, es := SL.map eInt, ty := 3, lo := lw } →
      OKm cx 120 args H nx (fun v H' nx' => v = lInt (marksR r more) ∧ (∀ j, j ≠ 2 → H' j = H j) ∧ nx' = nx) := by
    rintro _ H nx rfl h
    rw [show 4 + (more.length + 2 * r.strikes.length) = SL.length by omega, ← hcut]
    exact OKm.compacts ⟨_, Try.func120, by decide +kernel, rfl⟩ hc hneS (by omega) h
  repeat' first
    | apply AW.seq | apply AW.region | apply AW.ret | apply AW.block | apply AW.skip | apply AW.exit | apply AW.scope | apply AW.label | apply AWL.nil
    | ((first | (apply W.step cx_ok; decide) | apply W.store cx_ok | apply AW.cond); (simp (disch := (first | omega | (simp only [zE, zF, zD, zC, zA, zB, hl]; omega))) only [push_cast, simprocAttr, takeM, dropM, zK, zA, zB, zN, zQ, zR, zO, zP, zT, zS, zU, leT, zH, pureL, pureA, natNe, zI, zG, TyD.isAgg, zJ, isEmpty_map, zE, zD, zC, zV, zM, hS, hk] <;> rfl); all_goals try ((with_reducible intro hI); try first | (cases hI; done) | (simp only [INTS, zL] at hI; try first | (exfalso; omega) | (have hT : True := hI; clear hT hI))))
    | (apply W.append cx_ok; decide; rfl; rfl; rfl; decide; (iterate 3 (simp (disch := (first | omega | (simp only [zE, zF, zD, zC, zA, zB, hl]; omega))) only [push_cast, simprocAttr, takeM, dropM, zK, zA, zB, zN, zQ, zR, zO, zP, zT, zS, zU, leT, zH, pureL, pureA, natNe, zI, zG, TyD.isAgg, zJ, isEmpty_map, zE, zD, zC, zV, zM, hS, hk] <;> rfl)); (first | (focus (simp; done)) | (intro c hc; obtain ⟨x, _, rfl⟩ := List.mem_map.1 hc; rfl)); ((first | rfl | simp (disch := omega) only [push_cast])); ((try dsimp only); (try simp only [zF, zE, zD, zC, zA, zB, hl]); omega); ((try dsimp only); (try simp only [zF, zE, zD, zC, zA, zB, hl]); omega))
    | ((first | apply W.ret1 | apply W.end1); (iterate 2 (try (simp (disch := (first | omega | (simp only [zE, zF, zD, zC, zA, zB, hl]; omega))) only [push_cast, simprocAttr, takeM, dropM, zK, zA, zB, zN, zQ, zR, zO, zP, zT, zS, zU, leT, zH, pureL, pureA, natNe, zI, zG, TyD.isAgg, zJ, isEmpty_map, zE, zD, zC, zV, zM, hS, hk] <;> rfl))))

  refine W.callm cx_ok (by decide) (f := 99) (caps := []) (by simp (disch := omega) only [push_cast, simprocAttr, natNe, zI, zG, TyD.isAgg, zJ, isEmpty_map, zE, zD, zC, zV, zM, hS, hk] <;> rfl) (hs1 (by simp (disch := omega) only [push_cast, simprocAttr, natNe, zI, zG, TyD.isAgg, zJ, isEmpty_map, zE, zD, zC, zV, zM, hS, hk] <;> rfl) (by simp (disch := omega) only [push_cast, simprocAttr, natNe, zI, zG, TyD.isAgg, zJ, isEmpty_map, zE, zD, zC, zV, zM, hS, hk] <;> rfl)) ?_
  rintro _ _ _ ⟨rfl, rfl, rfl⟩
  repeat' first
    | apply AW.seq | apply AW.region | apply AW.ret | apply AW.block | apply AW.skip | apply AW.exit | apply AW.scope | apply AW.label | apply AWL.nil
    | ((first | (apply W.step cx_ok; decide) | apply W.store cx_ok | apply AW.cond); (simp (disch := (first | omega | (simp only [zE, zF, zD, zC, zA, zB, hl]; omega))) only [push_cast, simprocAttr, takeM, dropM, zK, zA, zB, zN, zQ, zR, zO, zP, zT, zS, zU, leT, zH, pureL, pureA, natNe, zI, zG, TyD.isAgg, zJ, isEmpty_map, zE, zD, zC, zV, zM, hS, hk] <;> rfl); all_goals try ((with_reducible intro hI); try first | (cases hI; done) | (simp only [INTS, zL] at hI; try first | (exfalso; omega) | (have hT : True := hI; clear hT hI))))
    | (apply W.append cx_ok; decide; rfl; rfl; rfl; decide; (iterate 3 (simp (disch := (first | omega | (simp only [zE, zF, zD, zC, zA, zB, hl]; omega))) only [push_cast, simprocAttr, takeM, dropM, zK, zA, zB, zN, zQ, zR, zO, zP, zT, zS, zU, leT, zH, pureL, pureA, natNe, zI, zG, TyD.isAgg, zJ, isEmpty_map, zE, zD, zC, zV, zM, hS, hk] <;> rfl)); (first | (focus (simp; done)) | (intro c hc; obtain ⟨x, _, rfl⟩ := List.mem_map.1 hc; rfl)); ((first | rfl | simp (disch := omega) only [push_cast])); ((try dsimp only); (try simp only [zF, zE, zD, zC, zA, zB, hl]); omega); ((try dsimp only); (try simp only [zF, zE, zD, zC, zA, zB, hl]); omega))
    | ((first | apply W.ret1 | apply W.end1); (iterate 2 (try (simp (disch := (first | omega | (simp only [zE, zF, zD, zC, zA, zB, hl]; omega))) only [push_cast, simprocAttr, takeM, dropM, zK, zA, zB, zN, zQ, zR, zO, zP, zT, zS, zU, leT, zH, pureL, pureA, natNe, zI, zG, TyD.isAgg, zJ, isEmpty_map, zE, zD, zC, zV, zM, hS, hk] <;> rfl))))

  refine W.callm cx_ok (by decide) (f := 120) (caps := []) (by simp (disch := omega) only [push_cast, simprocAttr, natNe, zI, zG, TyD.isAgg, zJ, isEmpty_map, zE, zD, zC, zV, zM, hS, hk] <;> rfl) (hc1 (by simp (disch := omega) only [push_cast, simprocAttr, natNe, zI, zG, TyD.isAgg, zJ, isEmpty_map, zE, zD, zC, zV, zM, hS, hk] <;> rfl) (by simp (disch := omega) only [push_cast, simprocAttr, natNe, zI, zG, TyD.isAgg, zJ, isEmpty_map, zE, zD, zC, zV, zM, hS, hk] <;> rfl)) ?_
  rintro _ H3 _ ⟨rfl, hH3, rfl⟩
  repeat' first
    | apply AW.seq | apply AW.region | apply AW.ret | apply AW.block | apply AW.skip | apply AW.exit | apply AW.scope | apply AW.label | apply AWL.nil
    | ((first | (apply W.step cx_ok; decide) | apply W.store cx_ok | apply AW.cond); (simp (disch := (first | omega | (simp only [zE, zF, zD, zC, zA, zB, hl]; omega))) only [push_cast, simprocAttr, takeM, dropM, zK, zA, zB, zN, zQ, zR, zO, zP, zT, zS, zU, leT, zH, pureL, pureA, natNe, zI, zG, TyD.isAgg, zJ, isEmpty_map, zE, zD, zC, zV, zM, hS, hk] <;> rfl); all_goals try ((with_reducible intro hI); try first | (cases hI; done) | (simp only [INTS, zL] at hI; try first | (exfalso; omega) | (have hT : True := hI; clear hT hI))))
    | (apply W.append cx_ok; decide; rfl; rfl; rfl; decide; (iterate 3 (simp (disch := (first | omega | (simp only [zE, zF, zD, zC, zA, zB, hl]; omega))) only [push_cast, simprocAttr, takeM, dropM, zK, zA, zB, zN, zQ, zR, zO, zP, zT, zS, zU, leT, zH, pureL, pureA, natNe, zI, zG, TyD.isAgg, zJ, isEmpty_map, zE, zD, zC, zV, zM, hS, hk] <;> rfl)); (first | (focus (simp; done)) | (intro c hc; obtain ⟨x, _, rfl⟩ := List.mem_map.1 hc; rfl)); ((first | rfl | simp (disch := omega) only [push_cast])); ((try dsimp only); (try simp only [zF, zE, zD, zC, zA, zB, hl]); omega); ((try dsimp only); (try simp only [zF, zE, zD, zC, zA, zB, hl]); omega))
    | ((first | apply W.ret1 | apply W.end1); (iterate 2 (try (simp (disch := (first | omega | (simp only [zE, zF, zD, zC, zA, zB, hl]; omega))) only [push_cast, simprocAttr, takeM, dropM, zK, zA, zB, zN, zQ, zR, zO, zP, zT, zS, zU, leT, zH, pureL, pureA, natNe, zI, zG, TyD.isAgg, zJ, isEmpty_map, zE, zD, zC, zV, zM, hS, hk] <;> rfl))))

  all_goals (show _ = _; rfl)
theorem sort99 : SortC cx.P 99 := fun blk off cap zs w h1 h2 h3 => Try.slices_Sort_int blk off cap zs w h1 h2 h3
theorem compact120 : CompactC cx.P 120 := fun blk off cap zs w h1 h2 h3 => Try.slices_Compact_int blk off cap zs w h1 h2 h3
theorem marked_ok (r : Rec) (more : List Int) (hv : r.V) (hm : more.length ≤ 8) : OKv cx 112 [.agg (eRec r), lInt more] (lInt (marksR r more)) := marked0_ok r more hv hm sort99 compact120
end Go.Proofs.Ks

namespace Go.Proofs.Ks
open Go Go.Pg Go.Proofs
theorem rnd_ok (l : Nat) : (cx.rnd l).OK := ⟨cx_ok.T, cx_ok.eqT, cx_ok.E⟩
theorem rnd_mixed (l : Nat) : (cx.rnd l).P.follows .mixedOrders = true := cx_mixed
theorem new_strike (k : Nat) : (⟨3, (k : Int)⟩ : Node) ∉ nd0 ++ ndS k := by
  intro h
  rcases List.mem_append.1 h with h | h
  · simp [nd0] at h
  · unfold ndS at h
    obtain ⟨i, hi, e⟩ := List.mem_map.1 h
    rw [List.mem_range] at hi
    injection e with _ e2
    omega
theorem new_mark {l : List Int} (hs : l.Pairwise (· < ·)) {k S : Nat} {x : Int} {rest : List Int} (h : l.drop k = x :: rest) : (⟨4, x⟩ : Node) ∉ nd0 ++ ndS S ++ ndM (l.take k) := by
  intro hm
  rcases List.mem_append.1 hm with hm | hm
  · rcases List.mem_append.1 hm with hm | hm
    · simp [nd0] at hm
    · unfold ndS at hm
      obtain ⟨i, hi, e⟩ := List.mem_map.1 hm
      injection e with e1 _
      exact absurd e1 (by decide)
  · unfold ndM at hm
    obtain ⟨y, hy, e⟩ := List.mem_map.1 hm
    injection e with _ e2
    subst e2
    rw [← List.take_append_drop k l, h, List.pairwise_append] at hs
    have := hs.2.2 y hy y (by simp)
    omega
structure Bd (H0 : Nat → Option AO) (nx : Nat) (r : Rec) (N : List Node) (H : Nat → Option AO) : Prop where
  sys : SysB H (nx + 3) (nx + 2) (nx + 4) (nx + 1) N (.ref (nx + 5) 0 0)
  rc : Pg.rowAt H nx = some { k := 14, es := [eRec r], ty := 30 }
  lk : Pg.rowAt H (nx + 5) = some { k := 3, es := [], ty := 66 }
  fr : ∀ j, j < nx → H j = H0 j
theorem addB {H0 H : Nat → Option AO} {nx m : Nat} {r : Rec} {N : List Node} (n : Node) {args : List AV} (ha : args = [.agg (eNode n), .ptr (nx + 3) 0 0 1]) (hB : Bd H0 nx r N H) (hnew : n ∉ N) (hl : N.length ≤ 1000000) (hm : nx + 6 ≤ m) :
    OKm cx 111 args H m (fun _ H' m' => Bd H0 nx r (N ++ [n]) H' ∧ m ≤ m') := by
  subst ha
  refine OKm.mono (add_m N n hl hnew hB.sys ⟨by omega, by omega, by omega⟩ ⟨by omega, by omega, by omega⟩ (by omega) (by omega) (by omega) (by omega)) ?_
  rintro v H' m' ⟨hS, hle, hf⟩
  exact ⟨⟨hS, (rowAt_eqH (hf nx (by omega) (by omega) (by omega) (by omega))).trans hB.rc, (rowAt_eqH (hf (nx + 5) (by omega) (by omega) (by omega) (by omega))).trans hB.lk, fun j hj => (hf j (by omega) (by omega) (by omega) (by omega)).trans (hB.fr j hj)⟩, hle⟩
structure SysM (H : Nat → Option AO) (g nd m lk : Nat) (N : List Node) (L : List Lk) : Prop where
  g : Pg.rowAt H g = some { k := 3, es := [[.ref nd 0 N.length, .map m, .ref lk 0 L.length]], ty := 135 }
  nd : Pg.rowAt H nd = some { k := 2, es := N.map eNode, ty := 144, lo := N.length }
  m : H m = some (.mp (.map .pair) 0 (ixM N))
  lk : ∃ lw, lw ≤ L.length ∧ Pg.rowAt H lk = some { k := 3, es := L.map eLink, ty := 66, lo := lw }
structure JB (H0 : Nat → Option AO) (nx e : Nat) (r : Rec) (PL : List Int) (N : List Node) (l D : Nat) (L : Loop) (tm : Nat → AV) (p : List Lk) (H : Nat → Option AO) : Prop where
  sy : SysY H (e + 1) e (e + 2) (nx + 2) (nx + 1) r PL N
  sm : SysM H (nx + 2) (nx + 4) (nx + 1) (nx + 5) N p
  c : Pg.rowAt H (nx + 3) = some { k := 1, es := [[.ptr (nx + 2) 0 0 1]], ty := 122 }
  fr : ∀ j, j < nx → H j = H0 j
  dfr : H (e + 3) = some (.mp (.dfr D (some [])) 0 [])
  rcd : H (e + 4) = some (.mp (.loop l L) 0 (keepT 66 tm))
theorem JB.frame {H0 : Nat → Option AO} {nx e₀ : Nat} {r : Rec} {PL : List Int} {N : List Node} {l D : Nat} {L : Loop} {tm : Nat → AV} (he : nx + 6 ≤ e₀) (p : List Lk) (H : Nat → Option AO) (id : Nat) (o : AO) (h : JB H0 nx e₀ r PL N l D L tm p H) (hid : e₀ + 5 ≤ id) : JB H0 nx e₀ r PL N l D L tm p (updH H id o) := by
  have e : ∀ j, j < e₀ + 5 → updH H id o j = H j := fun j hj => by simp only [updH]; rw [if_neg (by omega)]
  have eR : ∀ j, j < e₀ + 5 → Pg.rowAt (updH H id o) j = Pg.rowAt H j := fun j hj => rowAt_eqH (e j hj)
  obtain ⟨⟨a1, a2, a3, a4, a5⟩, ⟨b1, b2, b3, lw, b4, b5⟩, h3, h4, h5, h6⟩ := h
  refine ⟨⟨(eR _ (by omega)).trans a1, (eR _ (by omega)).trans a2, (eR _ (by omega)).trans a3, ?_, (e _ (by omega)).trans a5⟩, ⟨(eR _ (by omega)).trans b1, (eR _ (by omega)).trans b2, (e _ (by omega)).trans b3, lw, b4, (eR _ (by omega)).trans b5⟩, (eR _ (by omega)).trans h3, fun j hj => (e _ (by omega)).trans (h4 j hj), (e _ (by omega)).trans h5, (e _ (by omega)).trans h6⟩
  obtain ⟨x, y, hxy⟩ := a4
  exact ⟨x, y, (eR _ (by omega)).trans hxy⟩
def dropS1 : Nat → Code → Code
  | 0, .seq _ b => b
  | n + 1, .seq _ b => dropS1 n b
  | _, c => c
theorem awk_gen {C : Cx} {N : Nat} {y z : Code} {Q : Exit → St → Prop} {s : St} (G : St → Prop) (hG : G s) (h : ∀ t, G t → AWk C N y z Q t) : AWk C N y z Q s := h s hG
noncomputable def tail87 : Code := dropS1 9 (Try.f87.body.getD .skip)
end Go.Proofs.Ks

namespace Go.Proofs.Ks
open Go Go.Pg Go.Proofs
theorem build_a {H0 : Nat → Option AO} {nx : Nat} (r : Rec) (more : List Int) (hv : r.V) (hml : more.length ≤ 8) (hmb : ∀ a ∈ more, 0 ≤ a ∧ a ≤ 43200) {Q : AV → (Nat → Option AO) → Nat → Prop}
    (hK : ∀ (D dn : Nat) (s : St), s.tm 5 = .ptr (nx + 3) 0 0 1 → SysM s.H (nx + 2) (nx + 4) (nx + 1) (nx + 5) (nodesR r more) (linksR r more) → Pg.rowAt s.H (nx + 3) = some { k := 1, es := [[.ptr (nx + 2) 0 0 1]], ty := 122 } → (∀ j, j < nx → s.H j = H0 j) → s.H dn = some (.mp (.dfr D (some [])) 0 []) → nx + 6 ≤ dn → nx + 6 ≤ s.nx →
      AW cx 66 tail87 (fun e s' => s'.H dn = some (.mp (.dfr D (some [])) 0 []) ∧ endXt cx [.tmp 4] Q e s') s) :
    OKm cx 87 [.agg (eRec r), lInt more] H0 nx Q := by
  have hns := hv.nstrikes
  obtain ⟨_, _, hnl⟩ := linksR_ok hv hml hmb
  have hndl := nodesR_len r more
  have hso := marksR_sorted r more
  have hmk := marked_ok r more hv hml
  obtain ⟨PL, hPL⟩ : ∃ z, marksR r more = z := ⟨_, rfl⟩
  rw [hPL] at hso hmk hndl
  have hpl : PL.length ≤ 100 := by omega
  have hal : ∀ {args : List AV} {H : Nat → Option AO} {m : Nat}, args = [.ptr (nx + 2) 0 0 1, .agg (eRec r), lInt PL] → OKm cx 113 args H m _ := fun {args H m} h => h ▸ all_m r PL (g := nx + 2) (H := H) (nx := m)
  refine OKm.of_bodyXt cx_ok (rs := [.tmp 4]) Try.func87 rfl (by decide +kernel) rfl (by simp [Try.ntmps87]) ?_
  simp only [Try.ntmps87]
  refine AWx.seqS ?_
  repeat' first
    | apply AW.seq | apply AW.region | apply AW.ret | apply AW.block | apply AW.skip | apply AW.exit | apply AW.scope | apply AW.label | apply AWL.nil | apply D.nil
    | refine W.draw cx_mixed (by decide +kernel) ?_
    | ((first | (apply W.step cx_ok; decide) | (apply D.step cx_ok; decide; decide) | apply W.store cx_ok | (apply W.gS; rfl; decide) | (apply D.gS; rfl; decide; decide) | apply AW.cond | apply W.mapUpdate cx_ok); (simp (disch := omega) only [push_cast, simprocAttr, natNe, zI, zG, TyD.isAgg, zJ] <;> rfl); all_goals try ((with_reducible intro hI); try first | (cases hI; done) | (simp only [INTS, zL] at hI; try first | (exfalso; omega) | (have hT : True := hI; clear hT hI))))
    | ((first | (apply W.gU; rfl; decide) | (apply D.gU; rfl; decide; decide)); (simp (disch := omega) only [push_cast, simprocAttr, natNe, zI, zG, TyD.isAgg, zJ] <;> rfl))
    | (refine W.makeMap cx_ok (by simp only [push_cast, simprocAttr] <;> rfl) (by decide) ?_)

  refine Pg.Stop.mk ?_
  refine AWx.seqS ?_
  repeat' first
    | apply AW.seq | apply AW.region | apply AW.ret | apply AW.block | apply AW.skip | apply AW.exit | apply AW.scope | apply AW.label | apply AWL.nil | apply D.nil
    | refine W.draw cx_mixed (by decide +kernel) ?_
    | ((first | (apply W.step cx_ok; decide) | (apply D.step cx_ok; decide; decide) | apply W.store cx_ok | (apply W.gS; rfl; decide) | (apply D.gS; rfl; decide; decide) | apply AW.cond | apply W.mapUpdate cx_ok); (simp (disch := omega) only [push_cast, simprocAttr, natNe, zI, zG, TyD.isAgg, zJ] <;> rfl); all_goals try ((with_reducible intro hI); try first | (cases hI; done) | (simp only [INTS, zL] at hI; try first | (exfalso; omega) | (have hT : True := hI; clear hT hI))))
    | ((first | (apply W.gU; rfl; decide) | (apply D.gU; rfl; decide; decide)); (simp (disch := omega) only [push_cast, simprocAttr, natNe, zI, zG, TyD.isAgg, zJ] <;> rfl))
    | (refine W.makeMap cx_ok (by simp only [push_cast, simprocAttr] <;> rfl) (by decide) ?_)

  refine Pg.Stop.mk ?_
  refine AWx.seqS ?_
  refine AW.adoptCell (nx + 2) 0 0 2 144 (r := { k := 3, es := [[.v (.slice none 0 0), .map (nx + 1), .v (.slice none 0 0)]], ty := 135 }) (by simp (disch := omega) only [push_cast, simprocAttr, natNe, zI, zG, TyD.isAgg, zJ] <;> rfl) rfl ?_
  refine AW.adoptCell (nx + 2) 0 2 3 66 (r := { k := 3, es := [[.ref (nx + 4) 0 0, .map (nx + 1), .v (.slice none 0 0)]], ty := 135 }) (by simp (disch := omega) only [push_cast, simprocAttr, natNe, zI, zG, TyD.isAgg, zJ] <;> rfl) rfl ?_
  repeat' first
    | apply AW.seq | apply AW.region | apply AW.ret | apply AW.block | apply AW.skip | apply AW.exit | apply AW.scope | apply AW.label | apply AWL.nil | apply D.nil
    | refine W.draw cx_mixed (by decide +kernel) ?_
    | ((first | (apply W.step cx_ok; decide) | (apply D.step cx_ok; decide; decide) | apply W.store cx_ok | (apply W.gS; rfl; decide) | (apply D.gS; rfl; decide; decide) | apply AW.cond | apply W.mapUpdate cx_ok); (simp (disch := omega) only [push_cast, simprocAttr, natNe, zI, zG, TyD.isAgg, zJ] <;> rfl); all_goals try ((with_reducible intro hI); try first | (cases hI; done) | (simp only [INTS, zL] at hI; try first | (exfalso; omega) | (have hT : True := hI; clear hT hI))))
    | ((first | (apply W.gU; rfl; decide) | (apply D.gU; rfl; decide; decide)); (simp (disch := omega) only [push_cast, simprocAttr, natNe, zI, zG, TyD.isAgg, zJ] <;> rfl))
    | (refine W.makeMap cx_ok (by simp only [push_cast, simprocAttr] <;> rfl) (by decide) ?_)

  refine Pg.Stop.mk ?_
  refine AWx.seqS ?_
  repeat' first
    | apply AW.seq | apply AW.region | apply AW.ret | apply AW.block | apply AW.skip | apply AW.exit | apply AW.scope | apply AW.label | apply AWL.nil | apply D.nil
    | refine W.draw cx_mixed (by decide +kernel) ?_
    | ((first | (apply W.step cx_ok; decide) | (apply D.step cx_ok; decide; decide) | apply W.store cx_ok | (apply W.gS; rfl; decide) | (apply D.gS; rfl; decide; decide) | apply AW.cond | apply W.mapUpdate cx_ok); (simp (disch := omega) only [push_cast, simprocAttr, natNe, zI, zG, TyD.isAgg, zJ] <;> rfl); all_goals try ((with_reducible intro hI); try first | (cases hI; done) | (simp only [INTS, zL] at hI; try first | (exfalso; omega) | (have hT : True := hI; clear hT hI))))
    | ((first | (apply W.gU; rfl; decide) | (apply D.gU; rfl; decide; decide)); (simp (disch := omega) only [push_cast, simprocAttr, natNe, zI, zG, TyD.isAgg, zJ] <;> rfl))
    | (refine W.makeMap cx_ok (by simp only [push_cast, simprocAttr] <;> rfl) (by decide) ?_)

  refine W.callm cx_ok (by decide) (f := 111) (caps := [.ptr (nx + 3) 0 0 1]) (by simp (disch := omega) only [push_cast, simprocAttr, natNe, zI, zG, TyD.isAgg, zJ] <;> rfl) (addB (H0 := H0) (r := r) (N := []) ⟨0, 0⟩ (by simp (disch := omega) only [push_cast, simprocAttr, natNe, zI, zG, TyD.isAgg, zJ] <;> rfl) (by refine ⟨⟨?_, ?_, ?_, ?_⟩, ?_, ?_, fun j hj => ?_⟩ <;> (simp (disch := omega) only [push_cast, simprocAttr, natNe, zI, zG, TyD.isAgg, zJ] <;> rfl)) (by simp) (by decide) (by dsimp only [St.put, nxA]; omega)) ?_
  rintro _ H1 nx1 ⟨hB1, hn1⟩
  replace hn1 : nx + 6 ≤ nx1 := hn1
  repeat' first
    | apply AW.seq | apply AW.region | apply AW.ret | apply AW.block | apply AW.skip | apply AW.exit | apply AW.scope | apply AW.label | apply AWL.nil | apply D.nil
    | refine W.draw cx_mixed (by decide +kernel) ?_
    | ((first | (apply W.step cx_ok; decide) | (apply D.step cx_ok; decide; decide) | apply W.store cx_ok | (apply W.gS; rfl; decide) | (apply D.gS; rfl; decide; decide) | apply AW.cond | apply W.mapUpdate cx_ok); (simp (disch := omega) only [push_cast, simprocAttr, natNe, zI, zG, TyD.isAgg, zJ] <;> rfl); all_goals try ((with_reducible intro hI); try first | (cases hI; done) | (simp only [INTS, zL] at hI; try first | (exfalso; omega) | (have hT : True := hI; clear hT hI))))
    | ((first | (apply W.gU; rfl; decide) | (apply D.gU; rfl; decide; decide)); (simp (disch := omega) only [push_cast, simprocAttr, natNe, zI, zG, TyD.isAgg, zJ] <;> rfl))
    | (refine W.makeMap cx_ok (by simp only [push_cast, simprocAttr] <;> rfl) (by decide) ?_)

  refine Pg.Stop.mk ?_
  refine AWx.seqS ?_
  repeat' first
    | apply AW.seq | apply AW.region | apply AW.ret | apply AW.block | apply AW.skip | apply AW.exit | apply AW.scope | apply AW.label | apply AWL.nil | apply D.nil
    | refine W.draw cx_mixed (by decide +kernel) ?_
    | ((first | (apply W.step cx_ok; decide) | (apply D.step cx_ok; decide; decide) | apply W.store cx_ok | (apply W.gS; rfl; decide) | (apply D.gS; rfl; decide; decide) | apply AW.cond | apply W.mapUpdate cx_ok); (simp (disch := omega) only [push_cast, simprocAttr, natNe, zI, zG, TyD.isAgg, zJ] <;> rfl); all_goals try ((with_reducible intro hI); try first | (cases hI; done) | (simp only [INTS, zL] at hI; try first | (exfalso; omega) | (have hT : True := hI; clear hT hI))))
    | ((first | (apply W.gU; rfl; decide) | (apply D.gU; rfl; decide; decide)); (simp (disch := omega) only [push_cast, simprocAttr, natNe, zI, zG, TyD.isAgg, zJ] <;> rfl))
    | (refine W.makeMap cx_ok (by simp only [push_cast, simprocAttr] <;> rfl) (by decide) ?_)

  refine W.callm cx_ok (by decide) (f := 111) (caps := [.ptr (nx + 3) 0 0 1]) (by simp (disch := omega) only [push_cast, simprocAttr, natNe, zI, zG, TyD.isAgg, zJ] <;> rfl) (addB ⟨1, 0⟩ (by simp (disch := omega) only [push_cast, simprocAttr, natNe, zI, zG, TyD.isAgg, zJ] <;> rfl) hB1 (by decide) (by decide) (by dsimp only [St.put, nxA]; omega)) ?_
  rintro _ H2 nx2 ⟨hB2, hn2⟩
  replace hn2 : nx1 ≤ nx2 := hn2
  repeat' first
    | apply AW.seq | apply AW.region | apply AW.ret | apply AW.block | apply AW.skip | apply AW.exit | apply AW.scope | apply AW.label | apply AWL.nil | apply D.nil
    | refine W.draw cx_mixed (by decide +kernel) ?_
    | ((first | (apply W.step cx_ok; decide) | (apply D.step cx_ok; decide; decide) | apply W.store cx_ok | (apply W.gS; rfl; decide) | (apply D.gS; rfl; decide; decide) | apply AW.cond | apply W.mapUpdate cx_ok); (simp (disch := omega) only [push_cast, simprocAttr, natNe, zI, zG, TyD.isAgg, zJ] <;> rfl); all_goals try ((with_reducible intro hI); try first | (cases hI; done) | (simp only [INTS, zL] at hI; try first | (exfalso; omega) | (have hT : True := hI; clear hT hI))))
    | ((first | (apply W.gU; rfl; decide) | (apply D.gU; rfl; decide; decide)); (simp (disch := omega) only [push_cast, simprocAttr, natNe, zI, zG, TyD.isAgg, zJ] <;> rfl))
    | (refine W.makeMap cx_ok (by simp only [push_cast, simprocAttr] <;> rfl) (by decide) ?_)

  refine Pg.Stop.mk ?_
  refine AWx.seqS ?_
  repeat' first
    | apply AW.seq | apply AW.region | apply AW.ret | apply AW.block | apply AW.skip | apply AW.exit | apply AW.scope | apply AW.label | apply AWL.nil | apply D.nil
    | refine W.draw cx_mixed (by decide +kernel) ?_
    | ((first | (apply W.step cx_ok; decide) | (apply D.step cx_ok; decide; decide) | apply W.store cx_ok | (apply W.gS; rfl; decide) | (apply D.gS; rfl; decide; decide) | apply AW.cond | apply W.mapUpdate cx_ok); (simp (disch := omega) only [push_cast, simprocAttr, natNe, zI, zG, TyD.isAgg, zJ] <;> rfl); all_goals try ((with_reducible intro hI); try first | (cases hI; done) | (simp only [INTS, zL] at hI; try first | (exfalso; omega) | (have hT : True := hI; clear hT hI))))
    | ((first | (apply W.gU; rfl; decide) | (apply D.gU; rfl; decide; decide)); (simp (disch := omega) only [push_cast, simprocAttr, natNe, zI, zG, TyD.isAgg, zJ] <;> rfl))
    | (refine W.makeMap cx_ok (by simp only [push_cast, simprocAttr] <;> rfl) (by decide) ?_)

  refine W.callm cx_ok (by decide) (f := 111) (caps := [.ptr (nx + 3) 0 0 1]) (by simp (disch := omega) only [push_cast, simprocAttr, natNe, zI, zG, TyD.isAgg, zJ] <;> rfl) (addB ⟨2, 0⟩ (by simp (disch := omega) only [push_cast, simprocAttr, natNe, zI, zG, TyD.isAgg, zJ] <;> rfl) hB2 (by decide) (by decide) (by dsimp only [St.put, nxA]; omega)) ?_
  rintro _ H3 nx3 ⟨hB3, hn3⟩
  replace hn3 : nx2 ≤ nx3 := hn3
  repeat' first
    | apply AW.seq | apply AW.region | apply AW.ret | apply AW.block | apply AW.skip | apply AW.exit | apply AW.scope | apply AW.label | apply AWL.nil | apply D.nil
    | refine W.draw cx_mixed (by decide +kernel) ?_
    | ((first | (apply W.step cx_ok; decide) | (apply D.step cx_ok; decide; decide) | apply W.store cx_ok | (apply W.gS; rfl; decide) | (apply D.gS; rfl; decide; decide) | apply AW.cond | apply W.mapUpdate cx_ok); (simp (disch := omega) only [push_cast, simprocAttr, natNe, zI, zG, TyD.isAgg, zJ] <;> rfl); all_goals try ((with_reducible intro hI); try first | (cases hI; done) | (simp only [INTS, zL] at hI; try first | (exfalso; omega) | (have hT : True := hI; clear hT hI))))
    | ((first | (apply W.gU; rfl; decide) | (apply D.gU; rfl; decide; decide)); (simp (disch := omega) only [push_cast, simprocAttr, natNe, zI, zG, TyD.isAgg, zJ] <;> rfl))
    | (refine W.makeMap cx_ok (by simp only [push_cast, simprocAttr] <;> rfl) (by decide) ?_)

  refine Pg.Stop.mk ?_
  refine AWx.seqS ?_
  replace hB3 : Bd H0 nx r (nd0 ++ ndS 0) H3 := hB3
  have hn3' : nx + 6 ≤ nx3 := by omega
  have hr3 := hB3.rc
  repeat' first
    | apply AW.seq | apply AW.region | apply AW.ret | apply AW.block | apply AW.skip | apply AW.exit | apply AW.scope | apply AW.label | apply AWL.nil | apply D.nil
    | refine W.draw cx_mixed (by decide +kernel) ?_
    | ((first | (apply W.step cx_ok; decide) | (apply D.step cx_ok; decide; decide) | apply W.store cx_ok | (apply W.gS; rfl; decide) | (apply D.gS; rfl; decide; decide) | apply AW.cond | apply W.mapUpdate cx_ok); (simp (disch := omega) only [push_cast, simprocAttr, natNe, zI, zG, TyD.isAgg, zJ, hr3] <;> rfl); all_goals try ((with_reducible intro hI); try first | (cases hI; done) | (simp only [INTS, zL] at hI; try first | (exfalso; omega) | (have hT : True := hI; clear hT hI))))
    | ((first | (apply W.gU; rfl; decide) | (apply D.gU; rfl; decide; decide)); (simp (disch := omega) only [push_cast, simprocAttr, natNe, zI, zG, TyD.isAgg, zJ, hr3] <;> rfl))
    | (refine W.makeMap cx_ok (by simp only [push_cast, simprocAttr] <;> rfl) (by decide) ?_)

  refine AW.loop (fun n s => ∃ (k : Nat), n = r.strikes.length - k ∧ (k ≤ r.strikes.length) ∧ (Bd H0 nx r (nd0 ++ ndS k) s.H) ∧ nx + 6 ≤ s.nx ∧ s.tm 1 = lInt more ∧ s.tm 2 = .ptr nx 0 0 1 ∧ s.tm 5 = .ptr (nx + 3) 0 0 1 ∧ s.tm 6 = .clo 111 [.ptr (nx + 3) 0 0 1] ∧ s.tm 27 = ai r.strikes.length ∧ s.tm 28 = ai k) (r.strikes.length) ⟨0, rfl, (Nat.zero_le _), hB3, ?_, ?_, ?_, ?_, ?_, ?_, ?_⟩ ?_
  iterate 7 (first | (simp (disch := omega) only [push_cast, simprocAttr, natNe, zI, zG, TyD.isAgg, zJ, hr3] <;> first | rfl | omega) | omega)
  rintro n s ⟨k, hn, hp0, hp1, hnl, hS⟩
  have hr := hp1.rc
  by_cases hk : k < r.strikes.length
  · have hkI : (k : Int) < (r.strikes.length : Int) := by omega
    repeat' first
      | apply AW.seq | apply AW.region | apply AW.ret | apply AW.block | apply AW.skip | apply AW.exit | apply AW.scope | apply AW.label | apply AWL.nil | apply D.nil
      | refine W.draw cx_mixed (by decide +kernel) ?_
      | ((first | (apply W.step cx_ok; decide) | (apply D.step cx_ok; decide; decide) | apply W.store cx_ok | (apply W.gS; rfl; decide) | (apply D.gS; rfl; decide; decide) | apply AW.cond | apply W.mapUpdate cx_ok); (simp (disch := omega) only [push_cast, simprocAttr, natNe, zI, zG, TyD.isAgg, zJ, hS, hkI] <;> rfl); all_goals try ((with_reducible intro hI); try first | (cases hI; done) | (simp only [INTS, zL] at hI; try first | (exfalso; omega) | (have hT : True := hI; clear hT hI))))
      | ((first | (apply W.gU; rfl; decide) | (apply D.gU; rfl; decide; decide)); (simp (disch := omega) only [push_cast, simprocAttr, natNe, zI, zG, TyD.isAgg, zJ, hS, hkI] <;> rfl))
      | (refine W.makeMap cx_ok (by simp only [push_cast, simprocAttr] <;> rfl) (by decide) ?_)

    refine W.callm cx_ok (by decide) (f := 111) (caps := [.ptr (nx + 3) 0 0 1]) (by simp (disch := omega) only [push_cast, simprocAttr, natNe, zI, zG, TyD.isAgg, zJ, hS, hkI] <;> rfl) (addB ⟨3, (k : Int)⟩ (by simp (disch := omega) only [push_cast, simprocAttr, natNe, zI, zG, TyD.isAgg, zJ, hS, hkI] <;> rfl) hp1 (new_strike k) (by rw [List.length_append, ndS_len, nd0_len]; omega) (by dsimp only [St.put, nxA]; omega)) ?_
    rintro _ H4 nx4 ⟨hB4, hn4⟩
    replace hn4 : s.nx ≤ nx4 := hn4
    repeat' first
      | apply AW.seq | apply AW.region | apply AW.ret | apply AW.block | apply AW.skip | apply AW.exit | apply AW.scope | apply AW.label | apply AWL.nil | apply D.nil
      | refine W.draw cx_mixed (by decide +kernel) ?_
      | ((first | (apply W.step cx_ok; decide) | (apply D.step cx_ok; decide; decide) | apply W.store cx_ok | (apply W.gS; rfl; decide) | (apply D.gS; rfl; decide; decide) | apply AW.cond | apply W.mapUpdate cx_ok); (simp (disch := omega) only [push_cast, simprocAttr, natNe, zI, zG, TyD.isAgg, zJ, hS, hkI] <;> rfl); all_goals try ((with_reducible intro hI); try first | (cases hI; done) | (simp only [INTS, zL] at hI; try first | (exfalso; omega) | (have hT : True := hI; clear hT hI))))
      | ((first | (apply W.gU; rfl; decide) | (apply D.gU; rfl; decide; decide)); (simp (disch := omega) only [push_cast, simprocAttr, natNe, zI, zG, TyD.isAgg, zJ, hS, hkI] <;> rfl))
      | (refine W.makeMap cx_ok (by simp only [push_cast, simprocAttr] <;> rfl) (by decide) ?_)

    all_goals (refine ⟨r.strikes.length - (k + 1), ?_, k + 1, rfl, (by omega), (by rw [ndS_succ, ← List.append_assoc]; exact hB4), ?_, ?_, ?_, ?_, ?_, ?_, ?_⟩; (omega); all_goals first | (simp (disch := omega) only [push_cast, simprocAttr, hS, natNe, zI, zG, TyD.isAgg, zJ, hkI] <;> first | rfl | omega) | omega)
  have hkI : ¬ (k : Int) < (r.strikes.length : Int) := by omega
  have hkS : k = r.strikes.length := by omega
  rw [hkS] at hp1
  repeat' first
    | apply AW.seq | apply AW.region | apply AW.ret | apply AW.block | apply AW.skip | apply AW.exit | apply AW.scope | apply AW.label | apply AWL.nil | apply D.nil
    | refine W.draw cx_mixed (by decide +kernel) ?_
    | ((first | (apply W.step cx_ok; decide) | (apply D.step cx_ok; decide; decide) | apply W.store cx_ok | (apply W.gS; rfl; decide) | (apply D.gS; rfl; decide; decide) | apply AW.cond | apply W.mapUpdate cx_ok); (simp (disch := omega) only [push_cast, simprocAttr, natNe, zI, zG, TyD.isAgg, zJ, hS, hkI] <;> rfl); all_goals try ((with_reducible intro hI); try first | (cases hI; done) | (simp only [INTS, zL] at hI; try first | (exfalso; omega) | (have hT : True := hI; clear hT hI))))
    | ((first | (apply W.gU; rfl; decide) | (apply D.gU; rfl; decide; decide)); (simp (disch := omega) only [push_cast, simprocAttr, natNe, zI, zG, TyD.isAgg, zJ, hS, hkI] <;> rfl))
    | (refine W.makeMap cx_ok (by simp only [push_cast, simprocAttr] <;> rfl) (by decide) ?_)

  refine Pg.Stop.mk ?_
  refine AWx.seqS ?_
  have hr := hp1.rc
  repeat' first
    | apply AW.seq | apply AW.region | apply AW.ret | apply AW.block | apply AW.skip | apply AW.exit | apply AW.scope | apply AW.label | apply AWL.nil | apply D.nil
    | refine W.draw cx_mixed (by decide +kernel) ?_
    | ((first | (apply W.step cx_ok; decide) | (apply D.step cx_ok; decide; decide) | apply W.store cx_ok | (apply W.gS; rfl; decide) | (apply D.gS; rfl; decide; decide) | apply AW.cond | apply W.mapUpdate cx_ok); (simp (disch := omega) only [push_cast, simprocAttr, natNe, zI, zG, TyD.isAgg, zJ, hS, hr] <;> rfl); all_goals try ((with_reducible intro hI); try first | (cases hI; done) | (simp only [INTS, zL] at hI; try first | (exfalso; omega) | (have hT : True := hI; clear hT hI))))
    | ((first | (apply W.gU; rfl; decide) | (apply D.gU; rfl; decide; decide)); (simp (disch := omega) only [push_cast, simprocAttr, natNe, zI, zG, TyD.isAgg, zJ, hS, hr] <;> rfl))
    | (refine W.makeMap cx_ok (by simp only [push_cast, simprocAttr] <;> rfl) (by decide) ?_)
    | ((first | (apply W.callv cx_ok; decide) | (apply D.callv cx_ok; decide; decide)); (iterate 2 (simp (disch := omega) only [push_cast, simprocAttr, natNe, zI, zG, TyD.isAgg, zJ, hS, hr] <;> rfl)); (with_reducible first | exact hmk); try first | rfl | (simp (disch := omega) only [push_cast, simprocAttr, natNe, zI, zG, TyD.isAgg, zJ, hS, hr] <;> rfl))

  refine Pg.Stop.mk ?_
  refine AWx.seqS ?_
  repeat' first
    | apply AW.seq | apply AW.region | apply AW.ret | apply AW.block | apply AW.skip | apply AW.exit | apply AW.scope | apply AW.label | apply AWL.nil | apply D.nil
    | refine W.draw cx_mixed (by decide +kernel) ?_
    | ((first | (apply W.step cx_ok; decide) | (apply D.step cx_ok; decide; decide) | apply W.store cx_ok | (apply W.gS; rfl; decide) | (apply D.gS; rfl; decide; decide) | apply AW.cond | apply W.mapUpdate cx_ok); (simp (disch := omega) only [push_cast, simprocAttr, natNe, zI, zG, TyD.isAgg, zJ, hS, hr] <;> rfl); all_goals try ((with_reducible intro hI); try first | (cases hI; done) | (simp only [INTS, zL] at hI; try first | (exfalso; omega) | (have hT : True := hI; clear hT hI))))
    | ((first | (apply W.gU; rfl; decide) | (apply D.gU; rfl; decide; decide)); (simp (disch := omega) only [push_cast, simprocAttr, natNe, zI, zG, TyD.isAgg, zJ, hS, hr] <;> rfl))
    | (refine W.makeMap cx_ok (by simp only [push_cast, simprocAttr] <;> rfl) (by decide) ?_)

  refine AW.loop (fun n s => ∃ (k : Nat) (rest : List Int), n = rest.length ∧ (PL.drop k = rest) ∧ (Bd H0 nx r (nd0 ++ ndS r.strikes.length ++ ndM (PL.take k)) s.H) ∧ nx + 6 ≤ s.nx ∧ s.tm 2 = .ptr nx 0 0 1 ∧ s.tm 5 = .ptr (nx + 3) 0 0 1 ∧ s.tm 6 = .clo 111 [.ptr (nx + 3) 0 0 1] ∧ s.tm 8 = lInt PL ∧ s.tm 39 = lInt PL ∧ s.tm 40 = ai PL.length ∧ s.tm 41 = ai k) (PL.length) ⟨0, PL, rfl, rfl, (by rw [List.take_zero, ndM, List.map_nil, List.append_nil]; exact hp1), ?_, ?_, ?_, ?_, ?_, ?_, ?_, ?_⟩ ?_
  iterate 8 (first | (simp (disch := omega) only [push_cast, simprocAttr, natNe, zI, zG, TyD.isAgg, zJ, hS, hr] <;> first | rfl | omega) | omega)
  rintro n1 s1 ⟨k1, rest1, hn1, hp01, hp11, hnl1, hS1⟩
  rcases rest1 with _ | ⟨x, rest1⟩
  rotate_left
  · obtain ⟨hk1, hg1, hd1, hl1, hm1, hx1⟩ := drop_cons hp01 eInt []
    have hnm := new_mark (S := r.strikes.length) hso hp01
    repeat' first
      | apply AW.seq | apply AW.region | apply AW.ret | apply AW.block | apply AW.skip | apply AW.exit | apply AW.scope | apply AW.label | apply AWL.nil | apply D.nil
      | refine W.draw cx_mixed (by decide +kernel) ?_
      | ((first | (apply W.step cx_ok; decide) | (apply D.step cx_ok; decide; decide) | apply W.store cx_ok | (apply W.gS; rfl; decide) | (apply D.gS; rfl; decide; decide) | apply AW.cond | apply W.mapUpdate cx_ok); (simp (disch := omega) only [push_cast, simprocAttr, natNe, zI, zG, TyD.isAgg, zJ, hS1, hk1, hg1, hx1] <;> rfl); all_goals try ((with_reducible intro hI); try first | (cases hI; done) | (simp only [INTS, zL] at hI; try first | (exfalso; omega) | (have hT : True := hI; clear hT hI))))
      | ((first | (apply W.gU; rfl; decide) | (apply D.gU; rfl; decide; decide)); (simp (disch := omega) only [push_cast, simprocAttr, natNe, zI, zG, TyD.isAgg, zJ, hS1, hk1, hg1, hx1] <;> rfl))
      | (refine W.makeMap cx_ok (by simp only [push_cast, simprocAttr] <;> rfl) (by decide) ?_)

    refine W.callm cx_ok (by decide) (f := 111) (caps := [.ptr (nx + 3) 0 0 1]) (by simp (disch := omega) only [push_cast, simprocAttr, natNe, zI, zG, TyD.isAgg, zJ, hS1, hk1, hg1, hx1] <;> rfl) (addB ⟨4, x⟩ (by simp (disch := omega) only [push_cast, simprocAttr, natNe, zI, zG, TyD.isAgg, zJ, hS1, hk1, hg1, hx1] <;> rfl) hp11 hnm (by simp only [List.length_append, ndS_len, nd0_len, ndM, List.length_map, List.length_take]; omega) (by dsimp only [St.put, nxA]; omega)) ?_
    rintro _ H5 nx5 ⟨hB5, hn5⟩
    replace hn5 : s1.nx ≤ nx5 := hn5
    repeat' first
      | apply AW.seq | apply AW.region | apply AW.ret | apply AW.block | apply AW.skip | apply AW.exit | apply AW.scope | apply AW.label | apply AWL.nil | apply D.nil
      | refine W.draw cx_mixed (by decide +kernel) ?_
      | ((first | (apply W.step cx_ok; decide) | (apply D.step cx_ok; decide; decide) | apply W.store cx_ok | (apply W.gS; rfl; decide) | (apply D.gS; rfl; decide; decide) | apply AW.cond | apply W.mapUpdate cx_ok); (simp (disch := omega) only [push_cast, simprocAttr, natNe, zI, zG, TyD.isAgg, zJ, hS1, hk1, hg1, hx1] <;> rfl); all_goals try ((with_reducible intro hI); try first | (cases hI; done) | (simp only [INTS, zL] at hI; try first | (exfalso; omega) | (have hT : True := hI; clear hT hI))))
      | ((first | (apply W.gU; rfl; decide) | (apply D.gU; rfl; decide; decide)); (simp (disch := omega) only [push_cast, simprocAttr, natNe, zI, zG, TyD.isAgg, zJ, hS1, hk1, hg1, hx1] <;> rfl))
      | (refine W.makeMap cx_ok (by simp only [push_cast, simprocAttr] <;> rfl) (by decide) ?_)

    all_goals (refine ⟨rest1.length, ?_, k1 + 1, rest1, rfl, hd1, (by rw [take_snoc hp01, ndM_snoc, ← List.append_assoc]; exact hB5), ?_, ?_, ?_, ?_, ?_, ?_, ?_, ?_⟩; ((simp only [List.length_cons] at *; omega)); all_goals first | (simp (disch := omega) only [push_cast, simprocAttr, hS1, natNe, zI, zG, TyD.isAgg, zJ, hk1, hg1, hx1] <;> first | rfl | omega) | omega)
  have hk1 := drop_nil hp01
  have hN : nd0 ++ ndS r.strikes.length ++ ndM (PL.take k1) = nodesR r more := by rw [List.take_of_length_le (List.drop_eq_nil_iff.1 hp01), ← hPL]; rfl
  rw [hN] at hp11
  have hr1 := hp11.rc
  have hc1 := hp11.sys.c
  repeat' first
    | apply AW.seq | apply AW.region | apply AW.ret | apply AW.block | apply AW.skip | apply AW.exit | apply AW.scope | apply AW.label | apply AWL.nil | apply D.nil
    | refine W.draw cx_mixed (by decide +kernel) ?_
    | ((first | (apply W.step cx_ok; decide) | (apply D.step cx_ok; decide; decide) | apply W.store cx_ok | (apply W.gS; rfl; decide) | (apply D.gS; rfl; decide; decide) | apply AW.cond | apply W.mapUpdate cx_ok); (simp (disch := omega) only [push_cast, simprocAttr, natNe, zI, zG, TyD.isAgg, zJ, hS1, hk1] <;> rfl); all_goals try ((with_reducible intro hI); try first | (cases hI; done) | (simp only [INTS, zL] at hI; try first | (exfalso; omega) | (have hT : True := hI; clear hT hI))))
    | ((first | (apply W.gU; rfl; decide) | (apply D.gU; rfl; decide; decide)); (simp (disch := omega) only [push_cast, simprocAttr, natNe, zI, zG, TyD.isAgg, zJ, hS1, hk1] <;> rfl))
    | (refine W.makeMap cx_ok (by simp only [push_cast, simprocAttr] <;> rfl) (by decide) ?_)

  refine Pg.Stop.mk ?_
  refine AWx.ofk (AWk.seqS ?_)
  repeat' first
    | apply AW.seq | apply AW.region | apply AW.ret | apply AW.block | apply AW.skip | apply AW.exit | apply AW.scope | apply AW.label | apply AWL.nil | apply D.nil
    | refine W.draw cx_mixed (by decide +kernel) ?_
    | ((first | (apply W.step cx_ok; decide) | (apply D.step cx_ok; decide; decide) | apply W.store cx_ok | (apply W.gS; rfl; decide) | (apply D.gS; rfl; decide; decide) | apply AW.cond | apply W.mapUpdate cx_ok); (simp (disch := omega) only [push_cast, simprocAttr, natNe, zI, zG, TyD.isAgg, zJ, hS1, hk1, hr1, hc1] <;> rfl); all_goals try ((with_reducible intro hI); try first | (cases hI; done) | (simp only [INTS, zL] at hI; try first | (exfalso; omega) | (have hT : True := hI; clear hT hI))))
    | ((first | (apply W.gU; rfl; decide) | (apply D.gU; rfl; decide; decide)); (simp (disch := omega) only [push_cast, simprocAttr, natNe, zI, zG, TyD.isAgg, zJ, hS1, hk1, hr1, hc1] <;> rfl))
    | (refine W.makeMap cx_ok (by simp only [push_cast, simprocAttr] <;> rfl) (by decide) ?_)

  refine W.callm cx_ok (by decide) (f := 113) (caps := []) (by simp (disch := omega) only [push_cast, simprocAttr, natNe, zI, zG, TyD.isAgg, zJ, hS1, hk1, hr1, hc1] <;> rfl) (hal (by simp (disch := omega) only [push_cast, simprocAttr, natNe, zI, zG, TyD.isAgg, zJ, hS1, hk1, hr1, hc1] <;> rfl)) ?_
  rintro _ H6 nx6 ⟨rfl, a1, a2, a3, hn6, hf6⟩
  replace hn6 : nx6 = s1.nx + 3 := hn6
  replace a1 : Pg.rowAt H6 s1.nx = _ := a1
  replace a2 : Pg.rowAt H6 (s1.nx + 1) = _ := a2
  replace a3 : Pg.rowAt H6 (s1.nx + 2) = _ := a3
  replace hf6 : ∀ j, j < s1.nx → H6 j = s1.H j := hf6
  repeat' first
    | apply AW.seq | apply AW.region | apply AW.ret | apply AW.block | apply AW.skip | apply AW.exit | apply AW.scope | apply AW.label | apply AWL.nil | apply D.nil
    | refine W.draw cx_mixed (by decide +kernel) ?_
    | ((first | (apply W.step cx_ok; decide) | (apply D.step cx_ok; decide; decide) | apply W.store cx_ok | (apply W.gS; rfl; decide) | (apply D.gS; rfl; decide; decide) | apply AW.cond | apply W.mapUpdate cx_ok); (simp (disch := omega) only [push_cast, simprocAttr, natNe, zI, zG, TyD.isAgg, zJ, hS1, hk1, hr1, hc1] <;> rfl); all_goals try ((with_reducible intro hI); try first | (cases hI; done) | (simp only [INTS, zL] at hI; try first | (exfalso; omega) | (have hT : True := hI; clear hT hI))))
    | ((first | (apply W.gU; rfl; decide) | (apply D.gU; rfl; decide; decide)); (simp (disch := omega) only [push_cast, simprocAttr, natNe, zI, zG, TyD.isAgg, zJ, hS1, hk1, hr1, hc1] <;> rfl))
    | (refine W.makeMap cx_ok (by simp only [push_cast, simprocAttr] <;> rfl) (by decide) ?_)

  refine Pg.Stop.mk ?_
  refine awk_gen (fun t => t.tm 5 = .ptr (nx + 3) 0 0 1 ∧ t.tm 53 = .clo 121 [.ptr (s1.nx + 1) 0 0 1, .ptr s1.nx 0 0 1, .ptr (s1.nx + 2) 0 0 1] ∧ t.nx = s1.nx + 3 ∧ t.H = H6) ⟨?_, ?_, ?_, ?_⟩ ?_
  iterate 2 (simp (disch := omega) only [push_cast, simprocAttr, natNe, zI, zG, TyD.isAgg, zJ, hS1, hk1, hr1, hc1] <;> rfl)
  · exact hn6
  · rfl
  rintro t ⟨ht5, ht53, htnx, htH⟩
  refine AWk.range (f := 121) (caps := [.ptr (s1.nx + 1) 0 0 1, .ptr s1.nx 0 0 1, .ptr (s1.nx + 2) 0 0 1]) ht53 fun Dn l fn => ?_
  rw [htnx, htH]
  refine all1_ok hv hml hmb (l := l) (n0 := s1.nx + 5) (rb := s1.nx + 1) (gb := s1.nx) (pb := s1.nx + 2) (g := nx + 2) (m := nx + 1) (J := JB H0 nx s1.nx r (marksR r more) (nodesR r more) l Dn ?L t.tm) ?hJ (by omega) (by omega) (by omega) (by omega) (by omega) (Nat.le_refl _) ?hJ0 ?post
  case hJ0 =>
    have u : ∀ j, j < s1.nx + 3 → ∀ x y, updH (updH H6 (s1.nx + 3) x) (s1.nx + 3 + 1) y j = H6 j := fun j hj x y => by simp only [updH]; rw [if_neg (by omega), if_neg (by omega)]
    have v : ∀ j, j < s1.nx → ∀ x y, updH (updH H6 (s1.nx + 3) x) (s1.nx + 3 + 1) y j = s1.H j := fun j hj x y => (u j (by omega) x y).trans (hf6 j hj)
    rw [hPL]
    refine ⟨⟨(rowAt_eqH (u (s1.nx + 1) (by omega) _ _)).trans a2, (rowAt_eqH (u s1.nx (by omega) _ _)).trans a1, (rowAt_eqH (u (s1.nx + 2) (by omega) _ _)).trans a3, ⟨_, _, (rowAt_eqH (v (nx + 2) (by omega) _ _)).trans hp11.sys.g⟩, (v (nx + 1) (by omega) _ _).trans hp11.sys.m⟩,
      ⟨(rowAt_eqH (v (nx + 2) (by omega) _ _)).trans hp11.sys.g, (rowAt_eqH (v (nx + 4) (by omega) _ _)).trans hp11.sys.nd, (v (nx + 1) (by omega) _ _).trans hp11.sys.m, 0, Nat.le_refl _, (rowAt_eqH (v (nx + 5) (by omega) _ _)).trans hp11.lk⟩,
      (rowAt_eqH (v (nx + 3) (by omega) _ _)).trans hp11.sys.c, fun j hj => (v j (by omega) _ _).trans (hp11.fr j hj), ?_, ?_⟩
    · show updH (updH H6 (s1.nx + 3) _) (s1.nx + 3 + 1) _ (s1.nx + 3) = _
      unfold updH; rw [if_neg (by omega), if_pos rfl]
    · exact (if_pos rfl : (if (s1.nx + 4) = s1.nx + 3 + 1 then _ else _) = _)
  case hJ =>
    refine ⟨fun p G id o hp hid => JB.frame (by omega) p G id o hp hid, fun p G hp => hp.sy, fun p G mm x hJ hm hlen => ?_⟩
    obtain ⟨⟨y1, y2, y3, ⟨ga, gl, y4⟩, y5⟩, ⟨g1, g2, g3, lw, g4, g5⟩, hc, hfr0, hdf, hrc⟩ := hJ
    refine YOK.of_body (id := s1.nx + 4) (args := [.agg (eLink x)]) hrc rfl rfl (by intro p hp; have : p = 54 := (by simpa using hp); subst this; decide) ?_
    show AW (cx.rnd l) 66 _ _ { tm := upd (cutT 66 t.tm) 54 (.agg (eLink x)), H := G, nx := mm }
    have hc5 : cutT 66 t.tm 5 = .ptr (nx + 3) 0 0 1 := by simp [cutT, ht5]
    refine AW.fresh fun hfrG0 => ?_
    have hfrG : ∀ id, mm ≤ id → G id = none := hfrG0
    repeat' first
      | apply AW.seq | apply AW.region | apply AW.ret | apply AW.block | apply AW.skip | apply AW.exit | apply AW.scope | apply AW.label | apply AWL.nil | apply D.nil
      | refine W.draw (rnd_mixed l) (by decide +kernel) ?_
      | ((first | (apply W.step (rnd_ok l); decide) | (apply D.step (rnd_ok l); decide; decide) | apply W.store (rnd_ok l) | (apply W.gS; rfl; decide) | (apply D.gS; rfl; decide; decide) | apply AW.cond | apply W.mapUpdate (rnd_ok l)); (simp (disch := (first | omega | (simp only [zE, zF, zD, zC, zA, zB, rwI_len, rowT_len, spanT_len, bothL_len]; omega))) only [push_cast, simprocAttr, takeM, dropM, zK, zA, zB, zN, zQ, zR, zO, zP, zT, zS, zU, leT, zH, pureL, pureA, natNe, zI, zG, TyD.isAgg, zJ, Cx.rnd, hc5, hc, g1, g5, hrc, hdf, hfrG, zV, isEmpty_map, zE, zD, zC, zY, zX, zW] <;> rfl); all_goals try ((with_reducible intro hI); try first | (cases hI; done) | (simp only [INTS, zL] at hI; try first | (exfalso; omega) | (have hT : True := hI; clear hT hI))))
      | ((first | (apply W.gU; rfl; decide) | (apply D.gU; rfl; decide; decide)); (simp (disch := (first | omega | (simp only [zE, zF, zD, zC, zA, zB, rwI_len, rowT_len, spanT_len, bothL_len]; omega))) only [push_cast, simprocAttr, takeM, dropM, zK, zA, zB, zN, zQ, zR, zO, zP, zT, zS, zU, leT, zH, pureL, pureA, natNe, zI, zG, TyD.isAgg, zJ, Cx.rnd, hc5, hc, g1, g5, hrc, hdf, hfrG, zV, isEmpty_map, zE, zD, zC, zY, zX, zW] <;> rfl))
      | (refine W.makeMap (rnd_ok l) (by simp only [push_cast, simprocAttr] <;> rfl) (by decide) ?_)
      | (apply W.append (rnd_ok l); decide; rfl; rfl; rfl; decide; (iterate 3 (simp (disch := (first | omega | (simp only [zE, zF, zD, zC, zA, zB, rwI_len, rowT_len, spanT_len, bothL_len]; omega))) only [push_cast, simprocAttr, takeM, dropM, zK, zA, zB, zN, zQ, zR, zO, zP, zT, zS, zU, leT, zH, pureL, pureA, natNe, zI, zG, TyD.isAgg, zJ, Cx.rnd, hc5, hc, g1, g5, hrc, hdf, hfrG, zV, isEmpty_map, zE, zD, zC, zY, zX, zW] <;> rfl)); (first | (focus (simp; done)) | (intro c hc; obtain ⟨x, _, rfl⟩ := List.mem_map.1 hc; rfl)); ((first | rfl | simp (disch := omega) only [push_cast])); ((try dsimp only); (try simp only [zF, zE, zD, zC, zA, zB, rwI_len, rowT_len, spanT_len, bothL_len]); omega); ((try dsimp only); (try simp only [zF, zE, zD, zC, zA, zB, rwI_len, rowT_len, spanT_len, bothL_len]); omega))

    refine ⟨?_, ?_⟩
    · (simp (disch := omega) only [push_cast, simprocAttr, natNe, zI, zG, TyD.isAgg, zJ, Cx.rnd, hc5, hc, g1, g5, hrc, hdf, hfrG, zV, isEmpty_map, zE, zD, zC, zY, zX, zW])
    repeat' first
      | apply AW.seq | apply AW.region | apply AW.ret | apply AW.block | apply AW.skip | apply AW.exit | apply AW.scope | apply AW.label | apply AWL.nil | apply D.nil
      | refine AW.draw (id := 19) (rnd_mixed l) [7, 10] [0, 8, 9] [nx + 5, nx + 2] 11 (by decide +kernel) ?_
      | refine W.draw (rnd_mixed l) (by decide +kernel) ?_
      | ((first | (apply W.step (rnd_ok l); decide) | (apply D.step (rnd_ok l); decide; decide) | apply W.store (rnd_ok l) | (apply W.gS; rfl; decide) | (apply D.gS; rfl; decide; decide) | apply AW.cond | apply W.mapUpdate (rnd_ok l)); (simp (disch := (first | omega | (simp only [zE, zF, zD, zC, zA, zB, rwI_len, rowT_len, spanT_len, bothL_len]; omega))) only [push_cast, simprocAttr, takeM, dropM, zK, zA, zB, zN, zQ, zR, zO, zP, zT, zS, zU, leT, zH, pureL, pureA, natNe, zI, zG, TyD.isAgg, zJ, Cx.rnd, hc5, hc, g1, g5, hrc, hdf, hfrG, zV, isEmpty_map, zE, zD, zC, zY, zX, zW] <;> rfl); all_goals try ((with_reducible intro hI); try first | (cases hI; done) | (simp only [INTS, zL] at hI; try first | (exfalso; omega) | (have hT : True := hI; clear hT hI))))
      | ((first | (apply W.gU; rfl; decide) | (apply D.gU; rfl; decide; decide) | (apply D.store (rnd_ok l); decide) | (apply D.stept (rnd_ok l); decide; decide) | (apply D.mapUpdate (rnd_ok l); decide) | (apply D.stepm (rnd_ok l); decide; decide)); (simp (disch := (first | omega | (simp only [zE, zF, zD, zC, zA, zB, rwI_len, rowT_len, spanT_len, bothL_len]; omega))) only [push_cast, simprocAttr, takeM, dropM, zK, zA, zB, zN, zQ, zR, zO, zP, zT, zS, zU, leT, zH, pureL, pureA, natNe, zI, zG, TyD.isAgg, zJ, Cx.rnd, hc5, hc, g1, g5, hrc, hdf, hfrG, zV, isEmpty_map, zE, zD, zC, zY, zX, zW] <;> rfl); try first | exact .inl rfl | exact .inr (by simp))
      | (refine W.makeMap (rnd_ok l) (by simp only [push_cast, simprocAttr] <;> rfl) (by decide) ?_)
      | ((apply D.alloc (rnd_ok l); decide; decide); (simp (disch := (first | omega | (simp only [zE, zF, zD, zC, zA, zB, rwI_len, rowT_len, spanT_len, bothL_len]; omega))) only [push_cast, simprocAttr, takeM, dropM, zK, zA, zB, zN, zQ, zR, zO, zP, zT, zS, zU, leT, zH, pureL, pureA, natNe, zI, zG, TyD.isAgg, zJ, Cx.rnd, hc5, hc, g1, g5, hrc, hdf, hfrG, zV, isEmpty_map, zE, zD, zC, zY, zX, zW] <;> rfl); (simp (disch := (first | omega | (simp only [zE, zF, zD, zC, zA, zB, rwI_len, rowT_len, spanT_len, bothL_len]; omega))) only [push_cast, simprocAttr, takeM, dropM, zK, zA, zB, zN, zQ, zR, zO, zP, zT, zS, zU, leT, zH, pureL, pureA, natNe, zI, zG, TyD.isAgg, zJ, Cx.rnd, hc5, hc, g1, g5, hrc, hdf, hfrG, zV, isEmpty_map, zE, zD, zC, zY, zX, zW, updH_at, zJ]); (simp (disch := (first | omega | (simp only [zE, zF, zD, zC, zA, zB, rwI_len, rowT_len, spanT_len, bothL_len]; omega))) only [push_cast, simprocAttr, takeM, dropM, zK, zA, zB, zN, zQ, zR, zO, zP, zT, zS, zU, leT, zH, pureL, pureA, natNe, zI, zG, TyD.isAgg, zJ, Cx.rnd, hc5, hc, g1, g5, hrc, hdf, hfrG, zV, isEmpty_map, zE, zD, zC, zY, zX, zW] <;> omega))
      | ((apply D.alloct (rnd_ok l); decide; decide); (simp (disch := (first | omega | (simp only [zE, zF, zD, zC, zA, zB, rwI_len, rowT_len, spanT_len, bothL_len]; omega))) only [push_cast, simprocAttr, takeM, dropM, zK, zA, zB, zN, zQ, zR, zO, zP, zT, zS, zU, leT, zH, pureL, pureA, natNe, zI, zG, TyD.isAgg, zJ, Cx.rnd, hc5, hc, g1, g5, hrc, hdf, hfrG, zV, isEmpty_map, zE, zD, zC, zY, zX, zW] <;> rfl); first | exact .inl rfl | exact .inr (by simp))
      | (apply W.append (rnd_ok l); decide; rfl; rfl; rfl; decide; (iterate 3 (simp (disch := (first | omega | (simp only [zE, zF, zD, zC, zA, zB, rwI_len, rowT_len, spanT_len, bothL_len]; omega))) only [push_cast, simprocAttr, takeM, dropM, zK, zA, zB, zN, zQ, zR, zO, zP, zT, zS, zU, leT, zH, pureL, pureA, natNe, zI, zG, TyD.isAgg, zJ, Cx.rnd, hc5, hc, g1, g5, hrc, hdf, hfrG, zV, isEmpty_map, zE, zD, zC, zY, zX, zW] <;> rfl)); (first | (focus (simp; done)) | (intro c hc; obtain ⟨x, _, rfl⟩ := List.mem_map.1 hc; rfl)); ((first | rfl | simp (disch := omega) only [push_cast])); ((try dsimp only); (try simp only [zF, zE, zD, zC, zA, zB, rwI_len, rowT_len, spanT_len, bothL_len]); omega); ((try dsimp only); (try simp only [zF, zE, zD, zC, zA, zB, rwI_len, rowT_len, spanT_len, bothL_len]); omega))
      | (apply D.append (rnd_ok l); decide; decide; rfl; rfl; rfl; decide; (iterate 3 (simp (disch := (first | omega | (simp only [zE, zF, zD, zC, zA, zB, rwI_len, rowT_len, spanT_len, bothL_len]; omega))) only [push_cast, simprocAttr, takeM, dropM, zK, zA, zB, zN, zQ, zR, zO, zP, zT, zS, zU, leT, zH, pureL, pureA, natNe, zI, zG, TyD.isAgg, zJ, Cx.rnd, hc5, hc, g1, g5, hrc, hdf, hfrG, zV, isEmpty_map, zE, zD, zC, zY, zX, zW] <;> rfl)); (first | (focus (simp; done)) | (intro c hc; obtain ⟨x, _, rfl⟩ := List.mem_map.1 hc; rfl)); ((first | rfl | (simp (disch := omega) only [push_cast]; done))); ((try dsimp only); (try simp only [zF, zE, zD, zC, zA, zB, rwI_len, rowT_len, spanT_len, bothL_len]); omega); ((try dsimp only); (try simp only [zF, zE, zD, zC, zA, zB, rwI_len, rowT_len, spanT_len, bothL_len]); omega); first | exact .inl rfl | exact .inr (by simp))


    all_goals
      (refine ⟨?_, rfl, ⟨⟨?_, ?_, ?_, ⟨.ref (nx + 4) 0 (nodesR r more).length, .ref (nx + 5) 0 (p.length + 1), ?_⟩, ?_⟩, ⟨?_, ?_, ?_, p.length + 1, ?_, ?_⟩, ?_, fun j hj => ?_, ?_, ?_⟩, ?_, fun i h1 h2 => ?_⟩
       all_goals first
         | (simp (disch := omega) only [push_cast, simprocAttr, natNe, zI, zG, TyD.isAgg, zJ, Cx.rnd, hc5, hc, g1, g5, hrc, hdf, hfrG, zV, isEmpty_map, zE, zD, zC, zY, zX, zW, y1, y2, y3, y5, g2, g3, yB, yA] <;> first | rfl | omega)
         | omega
         | (have q := hfr0 j hj; simp (disch := omega) only [push_cast, simprocAttr, natNe, zI, zG, TyD.isAgg, zJ, Cx.rnd, hc5, hc, g1, g5, hrc, hdf, hfrG, zV, isEmpty_map, zE, zD, zC, zY, zX, zW, y1, y2, y3, y5, g2, g3, yB, yA, q]))
  case post =>
    rintro G n ⟨⟨y1, y2, y3, ⟨ga, gl, y4⟩, y5⟩, ⟨g1, g2, g3, lw, g4, g5⟩, hc, hfr0, hdf, hrc⟩ hn
    have u : ∀ j, j ≠ s1.nx + 4 → ∀ o, updH G (s1.nx + 3 + 1) o j = G j := fun j hj o => by simp only [updH]; rw [if_neg (by omega)]
    refine ⟨_, hrc, by simp, ?_⟩
    delta tail87 at hK
    simp only [Try.f87, Option.getD_some, dropS1] at hK
    refine hK Dn (s1.nx + 3) _ ht5 ⟨(rowAt_eqH (u _ (by omega) _)).trans g1, (rowAt_eqH (u _ (by omega) _)).trans g2, (u _ (by omega) _).trans g3, lw, g4, (rowAt_eqH (u _ (by omega) _)).trans g5⟩ ((rowAt_eqH (u _ (by omega) _)).trans hc) (fun j hj => (u j (by omega) _).trans (hfr0 j hj)) ((u _ (by omega) _).trans hdf) (by omega) ?_
    show nx + 6 ≤ n
    omega
end Go.Proofs.Ks

namespace Go.Proofs.Ks
open Go Go.Pg Go.Proofs
theorem view_list {α : Type} (f : α → List AV) {H : Nat → Option AO} {id k lw : Nat} {ty : TypeId} {l : List α} (hp : (l.map f).all pureL = true) (hlw : lw ≤ l.length) (h : Pg.rowAt H id = some { k := k, es := l.map f, ty := ty, lo := lw }) : viewA H (.ref id 0 l.length) = some (.lst (l.map f)) := by
  rw [view_ref, h]
  dsimp only
  rw [if_pos ⟨by omega, by simp, hp⟩, List.drop_zero, List.take_of_length_le (by simp)]
theorem pure_all {α : Type} (f : α → List AV) (h : ∀ x, pureL (f x) = true) (l : List α) : (l.map f).all pureL = true := by
  rw [List.all_map, List.all_eq_true]; intro x _; exact h x
theorem build_m {H0 : Nat → Option AO} {nx : Nat} (r : Rec) (more : List Int) (hv : r.V) (hml : more.length ≤ 8) (hmb : ∀ a ∈ more, 0 ≤ a ∧ a ≤ 43200) :
    OKm cx 87 [.agg (eRec r), lInt more] H0 nx (fun v H' nx' => v = .ptr (nx + 2) 0 0 1 ∧ SysM H' (nx + 2) (nx + 4) (nx + 1) (nx + 5) (nodesR r more) (linksR r more) ∧ nx + 6 ≤ nx' ∧ ∀ j, j < nx → (∀ a b, H0 j ≠ some (.mp (.dfr a b) 0 [])) → H' j = H0 j) := by
  refine build_a r more hv hml hmb fun Dd dn s h5 hM hc hf hd hdn hn => ?_
  delta tail87
  simp only [Try.f87, Option.getD_some, dropS1]
  repeat' first
    | apply AW.seq | apply AW.region | apply AW.ret | apply AW.block | apply AW.skip | apply AW.exit | apply AW.scope | apply AW.label | apply AWL.nil | apply D.nil
    | refine W.draw cx_mixed (by decide +kernel) ?_
    | ((first | (apply W.step cx_ok; decide) | (apply D.step cx_ok; decide; decide) | apply W.store cx_ok | (apply W.gS; rfl; decide) | (apply D.gS; rfl; decide; decide) | apply AW.cond | apply W.mapUpdate cx_ok); (simp (disch := (first | omega | (simp only [zE, zF, zD, zC, zA, zB, rwI_len, rowT_len, spanT_len, bothL_len]; omega))) only [push_cast, simprocAttr, takeM, dropM, zK, zA, zB, zN, zQ, zR, zO, zP, zT, zS, zU, leT, zH, pureL, pureA, natNe, zI, zG, TyD.isAgg, zJ, h5, hc] <;> rfl); all_goals try ((with_reducible intro hI); try first | (cases hI; done) | (simp only [INTS, zL] at hI; try first | (exfalso; omega) | (have hT : True := hI; clear hT hI))))
    | ((first | (apply W.gU; rfl; decide) | (apply D.gU; rfl; decide; decide)); (simp (disch := (first | omega | (simp only [zE, zF, zD, zC, zA, zB, rwI_len, rowT_len, spanT_len, bothL_len]; omega))) only [push_cast, simprocAttr, takeM, dropM, zK, zA, zB, zN, zQ, zR, zO, zP, zT, zS, zU, leT, zH, pureL, pureA, natNe, zI, zG, TyD.isAgg, zJ, h5, hc] <;> rfl))
    | (refine W.makeMap cx_ok (by simp only [push_cast, simprocAttr] <;> rfl) (by decide) ?_)
    | (apply W.append cx_ok; decide; rfl; rfl; rfl; decide; (iterate 3 (simp (disch := (first | omega | (simp only [zE, zF, zD, zC, zA, zB, rwI_len, rowT_len, spanT_len, bothL_len]; omega))) only [push_cast, simprocAttr, takeM, dropM, zK, zA, zB, zN, zQ, zR, zO, zP, zT, zS, zU, leT, zH, pureL, pureA, natNe, zI, zG, TyD.isAgg, zJ, h5, hc] <;> rfl)); (first | (focus (simp; done)) | (intro c hc; obtain ⟨x, _, rfl⟩ := List.mem_map.1 hc; rfl)); ((first | rfl | simp (disch := omega) only [push_cast])); ((try dsimp only); (try simp only [zF, zE, zD, zC, zA, zB, rwI_len, rowT_len, spanT_len, bothL_len]); omega); ((try dsimp only); (try simp only [zF, zE, zD, zC, zA, zB, rwI_len, rowT_len, spanT_len, bothL_len]); omega))

  refine ⟨by (simp (disch := omega) only [push_cast, simprocAttr, natNe, zI, zG, TyD.isAgg, zJ, hd]), fun H2 hr2 hm2 => ?_⟩
  replace hr2 : ∀ i, Pg.rowAt H2 i = Pg.rowAt s.H i := hr2
  replace hm2 : ∀ i, (∀ D ds, s.H i ≠ some (.mp (.dfr D ds) 0 [])) → H2 i = s.H i := hm2
  obtain ⟨m1, m2, m3, lw, m4, m5⟩ := hM
  apply W.retX (vs := [.ptr (nx + 2) 0 0 1])
  · (simp (disch := omega) only [push_cast, simprocAttr, natNe, zI, zG, TyD.isAgg, zJ, h5, hc] <;> rfl)
  · refine ⟨rfl, ⟨(hr2 _).trans m1, (hr2 _).trans m2, (hm2 _ (by rw [m3]; intro a b h; injection h with h; injection h with h; cases h)).trans m3, lw, m4, (hr2 _).trans m5⟩, hn, fun j hj hd => ?_⟩
    exact (hm2 j (by rw [hf j hj]; exact hd)).trans (hf j hj)
theorem build_ok (r : Rec) (more : List Int) (hv : r.V) (hml : more.length ≤ 8) (hmb : ∀ a ∈ more, 0 ≤ a ∧ a ≤ 43200) : OKv cx 87 [.agg (eRec r), lInt more] (gSys (nodesR r more) (linksR r more)) := by
  refine OKm.toAt (build_a (H0 := fun _ => none) (nx := 0) r more hv hml hmb (Q := fun v H _ => viewA H v = some (gSys (nodesR r more) (linksR r more))) fun Dd dn s h5 hM hc hf hd hdn hn => ?_) (fun r H nx hq => ⟨_, hq, rfl⟩)
  obtain ⟨m1, m2, m3, lw, m4, m5⟩ := hM
  simp only [Nat.zero_add] at m1 m2 m3 m5 hc h5
  generalize nodesR r more = N at m1 m2 m3 ⊢
  generalize linksR r more = L at m1 m4 m5 ⊢
  refine AW.frzM 1 m3 ?_
  refine AW.settle 2 [4, 5] (r := { k := 3, es := [[.ref 4 0 N.length, .map 1, .ref 5 0 L.length]], ty := 135 }) (es' := [[lNode N, .lmap .pair (N.map keyN) (idxV 0 N.length), lLink L]]) ?_ ?_ (by decide) rfl ?_ ?_
  · (simp (disch := omega) only [push_cast, simprocAttr, natNe, zI, zG, TyD.isAgg, zJ, m1] <;> rfl)
  · intro i hi
    simp only [List.mem_cons, List.not_mem_nil, or_false] at hi
    rcases hi with rfl | rfl
    · exact ⟨_, (by (simp (disch := omega) only [push_cast, simprocAttr, natNe, zI, zG, TyD.isAgg, zJ, m2]) : Pg.rowAt _ 4 = some { k := 2, es := N.map eNode, ty := 144, lo := N.length })⟩
    · exact ⟨_, (by (simp (disch := omega) only [push_cast, simprocAttr, natNe, zI, zG, TyD.isAgg, zJ, m5]) : Pg.rowAt _ 5 = some { k := 3, es := L.map eLink, ty := 66, lo := lw })⟩
  · intro i e e' he he'
    match i, he, he' with
    | 0, he, he' =>
      simp only [List.getElem?_cons_zero, Option.some.injEq] at he he'
      subst he; subst he'
      refine ⟨rfl, fun j a b ha hb => ?_⟩
      match j, ha, hb with
      | 0, ha, hb =>
        simp only [List.getElem?_cons_zero, Option.some.injEq] at ha hb
        subst ha; subst hb
        exact ⟨.view (view_list eNode (pure_all eNode (fun _ => rfl) N) (Nat.le_refl _) (k := 2) (ty := 144) (by (simp (disch := omega) only [push_cast, simprocAttr, natNe, zI, zG, TyD.isAgg, zJ, m2]))), by simp [idsA]⟩
      | 1, ha, hb =>
        simp only [List.getElem?_cons_zero, List.getElem?_cons_succ, Option.some.injEq] at ha hb
        subst ha; subst hb
        have hz : (ixM N).map (·.1) = N.map keyN ∧ (ixM N).map (·.2) = idxV 0 N.length := by
          unfold ixM
          constructor
          · rw [List.map_fst_zip]; simp [idxV]
          · rw [List.map_snd_zip]; simp [idxV]
        have hq := Told.map (H := updH s.H 1 (.mp (.fmap .pair) 0 (ixM N))) (id := 1) (sh := .pair) (et := 0) (es := ixM N) (by simp [updH]) (by
          rw [hz.2]; unfold idxV
          generalize List.range' 0 N.length = q
          induction q with
          | nil => rfl
          | cons a q ih => simp only [List.map_cons, pureL, pureA, ih, Bool.true_and])
        rw [hz.1, hz.2] at hq
        exact ⟨hq, by simp [idsA]⟩
      | 2, ha, hb =>
        simp only [List.getElem?_cons_zero, List.getElem?_cons_succ, Option.some.injEq] at ha hb
        subst ha; subst hb
        exact ⟨.view (view_list eLink (pure_all eLink (fun _ => rfl) L) m4 (k := 3) (ty := 66) (by (simp (disch := omega) only [push_cast, simprocAttr, natNe, zI, zG, TyD.isAgg, zJ, m5]))), by simp [idsA]⟩
      | j + 3, ha, _ => simp at ha
    | i + 1, he, _ => simp at he
  delta tail87
  simp only [Try.f87, Option.getD_some, dropS1]
  have hc1 : Pg.rowAt (updH (frz (updH s.H 1 (.mp (.fmap .pair) 0 (ixM N))) [4, 5]) 2 (.row { k := 3, es := [[lNode N, .lmap .pair (N.map keyN) (idxV 0 N.length), lLink L]], ty := 135 })) 3 = some { k := 1, es := [[.ptr 2 0 0 1]], ty := 122 } := hc
  have hd1 : (updH (frz (updH s.H 1 (.mp (.fmap .pair) 0 (ixM N))) [4, 5]) 2 (.row { k := 3, es := [[lNode N, .lmap .pair (N.map keyN) (idxV 0 N.length), lLink L]], ty := 135 })) dn = some (.mp (.dfr Dd (some [])) 0 []) := by
    simp only [updH, frz]
    rw [if_neg (by omega), if_neg (by simp only [List.mem_cons, List.not_mem_nil, or_false]; omega), if_neg (by omega)]
    exact hd
  have hg1 : Pg.rowAt (updH (frz (updH s.H 1 (.mp (.fmap .pair) 0 (ixM N))) [4, 5]) 2 (.row { k := 3, es := [[lNode N, .lmap .pair (N.map keyN) (idxV 0 N.length), lLink L]], ty := 135 })) 2 = some { k := 3, es := [[lNode N, .lmap .pair (N.map keyN) (idxV 0 N.length), lLink L]], ty := 135 } := rfl
  generalize updH (frz (updH s.H 1 (.mp (.fmap .pair) 0 (ixM N))) [4, 5]) 2 (.row { k := 3, es := [[lNode N, .lmap .pair (N.map keyN) (idxV 0 N.length), lLink L]], ty := 135 }) = G at hc1 hd1 hg1 ⊢
  repeat' first
    | apply AW.seq | apply AW.region | apply AW.ret | apply AW.block | apply AW.skip | apply AW.exit | apply AW.scope | apply AW.label | apply AWL.nil | apply D.nil
    | refine W.draw cx_mixed (by decide +kernel) ?_
    | ((first | (apply W.step cx_ok; decide) | (apply D.step cx_ok; decide; decide) | apply W.store cx_ok | (apply W.gS; rfl; decide) | (apply D.gS; rfl; decide; decide) | apply AW.cond | apply W.mapUpdate cx_ok); (simp (disch := (first | omega | (simp only [zE, zF, zD, zC, zA, zB, rwI_len, rowT_len, spanT_len, bothL_len]; omega))) only [push_cast, simprocAttr, takeM, dropM, zK, zA, zB, zN, zQ, zR, zO, zP, zT, zS, zU, leT, zH, pureL, pureA, natNe, zI, zG, TyD.isAgg, zJ, h5, hc1] <;> rfl); all_goals try ((with_reducible intro hI); try first | (cases hI; done) | (simp only [INTS, zL] at hI; try first | (exfalso; omega) | (have hT : True := hI; clear hT hI))))
    | ((first | (apply W.gU; rfl; decide) | (apply D.gU; rfl; decide; decide)); (simp (disch := (first | omega | (simp only [zE, zF, zD, zC, zA, zB, rwI_len, rowT_len, spanT_len, bothL_len]; omega))) only [push_cast, simprocAttr, takeM, dropM, zK, zA, zB, zN, zQ, zR, zO, zP, zT, zS, zU, leT, zH, pureL, pureA, natNe, zI, zG, TyD.isAgg, zJ, h5, hc1] <;> rfl))
    | (refine W.makeMap cx_ok (by simp only [push_cast, simprocAttr] <;> rfl) (by decide) ?_)
    | (apply W.append cx_ok; decide; rfl; rfl; rfl; decide; (iterate 3 (simp (disch := (first | omega | (simp only [zE, zF, zD, zC, zA, zB, rwI_len, rowT_len, spanT_len, bothL_len]; omega))) only [push_cast, simprocAttr, takeM, dropM, zK, zA, zB, zN, zQ, zR, zO, zP, zT, zS, zU, leT, zH, pureL, pureA, natNe, zI, zG, TyD.isAgg, zJ, h5, hc1] <;> rfl)); (first | (focus (simp; done)) | (intro c hc; obtain ⟨x, _, rfl⟩ := List.mem_map.1 hc; rfl)); ((first | rfl | simp (disch := omega) only [push_cast])); ((try dsimp only); (try simp only [zF, zE, zD, zC, zA, zB, rwI_len, rowT_len, spanT_len, bothL_len]); omega); ((try dsimp only); (try simp only [zF, zE, zD, zC, zA, zB, rwI_len, rowT_len, spanT_len, bothL_len]); omega))

  refine ⟨by (simp (disch := omega) only [push_cast, simprocAttr, natNe, zI, zG, TyD.isAgg, zJ, hd1]), fun H2 hr2 hm2 => ?_⟩
  replace hr2 : ∀ i, Pg.rowAt H2 i = Pg.rowAt G i := hr2
  apply W.retX (vs := [.ptr 2 0 0 1])
  · (simp (disch := omega) only [push_cast, simprocAttr, natNe, zI, zG, TyD.isAgg, zJ, h5, hc1] <;> rfl)
  · have hg2 := (hr2 2).trans hg1
    show viewA H2 (.ptr 2 0 0 1) = _
    rw [view_ptr, hg2]
    dsimp only
    rw [if_pos ⟨Nat.zero_le _, Nat.zero_lt_one, rfl⟩]
    rfl
end Go.Proofs.Ks

namespace Go.Proofs.Ks
open Go Go.Pg Go.Proofs
def consP (r : Rec) (more : List Int) : Bool := decide ((lengthsF (nodesR r more).length (linksR r more) (-1)).2.2 < 0)
theorem solved_bad (r : Rec) (more : List Int) (hc : checkE r ≠ 0) : OKv cx 81 [.agg (eRec r), lInt more] (.tup [.v (.pointer none), ai (checkE r)]) := by
  have hcF : (checkE r = 0) = False := eq_false hc
  refine OKat.of_body (rs := [4, 5]) Try.func81 rfl (by decide +kernel) rfl (by simp [Try.ntmps81]) ?_
  simp only [Try.ntmps81]
  repeat' first
    | apply AW.seq | apply AW.region | apply AW.ret | apply AW.block | apply AW.skip | apply AW.exit | apply AW.scope | apply AW.label | apply AWL.nil
    | ((first | (apply W.step cx_ok; decide) | apply AW.cond); (simp (disch := omega) only [push_cast, simprocAttr, hcF] <;> rfl); all_goals try ((with_reducible intro hI); try first | (cases hI; done) | (simp only [INTS, zL] at hI; try first | (exfalso; omega) | (have hT : True := hI; clear hT hI))))
    | ((apply W.callv cx_ok; decide); (iterate 2 (simp (disch := omega) only [push_cast, simprocAttr, hcF] <;> rfl)); (with_reducible first | exact Check_ok r); try first | rfl | (simp (disch := omega) only [push_cast, simprocAttr, hcF] <;> rfl))
    | ((first | apply W.ret2 | apply W.end2); (iterate 2 (try (simp (disch := omega) only [push_cast, simprocAttr, hcF] <;> rfl))))

  all_goals (show _ = _; rfl)
theorem solved_clash (r : Rec) (more : List Int) (hc : checkE r = 0) (hml : more.length ≤ 8) (hmb : ∀ a ∈ more, 0 ≤ a ∧ a ≤ 43200) (hq : consP r more = false) : OKv cx 81 [.agg (eRec r), lInt more] (.tup [.v (.pointer none), ai 9]) := by
  have hv := checkE_V hc
  obtain ⟨h1, h2, h3, h4, h5⟩ := links_facts hv hml hmb
  have hb := build_ok r more hv hml hmb
  have hn := consistent_ok (nodesR r more) (linksR r more) h1 h2 h3 h4
  unfold consP at hq
  rw [hq] at hn
  refine OKat.of_body (rs := [4, 5]) Try.func81 rfl (by decide +kernel) rfl (by simp [Try.ntmps81]) ?_
  simp only [Try.ntmps81]
  repeat' first
    | apply AW.seq | apply AW.region | apply AW.ret | apply AW.block | apply AW.skip | apply AW.exit | apply AW.scope | apply AW.label | apply AWL.nil
    | ((first | (apply W.step cx_ok; decide) | apply AW.cond); (simp (disch := omega) only [push_cast, simprocAttr, hc] <;> rfl); all_goals try ((with_reducible intro hI); try first | (cases hI; done) | (simp only [INTS, zL] at hI; try first | (exfalso; omega) | (have hT : True := hI; clear hT hI))))
    | ((apply W.callv cx_ok; decide); (iterate 2 (simp (disch := omega) only [push_cast, simprocAttr, hc] <;> rfl)); (with_reducible first | exact Check_ok r | exact hb | exact hn); try first | rfl | (simp (disch := omega) only [push_cast, simprocAttr, hc] <;> rfl))
    | ((first | apply W.ret2 | apply W.end2); (iterate 2 (try (simp (disch := omega) only [push_cast, simprocAttr, hc] <;> rfl))))

  all_goals (show _ = _; rfl)
theorem solved_good (r : Rec) (more : List Int) (hc : checkE r = 0) (hml : more.length ≤ 8) (hmb : ∀ a ∈ more, 0 ≤ a ∧ a ≤ 43200) (hq : consP r more = true) : OKv cx 81 [.agg (eRec r), lInt more] (.tup [gSys (nodesR r more) (linksR r more), ai 0]) := by
  have hv := checkE_V hc
  obtain ⟨h1, h2, h3, h4, h5⟩ := links_facts hv hml hmb
  have hb := build_ok r more hv hml hmb
  have hn := consistent_ok (nodesR r more) (linksR r more) h1 h2 h3 h4
  unfold consP at hq
  rw [hq] at hn
  refine OKat.of_body (rs := [4, 5]) Try.func81 rfl (by decide +kernel) rfl (by simp [Try.ntmps81]) ?_
  simp only [Try.ntmps81]
  repeat' first
    | apply AW.seq | apply AW.region | apply AW.ret | apply AW.block | apply AW.skip | apply AW.exit | apply AW.scope | apply AW.label | apply AWL.nil
    | ((first | (apply W.step cx_ok; decide) | apply AW.cond); (simp (disch := omega) only [push_cast, simprocAttr, hc] <;> rfl); all_goals try ((with_reducible intro hI); try first | (cases hI; done) | (simp only [INTS, zL] at hI; try first | (exfalso; omega) | (have hT : True := hI; clear hT hI))))
    | ((apply W.callv cx_ok; decide); (iterate 2 (simp (disch := omega) only [push_cast, simprocAttr, hc] <;> rfl)); (with_reducible first | exact Check_ok r | exact hb | exact hn); try first | rfl | (simp (disch := omega) only [push_cast, simprocAttr, hc] <;> rfl))
    | ((first | apply W.ret2 | apply W.end2); (iterate 2 (try (simp (disch := omega) only [push_cast, simprocAttr, hc] <;> rfl))))

  all_goals (show _ = _; rfl)
theorem nomore (a : Int) : a ∈ ([] : List Int) → 0 ≤ a ∧ a ≤ 43200 := fun h => by cases h
theorem solved0 (r : Rec) : (checkE r ≠ 0 ∧ OKv cx 81 [.agg (eRec r), .lst []] (.tup [.v (.pointer none), ai (checkE r)])) ∨ (checkE r = 0 ∧ consP r [] = false ∧ OKv cx 81 [.agg (eRec r), .lst []] (.tup [.v (.pointer none), ai 9])) ∨
    (checkE r = 0 ∧ consP r [] = true ∧ OKv cx 81 [.agg (eRec r), .lst []] (.tup [gSys (nodesR r []) (linksR r []), ai 0])) := by
  by_cases hc : checkE r = 0
  · cases hq : consP r [] with
    | false => exact .inr (.inl ⟨hc, rfl, solved_clash r [] hc (by decide) nomore hq⟩)
    | true => exact .inr (.inr ⟨hc, rfl, solved_good r [] hc (by decide) nomore hq⟩)
  · exact .inl ⟨hc, solved_bad r [] hc⟩
theorem spanI_ok {r : Rec} {more : List Int} (hv : r.V) (hml : more.length ≤ 8) (hmb : ∀ a ∈ more, 0 ≤ a ∧ a ≤ 43200) {f t : Int} (hf : 0 ≤ f ∧ f < (nodesR r more).length) (ht : 0 ≤ t ∧ t < (nodesR r more).length) :
    OKv cx 82 [gSys (nodesR r more) (linksR r more), ai f, ai t] (.agg (eSpan (spanF (nodesR r more) (linksR r more) f.toNat t.toNat))) := by
  obtain ⟨h1, h2, h3, h4, h5⟩ := links_facts hv hml hmb
  have := span_ok (nodesR r more) (linksR r more) f.toNat t.toNat h1 h2 h3 h4 (by omega) (by omega)
  rw [Int.toNat_of_nonneg hf.1, Int.toNat_of_nonneg ht.1] at this
  exact this
def eventP (r : Rec) (kd : Nat) : Span × Int := if checkE r = 0 then (if consP r [] = true then (spanF (nodesR r []) (linksR r []) 0 kd, 0) else (⟨0, 0⟩, 9)) else (⟨0, 0⟩, checkE r)
theorem event_ok (r : Rec) (kd : Nat) (hk : kd = 1 ∨ kd = 2) : OKv cx 94 [.agg (eRec r), ai kd] (.tup [.agg (eSpan (eventP r kd).1), ai (eventP r kd).2]) := by
  unfold eventP
  rcases solved0 r with ⟨hc, hs⟩ | ⟨hc, hq, hs⟩ | ⟨hc, hq, hs⟩
  · rw [if_neg hc]
    have hcF : (checkE r = 0) = False := eq_false hc
    refine OKat.of_bodyM cx_ok (rs := [.cell 4 23, .tmp 5]) Try.func94 rfl (by decide +kernel) rfl (by simp [Try.ntmps94]) ?_
    simp only [Try.ntmps94]
    repeat' first
      | apply AW.seq | apply AW.region | apply AW.ret | apply AW.block | apply AW.skip | apply AW.exit | apply AW.scope | apply AW.label | apply AWL.nil
      | ((first | (apply W.step cx_ok; decide) | apply W.store cx_ok | apply AW.cond); (simp (disch := omega) only [push_cast, simprocAttr, hcF] <;> rfl); all_goals try ((with_reducible intro hI); try first | (cases hI; done) | (simp only [INTS, zL] at hI; try first | (exfalso; omega) | (have hT : True := hI; clear hT hI))))
      | ((apply W.callv cx_ok; decide); (iterate 2 (simp (disch := omega) only [push_cast, simprocAttr, hcF] <;> rfl)); (with_reducible first | exact hs); try first | rfl | (simp (disch := omega) only [push_cast, simprocAttr, hcF] <;> rfl))
      | ((first | apply W.retM | apply W.endM'); (iterate 2 (try (simp (disch := omega) only [push_cast, simprocAttr, hcF] <;> rfl))))

    all_goals (show _ = _; rfl)
  · rw [if_pos hc, if_neg (by rw [hq]; decide)]
    refine OKat.of_bodyM cx_ok (rs := [.cell 4 23, .tmp 5]) Try.func94 rfl (by decide +kernel) rfl (by simp [Try.ntmps94]) ?_
    simp only [Try.ntmps94]
    repeat' first
      | apply AW.seq | apply AW.region | apply AW.ret | apply AW.block | apply AW.skip | apply AW.exit | apply AW.scope | apply AW.label | apply AWL.nil
      | ((first | (apply W.step cx_ok; decide) | apply W.store cx_ok | apply AW.cond); (simp (disch := omega) only [push_cast, simprocAttr] <;> rfl); all_goals try ((with_reducible intro hI); try first | (cases hI; done) | (simp only [INTS, zL] at hI; try first | (exfalso; omega) | (have hT : True := hI; clear hT hI))))
      | ((apply W.callv cx_ok; decide); (iterate 2 (simp (disch := omega) only [push_cast, simprocAttr] <;> rfl)); (with_reducible first | exact hs); try first | rfl | (simp (disch := omega) only [push_cast, simprocAttr] <;> rfl))
      | ((first | apply W.retM | apply W.endM'); (iterate 2 (try (simp (disch := omega) only [push_cast, simprocAttr] <;> rfl))))

    all_goals (show _ = _; rfl)
  · rw [if_pos hc, if_pos hq]
    have hv := checkE_V hc
    have hl := nodesR_len r []
    have ha : OKv cx 83 [gSys (nodesR r []) (linksR r []), ai kd, ai 0] (ai kd) := by
      have := at_ok (nodesR r []) (linksR r []) kd 0
      rcases hk with rfl | rfl
      · exact this
      · exact this
    have hsp : OKv cx 82 [gSys (nodesR r []) (linksR r []), ai 0, ai kd] (.agg (eSpan (spanF (nodesR r []) (linksR r []) 0 kd))) := by
      have := spanI_ok (more := []) hv (by decide) nomore (f := 0) (t := (kd : Int)) (by omega) (by omega)
      simpa using this
    obtain ⟨S, hS0⟩ : ∃ z, spanF (nodesR r []) (linksR r []) 0 kd = z := ⟨_, rfl⟩
    rw [hS0] at hsp
    rw [hS0]
    refine OKat.of_bodyM cx_ok (rs := [.cell 4 23, .tmp 5]) Try.func94 rfl (by decide +kernel) rfl (by simp [Try.ntmps94]) ?_
    simp only [Try.ntmps94]
    repeat' first
      | apply AW.seq | apply AW.region | apply AW.ret | apply AW.block | apply AW.skip | apply AW.exit | apply AW.scope | apply AW.label | apply AWL.nil
      | ((first | (apply W.step cx_ok; decide) | apply W.store cx_ok | apply AW.cond); (simp (disch := omega) only [push_cast, simprocAttr] <;> rfl); all_goals try ((with_reducible intro hI); try first | (cases hI; done) | (simp only [INTS, zL] at hI; try first | (exfalso; omega) | (have hT : True := hI; clear hT hI))))
      | ((apply W.callv cx_ok; decide); (iterate 2 (simp (disch := omega) only [push_cast, simprocAttr] <;> rfl)); (with_reducible first | exact hs | exact ha | exact hsp); try first | rfl | (simp (disch := omega) only [push_cast, simprocAttr] <;> rfl))
      | ((first | apply W.retM | apply W.endM'); (iterate 2 (try (simp (disch := omega) only [push_cast, simprocAttr] <;> rfl))))

    all_goals (show _ = _; rfl)
theorem Inserted_ok (r : Rec) : OKv cx 36 [.agg (eRec r)] (.tup [.agg (eSpan (eventP r 1).1), ai (eventP r 1).2]) := by
  have he : OKv cx 94 [.agg (eRec r), ai 1] (.tup [.agg (eSpan (eventP r 1).1), ai (eventP r 1).2]) := event_ok r 1 (by decide)
  obtain ⟨E, hE⟩ : ∃ z, eventP r 1 = z := ⟨_, rfl⟩
  rw [hE] at he ⊢
  refine OKat.of_bodyM cx_ok (rs := [.cell 2 23, .tmp 3]) Try.func36 rfl (by decide +kernel) rfl (by simp [Try.ntmps36]) ?_
  simp only [Try.ntmps36]
  repeat' first
    | apply AW.seq | apply AW.region | apply AW.ret | apply AW.block | apply AW.skip | apply AW.exit | apply AW.scope | apply AW.label | apply AWL.nil
    | ((first | (apply W.step cx_ok; decide) | apply W.store cx_ok | apply AW.cond); (simp (disch := omega) only [push_cast, simprocAttr] <;> rfl); all_goals try ((with_reducible intro hI); try first | (cases hI; done) | (simp only [INTS, zL] at hI; try first | (exfalso; omega) | (have hT : True := hI; clear hT hI))))
    | ((apply W.callv cx_ok; decide); (iterate 2 (simp (disch := omega) only [push_cast, simprocAttr] <;> rfl)); (with_reducible first | exact he); try first | rfl | (simp (disch := omega) only [push_cast, simprocAttr] <;> rfl))
    | ((first | apply W.retM | apply W.endM'); (iterate 2 (try (simp (disch := omega) only [push_cast, simprocAttr] <;> rfl))))

  all_goals (show _ = _; rfl)
theorem Removed_ok (r : Rec) : OKv cx 60 [.agg (eRec r)] (.tup [.agg (eSpan (eventP r 2).1), ai (eventP r 2).2]) := by
  have he : OKv cx 94 [.agg (eRec r), ai 2] (.tup [.agg (eSpan (eventP r 2).1), ai (eventP r 2).2]) := event_ok r 2 (by decide)
  obtain ⟨E, hE⟩ : ∃ z, eventP r 2 = z := ⟨_, rfl⟩
  rw [hE] at he ⊢
  refine OKat.of_bodyM cx_ok (rs := [.cell 2 23, .tmp 3]) Try.func60 rfl (by decide +kernel) rfl (by simp [Try.ntmps60]) ?_
  simp only [Try.ntmps60]
  repeat' first
    | apply AW.seq | apply AW.region | apply AW.ret | apply AW.block | apply AW.skip | apply AW.exit | apply AW.scope | apply AW.label | apply AWL.nil
    | ((first | (apply W.step cx_ok; decide) | apply W.store cx_ok | apply AW.cond); (simp (disch := omega) only [push_cast, simprocAttr] <;> rfl); all_goals try ((with_reducible intro hI); try first | (cases hI; done) | (simp only [INTS, zL] at hI; try first | (exfalso; omega) | (have hT : True := hI; clear hT hI))))
    | ((apply W.callv cx_ok; decide); (iterate 2 (simp (disch := omega) only [push_cast, simprocAttr] <;> rfl)); (with_reducible first | exact he); try first | rfl | (simp (disch := omega) only [push_cast, simprocAttr] <;> rfl))
    | ((first | apply W.retM | apply W.endM'); (iterate 2 (try (simp (disch := omega) only [push_cast, simprocAttr] <;> rfl))))

  all_goals (show _ = _; rfl)
end Go.Proofs.Ks

namespace Go.Proofs.Ks
open Go Go.Proofs
theorem pot_of_noNeg {L : List Lk} {n : Nat} {B : Int} (hL : ∀ l ∈ L, l.a < n ∧ l.b < n) (hB0 : 0 ≤ B) (hB : ∀ l ∈ L, -B ≤ l.m ∧ l.m ≤ B) (hfar : B * (n : Int) < far) (hn : NoNeg L) : ∃ f, Sat f L := by
  have hd := lengths_dist hL hB0 hB hfar hn (-1)
  refine ⟨fun k => (lengthsF n L (-1)).1.getD k 0, fun l hl => ?_⟩
  obtain ⟨la, lb⟩ := hL l hl
  have hsrc : ∀ k, k < n → SrcF n (-1) k := fun k hk => ⟨hk, .inl (by decide)⟩
  have h0 : (lengthsF n L (-1)).1.getD l.a 0 ≤ 0 := hd.low l.a [] l.a (hsrc _ la) rfl
  have hf : (0 : Int) < far := by decide
  obtain ⟨s, p, hs, hw, hp⟩ := hd.real l.a la (by omega)
  have := hd.low s (p ++ [l]) l.b hs (hw.snoc hl)
  rw [lenW_append] at this
  have e : lenW [l] = l.m := by simp [lenW]
  rw [e, hp] at this
  exact this
theorem facts_far {n : Nat} (hn : n ≤ 100) : (1073741823 : Int) * (n : Int) < far := by unfold far; omega
theorem cons_sat {r : Rec} (hv : r.V) {more : List Int} (hml : more.length ≤ 8) (hmb : ∀ a ∈ more, 0 ≤ a ∧ a ≤ 43200) : consP r more = true ↔ ∃ f, Sat f (linksR r more) := by
  obtain ⟨h1, h2, h3, h4, h5⟩ := links_facts hv hml hmb
  unfold consP
  rw [decide_eq_true_eq, lengths_noNeg h3 (by decide : (0 : Int) ≤ 1073741823) h4 (facts_far h1)]
  constructor
  · exact pot_of_noNeg h3 (by decide) h4 (facts_far h1)
  · rintro ⟨f, hf⟩; exact NoNeg.of_pot hf
theorem cons_tim {r : Rec} (hv : r.V) {more : List Int} (hml : more.length ≤ 8) (hmb : ∀ a ∈ more, 0 ≤ a ∧ a ≤ 43200) : consP r more = true ↔ ∃ o ti te ts P, Tim r (marksR r more) o ti te ts P := by
  rw [cons_sat hv hml hmb]
  constructor
  · rintro ⟨f, hf⟩; exact ⟨_, _, _, _, _, tim_of hv hf⟩
  · rintro ⟨o, ti, te, ts, P, h⟩; exact ⟨_, sat_of hv h⟩
theorem marks_ends (r : Rec) (more : List Int) : r.s.zero.lo ∈ marksR r more ∧ r.s.zero.hi + 1 ∈ marksR r more ∧ r.s.fin.lo ∈ marksR r more ∧ r.s.fin.hi + 1 ∈ marksR r more ∧ ∀ x ∈ r.strikes, x.pos.lo ∈ marksR r more ∧ x.pos.hi + 1 ∈ marksR r more :=
  ⟨marksR_mem.2 (.inl (.inl rfl)), marksR_mem.2 (.inl (.inr (.inl rfl))), marksR_mem.2 (.inl (.inr (.inr (.inl rfl)))), marksR_mem.2 (.inl (.inr (.inr (.inr rfl)))), fun x hx => ⟨marksR_mem.2 (.inr (.inl ⟨x, hx, .inl rfl⟩)), marksR_mem.2 (.inr (.inl ⟨x, hx, .inr rfl⟩))⟩⟩
theorem cons_one {r : Rec} (hv : r.V) {p : Int} (hp : 0 ≤ p ∧ p ≤ 43200) : consP r [p] = consP r [] := by
  have hmb : ∀ a ∈ [p], 0 ≤ a ∧ a ≤ 43200 := fun a h => by rw [List.mem_singleton.1 h]; exact hp
  have a := cons_tim hv (more := [p]) (by simp) hmb
  have b := cons_tim hv (more := []) (by simp) nomore
  have hmem : ∀ q, q ∈ marksR r [p] ↔ q ∈ marksR r [] ∨ q = p := fun q => by
    rw [marksR_mem, marksR_mem]; simp only [List.mem_singleton, List.not_mem_nil, or_false]
    constructor
    · rintro (h | h | h)
      · exact .inl (.inl h)
      · exact .inl (.inr h)
      · exact .inr h
    · rintro ((h | h) | h)
      · exact .inl h
      · exact .inr (.inl h)
      · exact .inr (.inr h)
  have hiff : consP r [p] = true ↔ consP r [] = true := by
    rw [a, b]
    constructor
    · rintro ⟨o, ti, te, ts, P, h⟩
      exact ⟨o, ti, te, ts, P, h.less fun q hq => (hmem q).2 (.inl hq)⟩
    · rintro ⟨o, ti, te, ts, P, h⟩
      by_cases hpm : p ∈ marksR r []
      · exact ⟨o, ti, te, ts, P, h.less fun q hq => by rcases (hmem q).1 hq with h | rfl; exact h; exact hpm⟩
      · obtain ⟨m1, m2, m3, m4, m5⟩ := marks_ends r []
        obtain ⟨v, h'⟩ := h.more hv.r hpm (M' := marksR r [p]) (fun q hq => (hmem q).1 hq) m1 m2 m3 m4 m5
        exact ⟨o, ti, te, ts, _, h'⟩
  cases h1 : consP r [p] <;> cases h2 : consP r [] <;> simp_all
theorem tight_prog {r : Rec} (hv : r.V) {more : List Int} (hml : more.length ≤ 8) (hmb : ∀ a ∈ more, 0 ≤ a ∧ a ≤ 43200) :
    (∃ o, tightR r more = some o ∧ consP r more = true ∧ ∀ i k, i < (nodesR r more).length → spanF (nodesR r more) (linksR r more) i k = ⟨-((lengthsF (nodesR r more).length (linksR r more) (k : Int)).1.getD i 0), mget o i k⟩ ∧ (k < (nodesR r more).length → spanF (nodesR r more) (linksR r more) i k = ⟨-(mget o k i), mget o i k⟩)) ∨
    (tightR r more = none ∧ consP r more = false) := by
  obtain ⟨h1, h2, h3, h4, h5⟩ := links_facts hv hml hmb
  rcases both_ways h3 (by decide : (0 : Int) ≤ 1073741823) h4 (facts_far h1) with ⟨o, e1, e2, e3, e4⟩ | ⟨e1, e2⟩
  · refine .inl ⟨o, e1, by unfold consP; exact decide_eq_true e2, fun i k hi => ?_⟩
    have hik : spanF (nodesR r more) (linksR r more) i k = ⟨-((lengthsF (nodesR r more).length (linksR r more) (k : Int)).1.getD i 0), mget o i k⟩ := by
      unfold spanF mget
      rw [← e4 i hi]
    refine ⟨hik, fun hk => ?_⟩
    rw [hik, e4 k hk]; rfl
  · exact .inr ⟨e1, by unfold consP; exact decide_eq_false e2⟩
end Go.Proofs.Ks

namespace Go.Pg
open Go Go.RowKit
section
variable {C : Cx} {N : Nat} {Q : Exit → St → Prop} {s : St} {ops : Array Oper} {l : List Oper}
theorem AWL.frzM (id : Nat) {sh : KSh} {et : TypeId} {es : List (Key × AV)} (hH : s.H id = some (.mp (.map sh) et es)) (h : AWL C N ops Q l { s with H := updH s.H id (.mp (.fmap sh) et es) }) : AWL C N ops Q l s := by
  rintro S0 w0 a w hE ⟨σ, hσ⟩
  have hle := hσ.inv.le_frz [id]
  refine h S0 w0 a w hE ⟨σ.frz [id], hσ.inv.frzM hH, fun i hi => ?_, fun u => Rep.mono hle _ _ (hσ.tm u), hσ.N, hσ.d, hσ.below⟩
  have h0 := hσ.nx i hi
  show updH s.H id _ i = none
  simp only [updH]
  rw [if_neg (fun e => by subst e; rw [hH] at h0; cases h0)]; exact h0
theorem AWL.settle (id : Nat) (ids : List Nat) {r : Row} {es' : List (List AV)} (hr : rowAt s.H id = some r) (hrows : ∀ i ∈ ids, ∃ r, rowAt s.H i = some r) (hid : id ∉ ids) (hl : es'.length = r.es.length)
    (htold : ∀ (i : Nat) (e e' : List AV), r.es[i]? = some e → es'[i]? = some e' → e'.length = e.length ∧ ∀ (j : Nat) (a b : AV), e[j]? = some a → e'[j]? = some b → Told s.H a b ∧ ∀ x ∈ idsA a, x ∈ ids)
    (h : AWL C N ops Q l { s with H := updH (frz s.H ids) id (.row { r with es := es' }) }) : AWL C N ops Q l s := by
  rintro S0 w0 a w hE ⟨σ, hσ⟩
  have hH := rowAt_eq hr
  have hle := hσ.inv.le_frz ids
  have hinv := hσ.inv.frz hrows
  have hH' : frz s.H ids id = some (.row r) := by unfold frz; rw [if_neg hid]; exact hH
  have hR := hinv.row id r hH'
  have hR0 := hσ.inv.row id r hH
  have hinv2 := hinv.retell (es' := es') hH' hl (fun e' he' => by
    obtain ⟨i, hi, rfl⟩ := List.getElem_of_mem he'
    have hi2 : i < r.es.length := by omega
    obtain ⟨g1, g2⟩ := htold i r.es[i] es'[i] (List.getElem?_eq_getElem hi2) (List.getElem?_eq_getElem hi)
    obtain ⟨e1, e2⟩ := hR.each _ (List.getElem_mem hi2)
    refine ⟨g1.trans e1, fun d hd => ?_⟩
    obtain ⟨j, hj, rfl⟩ := List.getElem_of_mem hd
    have hj2 : j < r.es[i].length := by omega
    obtain ⟨t1, _⟩ := g2 j _ _ (List.getElem?_eq_getElem hj2) (List.getElem?_eq_getElem hj)
    have hcc := e2 _ (List.getElem_mem hj2)
    generalize es'[i][j] = d at t1
    generalize r.es[i][j] = c0 at t1 hcc
    cases t1 with
    | view hv => exact view_cell hv hcc
    | map hv hp => rfl) (fun b hb i hi => by
    have hi2 : i < r.es.length := by omega
    obtain ⟨g1, g2⟩ := htold i r.es[i] es'[i] (List.getElem?_eq_getElem hi2) (List.getElem?_eq_getElem hi)
    have hcon := hR0.con b hb i hi2
    rw [repL_iff] at hcon ⊢
    intro j hj
    have hj2 : j < r.es[i].length := by omega
    obtain ⟨u, hu, hru⟩ := hcon j hj2
    obtain ⟨t1, t2⟩ := g2 j _ _ (List.getElem?_eq_getElem hj2) (List.getElem?_eq_getElem hj)
    refine ⟨u, hu, ?_⟩
    generalize es'[i][j] = d at t1
    generalize r.es[i][j] = c0 at t1 t2 hru
    cases t1 with
    | view hv => exact Rep.lift (viewA_sound hσ.inv (S' := (σ.frz ids).S) (fun b h => .inl h) _ _ _ hv (fun x hx b hb => .inr ⟨x, t2 x hx, hb⟩) hru)
    | map hv hp => exact Rep.mono hle _ _ (hσ.inv.fmap_rep hv hp hru))
  refine h S0 w0 a w hE ⟨σ.frz ids, hinv2, fun i hi => ?_, fun u => Rep.mono hle _ _ (hσ.tm u), hσ.N, hσ.d, hσ.below⟩
  have h0 := hσ.nx i hi
  show updH (frz s.H ids) id _ i = none
  simp only [updH]
  rw [if_neg (fun e => by subst e; rw [hH] at h0; cases h0)]
  unfold frz
  split
  · rw [h0]
  · exact h0
end
end Go.Pg

namespace Go.Proofs.Ks
open Go Go.Pg Go.Proofs
theorem settleM {NN : Nat} {Q : Exit → St → Prop} {s : St} {ops : Array Oper} {l : List Oper} {g nd m lk : Nat} {N : List Node} {L : List Lk} (hM : SysM s.H g nd m lk N L) (d1 : g ≠ nd) (d2 : g ≠ m) (d3 : g ≠ lk) (d4 : nd ≠ m) (d5 : lk ≠ m)
    (h : ∀ H', Pg.rowAt H' g = some { k := 3, es := [[lNode N, .lmap .pair (N.map keyN) (idxV 0 N.length), lLink L]], ty := 135 } → (∀ j, j ≠ g → j ≠ nd → j ≠ lk → j ≠ m → H' j = s.H j) → AWL cx NN ops Q l { s with H := H' }) : AWL cx NN ops Q l s := by
  obtain ⟨m1, m2, m3, lw, m4, m5⟩ := hM
  have r1 : Pg.rowAt (updH s.H m (.mp (.fmap .pair) 0 (ixM N))) g = some { k := 3, es := [[.ref nd 0 N.length, .map m, .ref lk 0 L.length]], ty := 135 } := (rowAt_eqH (by simp only [updH]; rw [if_neg d2])).trans m1
  have r2 : Pg.rowAt (updH s.H m (.mp (.fmap .pair) 0 (ixM N))) nd = some { k := 2, es := N.map eNode, ty := 144, lo := N.length } := (rowAt_eqH (by simp only [updH]; rw [if_neg d4])).trans m2
  have r3 : Pg.rowAt (updH s.H m (.mp (.fmap .pair) 0 (ixM N))) lk = some { k := 3, es := L.map eLink, ty := 66, lo := lw } := (rowAt_eqH (by simp only [updH]; rw [if_neg d5])).trans m5
  refine AWL.frzM m m3 ?_
  refine AWL.settle g [nd, lk] (r := { k := 3, es := [[.ref nd 0 N.length, .map m, .ref lk 0 L.length]], ty := 135 }) (es' := [[lNode N, .lmap .pair (N.map keyN) (idxV 0 N.length), lLink L]]) r1 ?_ (by simp only [List.mem_cons, List.not_mem_nil, or_false, not_or]; exact ⟨d1, d3⟩) rfl ?_ (h _ ?_ ?_)
  · intro i hi
    simp only [List.mem_cons, List.not_mem_nil, or_false] at hi
    rcases hi with rfl | rfl
    · exact ⟨_, r2⟩
    · exact ⟨_, r3⟩
  · intro i e e' he he'
    match i, he, he' with
    | 0, he, he' =>
      simp only [List.getElem?_cons_zero, Option.some.injEq] at he he'
      subst he; subst he'
      refine ⟨rfl, fun j a b ha hb => ?_⟩
      match j, ha, hb with
      | 0, ha, hb =>
        simp only [List.getElem?_cons_zero, Option.some.injEq] at ha hb
        subst ha; subst hb
        exact ⟨.view (view_list eNode (pure_all eNode (fun _ => rfl) N) (Nat.le_refl _) (k := 2) (ty := 144) r2), by simp [idsA]⟩
      | 1, ha, hb =>
        simp only [List.getElem?_cons_zero, List.getElem?_cons_succ, Option.some.injEq] at ha hb
        subst ha; subst hb
        have hz : (ixM N).map (·.1) = N.map keyN ∧ (ixM N).map (·.2) = idxV 0 N.length := by
          unfold ixM
          constructor
          · rw [List.map_fst_zip]; simp [idxV]
          · rw [List.map_snd_zip]; simp [idxV]
        have hq := Told.map (H := updH s.H m (.mp (.fmap .pair) 0 (ixM N))) (id := m) (sh := .pair) (et := 0) (es := ixM N) (by simp [updH]) (by
          rw [hz.2]; unfold idxV
          generalize List.range' 0 N.length = q
          induction q with
          | nil => rfl
          | cons a q ih => simp only [List.map_cons, pureL, pureA, ih, Bool.true_and])
        rw [hz.1, hz.2] at hq
        exact ⟨hq, by simp [idsA]⟩
      | 2, ha, hb =>
        simp only [List.getElem?_cons_zero, List.getElem?_cons_succ, Option.some.injEq] at ha hb
        subst ha; subst hb
        exact ⟨.view (view_list eLink (pure_all eLink (fun _ => rfl) L) m4 (k := 3) (ty := 66) r3), by simp [idsA]⟩
      | j + 3, ha, _ => simp at ha
    | i + 1, he, _ => simp at he
  · unfold Pg.rowAt; simp only [updH, if_true]
  · intro j hj1 hj2 hj3 hj4
    show updH (frz (updH s.H m (.mp (.fmap .pair) 0 (ixM N))) [nd, lk]) g _ j = _
    simp only [updH, frz]
    rw [if_neg hj1, if_neg (by simp only [List.mem_cons, List.not_mem_nil, or_false, not_or]; exact ⟨hj2, hj3⟩), if_neg hj4]
end Go.Proofs.Ks
