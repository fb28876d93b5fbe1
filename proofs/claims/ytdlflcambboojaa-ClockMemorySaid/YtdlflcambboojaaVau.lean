/-
  Contracts of functions, proved by going through their code. No conditions.
-/
import Derived.Lib.SlicesCompact
import Derived.Test.YtdlflcambboojaaVaa
import Derived.Test.YtdlflcambboojaaVao
import Derived.Test.YtdlflcambboojaaVas
import Derived.Test.YtdlflcambboojaaVat
set_option linter.unusedVariables false
set_option linter.unusedSimpArgs false
namespace Go.Proofs.Ks
open Go Go.Proofs
theorem take_snoc {α : Type} {l : List α} {k : Nat} {x : α} {rest : List α} (h : l.drop k = x :: rest) : l.take (k + 1) = l.take k ++ [x] := by
  have h0 : l[k]? = some x := by
    have := congrArg (fun m => m[0]?) h
    simpa using this
  rw [List.take_add_one, h0]; rfl
theorem sorted_ext : ∀ {a b : List Int}, a.Pairwise (· < ·) → b.Pairwise (· < ·) → (∀ x, x ∈ a ↔ x ∈ b) → a = b
  | [], [], _, _, _ => rfl
  | [], y :: b, _, _, h => absurd ((h y).2 (by simp)) (by simp)
  | x :: a, [], _, _, h => absurd ((h x).1 (by simp)) (by simp)
  | x :: a, y :: b, ha, hb, h => by
    rw [List.pairwise_cons] at ha hb
    have hxy : x = y := by
      have h1 := (h x).1 (by simp)
      have h2 := (h y).2 (by simp)
      rw [List.mem_cons] at h1 h2
      rcases h1 with h1 | h1
      · exact h1
      · rcases h2 with h2 | h2
        · exact h2.symm
        · have := hb.1 x h1; have := ha.1 y h2; omega
    subst hxy
    rw [sorted_ext ha.2 hb.2 fun z => ?_]
    have hz := h z
    rw [List.mem_cons, List.mem_cons] at hz
    constructor
    · intro hm
      rcases hz.1 (.inr hm) with e | e
      · have := ha.1 z hm; omega
      · exact e
    · intro hm
      rcases hz.2 (.inr hm) with e | e
      · have := hb.1 z hm; omega
      · exact e
theorem get_b (l : List Int) (i : Nat) (h : i < l.length) : l.toArray[i]! = l[i] := by
  rw [getElem!_pos _ i (by simpa using h)]; simp
theorem compact_mem {l : List Int} {a : Int} : a ∈ Lib.compact l ↔ a ∈ l := by
  unfold Lib.compact Lib.compactUpTo
  simp only [List.mem_map, List.mem_filter, List.mem_range]
  constructor
  · rintro ⟨i, ⟨hi, _⟩, rfl⟩
    rw [get_b l i hi]; exact List.getElem_mem hi
  · intro h
    obtain ⟨i, hi, rfl⟩ := List.getElem_of_mem h
    have key : ∀ (n i : Nat), i < n → (hi : i < l.length) → ∃ j, (j < l.length ∧ Lib.keeps l.toArray j = true) ∧ l.toArray[j]! = l[i] := by
      intro n
      induction n with
      | zero => intro i h; omega
      | succ n ih =>
        intro i hn hi
        by_cases hk : Lib.keeps l.toArray i = true
        · exact ⟨i, ⟨hi, hk⟩, get_b l i hi⟩
        · simp only [Lib.keeps, decide_eq_true_eq, not_or, ne_eq, Decidable.not_not] at hk
          obtain ⟨j, h1, h2⟩ := ih (i - 1) (by omega) (by omega)
          refine ⟨j, h1, h2.trans ?_⟩
          have := hk.2
          rw [get_b l i hi, get_b l (i - 1) (by omega)] at this
          exact this.symm
    exact key (i + 1) i (by omega) hi
theorem compact_sorted {l : List Int} (h : l.Pairwise (· ≤ ·)) : (Lib.compact l).Pairwise (· < ·) := by
  unfold Lib.compact Lib.compactUpTo
  rw [List.pairwise_map]
  have h0 : ((List.range l.length).filter (Lib.keeps l.toArray)).Pairwise (· < ·) := List.Pairwise.filter _ List.pairwise_lt_range
  refine List.Pairwise.imp_of_mem (fun {i j} hi hj hij => ?_) h0
  simp only [List.mem_filter, List.mem_range] at hi hj
  obtain ⟨hj, hk⟩ := hj
  simp only [Lib.keeps, decide_eq_true_eq] at hk
  have hk' := hk.resolve_left (by omega)
  rw [get_b l j hj, get_b l (j - 1) (by omega)] at hk'
  rw [get_b l i hi.1, get_b l j hj]
  have h1 : l[j - 1]'(by omega) ≤ l[j] := List.pairwise_iff_getElem.1 h (j - 1) j (by omega) hj (by omega)
  have h2 : l[i]'(hi.1) ≤ l[j - 1]'(by omega) := by
    by_cases e : i = j - 1
    · subst e; exact Int.le_refl _
    · exact List.pairwise_iff_getElem.1 h i (j - 1) hi.1 (by omega) (by omega)
  omega
theorem sort_sorted (l : List Int) : (l.mergeSort fun x y => decide (x ≤ y)).Pairwise (· ≤ ·) := by
  have h := List.pairwise_mergeSort (le := fun (x y : Int) => decide (x ≤ y)) (fun a b c h1 h2 => by simp only [decide_eq_true_eq] at *; omega) (fun a b => by simp only [Bool.or_eq_true, decide_eq_true_eq]; omega) l
  exact h.imp fun h => by simpa using h
theorem cut_eq {l m : List Int} (hm : m.Pairwise (· < ·)) (h : ∀ a, a ∈ m ↔ a ∈ l) : Lib.compact (l.mergeSort fun x y => decide (x ≤ y)) = m :=
  sorted_ext (compact_sorted (sort_sorted l)) hm fun x => by rw [compact_mem, List.mem_mergeSort, h]
def markL (r : Rec) (more : List Int) : List Int := [r.s.zero.lo, r.s.zero.hi + 1, r.s.fin.lo, r.s.fin.hi + 1] ++ (more ++ r.strikes.flatMap fun x => [x.pos.lo, x.pos.hi + 1])
theorem markL_cut (r : Rec) (more : List Int) : Lib.compact ((markL r more).mergeSort fun x y => decide (x ≤ y)) = marksR r more :=
  cut_eq (marksR_sorted r more) fun a => by
    rw [marksR_mem]
    unfold markL
    simp only [List.mem_append, List.mem_cons, List.not_mem_nil, or_false, List.mem_flatMap]
    constructor
    · rintro (h | ⟨x, hx, h⟩ | h)
      · exact .inl h
      · exact .inr (.inr ⟨x, hx, h⟩)
      · exact .inr (.inl h)
    · rintro (h | h | ⟨x, hx, h⟩)
      · exact .inl h
      · exact .inr (.inr h)
      · exact .inr (.inl ⟨x, hx, h⟩)
end Go.Proofs.Ks

namespace Go.Proofs.Ks
open Go Go.Pg Go.Proofs
theorem node_strike {r : Rec} {more : List Int} {i : Nat} (h : i < r.strikes.length) : (nodesR r more).getD (3 + i) default = ⟨3, (i : Int)⟩ := by
  unfold nodesR
  rw [List.getD_eq_getElem?_getD, List.append_assoc, List.getElem?_append_right (by rw [nd0_len]; omega), nd0_len, show 3 + i - 3 = i by omega, List.getElem?_append_left (by rw [ndS_len]; exact h)]
  unfold ndS
  rw [List.getElem?_map, List.getElem?_range h]; rfl
theorem nd0_at {r : Rec} {more : List Int} {j : Nat} (h : j < 3) : (nodesR r more).getD j default = ⟨(j : Int), 0⟩ := by
  unfold nodesR
  rw [List.getD_eq_getElem?_getD, List.append_assoc, List.getElem?_append_left (by rw [nd0_len]; exact h)]
  match j, h with
  | 0, _ => rfl
  | 1, _ => rfl
  | 2, _ => rfl
theorem atP_strike {r : Rec} {more : List Int} {i : Nat} (h : i < r.strikes.length) : atP 3 i (nodesR r more) = 3 + (i : Int) := by
  have key : atI 3 i 0 (nodesR r more) = 3 + (i : Int) := by
    rcases atI_case 3 i (nodesR r more) 0 with ⟨_, h2⟩ | ⟨j, h1, h2, h3⟩
    · exfalso
      refine h2 ⟨3, i⟩ ?_ ⟨rfl, rfl⟩
      unfold nodesR ndS
      exact List.mem_append_left _ (List.mem_append_right _ (List.mem_map.2 ⟨i, List.mem_range.2 h, rfl⟩))
    · have hl := nodesR_len r more
      rcases Nat.lt_or_ge j 3 with h4 | h4
      · rw [nd0_at h4] at h3
        injection h3 with h5 h6; omega
      · rcases Nat.lt_or_ge j (3 + r.strikes.length) with h5 | h5
        · have := node_strike (r := r) (more := more) (i := j - 3) (by omega)
          rw [show 3 + (j - 3) = j by omega, h3] at this
          injection this with _ h6
          rw [h2]; omega
        · have := node_mark (r := r) (more := more) (j := j - (3 + r.strikes.length)) (by omega)
          rw [show 3 + r.strikes.length + (j - (3 + r.strikes.length)) = j by omega, h3] at this
          injection this with h6 _
          exact absurd h6 (by decide)
  unfold atP; rw [key, if_neg (by omega)]
theorem atP_in (r : Rec) (more : List Int) : atP 1 0 (nodesR r more) = 1 := rfl
theorem atP_out (r : Rec) (more : List Int) : atP 2 0 (nodesR r more) = 2 := rfl
theorem atP_mark {r : Rec} {more : List Int} {p : Int} (h : p ∈ marksR r more) : atP 4 p (nodesR r more) = atI 4 p 0 (nodesR r more) := by
  unfold atP; rw [if_neg (by have := (at_mark h).1; omega)]
theorem getD_inj {l : List Int} (h : l.Pairwise (· < ·)) {i j : Nat} (hi : i < l.length) (hj : j < l.length) (e : l.getD i 0 = l.getD j 0) : i = j := by
  rw [List.getD_eq_getElem?_getD, List.getD_eq_getElem?_getD, List.getElem?_eq_getElem hi, List.getElem?_eq_getElem hj] at e
  simp only [Option.getD_some] at e
  rcases Nat.lt_trichotomy i j with h1 | h1 | h1
  · have := List.pairwise_iff_getElem.1 h i j hi hj h1; omega
  · exact h1
  · have := List.pairwise_iff_getElem.1 h j i hj hi h1; omega
theorem at_mark_ix {r : Rec} {more : List Int} {j : Nat} {x : Int} (h : j < (marksR r more).length) (hx : (marksR r more).getD j 0 = x) : atP 4 x (nodesR r more) = 3 + (r.strikes.length : Int) + (j : Int) := by
  have hm : x ∈ marksR r more := by
    rw [← hx, List.getD_eq_getElem?_getD, List.getElem?_eq_getElem h]; exact List.getElem_mem h
  rw [atP_mark hm]
  obtain ⟨g1, g2⟩ := at_mark_ge hm
  rcases atI_case 4 x (nodesR r more) 0 with ⟨h1, _⟩ | ⟨i, h1, h2, h3⟩
  · rw [h1] at g1; omega
  · rw [h2] at g1 g2 ⊢
    have hl := nodesR_len r more
    have h4 := node_mark (r := r) (more := more) (j := i - (3 + r.strikes.length)) (by omega)
    rw [show 3 + r.strikes.length + (i - (3 + r.strikes.length)) = i by omega, h3] at h4
    injection h4 with _ h5
    have := getD_inj (marksR_sorted r more) h (by omega) (hx.trans h5)
    omega
def rwI (k : Nat) : List Int := 1 :: (List.range k).map fun (i : Nat) => 3 + (i : Int)
theorem rwI_succ (k : Nat) : rwI (k + 1) = rwI k ++ [3 + (k : Int)] := by unfold rwI; rw [List.range_succ, List.map_append]; rfl
theorem rwI_len (k : Nat) : (rwI k).length = k + 1 := by simp [rwI]
def idM : Nat → List Strike → List (Key × AV)
  | _, [] => []
  | i, x :: l => (.int x.id, ai (3 + (i : Int))) :: idM (i + 1) l
theorem idM_snoc (x : Strike) : ∀ (l : List Strike) (i : Nat), idM i (l ++ [x]) = idM i l ++ [(.int x.id, ai (3 + ((i + l.length : Nat) : Int)))]
  | [], i => rfl
  | y :: l, i => by
    simp only [yB, idM, idM_snoc x l (i + 1), zD]
    rw [show i + 1 + l.length = i + (l.length + 1) by omega]
theorem putM_id (x : Int) (v : AV) : ∀ (l : List Strike) (i : Nat), ¬ x ∈ l.map (·.id) → putM (.int x) v (idM i l) = idM i l ++ [(.int x, v)]
  | [], _, _ => rfl
  | y :: l, i, h => by
    simp only [zX, zI, not_or] at h
    have hs : Key.same (.int x) (.int y.id) = false := by simp [Key.same, h.1]
    simp only [idM, putM, hs, zM, if_false, putM_id x v l (i + 1) h.2, yB]
theorem find_id (x : Int) : ∀ (l : List Strike) (i : Nat), x ∈ l.map (·.id) → findM (.int x) (idM i l) = some (ai (3 + strikeI x i l))
  | [], _, h => by simp at h
  | y :: l, i, h => by
    simp only [idM, findM]
    by_cases hxy : x = y.id
    · have hs : Key.same (.int x) (.int y.id) = true := by simp [Key.same, hxy]
      simp only [hs, if_true]
      unfold strikeI; rw [if_pos hxy.symm]
    · have hs : Key.same (.int x) (.int y.id) = false := by simp [Key.same, hxy]
      simp only [zX, zI] at h
      simp only [hs, zM, if_false]
      rw [find_id x l (i + 1) (h.resolve_left hxy)]
      rw [strikeI, if_neg (fun e => hxy e.symm)]
theorem new_id {r : Rec} (hv : r.V) {k : Nat} {x : Strike} {rest : List Strike} (h : r.strikes.drop k = x :: rest) : ¬ x.id ∈ (r.strikes.take k).map (·.id) := by
  have hd := hv.ids
  rw [← List.take_append_drop k r.strikes, h, List.map_append, List.nodup_append] at hd
  intro hm
  exact hd.2.2 _ hm x.id (by simp) rfl
theorem putM_step {r : Rec} (hv : r.V) {k : Nat} {x : Strike} {rest : List Strike} (h : r.strikes.drop k = x :: rest) : putM (.int x.id) (ai (3 + (k : Int))) (idM 0 (r.strikes.take k)) = idM 0 (r.strikes.take (k + 1)) := by
  have hk : k < r.strikes.length := by
    rcases Nat.lt_or_ge k r.strikes.length with h' | h'
    · exact h'
    · rw [List.drop_eq_nil_of_le h'] at h; cases h
  rw [putM_id _ _ _ _ (new_id hv h), take_snoc h, idM_snoc, List.length_take, Nat.min_eq_left (by omega), Nat.zero_add]
def linksN (nd : List Node) : List Int → List Span → List Lk
  | a :: l, x :: m => needleL nd a.toNat x ++ linksN nd l m
  | _, _ => []
def rowT (S : Nat) : List Int := rwI S ++ [2]
def spanT (r : Rec) : List Span := r.s.zero :: (r.strikes.map (·.pos) ++ [r.s.fin])
theorem linksN_strikes (nd : List Node) (fin : Span) : ∀ (l : List Strike) (i : Nat), linksN nd ((List.range' i l.length).map (fun (j : Nat) => 3 + (j : Int)) ++ [2]) (l.map (·.pos) ++ [fin]) = ndL nd i l ++ needleL nd 2 fin
  | [], i => by simp [linksN, ndL]
  | x :: l, i => by
    simp only [zD, List.range'_succ, zX, yB, linksN, ndL, List.append_assoc]
    rw [linksN_strikes nd fin l (i + 1)]
    rw [show (3 + (i : Int)).toNat = 3 + i by omega]
theorem linksN_all (nd : List Node) (r : Rec) : linksN nd (rowT r.strikes.length) (spanT r) = needleL nd 1 r.s.zero ++ (ndL nd 0 r.strikes ++ needleL nd 2 r.s.fin) := by
  unfold rowT spanT rwI
  rw [List.cons_append, linksN, List.range_eq_range', linksN_strikes]
  rfl
theorem rowT_len (S : Nat) : (rowT S).length = S + 2 := by simp [rowT, rwI_len]
theorem spanT_len (r : Rec) : (spanT r).length = r.strikes.length + 2 := by simp [spanT]
theorem rowT_at (S k : Nat) (h : k < S + 2) : (rowT S).getD k 0 = if k = 0 then 1 else if k ≤ S then 2 + (k : Int) else 2 := by
  unfold rowT rwI
  rw [List.getD_eq_getElem?_getD]
  rcases k with _ | k
  · rfl
  · rw [if_neg (by omega), List.cons_append, List.getElem?_cons_succ]
    by_cases hk : k + 1 ≤ S
    · rw [if_pos hk, List.getElem?_append_left (by simp; omega), List.getElem?_map, List.getElem?_range (by omega)]
      simp; omega
    · rw [if_neg hk, List.getElem?_append_right (by simp; omega)]
      simp only [zF, List.length_range]
      rw [show k - S = 0 by omega]; rfl
theorem rowT_nonneg {S : Nat} (a : Int) (h : a ∈ rowT S) : 0 ≤ a := by
  unfold rowT rwI at h
  simp only [yB, zI, List.mem_append, List.mem_map, List.mem_range, zG, or_false] at h
  rcases h with rfl | ⟨i, _, rfl⟩ | rfl <;> omega
theorem rowK_at {S k : Nat} (h : k ≤ S) : (rowT S).getD (k + 1) 0 = ((rowK S k).a : Int) ∧ (rowT S).getD k 0 = ((rowK S k).b : Int) ∧ (rowK S k).m = 0 := by
  refine ⟨?_, ?_, rfl⟩
  · rw [rowT_at S (k + 1) (by omega), if_neg (by omega)]
    unfold rowK; dsimp only
    by_cases hk : k < S
    · rw [if_pos (by omega), if_pos hk]; omega
    · rw [if_neg (by omega), if_neg hk]; rfl
  · rw [rowT_at S k (by omega)]
    unfold rowK; dsimp only
    by_cases hk : k = 0
    · rw [if_pos hk, if_neg (by omega)]; rfl
    · rw [if_neg hk, if_pos h, if_pos (by omega)]; omega
def linksA (r : Rec) (nd : List Node) : List Lk := bothL 1 r.s.inn ++ (bothL 2 r.s.out ++ (sgL r r.sights ++ (rwL r.strikes.length (r.strikes.length + 1) 0 ++ linksN nd (rowT r.strikes.length) (spanT r))))
theorem linksR_eq (r : Rec) (more : List Int) : linksR r more = linksA r (nodesR r more) ++ pairsL r.s (3 + r.strikes.length) (marksR r more) := by
  unfold linksR linksA
  rw [linksN_all]
  simp only [List.append_assoc]
theorem mem_spanT {r : Rec} {more : List Int} (hv : r.V) {x : Span} (h : x ∈ spanT r) : x.lo ∈ marksR r more ∧ x.hi + 1 ∈ marksR r more ∧ 0 ≤ x.lo ∧ x.lo ≤ x.hi ∧ x.hi ≤ 43199 := by
  have hz := hv.z
  have hf := hv.f
  have hzf := hv.zf
  unfold spanT at h
  rw [List.mem_cons, List.mem_append, List.mem_singleton] at h
  rcases h with rfl | h | rfl
  · exact ⟨marksR_mem.2 (.inl (.inl rfl)), marksR_mem.2 (.inl (.inr (.inl rfl))), by omega, by omega, by omega⟩
  · obtain ⟨y, hy, rfl⟩ := List.mem_map.1 h
    have := hv.strikes y hy
    exact ⟨marksR_mem.2 (.inr (.inl ⟨y, hy, .inl rfl⟩)), marksR_mem.2 (.inr (.inl ⟨y, hy, .inr rfl⟩)), by omega, by omega, by omega⟩
  · exact ⟨marksR_mem.2 (.inl (.inr (.inr (.inl rfl)))), marksR_mem.2 (.inl (.inr (.inr (.inr rfl)))), by omega, by omega, by omega⟩
theorem vD : (∀ k, (rwI k).length = k + 1) ∧ (∀ S, (rowT S).length = S + 2) ∧ (∀ r, (spanT r).length = r.strikes.length + 2) ∧ (∀ n x, (bothL n x).length = 2) := ⟨rwI_len, rowT_len, spanT_len, bothL_len⟩
end Go.Proofs.Ks

set_option maxHeartbeats 8000000
set_option maxRecDepth 10000
namespace Go.Proofs.Ks
open Go Go.Pg Go.Proofs
structure Yl (l n0 rb gb pb g m : Nat) (r : Rec) (pl : List Int) (N : List Node) (J : List Lk → (Nat → Option AO) → Prop) : Prop where
  frame : ∀ p H id o, J p H → n0 ≤ id → J p (updH H id o)
  sys : ∀ p H, J p H → SysY H rb gb pb g m r pl N
  y : ∀ p H nx (x : Lk), J p H → n0 ≤ nx → p.length < 20000 → YOK cx l [.agg (eLink x)] H nx (fun b H' nx' => b = true ∧ J (p ++ [x]) H' ∧ nx ≤ nx' ∧ ∀ id, n0 ≤ id → id < nx → H' id = H id)
def dropS : Nat → Code → Code
  | n + 1, .seq _ b => dropS n b
  | _, c => c
def T1_ (r : Rec) (nd : List Node) : List Lk := rwL r.strikes.length (r.strikes.length + 1) 0 ++ linksN nd (rowT r.strikes.length) (spanT r)
noncomputable def tail121 : Code := dropS 14 (Try.f121.body.getD .skip)
structure MidA (l n0 gb pb nx : Nat) (r : Rec) (nd : List Node) (J : List Lk → (Nat → Option AO) → Prop) (s : St) : Prop where
  t0 : s.tm 0 = .v (.func (.yield l) #[] #[])
  t2 : s.tm 2 = .ptr gb 0 0 1
  t3 : s.tm 3 = .ptr pb 0 0 1
  t5 : s.tm 5 = .ptr nx 0 0 1
  t8 : s.tm 8 = .ptr (nx + 1) 0 0 1
  S : Pg.rowAt s.H nx = some { k := 12, es := [eSession r.s], ty := 26 }
  lb : Pg.rowAt s.H (nx + 1) = some { k := 1, es := [[.ref (nx + 4) 0 (linksA r nd).length]], ty := 62 }
  lo : ∃ lw, lw ≤ (linksA r nd).length ∧ Pg.rowAt s.H (nx + 4) = some { k := 3, es := (linksA r nd).map eLink, ty := 66, lo := lw }
  j : J [] s.H
  n : nx + 10 ≤ s.nx
end Go.Proofs.Ks
