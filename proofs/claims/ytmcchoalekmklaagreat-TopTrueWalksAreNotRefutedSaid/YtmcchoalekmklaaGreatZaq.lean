/-
  Contracts of functions, proved by going through their code. No conditions.
-/
import Derived.Test.YtmcchoalekmklaaGreatZap
set_option linter.unusedVariables false
set_option linter.unusedSimpArgs false
namespace Go.Proofs.Ks
open Go Go.Pg Go.Proofs Go.Proofs.Yt
theorem node_strike {r : Rec} {more : List Int} {i : Nat} (h : i < r.strikes.length) : (nodesR r more).getD (3 + i) default = ⟨3, (i : Int)⟩ := by
  unfold nodesR
  rw [List.getD_eq_getElem?_getD, List.append_assoc, List.getElem?_append_right (by rw [nd0_len]; omega), nd0_len, show 3 + i - 3 = i by omega, List.getElem?_append_left (by rw [ndS_len]; exact h)]
  unfold ndS
  rw [List.getElem?_map, List.getElem?_range h]; rfl
theorem nd0_at {r : Rec} {more : List Int} {j : Nat} (h : j < 3) : (nodesR r more).getD j default = ⟨(j : Int), 0⟩ := by
  unfold nodesR
  rw [List.getD_eq_getElem?_getD, List.append_assoc, List.getElem?_append_left (by rw [nd0_len]; exact h)]
  match j, h with
  | 0, _ => rfl
  | 1, _ => rfl
  | 2, _ => rfl
theorem atP_strike {r : Rec} {more : List Int} {i : Nat} (h : i < r.strikes.length) : atP 3 i (nodesR r more) = 3 + (i : Int) := by
  have key : atI 3 i 0 (nodesR r more) = 3 + (i : Int) := by
    rcases atI_case 3 i (nodesR r more) 0 with ⟨_, h2⟩ | ⟨j, h1, h2, h3⟩
    · exfalso
      refine h2 ⟨3, i⟩ ?_ ⟨rfl, rfl⟩
      unfold nodesR ndS
      exact List.mem_append_left _ (List.mem_append_right _ (List.mem_map.2 ⟨i, List.mem_range.2 h, rfl⟩))
    · have hl := nodesR_len r more
      rcases Nat.lt_or_ge j 3 with h4 | h4
      · rw [nd0_at h4] at h3
        injection h3 with h5 h6; omega
      · rcases Nat.lt_or_ge j (3 + r.strikes.length) with h5 | h5
        · have := node_strike (r := r) (more := more) (i := j - 3) (by omega)
          rw [show 3 + (j - 3) = j by omega, h3] at this
          injection this with _ h6
          rw [h2]; omega
        · have := node_mark (r := r) (more := more) (j := j - (3 + r.strikes.length)) (by omega)
          rw [show 3 + r.strikes.length + (j - (3 + r.strikes.length)) = j by omega, h3] at this
          injection this with h6 _
          exact absurd h6 (by decide)
  unfold atP; rw [key, if_neg (by omega)]
theorem atP_in (r : Rec) (more : List Int) : atP 1 0 (nodesR r more) = 1 := rfl
theorem atP_out (r : Rec) (more : List Int) : atP 2 0 (nodesR r more) = 2 := rfl
theorem atP_mark {r : Rec} {more : List Int} {p : Int} (h : p ∈ marksR r more) : atP 4 p (nodesR r more) = atI 4 p 0 (nodesR r more) := by
  unfold atP; rw [if_neg (by have := (at_mark h).1; omega)]
theorem getD_inj {l : List Int} (h : l.Pairwise (· < ·)) {i j : Nat} (hi : i < l.length) (hj : j < l.length) (e : l.getD i 0 = l.getD j 0) : i = j := by
  rw [List.getD_eq_getElem?_getD, List.getD_eq_getElem?_getD, List.getElem?_eq_getElem hi, List.getElem?_eq_getElem hj] at e
  simp only [Option.getD_some] at e
  rcases Nat.lt_trichotomy i j with h1 | h1 | h1
  · have := List.pairwise_iff_getElem.1 h i j hi hj h1; omega
  · exact h1
  · have := List.pairwise_iff_getElem.1 h j i hj hi h1; omega
theorem at_mark_ix {r : Rec} {more : List Int} {j : Nat} {x : Int} (h : j < (marksR r more).length) (hx : (marksR r more).getD j 0 = x) : atP 4 x (nodesR r more) = 3 + (r.strikes.length : Int) + (j : Int) := by
  have hm : x ∈ marksR r more := by
    rw [← hx, List.getD_eq_getElem?_getD, List.getElem?_eq_getElem h]; exact List.getElem_mem h
  rw [atP_mark hm]
  obtain ⟨g1, g2⟩ := at_mark_ge hm
  rcases atI_case 4 x (nodesR r more) 0 with ⟨h1, _⟩ | ⟨i, h1, h2, h3⟩
  · rw [h1] at g1; omega
  · rw [h2] at g1 g2 ⊢
    have hl := nodesR_len r more
    have h4 := node_mark (r := r) (more := more) (j := i - (3 + r.strikes.length)) (by omega)
    rw [show 3 + r.strikes.length + (i - (3 + r.strikes.length)) = i by omega, h3] at h4
    injection h4 with _ h5
    have := getD_inj (marksR_sorted r more) h (by omega) (hx.trans h5)
    omega
def rwI (k : Nat) : List Int := 1 :: (List.range k).map fun (i : Nat) => 3 + (i : Int)
theorem rwI_succ (k : Nat) : rwI (k + 1) = rwI k ++ [3 + (k : Int)] := by unfold rwI; rw [List.range_succ, List.map_append]; rfl
theorem rwI_len (k : Nat) : (rwI k).length = k + 1 := by simp [rwI]
def idM : Nat → List Strike → List (Key × AV)
  | _, [] => []
  | i, x :: l => (.int x.id, ai (3 + (i : Int))) :: idM (i + 1) l
theorem idM_snoc (x : Strike) : ∀ (l : List Strike) (i : Nat), idM i (l ++ [x]) = idM i l ++ [(.int x.id, ai (3 + ((i + l.length : Nat) : Int)))]
  | [], i => rfl
  | y :: l, i => by
    simp only [List.cons_append, idM, idM_snoc x l (i + 1), List.length_cons]
    rw [show i + 1 + l.length = i + (l.length + 1) by omega]
theorem putM_id (x : Int) (v : AV) : ∀ (l : List Strike) (i : Nat), ¬ x ∈ l.map (·.id) → putM (.int x) v (idM i l) = idM i l ++ [(.int x, v)]
  | [], _, _ => rfl
  | y :: l, i, h => by
    simp only [List.map_cons, List.mem_cons, not_or] at h
    have hs : Key.same (.int x) (.int y.id) = false := by simp [Key.same, h.1]
    simp only [idM, putM, hs, Bool.false_eq_true, if_false, putM_id x v l (i + 1) h.2, List.cons_append]
theorem find_id (x : Int) : ∀ (l : List Strike) (i : Nat), x ∈ l.map (·.id) → findM (.int x) (idM i l) = some (ai (3 + strikeI x i l))
  | [], _, h => by simp at h
  | y :: l, i, h => by
    simp only [idM, findM]
    by_cases hxy : x = y.id
    · have hs : Key.same (.int x) (.int y.id) = true := by simp [Key.same, hxy]
      simp only [hs, if_true]
      unfold strikeI; rw [if_pos hxy.symm]
    · have hs : Key.same (.int x) (.int y.id) = false := by simp [Key.same, hxy]
      simp only [List.map_cons, List.mem_cons] at h
      simp only [hs, Bool.false_eq_true, if_false]
      rw [find_id x l (i + 1) (h.resolve_left hxy)]
      rw [strikeI, if_neg (fun e => hxy e.symm)]
theorem new_id {r : Rec} (hv : r.V) {k : Nat} {x : Strike} {rest : List Strike} (h : r.strikes.drop k = x :: rest) : ¬ x.id ∈ (r.strikes.take k).map (·.id) := by
  have hd := hv.ids
  rw [← List.take_append_drop k r.strikes, h, List.map_append, List.nodup_append] at hd
  intro hm
  exact hd.2.2 _ hm x.id (by simp) rfl
theorem putM_step {r : Rec} (hv : r.V) {k : Nat} {x : Strike} {rest : List Strike} (h : r.strikes.drop k = x :: rest) : putM (.int x.id) (ai (3 + (k : Int))) (idM 0 (r.strikes.take k)) = idM 0 (r.strikes.take (k + 1)) := by
  have hk : k < r.strikes.length := by
    rcases Nat.lt_or_ge k r.strikes.length with h' | h'
    · exact h'
    · rw [List.drop_eq_nil_of_le h'] at h; cases h
  rw [putM_id _ _ _ _ (new_id hv h), take_snoc h, idM_snoc, List.length_take, Nat.min_eq_left (by omega), Nat.zero_add]
def linksN (nd : List Node) : List Int → List Span → List Lk
  | a :: l, x :: m => needleL nd a.toNat x ++ linksN nd l m
  | _, _ => []
def rowT (S : Nat) : List Int := rwI S ++ [2]
def spanT (r : Rec) : List Span := r.s.zero :: (r.strikes.map (·.pos) ++ [r.s.fin])
theorem linksN_strikes (nd : List Node) (fin : Span) : ∀ (l : List Strike) (i : Nat), linksN nd ((List.range' i l.length).map (fun (j : Nat) => 3 + (j : Int)) ++ [2]) (l.map (·.pos) ++ [fin]) = ndL nd i l ++ needleL nd 2 fin
  | [], i => by simp [linksN, ndL]
  | x :: l, i => by
    simp only [List.length_cons, List.range'_succ, List.map_cons, List.cons_append, linksN, ndL, List.append_assoc]
    rw [linksN_strikes nd fin l (i + 1)]
    rw [show (3 + (i : Int)).toNat = 3 + i by omega]
theorem linksN_all (nd : List Node) (r : Rec) : linksN nd (rowT r.strikes.length) (spanT r) = needleL nd 1 r.s.zero ++ (ndL nd 0 r.strikes ++ needleL nd 2 r.s.fin) := by
  unfold rowT spanT rwI
  rw [List.cons_append, linksN, List.range_eq_range', linksN_strikes]
  rfl
theorem rowT_len (S : Nat) : (rowT S).length = S + 2 := by simp [rowT, rwI_len]
theorem spanT_len (r : Rec) : (spanT r).length = r.strikes.length + 2 := by simp [spanT]
theorem rowT_at (S k : Nat) (h : k < S + 2) : (rowT S).getD k 0 = if k = 0 then 1 else if k ≤ S then 2 + (k : Int) else 2 := by
  unfold rowT rwI
  rw [List.getD_eq_getElem?_getD]
  rcases k with _ | k
  · rfl
  · rw [if_neg (by omega), List.cons_append, List.getElem?_cons_succ]
    by_cases hk : k + 1 ≤ S
    · rw [if_pos hk, List.getElem?_append_left (by simp; omega), List.getElem?_map, List.getElem?_range (by omega)]
      simp; omega
    · rw [if_neg hk, List.getElem?_append_right (by simp; omega)]
      simp only [List.length_map, List.length_range]
      rw [show k - S = 0 by omega]; rfl
theorem rowT_nonneg {S : Nat} (a : Int) (h : a ∈ rowT S) : 0 ≤ a := by
  unfold rowT rwI at h
  simp only [List.cons_append, List.mem_cons, List.mem_append, List.mem_map, List.mem_range, List.not_mem_nil, or_false] at h
  rcases h with rfl | ⟨i, _, rfl⟩ | rfl <;> omega
theorem rowK_at {S k : Nat} (h : k ≤ S) : (rowT S).getD (k + 1) 0 = ((rowK S k).a : Int) ∧ (rowT S).getD k 0 = ((rowK S k).b : Int) ∧ (rowK S k).m = 0 := by
  refine ⟨?_, ?_, rfl⟩
  · rw [rowT_at S (k + 1) (by omega), if_neg (by omega)]
    unfold rowK; dsimp only
    by_cases hk : k < S
    · rw [if_pos (by omega), if_pos hk]; omega
    · rw [if_neg (by omega), if_neg hk]; rfl
  · rw [rowT_at S k (by omega)]
    unfold rowK; dsimp only
    by_cases hk : k = 0
    · rw [if_pos hk, if_neg (by omega)]; rfl
    · rw [if_neg hk, if_pos h, if_pos (by omega)]; omega
def linksA (r : Rec) (nd : List Node) : List Lk := bothL 1 r.s.inn ++ (bothL 2 r.s.out ++ (sgL r r.sights ++ (rwL r.strikes.length (r.strikes.length + 1) 0 ++ linksN nd (rowT r.strikes.length) (spanT r))))
theorem linksR_eq (r : Rec) (more : List Int) : linksR r more = linksA r (nodesR r more) ++ pairsL r.s (3 + r.strikes.length) (marksR r more) := by
  unfold linksR linksA
  rw [linksN_all]
  simp only [List.append_assoc]
theorem mem_spanT {r : Rec} {more : List Int} (hv : r.V) {x : Span} (h : x ∈ spanT r) : x.lo ∈ marksR r more ∧ x.hi + 1 ∈ marksR r more ∧ 0 ≤ x.lo ∧ x.lo ≤ x.hi ∧ x.hi ≤ 43199 := by
  have hz := hv.z
  have hf := hv.f
  have hzf := hv.zf
  unfold spanT at h
  rw [List.mem_cons, List.mem_append, List.mem_singleton] at h
  rcases h with rfl | h | rfl
  · exact ⟨marksR_mem.2 (.inl (.inl rfl)), marksR_mem.2 (.inl (.inr (.inl rfl))), by omega, by omega, by omega⟩
  · obtain ⟨y, hy, rfl⟩ := List.mem_map.1 h
    have := hv.strikes y hy
    exact ⟨marksR_mem.2 (.inr (.inl ⟨y, hy, .inl rfl⟩)), marksR_mem.2 (.inr (.inl ⟨y, hy, .inr rfl⟩)), by omega, by omega, by omega⟩
  · exact ⟨marksR_mem.2 (.inl (.inr (.inr (.inl rfl)))), marksR_mem.2 (.inl (.inr (.inr (.inr rfl)))), by omega, by omega, by omega⟩
end Go.Proofs.Ks

set_option maxHeartbeats 8000000
set_option maxRecDepth 10000
namespace Go.Proofs.Ks
open Go Go.Pg Go.Proofs Go.Proofs.Yt
structure Yl (l n0 rb gb pb g m : Nat) (r : Rec) (pl : List Int) (N : List Node) (J : List Lk → (Nat → Option AO) → Prop) : Prop where
  frame : ∀ p H id o, J p H → n0 ≤ id → J p (updH H id o)
  sys : ∀ p H, J p H → SysY H rb gb pb g m r pl N
  y : ∀ p H nx (x : Lk), J p H → n0 ≤ nx → p.length < 20000 → YOK cx l [.agg (eLink x)] H nx (fun b H' nx' => b = true ∧ J (p ++ [x]) H' ∧ nx ≤ nx' ∧ ∀ id, n0 ≤ id → id < nx → H' id = H id)
def dropS : Nat → Code → Code
  | n + 1, .seq _ b => dropS n b
  | _, c => c
def T1_ (r : Rec) (nd : List Node) : List Lk := rwL r.strikes.length (r.strikes.length + 1) 0 ++ linksN nd (rowT r.strikes.length) (spanT r)
noncomputable def tail121 : Code := dropS 14 (Tryz.f82.body.getD .skip)
structure MidA (l n0 gb pb nx : Nat) (r : Rec) (nd : List Node) (J : List Lk → (Nat → Option AO) → Prop) (s : St) : Prop where
  t0 : s.tm 0 = .v (.func (.yield l) #[] #[])
  t2 : s.tm 2 = .ptr gb 0 0 1
  t3 : s.tm 3 = .ptr pb 0 0 1
  t5 : s.tm 5 = .ptr nx 0 0 1
  t8 : s.tm 8 = .ptr (nx + 1) 0 0 1
  S : Pg.rowAt s.H nx = some { k := 12, es := [eSession r.s], ty := 32 }
  lb : Pg.rowAt s.H (nx + 1) = some { k := 1, es := [[.ref (nx + 4) 0 (linksA r nd).length]], ty := 143 }
  lo : ∃ lw, lw ≤ (linksA r nd).length ∧ Pg.rowAt s.H (nx + 4) = some { k := 3, es := (linksA r nd).map eLink, ty := 171, lo := lw }
  j : J [] s.H
  n : nx + 10 ≤ s.nx
end Go.Proofs.Ks

namespace Go.Proofs.Ks
open Go Go.Pg Go.Proofs Go.Proofs.Yt
attribute [local push_cast] Bool.and_self Bool.and_true List.all_append List.all_cons List.all_nil List.length_drop List.length_take List.mem_cons List.not_mem_nil List.take_length List.take_of_length_le Nat.add_assoc TyD.isAgg and_self and_true dropM leT natNe pureA pureL takeM true_and
theorem all1_a {l n0 rb gb pb g m : Nat} {r : Rec} (hv : r.V) {more : List Int} (hml : more.length ≤ 8) (hmb : ∀ a ∈ more, 0 ≤ a ∧ a ≤ 43200) {J : List Lk → (Nat → Option AO) → Prop} (hJ : Yl l n0 rb gb pb g m r (marksR r more) (nodesR r more) J)
    (h1 : rb < n0) (h2 : gb < n0) (h3 : pb < n0) (h4 : g < n0) (h5 : m < n0) {H : Nat → Option AO} {nx : Nat} (hnx : n0 ≤ nx) (hJ0 : J [] H) {Q : AV → (Nat → Option AO) → Nat → Prop}
    (hK : ∀ s, MidA l n0 gb pb nx r (nodesR r more) J s → AW cx 232 tail121 (endM cx [] Q) s) :
    OKm cx 82 [.v (.func (.yield l) #[] #[]), .ptr rb 0 0 1, .ptr gb 0 0 1, .ptr pb 0 0 1] H nx Q := by
  have hns := hv.nstrikes
  have hng := hv.nsights
  obtain ⟨i1, i2, i3⟩ := hv.inn
  obtain ⟨o1, o2, o3⟩ := hv.out
  have hin := atP_in r more
  have hout := atP_out r more
  obtain ⟨hrb0, hgb0, hpb0, ⟨ga0, gl0, hgg0⟩, hmm0⟩ := hJ.sys _ _ hJ0
  refine OKm.of_body kO (rs := []) Tryz.func82 rfl (by decide +kernel) rfl (by simp [Tryz.ntmps82]) ?_
  simp only [Tryz.ntmps82]
  refine AW.fresh fun hfr0 => ?_
  have hfr : ∀ id, nx ≤ id → H id = none := hfr0
  repeat' first
    | ((first | (apply W.callr kO; decide) | (apply D.callr kO; decide; decide)); (iterate 2 (simp (disch := (first | omega | (simp only [vC, rwI_len, rowT_len, spanT_len, bothL_len]; omega))) only [push_cast, simprocAttr, hrb0, hgb0, hpb0, hgg0, hmm0, hfr, hin, hout] <;> rfl)); (exact at_r (nodesR r more) _ _ (by simp (disch := (first | omega | (simp only [vC, rwI_len, rowT_len, spanT_len, bothL_len]; omega))) only [push_cast, simprocAttr, hrb0, hgb0, hpb0, hgg0, hmm0, hfr, hin, hout] <;> rfl) (by simp (disch := (first | omega | (simp only [vC, rwI_len, rowT_len, spanT_len, bothL_len]; omega))) only [push_cast, simprocAttr, hrb0, hgb0, hpb0, hgg0, hmm0, hfr, hin, hout] <;> rfl)))
    | apply jA | apply jB | apply jI
    | refine AW.draw (id := 1) cx_mixed [5] [] [] 0 (by decide +kernel) ?_
    | ((first | (apply jK kO; decide) | (apply jL kO; decide; decide) | apply jM kO); (simp (disch := (first | omega | (simp only [vC, rwI_len, rowT_len, spanT_len, bothL_len]; omega))) only [push_cast, simprocAttr, hrb0, hgb0, hpb0, hgg0, hmm0, hfr, hin, hout] <;> rfl))
    | ((apply D.stept kO; decide; decide); (simp (disch := (first | omega | (simp only [vC, rwI_len, rowT_len, spanT_len, bothL_len]; omega))) only [push_cast, simprocAttr, hrb0, hgb0, hpb0, hgg0, hmm0, hfr, hin, hout] <;> rfl); try first | exact .inl rfl | exact .inr (by simp))

  refine W.callm kO (by decide) (f := 83) (caps := [.ptr (nx + 1) 0 0 1]) (by simp (disch := omega) only [push_cast, simprocAttr, hrb0, hgb0, hpb0, hgg0, hmm0, hfr, hin, hout] <;> rfl) (between0_m 1 r.s.inn (by decide) ⟨by omega, by omega⟩ (lb := nx + 1) (by dsimp only [St.put, nxA]; omega) (by simp (disch := omega) only [push_cast, simprocAttr, hrb0, hgb0, hpb0, hgg0, hmm0, hfr, hin, hout] <;> rfl) (by simp (disch := omega) only [push_cast, simprocAttr, hrb0, hgb0, hpb0, hgg0, hmm0, hfr, hin, hout] <;> rfl)) ?_
  rintro _ _ _ ⟨rfl, rfl, rfl⟩
  repeat' first
    | apply jA | apply jB | apply jI
    | ((apply jK kO; decide); (simp (disch := (first | omega | (simp only [vC, rwI_len, rowT_len, spanT_len, bothL_len]; omega))) only [push_cast, simprocAttr, hrb0, hgb0, hpb0, hgg0, hmm0, hfr, hin, hout] <;> rfl))

  refine W.callm kO (by decide) (f := 83) (caps := [.ptr (nx + 1) 0 0 1]) (by simp (disch := omega) only [push_cast, simprocAttr, hrb0, hgb0, hpb0, hgg0, hmm0, hfr, hin, hout] <;> rfl) (between_m 2 r.s.out (by decide) ⟨by omega, by omega⟩ (bothL 1 r.s.inn) (lb := nx + 1) (lo := nx + 4) (lw := 2) (by simp [bothL_len]) (by omega) (by dsimp only [St.put, nxA]; omega) (by dsimp only [St.put, nxA]; omega) (by simp (disch := omega) only [push_cast, simprocAttr, hrb0, hgb0, hpb0, hgg0, hmm0, hfr, hin, hout] <;> rfl) (by simp (disch := omega) only [push_cast, simprocAttr, hrb0, hgb0, hpb0, hgg0, hmm0, hfr, hin, hout] <;> rfl) (by simp (disch := omega) only [push_cast, simprocAttr, hrb0, hgb0, hpb0, hgg0, hmm0, hfr, hin, hout] <;> rfl) (Nat.le_refl _)) ?_
  rintro _ _ _ ⟨rfl, rfl, rfl⟩
  repeat' first
    | apply jA | apply jB | apply jD | apply jI
    | ((apply jK kO; decide); (simp (disch := (first | omega | (simp only [vC, rwI_len, rowT_len, spanT_len, bothL_len]; omega))) only [push_cast, simprocAttr, hrb0, hgb0, hpb0, hgg0, hmm0, hfr, hin, hout] <;> rfl))
    | (refine W.makeMap kO (by simp only [push_cast, simprocAttr] <;> rfl) (by decide) ?_)

  refine AW.loop (fun n s => ∃ (k lr ls : Nat) (rest : List Strike), n = rest.length ∧ (r.strikes.drop k = rest) ∧ (lr ≤ k + 1) ∧ (ls ≤ k + 1) ∧ (k ≤ r.strikes.length) ∧ (J [] s.H) ∧ nx + 10 ≤ s.nx ∧ s.tm 0 = .v (.func (.yield l) #[] #[]) ∧ s.tm 1 = .ptr rb 0 0 1 ∧ s.tm 2 = .ptr gb 0 0 1 ∧ s.tm 3 = .ptr pb 0 0 1 ∧ s.tm 5 = .ptr nx 0 0 1 ∧ s.tm 8 = .ptr (nx + 1) 0 0 1 ∧ s.tm 9 = .clo 83 [.ptr (nx + 1) 0 0 1] ∧ s.tm 10 = .map (nx + 7) ∧ s.tm 7 = ai 2 ∧ s.tm 11 = .ref (nx + 8) 0 (k + 1) ∧ s.tm 12 = .ref (nx + 9) 0 (k + 1) ∧ s.tm 57 = lStrike r.strikes ∧ s.tm 58 = ai r.strikes.length ∧ s.tm 59 = ai k ∧ Pg.rowAt s.H nx = some { k := 12, es := [eSession r.s], ty := 32 } ∧ Pg.rowAt s.H (nx + 1) = some { k := 1, es := [[.ref (nx + 4) 0 (bothL 1 r.s.inn ++ bothL 2 r.s.out).length]], ty := 143 } ∧ Pg.rowAt s.H (nx + 4) = some { k := 3, es := (bothL 1 r.s.inn ++ bothL 2 r.s.out).map eLink, ty := 171, lo := 4 } ∧ Pg.rowAt s.H (nx + 8) = some { k := 1, es := (rwI k).map eInt, ty := 3, lo := lr } ∧ Pg.rowAt s.H (nx + 9) = some { k := 2, es := (r.s.zero :: (r.strikes.take k).map (·.pos)).map eSpan, ty := 29, lo := ls } ∧ s.H (nx + 7) = some (.mp (.map .int) 0 (idM 0 (r.strikes.take k)))) (r.strikes.length) ⟨0, _, _, r.strikes, rfl, rfl, (Nat.zero_le _), (Nat.zero_le _), (Nat.zero_le _), (by (try simp (disch := omega) only [push_cast, simprocAttr, hrb0, hgb0, hpb0, hgg0, hmm0, hfr, hin, hout]); (repeat (refine hJ.frame _ _ _ _ ?_ (by omega))); exact hJ0), ?_, ?_, ?_, ?_, ?_, ?_, ?_, ?_, ?_, ?_, ?_, ?_, ?_, ?_, ?_, ?_, ?_, ?_, ?_, ?_, ?_⟩ ?_
  iterate 21 (first | (simp (disch := omega) only [push_cast, simprocAttr, hrb0, hgb0, hpb0, hgg0, hmm0, hfr, hin, hout, bothL_len, zY, zE] <;> first | rfl | omega) | omega)
  rintro n s ⟨k, lr, ls, rest, hn, hp0, hp1, hp2, hp3, hp4, hnl, hS⟩
  refine AW.fresh fun hfr => ?_
  obtain ⟨hrb, hgb, hpb, ⟨ga, gl, hgg⟩, hmm⟩ := hJ.sys _ _ hp4
  rcases rest with _ | ⟨x, rest⟩
  rotate_left
  · obtain ⟨hk, hg, hd', hl', hm, hx⟩ := drop_cons hp0 eStrike []
    have hat : atP 3 (k : Int) (nodesR r more) = 3 + (k : Int) := atP_strike (by omega)
    have hput := putM_step hv hp0
    have htk := take_snoc hp0
    have hmin : min k r.strikes.length = k := Nat.min_eq_left hp3
    repeat' first
      | ((apply W.callr kO; decide); (iterate 2 (simp (disch := (first | omega | (simp only [vC, rwI_len, rowT_len, spanT_len, bothL_len]; omega))) only [push_cast, simprocAttr, hS, hrb, hgb, hpb, hgg, hmm, hfr, hk, hg, hx, hat, hput, hmin, rwI_len] <;> rfl)); (exact at_r (nodesR r more) _ _ (by simp (disch := (first | omega | (simp only [vC, rwI_len, rowT_len, spanT_len, bothL_len]; omega))) only [push_cast, simprocAttr, hS, hrb, hgb, hpb, hgg, hmm, hfr, hk, hg, hx, hat, hput, hmin, rwI_len] <;> rfl) (by simp (disch := (first | omega | (simp only [vC, rwI_len, rowT_len, spanT_len, bothL_len]; omega))) only [push_cast, simprocAttr, hS, hrb, hgb, hpb, hgg, hmm, hfr, hk, hg, hx, hat, hput, hmin, rwI_len] <;> rfl)))
      | ((apply D.buildL kO; decide; decide); (iterate 3 (simp (disch := (first | omega | (simp only [vC, rwI_len, rowT_len, spanT_len, bothL_len]; omega))) only [push_cast, simprocAttr, hS, hrb, hgb, hpb, hgg, hmm, hfr, hk, hg, hx, hat, hput, hmin, rwI_len, pur, ite_true] <;> rfl)); exact Nat.zero_le _)
      | apply jA | apply jB | apply jD | apply jE | apply jI
      | refine AW.draw (id := 14) cx_mixed [3, 8, 9, 10] [4, 5, 6, 7] [nx + 8, nx + 9] 11 (by decide +kernel) ?_
      | ((first | (apply jK kO; decide) | (apply jL kO; decide; decide) | apply jM kO | apply jR | apply jS kO); (simp (disch := (first | omega | (simp only [vC, rwI_len, rowT_len, spanT_len, bothL_len]; omega))) only [push_cast, simprocAttr, hS, hrb, hgb, hpb, hgg, hmm, hfr, hk, hg, hx, hat, hput, hmin, rwI_len] <;> rfl); all_goals try ((with_reducible intro hI); try first | (cases hI; done) | (simp only [INTS, zL] at hI; try first | (exfalso; omega) | (have hT : True := hI; clear hT hI))))
      | ((first | (apply D.stept kO; decide; decide) | (apply D.stepm kO; decide; decide)); (simp (disch := (first | omega | (simp only [vC, rwI_len, rowT_len, spanT_len, bothL_len]; omega))) only [push_cast, simprocAttr, hS, hrb, hgb, hpb, hgg, hmm, hfr, hk, hg, hx, hat, hput, hmin, rwI_len] <;> rfl); try first | exact .inl rfl | exact .inr (by simp))
      | ((apply D.alloc kO; decide; decide); (simp (disch := (first | omega | (simp only [vC, rwI_len, rowT_len, spanT_len, bothL_len]; omega))) only [push_cast, simprocAttr, hS, hrb, hgb, hpb, hgg, hmm, hfr, hk, hg, hx, hat, hput, hmin, rwI_len] <;> rfl); (simp (disch := (first | omega | (simp only [vC, rwI_len, rowT_len, spanT_len, bothL_len]; omega))) only [push_cast, simprocAttr, hS, hrb, hgb, hpb, hgg, hmm, hfr, hk, hg, hx, hat, hput, hmin, rwI_len, updH_at]); (simp (disch := (first | omega | (simp only [vC, rwI_len, rowT_len, spanT_len, bothL_len]; omega))) only [push_cast, simprocAttr, hS, hrb, hgb, hpb, hgg, hmm, hfr, hk, hg, hx, hat, hput, hmin, rwI_len] <;> omega))
      | (apply jU kO; decide; decide; rfl; rfl; rfl; decide; (iterate 3 (simp (disch := (first | omega | (simp only [vC, rwI_len, rowT_len, spanT_len, bothL_len]; omega))) only [push_cast, simprocAttr, hS, hrb, hgb, hpb, hgg, hmm, hfr, hk, hg, hx, hat, hput, hmin, rwI_len] <;> rfl)); (first | (focus (simp; done)) | (intro c hc; obtain ⟨x, _, rfl⟩ := List.mem_map.1 hc; rfl)); ((first | rfl | (simp (disch := omega) only [push_cast]; done))); ((try dsimp only); (try simp only [vC, rwI_len, rowT_len, spanT_len, bothL_len]); omega); ((try dsimp only); (try simp only [vC, rwI_len, rowT_len, spanT_len, bothL_len]); omega); first | exact .inl rfl | exact .inr (by simp))

    all_goals (refine ⟨rest.length, ?_, k + 1, (k + 1 + 1), (k + 1 + 1), rest, rfl, hd', (Nat.le_refl _), (Nat.le_refl _), (by omega), (by (try simp (disch := omega) only [push_cast, simprocAttr, hS]); (repeat (refine hJ.frame _ _ _ _ ?_ (by omega))); exact hp4), ?_, ?_, ?_, ?_, ?_, ?_, ?_, ?_, ?_, ?_, ?_, ?_, ?_, ?_, ?_, ?_, ?_, ?_, ?_, ?_, ?_⟩; ((simp only [List.length_cons] at *; omega)); all_goals first | (simp (disch := omega) only [push_cast, simprocAttr, hS, hrb, hgb, hpb, hgg, hmm, hk, hg, hx, hat, hput, hmin, htk, rwI_succ, rwI_len, zY, zX, zW, zE, zD, zC, List.append_assoc, yB, yA, isEmpty_map, zV, zM, yC] <;> first | rfl | omega) | omega)
  have hk := drop_nil hp0
  have hkS : k = r.strikes.length := by have := List.drop_eq_nil_iff.1 hp0; omega
  subst hkS
  rw [List.take_length] at hS
  repeat' first
    | ((apply D.buildL kO; decide; decide); (iterate 3 (simp (disch := (first | omega | (simp only [vC, rwI_len, rowT_len, spanT_len, bothL_len]; omega))) only [push_cast, simprocAttr, hS, hrb, hgb, hpb, hgg, hmm, hfr, hk, rwI_len, pur, ite_true] <;> rfl)); exact Nat.zero_le _)
    | apply jA | apply jB | apply jD | apply jF | apply jI
    | refine AW.draw (id := 16) cx_mixed [3, 8, 9, 10] [4, 5, 6, 7] [nx + 8, nx + 9] 11 (by decide +kernel) ?_
    | ((first | (apply jK kO; decide) | (apply jL kO; decide; decide) | apply jR); (simp (disch := (first | omega | (simp only [vC, rwI_len, rowT_len, spanT_len, bothL_len]; omega))) only [push_cast, simprocAttr, hS, hrb, hgb, hpb, hgg, hmm, hfr, hk, rwI_len] <;> rfl); all_goals try ((with_reducible intro hI); try first | (cases hI; done) | (simp only [INTS, zL] at hI; try first | (exfalso; omega) | (have hT : True := hI; clear hT hI))))
    | ((first | (apply D.stept kO; decide; decide) | (apply D.stepm kO; decide; decide)); (simp (disch := (first | omega | (simp only [vC, rwI_len, rowT_len, spanT_len, bothL_len]; omega))) only [push_cast, simprocAttr, hS, hrb, hgb, hpb, hgg, hmm, hfr, hk, rwI_len] <;> rfl); try first | exact .inl rfl | exact .inr (by simp))
    | ((apply D.alloc kO; decide; decide); (simp (disch := (first | omega | (simp only [vC, rwI_len, rowT_len, spanT_len, bothL_len]; omega))) only [push_cast, simprocAttr, hS, hrb, hgb, hpb, hgg, hmm, hfr, hk, rwI_len] <;> rfl); (simp (disch := (first | omega | (simp only [vC, rwI_len, rowT_len, spanT_len, bothL_len]; omega))) only [push_cast, simprocAttr, hS, hrb, hgb, hpb, hgg, hmm, hfr, hk, rwI_len, updH_at]); (simp (disch := (first | omega | (simp only [vC, rwI_len, rowT_len, spanT_len, bothL_len]; omega))) only [push_cast, simprocAttr, hS, hrb, hgb, hpb, hgg, hmm, hfr, hk, rwI_len] <;> omega))
    | (apply jU kO; decide; decide; rfl; rfl; rfl; decide; (iterate 3 (simp (disch := (first | omega | (simp only [vC, rwI_len, rowT_len, spanT_len, bothL_len]; omega))) only [push_cast, simprocAttr, hS, hrb, hgb, hpb, hgg, hmm, hfr, hk, rwI_len] <;> rfl)); (first | (focus (simp; done)) | (intro c hc; obtain ⟨x, _, rfl⟩ := List.mem_map.1 hc; rfl)); ((first | rfl | (simp (disch := omega) only [push_cast]; done))); ((try dsimp only); (try simp only [vC, rwI_len, rowT_len, spanT_len, bothL_len]); omega); ((try dsimp only); (try simp only [vC, rwI_len, rowT_len, spanT_len, bothL_len]); omega); first | exact .inl rfl | exact .inr (by simp))

  refine AW.loop (fun n s => ∃ (k lw : Nat) (M : List Lk) (rest : List Sight), n = rest.length ∧ (r.sights.drop k = rest) ∧ (M ++ (sgL r rest ++ T1_ r (nodesR r more)) = linksA r (nodesR r more)) ∧ (lw ≤ M.length) ∧ (M.length ≤ 4 + 2 * k) ∧ (k ≤ r.sights.length) ∧ (J [] s.H) ∧ nx + 10 ≤ s.nx ∧ s.tm 0 = .v (.func (.yield l) #[] #[]) ∧ s.tm 1 = .ptr rb 0 0 1 ∧ s.tm 2 = .ptr gb 0 0 1 ∧ s.tm 3 = .ptr pb 0 0 1 ∧ s.tm 5 = .ptr nx 0 0 1 ∧ s.tm 8 = .ptr (nx + 1) 0 0 1 ∧ s.tm 9 = .clo 83 [.ptr (nx + 1) 0 0 1] ∧ s.tm 10 = .map (nx + 7) ∧ s.tm 11 = .ref (nx + 8) 0 (r.strikes.length + 2) ∧ s.tm 12 = .ref (nx + 9) 0 (r.strikes.length + 2) ∧ s.tm 91 = lSight r.sights ∧ s.tm 92 = ai r.sights.length ∧ s.tm 93 = ai k ∧ Pg.rowAt s.H nx = some { k := 12, es := [eSession r.s], ty := 32 } ∧ Pg.rowAt s.H (nx + 1) = some { k := 1, es := [[.ref (nx + 4) 0 (M).length]], ty := 143 } ∧ Pg.rowAt s.H (nx + 4) = some { k := 3, es := (M).map eLink, ty := 171, lo := lw } ∧ Pg.rowAt s.H (nx + 8) = some { k := 1, es := (rowT r.strikes.length).map eInt, ty := 3, lo := r.strikes.length + 2 } ∧ Pg.rowAt s.H (nx + 9) = some { k := 2, es := (spanT r).map eSpan, ty := 29, lo := r.strikes.length + 2 } ∧ s.H (nx + 7) = some (.mp (.map .int) 0 (idM 0 (r.strikes)))) (r.sights.length) ⟨0, 4, (bothL 1 r.s.inn ++ bothL 2 r.s.out), r.sights, rfl, rfl, (by simp only [T1_, linksA, List.append_assoc]), (Nat.le_refl _), (Nat.le_refl _), (Nat.zero_le _), (by (try simp (disch := omega) only [push_cast, simprocAttr, hS]); (repeat (refine hJ.frame _ _ _ _ ?_ (by omega))); exact hp4), ?_, ?_, ?_, ?_, ?_, ?_, ?_, ?_, ?_, ?_, ?_, ?_, ?_, ?_, ?_, ?_, ?_, ?_, ?_, ?_⟩ ?_
  iterate 20 (first | (simp (disch := omega) only [push_cast, simprocAttr, hrb, hgb, hpb, hgg, hmm, hS, hk, rwI_len, rowT, spanT, zY, zX, zW, zE, zD, zC, List.append_assoc, yB, yA, isEmpty_map, zV, zM, yC, bothL_len] <;> first | rfl | omega) | omega)
  rintro n1 s1 ⟨k1, lw1, M1, rest1, hn1, hp01, hp11, hp21, hp31, hp41, hp51, hnl1, hS1⟩
  refine AW.fresh fun hfr1 => ?_
  obtain ⟨hrb1, hgb1, hpb1, ⟨ga1, gl1, hgg1⟩, hmm1⟩ := hJ.sys _ _ hp51
  rcases rest1 with _ | ⟨x, rest1⟩
  rotate_left
  · obtain ⟨hk1, hg1, hd1, hl1, hm1, hx1⟩ := drop_cons hp01 eSight []
    obtain ⟨b1, b2, b3, b4⟩ := hv.sights x hm1
    have hfi := find_id x.strike r.strikes 0 b4
    have hsi : 0 ≤ 3 + strikeI x.strike 0 r.strikes := by rcases strikeI_case x.strike r.strikes 0 with ⟨h, _⟩ | ⟨i, _, h, _⟩; exact absurd b4 h; rw [h]; omega
    repeat' first
      | apply jA | apply jB | apply jD | apply jE | apply jI
      | ((first | (apply jK kO; decide) | apply jM kO | apply jR); (simp (disch := (first | omega | (simp only [vC, rwI_len, rowT_len, spanT_len, bothL_len]; omega))) only [push_cast, simprocAttr, hS1, hrb1, hgb1, hpb1, hgg1, hmm1, hk1, hg1, hx1, hfi, pickM] <;> rfl); all_goals try ((with_reducible intro hI); try first | (cases hI; done) | (simp only [INTS, zL] at hI; try first | (exfalso; omega) | (have hT : True := hI; clear hT hI))))

    refine W.callm kO (by decide) (f := 83) (caps := [.ptr (nx + 1) 0 0 1]) (by simp (disch := omega) only [push_cast, simprocAttr, hS1, hrb1, hgb1, hpb1, hgg1, hmm1, hk1, hg1, hx1, hfi, pickM] <;> rfl) (between_m (3 + strikeI x.strike 0 r.strikes) x.seen hsi ⟨by omega, by omega⟩ M1 (lb := nx + 1) (lo := nx + 4) (lw := lw1) (by omega) (by omega) (by dsimp only [St.put, nxA]; omega) (by dsimp only [St.put, nxA]; omega) (by simp (disch := omega) only [push_cast, simprocAttr, hS1, hrb1, hgb1, hpb1, hgg1, hmm1, hk1, hg1, hx1, hfi, pickM] <;> rfl) (by simp (disch := omega) only [push_cast, simprocAttr, hS1, hrb1, hgb1, hpb1, hgg1, hmm1, hk1, hg1, hx1, hfi, pickM] <;> rfl) (by simp (disch := omega) only [push_cast, simprocAttr, hS1, hrb1, hgb1, hpb1, hgg1, hmm1, hk1, hg1, hx1, hfi, pickM] <;> rfl) hp21) ?_
    rintro _ _ _ ⟨rfl, rfl, rfl⟩
    repeat' first
      | apply jB | apply jI
      | ((apply jK kO; decide); (simp (disch := (first | omega | (simp only [vC, rwI_len, rowT_len, spanT_len, bothL_len]; omega))) only [push_cast, simprocAttr, hS1, hrb1, hgb1, hpb1, hgg1, hmm1, hk1, hg1, hx1, hfi, pickM] <;> rfl))

    all_goals (refine ⟨rest1.length, ?_, k1 + 1, (M1.length + 2), (M1 ++ bothL (3 + strikeI x.strike 0 r.strikes).toNat x.seen), rest1, rfl, hd1, (by rw [List.append_assoc]; exact hp11), (by simp [bothL_len]), (by simp [bothL_len]; omega), (by omega), (by (try simp (disch := omega) only [push_cast, simprocAttr, hS1]); (repeat (refine hJ.frame _ _ _ _ ?_ (by omega))); exact hp51), ?_, ?_, ?_, ?_, ?_, ?_, ?_, ?_, ?_, ?_, ?_, ?_, ?_, ?_, ?_, ?_, ?_, ?_, ?_, ?_⟩; ((simp only [List.length_cons] at *; omega)); all_goals first | (simp (disch := omega) only [push_cast, simprocAttr, hS1, hrb1, hgb1, hpb1, hgg1, hmm1, hk1, hg1, hx1, hfi, pickM, zY, zX, zW, zE, zD, zC, List.append_assoc, yB, yA, isEmpty_map, zV, zM, yC, bothL_len] <;> first | rfl | omega) | omega)
  have hk1 := drop_nil hp01
  simp only [sgL, List.nil_append] at hp11
  unfold T1_ at hp11
  repeat' first
    | apply jA | apply jB | apply jD | apply jF | apply jI
    | ((first | (apply jK kO; decide) | apply jR); (simp (disch := (first | omega | (simp only [vC, rwI_len, rowT_len, spanT_len, bothL_len]; omega))) only [push_cast, simprocAttr, hS1, hrb1, hgb1, hpb1, hgg1, hmm1, hk1, rowT_len] <;> rfl); all_goals try ((with_reducible intro hI); try first | (cases hI; done) | (simp only [INTS, zL] at hI; try first | (exfalso; omega) | (have hT : True := hI; clear hT hI))))

  refine AW.loop (fun n s => ∃ (k lw : Nat) (M : List Lk), n = r.strikes.length + 1 - k ∧ (k ≤ r.strikes.length + 1) ∧ (M ++ (rwL r.strikes.length (r.strikes.length + 1 - k) k ++ linksN (nodesR r more) (rowT r.strikes.length) (spanT r)) = linksA r (nodesR r more)) ∧ (lw ≤ M.length) ∧ (M.length ≤ 28 + k) ∧ (J [] s.H) ∧ nx + 10 ≤ s.nx ∧ s.tm 0 = .v (.func (.yield l) #[] #[]) ∧ s.tm 1 = .ptr rb 0 0 1 ∧ s.tm 2 = .ptr gb 0 0 1 ∧ s.tm 3 = .ptr pb 0 0 1 ∧ s.tm 5 = .ptr nx 0 0 1 ∧ s.tm 8 = .ptr (nx + 1) 0 0 1 ∧ s.tm 9 = .clo 83 [.ptr (nx + 1) 0 0 1] ∧ s.tm 10 = .map (nx + 7) ∧ s.tm 11 = .ref (nx + 8) 0 (r.strikes.length + 2) ∧ s.tm 12 = .ref (nx + 9) 0 (r.strikes.length + 2) ∧ s.tm 18 = ai ((k : Int) + 1) ∧ Pg.rowAt s.H nx = some { k := 12, es := [eSession r.s], ty := 32 } ∧ Pg.rowAt s.H (nx + 1) = some { k := 1, es := [[.ref (nx + 4) 0 (M).length]], ty := 143 } ∧ Pg.rowAt s.H (nx + 4) = some { k := 3, es := (M).map eLink, ty := 171, lo := lw } ∧ Pg.rowAt s.H (nx + 8) = some { k := 1, es := (rowT r.strikes.length).map eInt, ty := 3, lo := r.strikes.length + 2 } ∧ Pg.rowAt s.H (nx + 9) = some { k := 2, es := (spanT r).map eSpan, ty := 29, lo := r.strikes.length + 2 }) (r.strikes.length + 1) ⟨0, lw1, M1, rfl, (Nat.zero_le _), hp11, hp21, (by omega), (by (try simp (disch := omega) only [push_cast, simprocAttr, hS1]); (repeat (refine hJ.frame _ _ _ _ ?_ (by omega))); exact hp51), ?_, ?_, ?_, ?_, ?_, ?_, ?_, ?_, ?_, ?_, ?_, ?_, ?_, ?_, ?_, ?_, ?_⟩ ?_
  iterate 17 (first | (simp (disch := omega) only [push_cast, simprocAttr, hrb1, hgb1, hpb1, hgg1, hmm1, hS1, hk1, Int.natCast_zero, Int.zero_add] <;> first | rfl | omega) | omega)
  rintro n2 s2 ⟨k2, lw2, M2, hn2, hp02, hp12, hp22, hp32, hp42, hnl2, hS2⟩
  refine AW.fresh fun hfr2 => ?_
  obtain ⟨hrb2, hgb2, hpb2, ⟨ga2, gl2, hgg2⟩, hmm2⟩ := hJ.sys _ _ hp42
  by_cases hle : k2 ≤ r.strikes.length
  · have hle1 : (k2 : Int) + 1 < (r.strikes.length : Int) + 1 + 1 := by omega
    have hle0 : (k2 : Int) < (r.strikes.length : Int) + 1 + 1 := by omega
    have q0 : (0 : Int) ≤ (k2 : Int) + 1 := by omega
    have q1 : ((k2 : Int) + 1).toNat = k2 + 1 := by omega
    obtain ⟨ra, rb', rm⟩ := rowK_at hle
    have ra1 : ((rowT r.strikes.length).map eInt).getD (k2 + 1) [] = [ai ((rowK r.strikes.length k2).a : Int)] := by rw [getD_eInt _ _ (by rw [rowT_len]; omega), ra]
    have rb1 : ((rowT r.strikes.length).map eInt).getD k2 [] = [ai ((rowK r.strikes.length k2).b : Int)] := by rw [getD_eInt _ _ (by rw [rowT_len]; omega), rb']
    have ra2 : ((rowT r.strikes.length).map eInt)[k2 + 1]? = some [ai ((rowK r.strikes.length k2).a : Int)] := by rw [get_eInt _ _ (by rw [rowT_len]; omega), ra]
    have rb2 : ((rowT r.strikes.length).map eInt)[k2]? = some [ai ((rowK r.strikes.length k2).b : Int)] := by rw [get_eInt _ _ (by rw [rowT_len]; omega), rb']
    rw [show r.strikes.length + 1 - k2 = r.strikes.length - k2 + 1 by omega, rwL] at hp12
    repeat' first
      | apply jA | apply jB | apply jD | apply jE | apply jI
      | refine AW.draw (id := 25) cx_mixed [12, 13] [] [] 14 (by decide +kernel) ?_
      | ((first | (apply jK kO; decide) | (apply jL kO; decide; decide) | apply jR); (simp (disch := (first | omega | (simp only [vC, rwI_len, rowT_len, spanT_len, bothL_len]; omega))) only [push_cast, simprocAttr, hS2, hrb2, hgb2, hpb2, hgg2, hmm2, hfr2, hle1, hle0, q0, q1, ra1, rb1, ra2, rb2, rm, rowT_len, Int.add_sub_cancel] <;> rfl); all_goals try ((with_reducible intro hI); try first | (cases hI; done) | (simp only [INTS, zL] at hI; try first | (exfalso; omega) | (have hT : True := hI; clear hT hI))))
      | ((first | (apply D.store kO; decide) | (apply D.stept kO; decide; decide)); (simp (disch := (first | omega | (simp only [vC, rwI_len, rowT_len, spanT_len, bothL_len]; omega))) only [push_cast, simprocAttr, hS2, hrb2, hgb2, hpb2, hgg2, hmm2, hfr2, hle1, hle0, q0, q1, ra1, rb1, ra2, rb2, rm, rowT_len, Int.add_sub_cancel] <;> rfl); try first | exact .inl rfl | exact .inr (by simp))
      | ((apply D.alloc kO; decide; decide); (simp (disch := (first | omega | (simp only [vC, rwI_len, rowT_len, spanT_len, bothL_len]; omega))) only [push_cast, simprocAttr, hS2, hrb2, hgb2, hpb2, hgg2, hmm2, hfr2, hle1, hle0, q0, q1, ra1, rb1, ra2, rb2, rm, rowT_len, Int.add_sub_cancel] <;> rfl); (simp (disch := (first | omega | (simp only [vC, rwI_len, rowT_len, spanT_len, bothL_len]; omega))) only [push_cast, simprocAttr, hS2, hrb2, hgb2, hpb2, hgg2, hmm2, hfr2, hle1, hle0, q0, q1, ra1, rb1, ra2, rb2, rm, rowT_len, Int.add_sub_cancel, updH_at]); (simp (disch := (first | omega | (simp only [vC, rwI_len, rowT_len, spanT_len, bothL_len]; omega))) only [push_cast, simprocAttr, hS2, hrb2, hgb2, hpb2, hgg2, hmm2, hfr2, hle1, hle0, q0, q1, ra1, rb1, ra2, rb2, rm, rowT_len, Int.add_sub_cancel] <;> omega))
      | (apply jU kO; decide; decide; rfl; rfl; rfl; decide; (iterate 3 (simp (disch := (first | omega | (simp only [vC, rwI_len, rowT_len, spanT_len, bothL_len]; omega))) only [push_cast, simprocAttr, hS2, hrb2, hgb2, hpb2, hgg2, hmm2, hfr2, hle1, hle0, q0, q1, ra1, rb1, ra2, rb2, rm, rowT_len, Int.add_sub_cancel] <;> rfl)); (first | (focus (simp; done)) | (intro c hc; obtain ⟨x, _, rfl⟩ := List.mem_map.1 hc; rfl)); ((first | rfl | (simp (disch := omega) only [push_cast]; done))); ((try dsimp only); (try simp only [vC, rwI_len, rowT_len, spanT_len, bothL_len]); omega); ((try dsimp only); (try simp only [vC, rwI_len, rowT_len, spanT_len, bothL_len]); omega); first | exact .inl rfl | exact .inr (by simp))

    all_goals (refine ⟨r.strikes.length + 1 - (k2 + 1), ?_, k2 + 1, (M2.length + 1), (M2 ++ [rowK r.strikes.length k2]), rfl, (by omega), (by rw [show r.strikes.length + 1 - (k2 + 1) = r.strikes.length - k2 by omega, List.append_assoc]; exact hp12), (by simp), (by simp; omega), (by (try simp (disch := omega) only [push_cast, simprocAttr, hS2]); (repeat (refine hJ.frame _ _ _ _ ?_ (by omega))); exact hp42), ?_, ?_, ?_, ?_, ?_, ?_, ?_, ?_, ?_, ?_, ?_, ?_, ?_, ?_, ?_, ?_, ?_⟩; (omega); all_goals first | (simp (disch := omega) only [push_cast, simprocAttr, hS2, hrb2, hgb2, hpb2, hgg2, hmm2, hfr2, hle1, hle0, q0, q1, ra1, rb1, ra2, rb2, rm, rowT_len, Int.add_sub_cancel, zY, zX, zW, zE, zD, zC, List.append_assoc, yB, yA, isEmpty_map, zV, zM, yC] <;> first | rfl | omega) | omega)
  have hle1 : ¬ (k2 : Int) + 1 < (r.strikes.length : Int) + 1 + 1 := by omega
  rw [show r.strikes.length + 1 - k2 = 0 by omega, rwL, List.nil_append] at hp12
  repeat' first
    | apply jA | apply jB | apply jD | apply jF | apply jI
    | ((first | (apply jK kO; decide) | apply jR); (simp (disch := (first | omega | (simp only [vC, rwI_len, rowT_len, spanT_len, bothL_len]; omega))) only [push_cast, simprocAttr, hS2, hrb2, hgb2, hpb2, hgg2, hmm2, hle1, rowT_len] <;> rfl); all_goals try ((with_reducible intro hI); try first | (cases hI; done) | (simp only [INTS, zL] at hI; try first | (exfalso; omega) | (have hT : True := hI; clear hT hI))))

  refine AW.loop (fun n s => ∃ (k lw : Nat) (M : List Lk) (rest : List Int) (sps : List Span), n = rest.length ∧ ((rowT r.strikes.length).drop k = rest) ∧ ((spanT r).drop k = sps) ∧ (M ++ linksN (nodesR r more) rest sps = linksA r (nodesR r more)) ∧ (lw ≤ M.length) ∧ (M.length ≤ 42 + 2 * k) ∧ (k ≤ r.strikes.length + 2) ∧ (J [] s.H) ∧ nx + 10 ≤ s.nx ∧ s.tm 0 = .v (.func (.yield l) #[] #[]) ∧ s.tm 1 = .ptr rb 0 0 1 ∧ s.tm 2 = .ptr gb 0 0 1 ∧ s.tm 3 = .ptr pb 0 0 1 ∧ s.tm 5 = .ptr nx 0 0 1 ∧ s.tm 8 = .ptr (nx + 1) 0 0 1 ∧ s.tm 9 = .clo 83 [.ptr (nx + 1) 0 0 1] ∧ s.tm 10 = .map (nx + 7) ∧ s.tm 11 = .ref (nx + 8) 0 (r.strikes.length + 2) ∧ s.tm 12 = .ref (nx + 9) 0 (r.strikes.length + 2) ∧ s.tm 125 = .ref (nx + 8) 0 (r.strikes.length + 2) ∧ s.tm 126 = ai ((r.strikes.length : Int) + 1 + 1) ∧ s.tm 127 = ai k ∧ Pg.rowAt s.H nx = some { k := 12, es := [eSession r.s], ty := 32 } ∧ Pg.rowAt s.H (nx + 1) = some { k := 1, es := [[.ref (nx + 4) 0 (M).length]], ty := 143 } ∧ Pg.rowAt s.H (nx + 4) = some { k := 3, es := (M).map eLink, ty := 171, lo := lw } ∧ Pg.rowAt s.H (nx + 8) = some { k := 1, es := (rowT r.strikes.length).map eInt, ty := 3, lo := r.strikes.length + 2 } ∧ Pg.rowAt s.H (nx + 9) = some { k := 2, es := (spanT r).map eSpan, ty := 29, lo := r.strikes.length + 2 }) ((rowT r.strikes.length).length) ⟨0, lw2, M2, rowT r.strikes.length, spanT r, by simp, rfl, rfl, hp12, hp22, (by omega), (Nat.zero_le _), (by (try simp (disch := omega) only [push_cast, simprocAttr, hS2]); (repeat (refine hJ.frame _ _ _ _ ?_ (by omega))); exact hp42), ?_, ?_, ?_, ?_, ?_, ?_, ?_, ?_, ?_, ?_, ?_, ?_, ?_, ?_, ?_, ?_, ?_, ?_, ?_⟩ ?_
  iterate 19 (first | (simp (disch := omega) only [push_cast, simprocAttr, hrb2, hgb2, hpb2, hgg2, hmm2, hS2, hle1, rowT_len] <;> first | rfl | omega) | omega)
  rintro n3 s3 ⟨k3, lw3, M3, rest3, sps3, hn3, hp03, hp13, hp23, hp33, hp43, hp53, hp63, hnl3, hS3⟩
  refine AW.fresh fun hfr3 => ?_
  obtain ⟨hrb3, hgb3, hpb3, ⟨ga3, gl3, hgg3⟩, hmm3⟩ := hJ.sys _ _ hp63
  have hlrow := rowT_len r.strikes.length
  have hlspan := spanT_len r
  rcases rest3 with _ | ⟨a, rest3⟩
  rotate_left
  · rcases sps3 with _ | ⟨x, sps3⟩
    · exfalso
      have e1 := drop_cons hp03 eInt []
      have e2 := List.drop_eq_nil_iff.1 hp13
      omega
    obtain ⟨hk3, hg3, hd3, hl3, hm3, hx3⟩ := drop_cons hp03 eInt []
    obtain ⟨hk3', hg3', hd3', hl3', hm3', hx3'⟩ := drop_cons hp13 eSpan []
    obtain ⟨m1, m2, m3, m4, m5⟩ := mem_spanT (more := more) hv hm3'
    have ha0 := rowT_nonneg a hm3
    have ha1 : ((a.toNat : Nat) : Int) = a := Int.toNat_of_nonneg ha0
    have hA : atP 4 x.lo (nodesR r more) = (((atI 4 x.lo 0 (nodesR r more)).toNat : Nat) : Int) := by rw [atP_mark m1]; have := (at_mark m1).1; omega
    have hB : atP 4 (x.hi + 1) (nodesR r more) = (((atI 4 (x.hi + 1) 0 (nodesR r more)).toNat : Nat) : Int) := by rw [atP_mark m2]; have := (at_mark m2).1; omega
    have hq3 : (k3 : Int) < (r.strikes.length : Int) + 1 + 1 := by omega
    simp only [linksN] at hp23
    repeat' first
      | ((apply D.callr kO; decide; decide); (iterate 2 (simp (disch := (first | omega | (simp only [vC, rwI_len, rowT_len, spanT_len, bothL_len]; omega))) only [push_cast, simprocAttr, hS3, hrb3, hgb3, hpb3, hgg3, hmm3, hfr3, hq3, hg3, hx3, hg3', hx3', hA, hB, rowT_len, spanT_len] <;> rfl)); (exact at_r (nodesR r more) _ _ (by simp (disch := (first | omega | (simp only [vC, rwI_len, rowT_len, spanT_len, bothL_len]; omega))) only [push_cast, simprocAttr, hS3, hrb3, hgb3, hpb3, hgg3, hmm3, hfr3, hq3, hg3, hx3, hg3', hx3', hA, hB, rowT_len, spanT_len] <;> rfl) (by simp (disch := (first | omega | (simp only [vC, rwI_len, rowT_len, spanT_len, bothL_len]; omega))) only [push_cast, simprocAttr, hS3, hrb3, hgb3, hpb3, hgg3, hmm3, hfr3, hq3, hg3, hx3, hg3', hx3', hA, hB, rowT_len, spanT_len] <;> rfl)))
      | apply jA | apply jB | apply jD | apply jE | apply jI
      | refine AW.draw (id := 29) cx_mixed [21, 22] [] [] 23 (by decide +kernel) ?_
      | ((first | (apply jK kO; decide) | (apply jL kO; decide; decide) | apply jR); (simp (disch := (first | omega | (simp only [vC, rwI_len, rowT_len, spanT_len, bothL_len]; omega))) only [push_cast, simprocAttr, hS3, hrb3, hgb3, hpb3, hgg3, hmm3, hfr3, hq3, hg3, hx3, hg3', hx3', hA, hB, rowT_len, spanT_len] <;> rfl); all_goals try ((with_reducible intro hI); try first | (cases hI; done) | (simp only [INTS, zL] at hI; try first | (exfalso; omega) | (have hT : True := hI; clear hT hI))))
      | ((first | (apply D.store kO; decide) | (apply D.stept kO; decide; decide)); (simp (disch := (first | omega | (simp only [vC, rwI_len, rowT_len, spanT_len, bothL_len]; omega))) only [push_cast, simprocAttr, hS3, hrb3, hgb3, hpb3, hgg3, hmm3, hfr3, hq3, hg3, hx3, hg3', hx3', hA, hB, rowT_len, spanT_len] <;> rfl); try first | exact .inl rfl | exact .inr (by simp))
      | ((apply D.alloc kO; decide; decide); (simp (disch := (first | omega | (simp only [vC, rwI_len, rowT_len, spanT_len, bothL_len]; omega))) only [push_cast, simprocAttr, hS3, hrb3, hgb3, hpb3, hgg3, hmm3, hfr3, hq3, hg3, hx3, hg3', hx3', hA, hB, rowT_len, spanT_len] <;> rfl); (simp (disch := (first | omega | (simp only [vC, rwI_len, rowT_len, spanT_len, bothL_len]; omega))) only [push_cast, simprocAttr, hS3, hrb3, hgb3, hpb3, hgg3, hmm3, hfr3, hq3, hg3, hx3, hg3', hx3', hA, hB, rowT_len, spanT_len, updH_at]); (simp (disch := (first | omega | (simp only [vC, rwI_len, rowT_len, spanT_len, bothL_len]; omega))) only [push_cast, simprocAttr, hS3, hrb3, hgb3, hpb3, hgg3, hmm3, hfr3, hq3, hg3, hx3, hg3', hx3', hA, hB, rowT_len, spanT_len] <;> omega))
      | (apply jU kO; decide; decide; rfl; rfl; rfl; decide; (iterate 3 (simp (disch := (first | omega | (simp only [vC, rwI_len, rowT_len, spanT_len, bothL_len]; omega))) only [push_cast, simprocAttr, hS3, hrb3, hgb3, hpb3, hgg3, hmm3, hfr3, hq3, hg3, hx3, hg3', hx3', hA, hB, rowT_len, spanT_len] <;> rfl)); (first | (focus (simp; done)) | (intro c hc; obtain ⟨x, _, rfl⟩ := List.mem_map.1 hc; rfl)); ((first | rfl | (simp (disch := omega) only [push_cast]; done))); ((try dsimp only); (try simp only [vC, rwI_len, rowT_len, spanT_len, bothL_len]); omega); ((try dsimp only); (try simp only [vC, rwI_len, rowT_len, spanT_len, bothL_len]); omega); first | exact .inl rfl | exact .inr (by simp))

    all_goals (refine ⟨rest3.length, ?_, k3 + 1, (M3.length + 2), (M3 ++ needleL (nodesR r more) a.toNat x), rest3, sps3, rfl, hd3, hd3', (by rw [List.append_assoc]; exact hp23), (by simp [needleL_len]), (by simp [needleL_len]; omega), (by omega), (by (try simp (disch := omega) only [push_cast, simprocAttr, hS3]); (repeat (refine hJ.frame _ _ _ _ ?_ (by omega))); exact hp63), ?_, ?_, ?_, ?_, ?_, ?_, ?_, ?_, ?_, ?_, ?_, ?_, ?_, ?_, ?_, ?_, ?_, ?_, ?_⟩; ((simp only [List.length_cons] at *; omega)); all_goals first | (simp (disch := omega) only [push_cast, simprocAttr, hS3, hrb3, hgb3, hpb3, hgg3, hmm3, hfr3, hq3, hg3, hx3, hg3', hx3', hA, hB, rowT_len, spanT_len, needleL, ha1, needleL_len, zY, zX, zW, zE, zD, zC, List.append_assoc, yB, yA, isEmpty_map, zV, zM, yC] <;> first | rfl | omega) | omega)
  have hq3 : ¬ (k3 : Int) < (r.strikes.length : Int) + 1 + 1 := by have := List.drop_eq_nil_iff.1 hp03; omega
  have hp23' : M3 = linksA r (nodesR r more) := by
    rw [← hp23]
    cases sps3 <;> simp [linksN]
  rw [hp23'] at hp33
  rw [hp23'] at hS3
  delta tail121 at hK
  simp only [Tryz.f82, Option.getD_some, dropS] at hK
  refine AW.seq ?_
  repeat' first
    | refine AW.region ?_ | refine AWL.nil ?_
    | ((apply jK kO; decide); (simp (disch := (first | omega | (simp only [vC, rwI_len, rowT_len, spanT_len, bothL_len]; omega))) only [push_cast, simprocAttr, hS3, hrb3, hgb3, hpb3, hgg3, hmm3, hq3] <;> rfl))

  refine AW.seq ?_
  repeat' first
    | refine AW.exit ?_
    | ((apply jR); (simp (disch := (first | omega | (simp only [vC, rwI_len, rowT_len, spanT_len, bothL_len]; omega))) only [push_cast, simprocAttr, hS3, hrb3, hgb3, hpb3, hgg3, hmm3, hq3] <;> rfl); all_goals try ((with_reducible intro hI); try first | (cases hI; done) | (simp only [INTS, zL] at hI; try first | (exfalso; omega) | (have hT : True := hI; clear hT hI))))

  refine hK _ ?_
  refine ⟨?_, ?_, ?_, ?_, ?_, ?_, ?_, ⟨lw3, hp33, ?_⟩, (by (try simp (disch := omega) only [push_cast, simprocAttr, hS3]); (repeat (refine hJ.frame _ _ _ _ ?_ (by omega))); exact hp63), ?_⟩
  all_goals first | (simp (disch := omega) only [push_cast, simprocAttr, hS3, hrb3, hgb3, hpb3, hgg3, hmm3] <;> first | rfl | omega) | omega
end Go.Proofs.Ks
