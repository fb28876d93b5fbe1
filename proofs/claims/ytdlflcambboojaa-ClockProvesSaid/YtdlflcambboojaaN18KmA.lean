/-
  Contracts of functions, proved by going through their code. No conditions.
-/
import Derived.Test.YtdlflcambboojaaMaa
import Derived.Test.YtdlflcambboojaaN18KlZ
import Derived.Test.YtdlflcambboojaaN18KuE2
set_option linter.unusedVariables false
set_option linter.unusedSimpArgs false
namespace Go.Proofs.Ks
open Go Go.Pg Go.Proofs
theorem walk_pot {L : List Lk} {g : Nat → Int} (hg : Sat g L) : ∀ {l : List Int} {f u e v : Int}, walkF L l f u = (e, v, true) → g e.toNat ≤ g f.toNat + (v - u)
  | [], f, u, e, v, h => by
    unfold walkF at h
    simp only [Prod.mk.injEq, and_true] at h
    obtain ⟨rfl, rfl⟩ := h
    omega
  | k :: l, f, u, e, v, h => by
    unfold walkF at h
    split at h
    · rename_i hk
      have ih := walk_pot hg h
      have hm := hg _ (lkAt_get hk.1).2.2
      have hf : f.toNat = (lkAt L k).a := by rw [← hk.2]; exact Int.toNat_natCast _
      rw [Int.toNat_natCast] at ih
      rw [hf]
      omega
    · simp at h
theorem walk_bd {L : List Lk} {B : Int} (hB0 : 0 ≤ B) (hB : ∀ l ∈ L, -B ≤ l.m ∧ l.m ≤ B) : ∀ {l : List Int} {f u e v : Int}, walkF L l f u = (e, v, true) → -(B * (l.length : Int)) ≤ v - u ∧ v - u ≤ B * (l.length : Int)
  | [], f, u, e, v, h => by
    unfold walkF at h
    simp only [Prod.mk.injEq, and_true] at h
    obtain ⟨rfl, rfl⟩ := h
    simp
  | k :: l, f, u, e, v, h => by
    unfold walkF at h
    split at h
    · rename_i hk
      have ih := walk_bd hB0 hB h
      have hm := hB _ (lkAt_get hk.1).2.2
      rw [List.length_cons, Int.natCast_add, Int.mul_add]
      simp only [Int.natCast_one, Int.mul_one]
      omega
    · simp at h
theorem nodes_few {r : Rec} (hc : checkE r = 0) : (nodesR r []).length ≤ 50 := by
  have h1 := nodesR_len r []
  have h2 := marksR_len r []
  have h3 := (checkE_V hc).nstrikes
  simp only [List.length_nil] at h2
  omega
theorem cons_pot {r : Rec} (hc : checkE r = 0) (hq : consP r [] = true) : ∃ f, Sat f (linksR r []) := (cons_sat (checkE_V hc) (by decide) nomore).1 hq
theorem pot_cons {r : Rec} (hc : checkE r = 0) {f : Nat → Int} (h : Sat f (linksR r [])) : consP r [] = true := (cons_sat (checkE_V hc) (by decide) nomore).2 ⟨f, h⟩
theorem clash_proves {r : Rec} (hc : checkE r = 0) {l : List Int} (h : checkClashE r l = 0) : consP r [] = false := by
  cases hq : consP r [] with
  | false => rfl
  | true =>
    exfalso
    obtain ⟨g, hg⟩ := cons_pot hc hq
    unfold checkClashE at h
    rw [if_pos hc] at h
    split at h
    · cases h
    · split at h
      · rename_i hcy
        rcases l with _ | ⟨c, l⟩
        · cases hcy
        · rw [cycleB_cons] at hcy
          simp only [Bool.and_eq_true, decide_eq_true_eq] at hcy
          obtain ⟨_, h1, h2, h3⟩ := hcy
          obtain ⟨⟨e1, e2, e3⟩, hE⟩ : ∃ z, walkF (linksR r []) (c :: l) (lkAt (linksR r []) c).a 0 = z := ⟨_, rfl⟩
          rw [hE] at h1 h2 h3
          dsimp only at h1 h2 h3
          subst h1
          have := walk_pot hg hE
          rw [h2] at this
          omega
      · cases h
theorem clash_own {r : Rec} (hc : checkE r = 0) (hq : consP r [] = false) : ∃ OUT, OKv cx 27 [.agg (eRec r)] (.tup [lInt OUT, ab true, ai 0]) ∧ checkClashE r OUT = 0 ∧ OUT.length ≤ 50 := by
  obtain ⟨h1, h2, h3, h4, h5⟩ := links_facts (more := []) (checkE_V hc) (by decide) nomore
  obtain ⟨OUT, o1, o2, o3, o4, o5⟩ := clash_cycle h3 h5 h1 (by unfold consP at hq; have := of_decide_eq_false hq; omega)
  have hf := nodes_few hc
  refine ⟨OUT, Clash_some r hc hq o1, ?_, by omega⟩
  unfold checkClashE
  rw [if_pos hc, if_neg (by omega), o2, if_pos rfl]
theorem times_sat {r : Rec} (hc : checkE r = 0) {ts : List Int} (h : checkTimesE r ts = 0) : ts.length = (nodesR r []).length ∧ Sat (fun k => ts.getD k 0) (linksR r []) ∧ ∀ k, k < ts.length → -1073741823 ≤ ts.getD k 0 ∧ ts.getD k 0 ≤ 2147483646 := by
  unfold checkTimesE at h
  rw [if_pos hc] at h
  split at h
  · rename_i hb
    unfold timesB at hb
    simp only [Bool.and_eq_true, decide_eq_true_eq] at hb
    obtain ⟨h1, h2, h3, h4⟩ := hb
    refine ⟨h1, fun l hl => ?_, fun k hk => ?_⟩
    · have := List.all_eq_true.1 h4 l hl
      unfold lkB at this
      have := of_decide_eq_true this
      dsimp only
      omega
    · have := List.all_eq_true.1 h3 _ (List.getElem_mem hk)
      unfold okN at this
      simp only [Bool.and_eq_true, decide_eq_true_eq] at this
      rw [List.getD_eq_getElem?_getD, List.getElem?_eq_getElem hk]
      exact this
  · cases h
theorem times_none {r : Rec} (hc : checkE r = 0) (hq : consP r [] = false) (ts : List Int) : checkTimesE r ts = 8 := by
  by_cases h : checkTimesE r ts = 0
  · have := pot_cons hc (times_sat hc h).2.1
    rw [hq] at this; cases this
  · unfold checkTimesE at h ⊢
    rw [if_pos hc] at h ⊢
    split
    · rename_i hb; rw [if_pos hb] at h; exact absurd rfl h
    · rfl
theorem fits_none {r : Rec} (hc : checkE r = 0) (hq : consP r [] = false) (ts : List Int) : (fitsP r ts).1 = false := by
  unfold fitsP
  rw [if_pos hc]
  split
  · rename_i hl
    split
    · rename_i hall
      obtain ⟨f1, f2, f3, f4, f5⟩ := links_facts (more := []) (checkE_V hc) (by decide) nomore
      have hnl := nodesR_len r []
      have hok := fitL_ok (n := (nodesR r []).length) ts 0 (by omega) (fun t ht => by
        have := List.all_eq_true.1 hall t ht
        unfold okT at this
        simp only [Bool.and_eq_true, decide_eq_true_eq] at this
        exact this)
      have hL : ∀ l ∈ linksR r [] ++ fitL 0 ts, l.a < (nodesR r []).length ∧ l.b < (nodesR r []).length := fun l hl => by
        rcases List.mem_append.1 hl with hl | hl
        · exact f3 l hl
        · exact (hok l hl).1
      have hM : ∀ l ∈ linksR r [] ++ fitL 0 ts, -1073741823 ≤ l.m ∧ l.m ≤ 1073741823 := fun l hl => by
        rcases List.mem_append.1 hl with hl | hl
        · exact f4 l hl
        · exact (hok l hl).2
      refine decide_eq_false fun h => ?_
      have h1 := (lengths_noNeg hL (by decide : (0 : Int) ≤ 1073741823) hM (facts_far f1)).1 h
      have h2 : NoNeg (linksR r []) := h1.sub fun l hl => List.mem_append_left _ hl
      have h3 := (lengths_noNeg f3 (by decide : (0 : Int) ≤ 1073741823) f4 (facts_far f1)).2 h2
      unfold consP at hq
      exact absurd h3 (of_decide_eq_false hq)
    · rfl
  · rfl
theorem clash_not {r : Rec} (hc : checkE r = 0) (hq : consP r [] = true) (l : List Int) : checkClashE r l ≠ 0 := fun h => by
  have := clash_proves hc h
  rw [hq] at this; cases this
theorem path_bound {r : Rec} (hc : checkE r = 0) {f t : Int} {l : List Int} (h : (checkPathP r f t l).2 = 0) : inN r f ∧ inN r t ∧ (-70000000000 ≤ (checkPathP r f t l).1 ∧ (checkPathP r f t l).1 ≤ 70000000000) ∧ ∀ g, Sat g (linksR r []) → g t.toNat ≤ g f.toNat + (checkPathP r f t l).1 := by
  obtain ⟨f1, f2, f3, f4, f5⟩ := links_facts (more := []) (checkE_V hc) (by decide) nomore
  unfold checkPathP at h ⊢
  rw [if_pos hc] at h ⊢
  split at h
  · rename_i hin
    rw [if_pos hin]
    split at h
    · cases h
    · rename_i hl
      rw [if_neg hl]
      split at h
      · rename_i hw
        rw [if_pos hw]
        obtain ⟨⟨e1, e2, e3⟩, hE⟩ : ∃ z, walkF (linksR r []) l f 0 = z := ⟨_, rfl⟩
        rw [hE] at hw ⊢
        obtain ⟨w1, w2⟩ := hw
        dsimp only at w1 w2 ⊢
        subst w1; subst w2
        have hb := walk_bd (by decide : (0 : Int) ≤ 1073741823) f4 hE
        refine ⟨hin.1, hin.2, by omega, fun g hg => ?_⟩
        have := walk_pot hg hE
        omega
      · cases h
  · cases h
theorem path_own {r : Rec} (hc : checkE r = 0) (hq : consP r [] = true) {f t : Nat} (hf : inN r f) (ht : inN r t) : ∃ PL, OKv cx 74 [.agg (eRec r), ai f, ai t] (.tup [lInt PL, ai 0]) ∧ checkPathP r f t PL = (dst r f t, 0) ∧ PL.length ≤ 50 := by
  obtain ⟨OUT, o1, o2, o3, o4, o5, o6⟩ := path_some hc hq (s := f) (v := t) (by have := hf.2; omega) (by have := ht.2; omega)
  have hfw := nodes_few hc
  refine ⟨OUT.reverse, Path_good r f t hc hf ht hq o1, ?_, by rw [List.length_reverse]; omega⟩
  unfold checkPathP
  rw [if_pos hc, if_pos ⟨hf, ht⟩, if_neg (by rw [List.length_reverse]; omega), o2, if_pos ⟨rfl, rfl⟩]
theorem path_least {r : Rec} (hc : checkE r = 0) (hq : consP r [] = true) {f t : Nat} {l : List Int} (h : (checkPathP r f t l).2 = 0) : dst r f t ≤ (checkPathP r f t l).1 := by
  obtain ⟨hf, ht, _, h1⟩ := path_bound hc h
  obtain ⟨⟨g, g1, g2⟩, _⟩ := dst_spec hc hq (s := f) (k := t) (by have := hf.2; omega) (by have := ht.2; omega)
  have := h1 g g1
  rw [Int.toNat_natCast, Int.toNat_natCast] at this
  omega
end Go.Proofs.Ks
