/-
  Contracts of functions, proved by going through their code. No conditions.
-/
import Derived.Test.YtofdhddbfjfkcaaDoorHe
import Derived.Test.YtofdhddbfjfkcaaDoorVa
set_option maxHeartbeats 8000000
set_option linter.unusedSimpArgs false
set_option linter.unusedVariables false
set_option maxRecDepth 10000
namespace Go.Proofs.Hs
open Go Go.Pg Go.Proofs

theorem lab_at {N : Lab.Net Gate} {row : List Int} {i : Nat} (hi : i < row.length) : N.lab row i = row.getD i 0 := by
  unfold Lab.Net.lab
  rw [List.getD_eq_getElem?_getD, List.getD_eq_getElem?_getD, List.getElem?_eq_getElem hi]; rfl
abbrev eBool (b : Bool) : List AV := [ab b]
theorem getD_eBool (l : List Bool) (k : Nat) (h : k < l.length) : (l.map eBool).getD k [] = [ab (l.getD k false)] := getD_map eBool l k [] false h
theorem get_eBool (l : List Bool) (k : Nat) (h : k < l.length) : (l.map eBool)[k]? = some [ab (l.getD k false)] := by
  rw [List.getElem?_map, List.getD_eq_getElem?_getD, List.getElem?_eq_getElem h]; rfl
theorem rep_app {α : Type} (k : Nat) (a : α) : List.replicate (k + 1) a = List.replicate k a ++ [a] := List.replicate_succ'
theorem arrN_selC {h : House} {out : List Int} {done : List Bool} {i : Nat} {c : Int} (hi : i < out.length) (hc : c.toNat < out.length) :
    (arrN h).selC out done i c = (!(done.getD i false) && (decide (out.getD i 0 < 1073741824) && (decide (c < 0) || decide (out.getD i 0 < out.getD c.toNat 0)))) := by
  unfold Lab.Net.selC Lab.dn
  rw [lab_at hi, lab_at hc]; rfl
theorem depN_selC {h : House} {out : List Int} {done : List Bool} {i : Nat} {c : Int} (hi : i < out.length) (hc : c.toNat < out.length) :
    (depN h).selC out done i c = (!(done.getD i false) && (decide (-(out.getD i 0) < 1) && (decide (c < 0) || decide (-(out.getD i 0) < -(out.getD c.toNat 0))))) := by
  unfold Lab.Net.selC Lab.dn
  rw [lab_at hi, lab_at hc]; rfl
theorem arrN_relax {h : House} {c : Nat} {out : List Int} {g : Gate} (h1 : g.to.toNat < out.length) (hc : c < out.length) :
    (arrN h).relax c out g = if g.from'.toNat = c then out.set g.to.toNat (min (out.getD g.to.toNat 0) (enter h g (out.getD c 0))) else out := by
  unfold Lab.Net.relax Lab.Net.best
  rw [lab_at hc, lab_at (show (arrN h).dst g < out.length from h1)]
  show (if g.from'.toNat = c then out.set g.to.toNat (if enter h g (out.getD c 0) < out.getD g.to.toNat 0 then enter h g (out.getD c 0) else out.getD g.to.toNat 0) else out) = _
  rw [minN]
theorem depN_relax {h : House} {c : Nat} {out : List Int} {g : Gate} (h1 : g.from'.toNat < out.length) (hc : c < out.length) :
    (depN h).relax c out g = if g.to.toNat = c then out.set g.from'.toNat (max (out.getD g.from'.toNat 0) (depart h g (out.getD c 0))) else out := by
  unfold Lab.Net.relax Lab.Net.best
  rw [lab_at hc, lab_at (show (depN h).dst g < out.length from h1)]
  show (if g.to.toNat = c then out.set g.from'.toNat (if -(depart h g (out.getD c 0)) < -(out.getD g.from'.toNat 0) then depart h g (out.getD c 0) else out.getD g.from'.toNat 0) else out) = _
  have : (if -(depart h g (out.getD c 0)) < -(out.getD g.from'.toNat 0) then depart h g (out.getD c 0) else out.getD g.from'.toNat 0) = max (out.getD g.from'.toNat 0) (depart h g (out.getD c 0)) := by rw [Int.max_def]; split <;> split <;> omega
  rw [this]

theorem Arrivals_ok (h : House) (n0 t : Int) (hfit : h.Fit) (hv : h.V) (hn : 0 ≤ n0 ∧ n0 < (h.rooms.length : Int)) (ht : 0 ≤ t ∧ t ≤ 1073741823) : OKv cx 54 [.agg (eHouse h), ai n0, ai t] (lInt (arrR h n0.toNat t)) := by
  have hrn := hv.rooms
  have hgl := gates_len h
  have hwn := hv.nw
  have hna := hn.1
  have hnb := hn.2
  have hnc : n0.toNat < h.rooms.length := by omega
  refine OKat.of_body (rs := [6]) Tryd.func54 rfl (by decide +kernel) rfl (by simp [Tryd.ntmps54]) ?_
  simp only [Tryd.ntmps54]
  repeat' first
    | apply AW.seq | apply AW.region | apply AW.ret | apply AW.block | apply AW.skip | apply AW.exit | apply AW.scope | apply AW.label | apply AWL.nil | apply D.nil
    | refine W.draw cx_mixed (by decide +kernel) ?_
    | ((first | (apply W.step cx_ok; decide) | (apply D.step cx_ok; decide; decide) | apply W.store cx_ok | (apply W.gS; rfl; decide) | (apply D.gS; rfl; decide; decide) | apply AW.cond); (simp (disch := omega) only [push_cast, simprocAttr] <;> rfl); all_goals try ((with_reducible intro hI); try first | (cases hI; done) | (simp only [INTS] at hI; try first | (exfalso; omega) | (have hT : True := hI; clear hT hI))))
    | ((first | (apply W.gU; rfl; decide) | (apply D.gU; rfl; decide; decide)); (simp (disch := omega) only [push_cast, simprocAttr] <;> rfl))
    | ((first | apply W.ret1 | apply W.end1); (iterate 2 (try (simp (disch := omega) only [push_cast, simprocAttr] <;> rfl))))
  refine AW.adopt 7 1 3 ?_ ?_
  · simp (disch := omega) only [push_cast, simprocAttr]
  refine AW.adopt 8 1 4 ?_ ?_
  · simp (disch := omega) only [push_cast, simprocAttr]
  refine AW.loop (fun n s => ∃ (k : Nat) (ou : List Int) (dn : List Bool), n = h.rooms.length - k ∧ (k ≤ h.rooms.length) ∧ (ou = List.replicate k (1073741824 : Int)) ∧ (dn = List.replicate k false) ∧ (ou.length = k) ∧ (dn.length = k) ∧ 3 ≤ s.nx ∧ s.tm 1 = ai n0 ∧ s.tm 2 = ai t ∧ s.tm 3 = .ptr 0 0 0 1 ∧ s.tm 7 = .ref 1 0 k ∧ s.tm 8 = .ref 2 0 k ∧ s.tm 9 = ai k ∧ Pg.rowAt s.H (0) = some ({ k := 3, es := [eHouse h], ty := 26 }) ∧ Pg.rowAt s.H (1) = some ({ k := 1, es := ou.map eInt, ty := 3, lo := k }) ∧ Pg.rowAt s.H (2) = some ({ k := 1, es := dn.map eBool, ty := 4, lo := k })) (h.rooms.length) ⟨0, [], [], rfl, (Nat.zero_le _), rfl, rfl, rfl, rfl, ?_, ?_, ?_, ?_, ?_, ?_, ?_, ?_, ?_, ?_⟩ ?_
  iterate 10 (first | (simp (disch := omega) only [push_cast, simprocAttr] <;> first | rfl | omega) | omega)
  rintro n s ⟨k, ou, dn, hn, hp0, hp1, hp2, hp3, hp4, hnl, hS⟩
  have hZ : (0 : Nat) ≠ s.nx ∧ s.nx ≠ (0 : Nat) ∧ (1 : Nat) ≠ s.nx ∧ s.nx ≠ (1 : Nat) ∧ (2 : Nat) ≠ s.nx ∧ s.nx ≠ (2 : Nat) := by omega
  by_cases hk : k < h.rooms.length
  · have hk1 : (k : Int) < (h.rooms.length : Int) := by omega
    repeat' first
      | apply AW.seq | apply AW.region | apply AW.ret | apply AW.block | apply AW.skip | apply AW.exit | apply AW.scope | apply AW.label | apply AWL.nil | apply D.nil
      | refine W.draw cx_mixed (by decide +kernel) ?_
      | ((first | (apply W.step cx_ok; decide) | (apply D.step cx_ok; decide; decide) | apply W.store cx_ok | (apply W.gS; rfl; decide) | (apply D.gS; rfl; decide; decide) | apply AW.cond); (simp (disch := omega) only [push_cast, simprocAttr, hS, hZ, hk1, hp3, hp4] <;> rfl); all_goals try ((with_reducible intro hI); try first | (cases hI; done) | (simp only [INTS] at hI; try first | (exfalso; omega) | (have hT : True := hI; clear hT hI))))
      | ((first | (apply W.gU; rfl; decide) | (apply D.gU; rfl; decide; decide)); (simp (disch := omega) only [push_cast, simprocAttr, hS, hZ, hk1, hp3, hp4] <;> rfl))
      | (apply W.append cx_ok; decide; rfl; rfl; rfl; decide; (iterate 3 (simp (disch := omega) only [push_cast, simprocAttr, hS, hZ, hk1, hp3, hp4] <;> rfl)); simp; (rfl); ((try dsimp only); (try simp only [List.length_map, List.length_append, List.length_cons, List.length_nil]); omega); ((try dsimp only); (try simp only [List.length_map, List.length_append, List.length_cons, List.length_nil]); omega))
      | ((first | apply W.ret1 | apply W.end1); (iterate 2 (try (simp (disch := omega) only [push_cast, simprocAttr, hS, hZ, hk1, hp3, hp4] <;> rfl))))
    all_goals
      (refine ⟨h.rooms.length - (k + 1), ?_, k + 1, ou ++ [1073741824], dn ++ [false], rfl, (by omega), (by rw [hp1, rep_app]), (by rw [hp2, rep_app]), (by rw [List.length_append, hp3]; rfl), (by rw [List.length_append, hp4]; rfl), ?_, ?_, ?_, ?_, ?_, ?_, ?_, ?_, ?_, ?_⟩; (omega); all_goals first | (simp (disch := omega) only [push_cast, simprocAttr, hS, hZ, hk1, hp3, hp4] <;> first | rfl | omega) | omega)
  · have hk1 : ¬ (k : Int) < (h.rooms.length : Int) := by omega
    have hk2 : k = h.rooms.length := by omega
    subst hk2
    have hq1 : n0.toNat < ou.length := by omega
    repeat' first
      | apply AW.seq | apply AW.region | apply AW.ret | apply AW.block | apply AW.skip | apply AW.exit | apply AW.scope | apply AW.label | apply AWL.nil | apply D.nil
      | refine W.draw cx_mixed (by decide +kernel) ?_
      | ((first | (apply W.step cx_ok; decide) | (apply D.step cx_ok; decide; decide) | apply W.store cx_ok | (apply W.gS; rfl; decide) | (apply D.gS; rfl; decide; decide) | apply AW.cond); (simp (disch := omega) only [push_cast, simprocAttr, hS, hZ, hk1, hna, hnb, hq1, hnc, hp3, hp4, Nat.le_refl] <;> rfl); all_goals try ((with_reducible intro hI); try first | (cases hI; done) | (simp only [INTS] at hI; try first | (exfalso; omega) | (have hT : True := hI; clear hT hI))))
      | ((first | (apply W.gU; rfl; decide) | (apply D.gU; rfl; decide; decide)); (simp (disch := omega) only [push_cast, simprocAttr, hS, hZ, hk1, hna, hnb, hq1, hnc, hp3, hp4, Nat.le_refl] <;> rfl))
      | ((first | (apply W.callv cx_ok; decide) | (apply D.callv cx_ok; decide; decide)); (iterate 2 (simp (disch := omega) only [push_cast, simprocAttr, hS, hZ, hk1, hna, hnb, hq1, hnc, hp3, hp4, Nat.le_refl] <;> rfl)); (with_reducible first | exact GatesR_ok h hfit.nw); try first | rfl | (simp (disch := omega) only [push_cast, simprocAttr, hS, hZ, hk1, hna, hnb, hq1, hnc, hp3, hp4, Nat.le_refl] <;> rfl))
      | ((first | apply W.ret1 | apply W.end1); (iterate 2 (try (simp (disch := omega) only [push_cast, simprocAttr, hS, hZ, hk1, hna, hnb, hq1, hnc, hp3, hp4, Nat.le_refl] <;> rfl))))
    refine AW.loop (fun n s => ∃ (k : Nat) (out : List Int) (done : List Bool), n = h.rooms.length - k ∧ (k ≤ h.rooms.length) ∧ (out.length = h.rooms.length) ∧ (done.length = h.rooms.length) ∧ ((arrN h).dijF (h.rooms.length - k) out done = arrR h n0.toNat t) ∧ (∀ x ∈ out, 0 ≤ x ∧ x ≤ 1073741824) ∧ 3 ≤ s.nx ∧ s.tm 3 = .ptr 0 0 0 1 ∧ s.tm 7 = .ref 1 0 h.rooms.length ∧ s.tm 8 = .ref 2 0 h.rooms.length ∧ s.tm 10 = .lst ((gates h).map eGateR) ∧ s.tm 11 = ai k ∧ Pg.rowAt s.H (0) = some ({ k := 3, es := [eHouse h], ty := 26 }) ∧ Pg.rowAt s.H (1) = some ({ k := 1, es := out.map eInt, ty := 3, lo := h.rooms.length }) ∧ Pg.rowAt s.H (2) = some ({ k := 1, es := done.map eBool, ty := 4, lo := h.rooms.length })) (h.rooms.length) ⟨0, ou.set n0.toNat t, dn, rfl, (Nat.zero_le _), (by rw [List.length_set]; exact hp3), hp4, (by rw [hp1, hp2]; rfl), (by intro x hx; rw [hp1] at hx; rcases List.mem_or_eq_of_mem_set hx with hx | rfl; (rw [List.mem_replicate] at hx; omega); omega), ?_, ?_, ?_, ?_, ?_, ?_, ?_, ?_, ?_⟩ ?_
    iterate 9 (first | (simp (disch := omega) only [push_cast, simprocAttr, hS, hZ, hk1, hna, hnb, hq1, hnc, hp3, hp4] <;> first | rfl | omega) | omega)
    rintro n1 s1 ⟨k1, out1, done1, hn1, hp01, hp11, hp21, hp31, hp41, hnl1, hS1⟩
    have hZ1 : (0 : Nat) ≠ s1.nx ∧ s1.nx ≠ (0 : Nat) ∧ (1 : Nat) ≠ s1.nx ∧ s1.nx ≠ (1 : Nat) ∧ (2 : Nat) ≠ s1.nx ∧ s1.nx ≠ (2 : Nat) := by omega
    by_cases hk1 : k1 < h.rooms.length
    · have hk1a : (k1 : Int) < (h.rooms.length : Int) := by omega
      repeat' first
        | apply AW.seq | apply AW.region | apply AW.ret | apply AW.block | apply AW.skip | apply AW.exit | apply AW.scope | apply AW.label | apply AWL.nil | apply D.nil
        | refine W.draw cx_mixed (by decide +kernel) ?_
        | ((first | (apply W.step cx_ok; decide) | (apply D.step cx_ok; decide; decide) | apply W.store cx_ok | (apply W.gS; rfl; decide) | (apply D.gS; rfl; decide; decide) | apply AW.cond); (simp (disch := omega) only [push_cast, simprocAttr, hS1, hZ1, hk1a] <;> rfl); all_goals try ((with_reducible intro hI); try first | (cases hI; done) | (simp only [INTS] at hI; try first | (exfalso; omega) | (have hT : True := hI; clear hT hI))))
        | ((first | (apply W.gU; rfl; decide) | (apply D.gU; rfl; decide; decide)); (simp (disch := omega) only [push_cast, simprocAttr, hS1, hZ1, hk1a] <;> rfl))
        | ((first | apply W.ret1 | apply W.end1); (iterate 2 (try (simp (disch := omega) only [push_cast, simprocAttr, hS1, hZ1, hk1a] <;> rfl))))
      refine AW.loop (fun n s => ∃ (i : Nat) (c : Int), n = h.rooms.length - i ∧ (i ≤ h.rooms.length) ∧ ((arrN h).selL out1 done1 (h.rooms.length - i) i c = (arrN h).sel out1 done1) ∧ (-1 ≤ c ∧ c < (h.rooms.length : Int)) ∧ 3 ≤ s.nx ∧ s.tm 3 = .ptr 0 0 0 1 ∧ s.tm 7 = .ref 1 0 h.rooms.length ∧ s.tm 8 = .ref 2 0 h.rooms.length ∧ s.tm 10 = .lst ((gates h).map eGateR) ∧ s.tm 11 = ai k1 ∧ s.tm 12 = ai c ∧ s.tm 13 = ai i ∧ Pg.rowAt s.H (0) = some ({ k := 3, es := [eHouse h], ty := 26 }) ∧ Pg.rowAt s.H (1) = some ({ k := 1, es := out1.map eInt, ty := 3, lo := h.rooms.length }) ∧ Pg.rowAt s.H (2) = some ({ k := 1, es := done1.map eBool, ty := 4, lo := h.rooms.length })) (h.rooms.length) ⟨0, -1, rfl, (Nat.zero_le _), (by unfold Lab.Net.sel; rw [hp11]; rfl), (by omega), ?_, ?_, ?_, ?_, ?_, ?_, ?_, ?_, ?_, ?_, ?_⟩ ?_
      iterate 11 (first | (simp (disch := omega) only [push_cast, simprocAttr, hS1, hZ1, hk1a] <;> first | rfl | omega) | omega)
      rintro n2 s2 ⟨i2, c2, hn2, hp02, hp12, hp22, hnl2, hS2⟩
      have hZ2 : (0 : Nat) ≠ s2.nx ∧ s2.nx ≠ (0 : Nat) ∧ (1 : Nat) ≠ s2.nx ∧ s2.nx ≠ (1 : Nat) ∧ (2 : Nat) ≠ s2.nx ∧ s2.nx ≠ (2 : Nat) := by omega
      by_cases hi : i2 < h.rooms.length
      · have hia : (i2 : Int) < (h.rooms.length : Int) := by omega
        have g1 : i2 < out1.length := by omega
        have g2 : i2 < done1.length := by omega
        have g3 : 0 ≤ max c2 0 := by omega
        have g4 : max c2 0 < (h.rooms.length : Int) := by omega
        have g5 : (max c2 0).toNat < out1.length := by omega
        have g6 : (max c2 0).toNat = c2.toNat := by omega
        have g7 : c2.toNat < out1.length := by omega
        have hsl : (arrN h).selL out1 done1 (h.rooms.length - i2) i2 c2 = (arrN h).selL out1 done1 (h.rooms.length - (i2 + 1)) (i2 + 1) (if (arrN h).selC out1 done1 i2 c2 = true then (i2 : Int) else c2) := by
          rw [show h.rooms.length - i2 = (h.rooms.length - (i2 + 1)) + 1 by omega]; rfl
        have hsc := arrN_selC (h := h) (out := out1) (done := done1) (i := i2) (c := c2) g1 g7
        repeat' first
          | apply AW.seq | apply AW.region | apply AW.ret | apply AW.block | apply AW.skip | apply AW.exit | apply AW.scope | apply AW.label | apply AWL.nil | apply D.nil
          | refine W.draw cx_mixed (by decide +kernel) ?_
          | ((first | (apply W.step cx_ok; decide) | (apply D.step cx_ok; decide; decide) | apply W.store cx_ok | (apply W.gS; rfl; decide) | (apply D.gS; rfl; decide; decide) | apply AW.cond); (simp (disch := omega) only [push_cast, simprocAttr, hS2, hZ2, hia, g1, g2, g3, g4, g6, g7, getD_eBool, get_eBool, hp11, hp21] <;> rfl); all_goals try ((with_reducible intro hI); try first | (cases hI; done) | (simp only [INTS] at hI; try first | (exfalso; omega) | (have hT : True := hI; clear hT hI))))
          | ((first | (apply W.gU; rfl; decide) | (apply D.gU; rfl; decide; decide)); (simp (disch := omega) only [push_cast, simprocAttr, hS2, hZ2, hia, g1, g2, g3, g4, g6, g7, getD_eBool, get_eBool, hp11, hp21] <;> rfl))
          | ((first | apply W.ret1 | apply W.end1); (iterate 2 (try (simp (disch := omega) only [push_cast, simprocAttr, hS2, hZ2, hia, g1, g2, g3, g4, g6, g7, getD_eBool, get_eBool, hp11, hp21] <;> rfl))))
        all_goals first
          | (have hcc : (arrN h).selC out1 done1 i2 c2 = true := by rw [hsc]; simp only [INTS]; first | omega | (simp_all; omega) | (simp_all; done)
             rw [hsl, if_pos hcc] at hp12
             (refine ⟨h.rooms.length - (i2 + 1), ?_, i2 + 1, (i2 : Int), rfl, (by omega), hp12, (by omega), ?_, ?_, ?_, ?_, ?_, ?_, ?_, ?_, ?_, ?_, ?_⟩; (omega); all_goals first | (simp (disch := omega) only [push_cast, simprocAttr, hS2, hZ2, hia, g1, g2, g3, g4, g6, g7, getD_eBool, get_eBool, hp11, hp21] <;> first | rfl | omega) | omega))
          | (have hcc : ¬ (arrN h).selC out1 done1 i2 c2 = true := by rw [hsc]; simp only [INTS]; first | omega | (simp_all; omega) | (simp_all; done)
             rw [hsl, if_neg hcc] at hp12
             (refine ⟨h.rooms.length - (i2 + 1), ?_, i2 + 1, c2, rfl, (by omega), hp12, (by omega), ?_, ?_, ?_, ?_, ?_, ?_, ?_, ?_, ?_, ?_, ?_⟩; (omega); all_goals first | (simp (disch := omega) only [push_cast, simprocAttr, hS2, hZ2, hia, g1, g2, g3, g4, g6, g7, getD_eBool, get_eBool, hp11, hp21] <;> first | rfl | omega) | omega))
      · have hia : ¬ (i2 : Int) < (h.rooms.length : Int) := by omega
        have hce : c2 = (arrN h).sel out1 done1 := by rw [← hp12, show h.rooms.length - i2 = 0 by omega]; rfl
        have hdj : (arrN h).dijF (h.rooms.length - k1) out1 done1 = if (arrN h).sel out1 done1 < 0 then out1 else (arrN h).dijF (h.rooms.length - (k1 + 1)) ((gates h).foldl ((arrN h).relax ((arrN h).sel out1 done1).toNat) out1) (done1.set ((arrN h).sel out1 done1).toNat true) := by
          rw [show h.rooms.length - k1 = (h.rooms.length - (k1 + 1)) + 1 by omega]; rfl
        rw [← hce, hp31] at hdj
        by_cases hcn : c2 < 0
        · rw [if_pos hcn] at hdj
          repeat' first
            | apply AW.seq | apply AW.region | apply AW.ret | apply AW.block | apply AW.skip | apply AW.exit | apply AW.scope | apply AW.label | apply AWL.nil | apply D.nil
            | refine W.draw cx_mixed (by decide +kernel) ?_
            | ((first | (apply W.step cx_ok; decide) | (apply D.step cx_ok; decide; decide) | apply W.store cx_ok | (apply W.gS; rfl; decide) | (apply D.gS; rfl; decide; decide) | apply AW.cond); (simp (disch := omega) only [push_cast, simprocAttr, hS2, hZ2, hia, hcn, hp11, Nat.le_refl] <;> rfl); all_goals try ((with_reducible intro hI); try first | (cases hI; done) | (simp only [INTS] at hI; try first | (exfalso; omega) | (have hT : True := hI; clear hT hI))))
            | ((first | (apply W.gU; rfl; decide) | (apply D.gU; rfl; decide; decide)); (simp (disch := omega) only [push_cast, simprocAttr, hS2, hZ2, hia, hcn, hp11, Nat.le_refl] <;> rfl))
            | ((first | apply W.ret1 | apply W.end1); (iterate 2 (try (simp (disch := omega) only [push_cast, simprocAttr, hS2, hZ2, hia, hcn, hp11, Nat.le_refl] <;> rfl))))
          all_goals (show _ = _; rw [hdj])
        · rw [if_neg hcn] at hdj
          have g1 : 0 ≤ c2 := by omega
          have g2 : c2 < (h.rooms.length : Int) := by omega
          have g3 : c2.toNat < out1.length := by omega
          have g4 : c2.toNat < done1.length := by omega
          have g5 : c2.toNat < h.rooms.length := by omega
          have hso := ((Lab.sel_ok (arrN_ok hv) out1 done1).some (by rw [← hce]; omega)).2.2.1
          rw [← hce, lab_at g3] at hso
          have hvl : out1.getD c2.toNat 0 < 1073741824 := by have hx : out1.getD c2.toNat 0 < 1073741824 := hso; omega
          repeat' first
            | apply AW.seq | apply AW.region | apply AW.ret | apply AW.block | apply AW.skip | apply AW.exit | apply AW.scope | apply AW.label | apply AWL.nil | apply D.nil
            | refine W.draw cx_mixed (by decide +kernel) ?_
            | ((first | (apply W.step cx_ok; decide) | (apply D.step cx_ok; decide; decide) | apply W.store cx_ok | (apply W.gS; rfl; decide) | (apply D.gS; rfl; decide; decide) | apply AW.cond); (simp (disch := omega) only [push_cast, simprocAttr, hS2, hZ2, hia, hcn, g1, g2, g3, g4, g5, getD_eBool, get_eBool, hp11, hp21] <;> rfl); all_goals try ((with_reducible intro hI); try first | (cases hI; done) | (simp only [INTS] at hI; try first | (exfalso; omega) | (have hT : True := hI; clear hT hI))))
            | ((first | (apply W.gU; rfl; decide) | (apply D.gU; rfl; decide; decide)); (simp (disch := omega) only [push_cast, simprocAttr, hS2, hZ2, hia, hcn, g1, g2, g3, g4, g5, getD_eBool, get_eBool, hp11, hp21] <;> rfl))
            | ((first | apply W.ret1 | apply W.end1); (iterate 2 (try (simp (disch := omega) only [push_cast, simprocAttr, hS2, hZ2, hia, hcn, g1, g2, g3, g4, g5, getD_eBool, get_eBool, hp11, hp21] <;> rfl))))
          refine AW.loop (fun n s => ∃ (j : Nat) (out : List Int) (rest : List Gate), n = rest.length ∧ ((gates h).drop j = rest) ∧ (out.length = h.rooms.length) ∧ (∀ x ∈ out, 0 ≤ x ∧ x ≤ 1073741824) ∧ (rest.foldl ((arrN h).relax c2.toNat) out = (gates h).foldl ((arrN h).relax c2.toNat) out1) ∧ (out.getD c2.toNat 0 = out1.getD c2.toNat 0) ∧ 3 ≤ s.nx ∧ s.tm 3 = .ptr 0 0 0 1 ∧ s.tm 7 = .ref 1 0 h.rooms.length ∧ s.tm 8 = .ref 2 0 h.rooms.length ∧ s.tm 10 = .lst ((gates h).map eGateR) ∧ s.tm 11 = ai k1 ∧ s.tm 12 = ai c2 ∧ s.tm 14 = ai j ∧ Pg.rowAt s.H (0) = some ({ k := 3, es := [eHouse h], ty := 26 }) ∧ Pg.rowAt s.H (1) = some ({ k := 1, es := out.map eInt, ty := 3, lo := h.rooms.length }) ∧ Pg.rowAt s.H (2) = some ({ k := 1, es := (done1.set c2.toNat true).map eBool, ty := 4, lo := h.rooms.length })) ((gates h).length) ⟨0, out1, _, rfl, rfl, hp11, hp41, rfl, rfl, ?_, ?_, ?_, ?_, ?_, ?_, ?_, ?_, ?_, ?_, ?_⟩ ?_
          iterate 11 (first | (simp (disch := omega) only [push_cast, simprocAttr, hS2, hZ2, hia, hcn, g1, g2, g3, g4, g5, getD_eBool, get_eBool, hp11, hp21] <;> first | rfl | omega) | omega)
          rintro n3 s3 ⟨j3, out3, rest3, hn3, hp03, hp13, hp23, hp33, hp43, hnl3, hS3⟩
          have hZ3 : (0 : Nat) ≠ s3.nx ∧ s3.nx ≠ (0 : Nat) ∧ (1 : Nat) ≠ s3.nx ∧ s3.nx ≠ (1 : Nat) ∧ (2 : Nat) ≠ s3.nx ∧ s3.nx ≠ (2 : Nat) := by omega
          rcases rest3 with _ | ⟨x3, rest3⟩
          · have hk3 := drop_nil hp03
            repeat' first
              | apply AW.seq | apply AW.region | apply AW.ret | apply AW.block | apply AW.skip | apply AW.exit | apply AW.scope | apply AW.label | apply AWL.nil | apply D.nil
              | refine W.draw cx_mixed (by decide +kernel) ?_
              | ((first | (apply W.step cx_ok; decide) | (apply D.step cx_ok; decide; decide) | apply W.store cx_ok | (apply W.gS; rfl; decide) | (apply D.gS; rfl; decide; decide) | apply AW.cond); (simp (disch := omega) only [push_cast, simprocAttr, hS3, hZ3, hk3] <;> rfl); all_goals try ((with_reducible intro hI); try first | (cases hI; done) | (simp only [INTS] at hI; try first | (exfalso; omega) | (have hT : True := hI; clear hT hI))))
              | ((first | (apply W.gU; rfl; decide) | (apply D.gU; rfl; decide; decide)); (simp (disch := omega) only [push_cast, simprocAttr, hS3, hZ3, hk3] <;> rfl))
              | ((first | apply W.ret1 | apply W.end1); (iterate 2 (try (simp (disch := omega) only [push_cast, simprocAttr, hS3, hZ3, hk3] <;> rfl))))
            all_goals
              (have hfo : out3 = (gates h).foldl ((arrN h).relax c2.toNat) out1 := by rw [← hp33]; rfl
               (refine ⟨h.rooms.length - (k1 + 1), ?_, k1 + 1, out3, done1.set c2.toNat true, rfl, (by omega), hp13, (by rw [List.length_set]; exact hp21), (by rw [hfo]; exact hdj.symm), hp23, ?_, ?_, ?_, ?_, ?_, ?_, ?_, ?_, ?_⟩; (omega); all_goals first | (simp (disch := omega) only [push_cast, simprocAttr, hS3, hZ3] <;> first | rfl | omega) | omega))
          · obtain ⟨hk3, hg3, hd'3, hl'3, hm3, hx3⟩ := drop_cons hp03 eGateR []
            have hgo := gate_ok hv hm3
            have q1 := hgo.from'.1
            have q2 := hgo.from'.2
            have q3 := hgo.to.1
            have q4 := hgo.to.2
            have q5 : x3.from'.toNat < out3.length := by omega
            have q6 : x3.to.toNat < out3.length := by omega
            have q7 : c2.toNat < out3.length := by omega
            have q8 : x3.from'.toNat < h.rooms.length := by omega
            have q9 : x3.to.toNat < h.rooms.length := by omega
            have hft := (gatesL_ok h.ways 0 _ _ hv.ways x3 hm3).2.2.2.2
            have hcb := hp23 _ (List.mem_of_getElem? (getD_set' out3 c2.toNat 0 q7))
            have hrx := arrN_relax (h := h) (c := c2.toNat) (out := out3) (g := x3) (by omega) q7
            by_cases hsr : x3.from' = c2
            · have hsq : (x3.from' = c2) = True := eq_true hsr
              have hcv : out3.getD c2.toNat 0 < 1073741824 := by rw [hp43]; exact hvl
              rw [if_pos (by omega)] at hrx
              repeat' first
                | apply AW.seq | apply AW.region | apply AW.ret | apply AW.block | apply AW.skip | apply AW.exit | apply AW.scope | apply AW.label | apply AWL.nil | apply D.nil
                | refine AW.draw (id := 27) cx_mixed [17] [] [] 0 (by decide +kernel) ?_
                | refine W.draw cx_mixed (by decide +kernel) ?_
                | ((first | (apply W.step cx_ok; decide) | (apply D.step cx_ok; decide; decide) | apply W.store cx_ok | (apply W.gS; rfl; decide) | (apply D.gS; rfl; decide; decide) | apply AW.cond); (simp (disch := omega) only [push_cast, simprocAttr, hS3, hZ3, hk3, hg3, q1, q2, q3, q4, q5, q6, q7, q8, q9, g1, g2, g5, hp13, hsq] <;> rfl); all_goals try ((with_reducible intro hI); try first | (cases hI; done) | (simp only [INTS] at hI; try first | (exfalso; omega) | (have hT : True := hI; clear hT hI))))
                | ((first | (apply W.gU; rfl; decide) | (apply D.gU; rfl; decide; decide) | (apply D.store cx_ok; decide) | (apply D.stept cx_ok; decide; decide) | (apply D.stepm cx_ok; decide; decide)); (simp (disch := omega) only [push_cast, simprocAttr, hS3, hZ3, hk3, hg3, q1, q2, q3, q4, q5, q6, q7, q8, q9, g1, g2, g5, hp13, hsq] <;> rfl); try first | exact .inl rfl | exact .inr (by simp))
                | ((apply D.alloct cx_ok; decide; decide); (simp (disch := omega) only [push_cast, simprocAttr, hS3, hZ3, hk3, hg3, q1, q2, q3, q4, q5, q6, q7, q8, q9, g1, g2, g5, hp13, hsq] <;> rfl); first | exact .inl rfl | exact .inr (by simp))
                | ((first | (apply W.callv cx_ok; decide) | (apply D.callv cx_ok; decide; decide) | (apply D.callvt cx_ok; decide; decide)); (iterate 2 (simp (disch := omega) only [push_cast, simprocAttr, hS3, hZ3, hk3, hg3, q1, q2, q3, q4, q5, q6, q7, q8, q9, g1, g2, g5, hp13, hsq] <;> rfl)); (with_reducible first | exact enterR_ok h x3 _ hv hgo (by omega) (by omega)); try first | rfl | (simp (disch := omega) only [push_cast, simprocAttr, hS3, hZ3, hk3, hg3, q1, q2, q3, q4, q5, q6, q7, q8, q9, g1, g2, g5, hp13, hsq] <;> rfl))
                | ((first | apply W.ret1 | apply W.end1); (iterate 2 (try (simp (disch := omega) only [push_cast, simprocAttr, hS3, hZ3, hk3, hg3, q1, q2, q3, q4, q5, q6, q7, q8, q9, g1, g2, g5, hp13, hsq] <;> rfl))))
              all_goals
                (have hnew := enter_spec hv hgo (t := out3.getD c2.toNat 0) (by omega) (by omega)
                 (refine ⟨rest3.length, ?_, j3 + 1, (out3.set x3.to.toNat (min (out3.getD x3.to.toNat 0) (enter h x3 (out3.getD c2.toNat 0)))), rest3, rfl, hd'3, (by rw [List.length_set]; exact hp13), (by intro y hy; rcases List.mem_or_eq_of_mem_set hy with hy | rfl; exact hp23 y hy; (have := hp23 _ (List.mem_of_getElem? (getD_set' out3 x3.to.toNat 0 (by omega))); omega)), (by rw [← hp33, List.foldl_cons, hrx]), (by rw [List.getD_eq_getElem?_getD, List.getElem?_set, if_neg (by omega), ← List.getD_eq_getElem?_getD]; exact hp43), ?_, ?_, ?_, ?_, ?_, ?_, ?_, ?_, ?_, ?_, ?_⟩; ((simp only [List.length_cons] at *; omega)); all_goals first | (simp (disch := omega) only [push_cast, simprocAttr, hS3, hZ3, hk3, hg3, q1, q2, q3, q4, q5, q6, q7, q8, q9, g1, g2, g5, hp13, hsq] <;> first | rfl | omega) | omega))
            · rw [if_neg (by omega)] at hrx
              repeat' first
                | apply AW.seq | apply AW.region | apply AW.ret | apply AW.block | apply AW.skip | apply AW.exit | apply AW.scope | apply AW.label | apply AWL.nil | apply D.nil
                | refine W.draw cx_mixed (by decide +kernel) ?_
                | ((first | (apply W.step cx_ok; decide) | (apply D.step cx_ok; decide; decide) | apply W.store cx_ok | (apply W.gS; rfl; decide) | (apply D.gS; rfl; decide; decide) | apply AW.cond); (simp (disch := omega) only [push_cast, simprocAttr, hS3, hZ3, hk3, hg3, q1, q2, q3, q4, q5, q6, q7, q8, q9, g1, g2, g5, hp13, hsr] <;> rfl); all_goals try ((with_reducible intro hI); try first | (cases hI; done) | (simp only [INTS] at hI; try first | (exfalso; omega) | (have hT : True := hI; clear hT hI))))
                | ((first | (apply W.gU; rfl; decide) | (apply D.gU; rfl; decide; decide)); (simp (disch := omega) only [push_cast, simprocAttr, hS3, hZ3, hk3, hg3, q1, q2, q3, q4, q5, q6, q7, q8, q9, g1, g2, g5, hp13, hsr] <;> rfl))
                | ((first | apply W.ret1 | apply W.end1); (iterate 2 (try (simp (disch := omega) only [push_cast, simprocAttr, hS3, hZ3, hk3, hg3, q1, q2, q3, q4, q5, q6, q7, q8, q9, g1, g2, g5, hp13, hsr] <;> rfl))))
              all_goals
                (refine ⟨rest3.length, ?_, j3 + 1, out3, rest3, rfl, hd'3, hp13, hp23, (by rw [← hp33, List.foldl_cons, hrx]), hp43, ?_, ?_, ?_, ?_, ?_, ?_, ?_, ?_, ?_, ?_, ?_⟩; ((simp only [List.length_cons] at *; omega)); all_goals first | (simp (disch := omega) only [push_cast, simprocAttr, hS3, hZ3, hk3, hg3, q1, q2, q3, q4, q5, q6, q7, q8, q9, g1, g2, g5, hp13, hsr] <;> first | rfl | omega) | omega)
    · have hk1a : ¬ (k1 : Int) < (h.rooms.length : Int) := by omega
      have hfin : out1 = arrR h n0.toNat t := by rw [← hp31, show h.rooms.length - k1 = 0 by omega]; rfl
      repeat' first
        | apply AW.seq | apply AW.region | apply AW.ret | apply AW.block | apply AW.skip | apply AW.exit | apply AW.scope | apply AW.label | apply AWL.nil | apply D.nil
        | refine W.draw cx_mixed (by decide +kernel) ?_
        | ((first | (apply W.step cx_ok; decide) | (apply D.step cx_ok; decide; decide) | apply W.store cx_ok | (apply W.gS; rfl; decide) | (apply D.gS; rfl; decide; decide) | apply AW.cond); (simp (disch := omega) only [push_cast, simprocAttr, hS1, hZ1, hk1a, hp11, Nat.le_refl] <;> rfl); all_goals try ((with_reducible intro hI); try first | (cases hI; done) | (simp only [INTS] at hI; try first | (exfalso; omega) | (have hT : True := hI; clear hT hI))))
        | ((first | (apply W.gU; rfl; decide) | (apply D.gU; rfl; decide; decide)); (simp (disch := omega) only [push_cast, simprocAttr, hS1, hZ1, hk1a, hp11, Nat.le_refl] <;> rfl))
        | ((first | apply W.ret1 | apply W.end1); (iterate 2 (try (simp (disch := omega) only [push_cast, simprocAttr, hS1, hZ1, hk1a, hp11, Nat.le_refl] <;> rfl))))
      all_goals (show _ = _; rw [hfin])


end Go.Proofs.Hs

namespace Go.Proofs.Hs
open Go Go.Pg Go.Proofs

theorem Departures_ok (h : House) (n0 t : Int) (hfit : h.Fit) (hv : h.V) (hn : 0 ≤ n0 ∧ n0 < (h.rooms.length : Int)) (ht : 0 ≤ t ∧ t ≤ 1073741823) : OKv cx 85 [.agg (eHouse h), ai n0, ai t] (lInt (depR h n0.toNat t)) := by
  have hrn := hv.rooms
  have hgl := gates_len h
  have hwn := hv.nw
  have hna := hn.1
  have hnb := hn.2
  have hnc : n0.toNat < h.rooms.length := by omega
  refine OKat.of_body (rs := [6]) Tryd.func85 rfl (by decide +kernel) rfl (by simp [Tryd.ntmps85]) ?_
  simp only [Tryd.ntmps85]
  repeat' first
    | apply AW.seq | apply AW.region | apply AW.ret | apply AW.block | apply AW.skip | apply AW.exit | apply AW.scope | apply AW.label | apply AWL.nil | apply D.nil
    | refine W.draw cx_mixed (by decide +kernel) ?_
    | ((first | (apply W.step cx_ok; decide) | (apply D.step cx_ok; decide; decide) | apply W.store cx_ok | (apply W.gS; rfl; decide) | (apply D.gS; rfl; decide; decide) | apply AW.cond); (simp (disch := omega) only [push_cast, simprocAttr] <;> rfl); all_goals try ((with_reducible intro hI); try first | (cases hI; done) | (simp only [INTS] at hI; try first | (exfalso; omega) | (have hT : True := hI; clear hT hI))))
    | ((first | (apply W.gU; rfl; decide) | (apply D.gU; rfl; decide; decide)); (simp (disch := omega) only [push_cast, simprocAttr] <;> rfl))
    | ((first | apply W.ret1 | apply W.end1); (iterate 2 (try (simp (disch := omega) only [push_cast, simprocAttr] <;> rfl))))
  refine AW.adopt 7 1 3 ?_ ?_
  · simp (disch := omega) only [push_cast, simprocAttr]
  refine AW.adopt 8 1 4 ?_ ?_
  · simp (disch := omega) only [push_cast, simprocAttr]
  refine AW.loop (fun n s => ∃ (k : Nat) (ou : List Int) (dn : List Bool), n = h.rooms.length - k ∧ (k ≤ h.rooms.length) ∧ (ou = List.replicate k (-1 : Int)) ∧ (dn = List.replicate k false) ∧ (ou.length = k) ∧ (dn.length = k) ∧ 3 ≤ s.nx ∧ s.tm 1 = ai n0 ∧ s.tm 2 = ai t ∧ s.tm 3 = .ptr 0 0 0 1 ∧ s.tm 7 = .ref 1 0 k ∧ s.tm 8 = .ref 2 0 k ∧ s.tm 9 = ai k ∧ Pg.rowAt s.H (0) = some ({ k := 3, es := [eHouse h], ty := 26 }) ∧ Pg.rowAt s.H (1) = some ({ k := 1, es := ou.map eInt, ty := 3, lo := k }) ∧ Pg.rowAt s.H (2) = some ({ k := 1, es := dn.map eBool, ty := 4, lo := k })) (h.rooms.length) ⟨0, [], [], rfl, (Nat.zero_le _), rfl, rfl, rfl, rfl, ?_, ?_, ?_, ?_, ?_, ?_, ?_, ?_, ?_, ?_⟩ ?_
  iterate 10 (first | (simp (disch := omega) only [push_cast, simprocAttr] <;> first | rfl | omega) | omega)
  rintro n s ⟨k, ou, dn, hn, hp0, hp1, hp2, hp3, hp4, hnl, hS⟩
  have hZ : (0 : Nat) ≠ s.nx ∧ s.nx ≠ (0 : Nat) ∧ (1 : Nat) ≠ s.nx ∧ s.nx ≠ (1 : Nat) ∧ (2 : Nat) ≠ s.nx ∧ s.nx ≠ (2 : Nat) := by omega
  by_cases hk : k < h.rooms.length
  · have hk1 : (k : Int) < (h.rooms.length : Int) := by omega
    repeat' first
      | apply AW.seq | apply AW.region | apply AW.ret | apply AW.block | apply AW.skip | apply AW.exit | apply AW.scope | apply AW.label | apply AWL.nil | apply D.nil
      | refine W.draw cx_mixed (by decide +kernel) ?_
      | ((first | (apply W.step cx_ok; decide) | (apply D.step cx_ok; decide; decide) | apply W.store cx_ok | (apply W.gS; rfl; decide) | (apply D.gS; rfl; decide; decide) | apply AW.cond); (simp (disch := omega) only [push_cast, simprocAttr, hS, hZ, hk1, hp3, hp4] <;> rfl); all_goals try ((with_reducible intro hI); try first | (cases hI; done) | (simp only [INTS] at hI; try first | (exfalso; omega) | (have hT : True := hI; clear hT hI))))
      | ((first | (apply W.gU; rfl; decide) | (apply D.gU; rfl; decide; decide)); (simp (disch := omega) only [push_cast, simprocAttr, hS, hZ, hk1, hp3, hp4] <;> rfl))
      | (apply W.append cx_ok; decide; rfl; rfl; rfl; decide; (iterate 3 (simp (disch := omega) only [push_cast, simprocAttr, hS, hZ, hk1, hp3, hp4] <;> rfl)); simp; (rfl); ((try dsimp only); (try simp only [List.length_map, List.length_append, List.length_cons, List.length_nil]); omega); ((try dsimp only); (try simp only [List.length_map, List.length_append, List.length_cons, List.length_nil]); omega))
      | ((first | apply W.ret1 | apply W.end1); (iterate 2 (try (simp (disch := omega) only [push_cast, simprocAttr, hS, hZ, hk1, hp3, hp4] <;> rfl))))
    all_goals
      (refine ⟨h.rooms.length - (k + 1), ?_, k + 1, ou ++ [-1], dn ++ [false], rfl, (by omega), (by rw [hp1, rep_app]), (by rw [hp2, rep_app]), (by rw [List.length_append, hp3]; rfl), (by rw [List.length_append, hp4]; rfl), ?_, ?_, ?_, ?_, ?_, ?_, ?_, ?_, ?_, ?_⟩; (omega); all_goals first | (simp (disch := omega) only [push_cast, simprocAttr, hS, hZ, hk1, hp3, hp4] <;> first | rfl | omega) | omega)
  · have hk1 : ¬ (k : Int) < (h.rooms.length : Int) := by omega
    have hk2 : k = h.rooms.length := by omega
    subst hk2
    have hq1 : n0.toNat < ou.length := by omega
    repeat' first
      | apply AW.seq | apply AW.region | apply AW.ret | apply AW.block | apply AW.skip | apply AW.exit | apply AW.scope | apply AW.label | apply AWL.nil | apply D.nil
      | refine W.draw cx_mixed (by decide +kernel) ?_
      | ((first | (apply W.step cx_ok; decide) | (apply D.step cx_ok; decide; decide) | apply W.store cx_ok | (apply W.gS; rfl; decide) | (apply D.gS; rfl; decide; decide) | apply AW.cond); (simp (disch := omega) only [push_cast, simprocAttr, hS, hZ, hk1, hna, hnb, hq1, hnc, hp3, hp4, Nat.le_refl] <;> rfl); all_goals try ((with_reducible intro hI); try first | (cases hI; done) | (simp only [INTS] at hI; try first | (exfalso; omega) | (have hT : True := hI; clear hT hI))))
      | ((first | (apply W.gU; rfl; decide) | (apply D.gU; rfl; decide; decide)); (simp (disch := omega) only [push_cast, simprocAttr, hS, hZ, hk1, hna, hnb, hq1, hnc, hp3, hp4, Nat.le_refl] <;> rfl))
      | ((first | (apply W.callv cx_ok; decide) | (apply D.callv cx_ok; decide; decide)); (iterate 2 (simp (disch := omega) only [push_cast, simprocAttr, hS, hZ, hk1, hna, hnb, hq1, hnc, hp3, hp4, Nat.le_refl] <;> rfl)); (with_reducible first | exact GatesR_ok h hfit.nw); try first | rfl | (simp (disch := omega) only [push_cast, simprocAttr, hS, hZ, hk1, hna, hnb, hq1, hnc, hp3, hp4, Nat.le_refl] <;> rfl))
      | ((first | apply W.ret1 | apply W.end1); (iterate 2 (try (simp (disch := omega) only [push_cast, simprocAttr, hS, hZ, hk1, hna, hnb, hq1, hnc, hp3, hp4, Nat.le_refl] <;> rfl))))
    refine AW.loop (fun n s => ∃ (k : Nat) (out : List Int) (done : List Bool), n = h.rooms.length - k ∧ (k ≤ h.rooms.length) ∧ (out.length = h.rooms.length) ∧ (done.length = h.rooms.length) ∧ ((depN h).dijF (h.rooms.length - k) out done = depR h n0.toNat t) ∧ (∀ x ∈ out, -1 ≤ x ∧ x ≤ 1073741823) ∧ 3 ≤ s.nx ∧ s.tm 3 = .ptr 0 0 0 1 ∧ s.tm 7 = .ref 1 0 h.rooms.length ∧ s.tm 8 = .ref 2 0 h.rooms.length ∧ s.tm 10 = .lst ((gates h).map eGateR) ∧ s.tm 11 = ai k ∧ Pg.rowAt s.H (0) = some ({ k := 3, es := [eHouse h], ty := 26 }) ∧ Pg.rowAt s.H (1) = some ({ k := 1, es := out.map eInt, ty := 3, lo := h.rooms.length }) ∧ Pg.rowAt s.H (2) = some ({ k := 1, es := done.map eBool, ty := 4, lo := h.rooms.length })) (h.rooms.length) ⟨0, ou.set n0.toNat t, dn, rfl, (Nat.zero_le _), (by rw [List.length_set]; exact hp3), hp4, (by rw [hp1, hp2]; rfl), (by intro x hx; rw [hp1] at hx; rcases List.mem_or_eq_of_mem_set hx with hx | rfl; (rw [List.mem_replicate] at hx; omega); omega), ?_, ?_, ?_, ?_, ?_, ?_, ?_, ?_, ?_⟩ ?_
    iterate 9 (first | (simp (disch := omega) only [push_cast, simprocAttr, hS, hZ, hk1, hna, hnb, hq1, hnc, hp3, hp4] <;> first | rfl | omega) | omega)
    rintro n1 s1 ⟨k1, out1, done1, hn1, hp01, hp11, hp21, hp31, hp41, hnl1, hS1⟩
    have hZ1 : (0 : Nat) ≠ s1.nx ∧ s1.nx ≠ (0 : Nat) ∧ (1 : Nat) ≠ s1.nx ∧ s1.nx ≠ (1 : Nat) ∧ (2 : Nat) ≠ s1.nx ∧ s1.nx ≠ (2 : Nat) := by omega
    by_cases hk1 : k1 < h.rooms.length
    · have hk1a : (k1 : Int) < (h.rooms.length : Int) := by omega
      repeat' first
        | apply AW.seq | apply AW.region | apply AW.ret | apply AW.block | apply AW.skip | apply AW.exit | apply AW.scope | apply AW.label | apply AWL.nil | apply D.nil
        | refine W.draw cx_mixed (by decide +kernel) ?_
        | ((first | (apply W.step cx_ok; decide) | (apply D.step cx_ok; decide; decide) | apply W.store cx_ok | (apply W.gS; rfl; decide) | (apply D.gS; rfl; decide; decide) | apply AW.cond); (simp (disch := omega) only [push_cast, simprocAttr, hS1, hZ1, hk1a] <;> rfl); all_goals try ((with_reducible intro hI); try first | (cases hI; done) | (simp only [INTS] at hI; try first | (exfalso; omega) | (have hT : True := hI; clear hT hI))))
        | ((first | (apply W.gU; rfl; decide) | (apply D.gU; rfl; decide; decide)); (simp (disch := omega) only [push_cast, simprocAttr, hS1, hZ1, hk1a] <;> rfl))
        | ((first | apply W.ret1 | apply W.end1); (iterate 2 (try (simp (disch := omega) only [push_cast, simprocAttr, hS1, hZ1, hk1a] <;> rfl))))
      refine AW.loop (fun n s => ∃ (i : Nat) (c : Int), n = h.rooms.length - i ∧ (i ≤ h.rooms.length) ∧ ((depN h).selL out1 done1 (h.rooms.length - i) i c = (depN h).sel out1 done1) ∧ (-1 ≤ c ∧ c < (h.rooms.length : Int)) ∧ 3 ≤ s.nx ∧ s.tm 3 = .ptr 0 0 0 1 ∧ s.tm 7 = .ref 1 0 h.rooms.length ∧ s.tm 8 = .ref 2 0 h.rooms.length ∧ s.tm 10 = .lst ((gates h).map eGateR) ∧ s.tm 11 = ai k1 ∧ s.tm 12 = ai c ∧ s.tm 13 = ai i ∧ Pg.rowAt s.H (0) = some ({ k := 3, es := [eHouse h], ty := 26 }) ∧ Pg.rowAt s.H (1) = some ({ k := 1, es := out1.map eInt, ty := 3, lo := h.rooms.length }) ∧ Pg.rowAt s.H (2) = some ({ k := 1, es := done1.map eBool, ty := 4, lo := h.rooms.length })) (h.rooms.length) ⟨0, -1, rfl, (Nat.zero_le _), (by unfold Lab.Net.sel; rw [hp11]; rfl), (by omega), ?_, ?_, ?_, ?_, ?_, ?_, ?_, ?_, ?_, ?_, ?_⟩ ?_
      iterate 11 (first | (simp (disch := omega) only [push_cast, simprocAttr, hS1, hZ1, hk1a] <;> first | rfl | omega) | omega)
      rintro n2 s2 ⟨i2, c2, hn2, hp02, hp12, hp22, hnl2, hS2⟩
      have hZ2 : (0 : Nat) ≠ s2.nx ∧ s2.nx ≠ (0 : Nat) ∧ (1 : Nat) ≠ s2.nx ∧ s2.nx ≠ (1 : Nat) ∧ (2 : Nat) ≠ s2.nx ∧ s2.nx ≠ (2 : Nat) := by omega
      by_cases hi : i2 < h.rooms.length
      · have hia : (i2 : Int) < (h.rooms.length : Int) := by omega
        have g1 : i2 < out1.length := by omega
        have g2 : i2 < done1.length := by omega
        have g3 : 0 ≤ max c2 0 := by omega
        have g4 : max c2 0 < (h.rooms.length : Int) := by omega
        have g5 : (max c2 0).toNat < out1.length := by omega
        have g6 : (max c2 0).toNat = c2.toNat := by omega
        have g7 : c2.toNat < out1.length := by omega
        have hsl : (depN h).selL out1 done1 (h.rooms.length - i2) i2 c2 = (depN h).selL out1 done1 (h.rooms.length - (i2 + 1)) (i2 + 1) (if (depN h).selC out1 done1 i2 c2 = true then (i2 : Int) else c2) := by
          rw [show h.rooms.length - i2 = (h.rooms.length - (i2 + 1)) + 1 by omega]; rfl
        have hsc := depN_selC (h := h) (out := out1) (done := done1) (i := i2) (c := c2) g1 g7
        repeat' first
          | apply AW.seq | apply AW.region | apply AW.ret | apply AW.block | apply AW.skip | apply AW.exit | apply AW.scope | apply AW.label | apply AWL.nil | apply D.nil
          | refine W.draw cx_mixed (by decide +kernel) ?_
          | ((first | (apply W.step cx_ok; decide) | (apply D.step cx_ok; decide; decide) | apply W.store cx_ok | (apply W.gS; rfl; decide) | (apply D.gS; rfl; decide; decide) | apply AW.cond); (simp (disch := omega) only [push_cast, simprocAttr, hS2, hZ2, hia, g1, g2, g3, g4, g6, g7, getD_eBool, get_eBool, hp11, hp21] <;> rfl); all_goals try ((with_reducible intro hI); try first | (cases hI; done) | (simp only [INTS] at hI; try first | (exfalso; omega) | (have hT : True := hI; clear hT hI))))
          | ((first | (apply W.gU; rfl; decide) | (apply D.gU; rfl; decide; decide)); (simp (disch := omega) only [push_cast, simprocAttr, hS2, hZ2, hia, g1, g2, g3, g4, g6, g7, getD_eBool, get_eBool, hp11, hp21] <;> rfl))
          | ((first | apply W.ret1 | apply W.end1); (iterate 2 (try (simp (disch := omega) only [push_cast, simprocAttr, hS2, hZ2, hia, g1, g2, g3, g4, g6, g7, getD_eBool, get_eBool, hp11, hp21] <;> rfl))))
        all_goals first
          | (have hcc : (depN h).selC out1 done1 i2 c2 = true := by rw [hsc]; simp only [INTS]; first | omega | (simp_all; omega) | (simp_all; done)
             rw [hsl, if_pos hcc] at hp12
             (refine ⟨h.rooms.length - (i2 + 1), ?_, i2 + 1, (i2 : Int), rfl, (by omega), hp12, (by omega), ?_, ?_, ?_, ?_, ?_, ?_, ?_, ?_, ?_, ?_, ?_⟩; (omega); all_goals first | (simp (disch := omega) only [push_cast, simprocAttr, hS2, hZ2, hia, g1, g2, g3, g4, g6, g7, getD_eBool, get_eBool, hp11, hp21] <;> first | rfl | omega) | omega))
          | (have hcc : ¬ (depN h).selC out1 done1 i2 c2 = true := by rw [hsc]; simp only [INTS]; first | omega | (simp_all; omega) | (simp_all; done)
             rw [hsl, if_neg hcc] at hp12
             (refine ⟨h.rooms.length - (i2 + 1), ?_, i2 + 1, c2, rfl, (by omega), hp12, (by omega), ?_, ?_, ?_, ?_, ?_, ?_, ?_, ?_, ?_, ?_, ?_⟩; (omega); all_goals first | (simp (disch := omega) only [push_cast, simprocAttr, hS2, hZ2, hia, g1, g2, g3, g4, g6, g7, getD_eBool, get_eBool, hp11, hp21] <;> first | rfl | omega) | omega))
      · have hia : ¬ (i2 : Int) < (h.rooms.length : Int) := by omega
        have hce : c2 = (depN h).sel out1 done1 := by rw [← hp12, show h.rooms.length - i2 = 0 by omega]; rfl
        have hdj : (depN h).dijF (h.rooms.length - k1) out1 done1 = if (depN h).sel out1 done1 < 0 then out1 else (depN h).dijF (h.rooms.length - (k1 + 1)) ((gates h).foldl ((depN h).relax ((depN h).sel out1 done1).toNat) out1) (done1.set ((depN h).sel out1 done1).toNat true) := by
          rw [show h.rooms.length - k1 = (h.rooms.length - (k1 + 1)) + 1 by omega]; rfl
        rw [← hce, hp31] at hdj
        by_cases hcn : c2 < 0
        · rw [if_pos hcn] at hdj
          repeat' first
            | apply AW.seq | apply AW.region | apply AW.ret | apply AW.block | apply AW.skip | apply AW.exit | apply AW.scope | apply AW.label | apply AWL.nil | apply D.nil
            | refine W.draw cx_mixed (by decide +kernel) ?_
            | ((first | (apply W.step cx_ok; decide) | (apply D.step cx_ok; decide; decide) | apply W.store cx_ok | (apply W.gS; rfl; decide) | (apply D.gS; rfl; decide; decide) | apply AW.cond); (simp (disch := omega) only [push_cast, simprocAttr, hS2, hZ2, hia, hcn, hp11, Nat.le_refl] <;> rfl); all_goals try ((with_reducible intro hI); try first | (cases hI; done) | (simp only [INTS] at hI; try first | (exfalso; omega) | (have hT : True := hI; clear hT hI))))
            | ((first | (apply W.gU; rfl; decide) | (apply D.gU; rfl; decide; decide)); (simp (disch := omega) only [push_cast, simprocAttr, hS2, hZ2, hia, hcn, hp11, Nat.le_refl] <;> rfl))
            | ((first | apply W.ret1 | apply W.end1); (iterate 2 (try (simp (disch := omega) only [push_cast, simprocAttr, hS2, hZ2, hia, hcn, hp11, Nat.le_refl] <;> rfl))))
          all_goals (show _ = _; rw [hdj])
        · rw [if_neg hcn] at hdj
          have g1 : 0 ≤ c2 := by omega
          have g2 : c2 < (h.rooms.length : Int) := by omega
          have g3 : c2.toNat < out1.length := by omega
          have g4 : c2.toNat < done1.length := by omega
          have g5 : c2.toNat < h.rooms.length := by omega
          have hso := ((Lab.sel_ok (depN_ok hv) out1 done1).some (by rw [← hce]; omega)).2.2.1
          rw [← hce, lab_at g3] at hso
          have hvl : 0 ≤ out1.getD c2.toNat 0 := by have hx : -(out1.getD c2.toNat 0) < -(-1) := hso; omega
          repeat' first
            | apply AW.seq | apply AW.region | apply AW.ret | apply AW.block | apply AW.skip | apply AW.exit | apply AW.scope | apply AW.label | apply AWL.nil | apply D.nil
            | refine W.draw cx_mixed (by decide +kernel) ?_
            | ((first | (apply W.step cx_ok; decide) | (apply D.step cx_ok; decide; decide) | apply W.store cx_ok | (apply W.gS; rfl; decide) | (apply D.gS; rfl; decide; decide) | apply AW.cond); (simp (disch := omega) only [push_cast, simprocAttr, hS2, hZ2, hia, hcn, g1, g2, g3, g4, g5, getD_eBool, get_eBool, hp11, hp21] <;> rfl); all_goals try ((with_reducible intro hI); try first | (cases hI; done) | (simp only [INTS] at hI; try first | (exfalso; omega) | (have hT : True := hI; clear hT hI))))
            | ((first | (apply W.gU; rfl; decide) | (apply D.gU; rfl; decide; decide)); (simp (disch := omega) only [push_cast, simprocAttr, hS2, hZ2, hia, hcn, g1, g2, g3, g4, g5, getD_eBool, get_eBool, hp11, hp21] <;> rfl))
            | ((first | apply W.ret1 | apply W.end1); (iterate 2 (try (simp (disch := omega) only [push_cast, simprocAttr, hS2, hZ2, hia, hcn, g1, g2, g3, g4, g5, getD_eBool, get_eBool, hp11, hp21] <;> rfl))))
          refine AW.loop (fun n s => ∃ (j : Nat) (out : List Int) (rest : List Gate), n = rest.length ∧ ((gates h).drop j = rest) ∧ (out.length = h.rooms.length) ∧ (∀ x ∈ out, -1 ≤ x ∧ x ≤ 1073741823) ∧ (rest.foldl ((depN h).relax c2.toNat) out = (gates h).foldl ((depN h).relax c2.toNat) out1) ∧ (out.getD c2.toNat 0 = out1.getD c2.toNat 0) ∧ 3 ≤ s.nx ∧ s.tm 3 = .ptr 0 0 0 1 ∧ s.tm 7 = .ref 1 0 h.rooms.length ∧ s.tm 8 = .ref 2 0 h.rooms.length ∧ s.tm 10 = .lst ((gates h).map eGateR) ∧ s.tm 11 = ai k1 ∧ s.tm 12 = ai c2 ∧ s.tm 14 = ai j ∧ Pg.rowAt s.H (0) = some ({ k := 3, es := [eHouse h], ty := 26 }) ∧ Pg.rowAt s.H (1) = some ({ k := 1, es := out.map eInt, ty := 3, lo := h.rooms.length }) ∧ Pg.rowAt s.H (2) = some ({ k := 1, es := (done1.set c2.toNat true).map eBool, ty := 4, lo := h.rooms.length })) ((gates h).length) ⟨0, out1, _, rfl, rfl, hp11, hp41, rfl, rfl, ?_, ?_, ?_, ?_, ?_, ?_, ?_, ?_, ?_, ?_, ?_⟩ ?_
          iterate 11 (first | (simp (disch := omega) only [push_cast, simprocAttr, hS2, hZ2, hia, hcn, g1, g2, g3, g4, g5, getD_eBool, get_eBool, hp11, hp21] <;> first | rfl | omega) | omega)
          rintro n3 s3 ⟨j3, out3, rest3, hn3, hp03, hp13, hp23, hp33, hp43, hnl3, hS3⟩
          have hZ3 : (0 : Nat) ≠ s3.nx ∧ s3.nx ≠ (0 : Nat) ∧ (1 : Nat) ≠ s3.nx ∧ s3.nx ≠ (1 : Nat) ∧ (2 : Nat) ≠ s3.nx ∧ s3.nx ≠ (2 : Nat) := by omega
          rcases rest3 with _ | ⟨x3, rest3⟩
          · have hk3 := drop_nil hp03
            repeat' first
              | apply AW.seq | apply AW.region | apply AW.ret | apply AW.block | apply AW.skip | apply AW.exit | apply AW.scope | apply AW.label | apply AWL.nil | apply D.nil
              | refine W.draw cx_mixed (by decide +kernel) ?_
              | ((first | (apply W.step cx_ok; decide) | (apply D.step cx_ok; decide; decide) | apply W.store cx_ok | (apply W.gS; rfl; decide) | (apply D.gS; rfl; decide; decide) | apply AW.cond); (simp (disch := omega) only [push_cast, simprocAttr, hS3, hZ3, hk3] <;> rfl); all_goals try ((with_reducible intro hI); try first | (cases hI; done) | (simp only [INTS] at hI; try first | (exfalso; omega) | (have hT : True := hI; clear hT hI))))
              | ((first | (apply W.gU; rfl; decide) | (apply D.gU; rfl; decide; decide)); (simp (disch := omega) only [push_cast, simprocAttr, hS3, hZ3, hk3] <;> rfl))
              | ((first | apply W.ret1 | apply W.end1); (iterate 2 (try (simp (disch := omega) only [push_cast, simprocAttr, hS3, hZ3, hk3] <;> rfl))))
            all_goals
              (have hfo : out3 = (gates h).foldl ((depN h).relax c2.toNat) out1 := by rw [← hp33]; rfl
               (refine ⟨h.rooms.length - (k1 + 1), ?_, k1 + 1, out3, done1.set c2.toNat true, rfl, (by omega), hp13, (by rw [List.length_set]; exact hp21), (by rw [hfo]; exact hdj.symm), hp23, ?_, ?_, ?_, ?_, ?_, ?_, ?_, ?_, ?_⟩; (omega); all_goals first | (simp (disch := omega) only [push_cast, simprocAttr, hS3, hZ3] <;> first | rfl | omega) | omega))
          · obtain ⟨hk3, hg3, hd'3, hl'3, hm3, hx3⟩ := drop_cons hp03 eGateR []
            have hgo := gate_ok hv hm3
            have q1 := hgo.from'.1
            have q2 := hgo.from'.2
            have q3 := hgo.to.1
            have q4 := hgo.to.2
            have q5 : x3.from'.toNat < out3.length := by omega
            have q6 : x3.to.toNat < out3.length := by omega
            have q7 : c2.toNat < out3.length := by omega
            have q8 : x3.from'.toNat < h.rooms.length := by omega
            have q9 : x3.to.toNat < h.rooms.length := by omega
            have hft := (gatesL_ok h.ways 0 _ _ hv.ways x3 hm3).2.2.2.2
            have hcb := hp23 _ (List.mem_of_getElem? (getD_set' out3 c2.toNat 0 q7))
            have hrx := depN_relax (h := h) (c := c2.toNat) (out := out3) (g := x3) (by omega) q7
            by_cases hsr : x3.to = c2
            · have hsq : (x3.to = c2) = True := eq_true hsr
              have hcv : 0 ≤ out3.getD c2.toNat 0 := by rw [hp43]; exact hvl
              rw [if_pos (by omega)] at hrx
              repeat' first
                | apply AW.seq | apply AW.region | apply AW.ret | apply AW.block | apply AW.skip | apply AW.exit | apply AW.scope | apply AW.label | apply AWL.nil | apply D.nil
                | refine AW.draw (id := 27) cx_mixed [17] [] [] 0 (by decide +kernel) ?_
                | refine W.draw cx_mixed (by decide +kernel) ?_
                | ((first | (apply W.step cx_ok; decide) | (apply D.step cx_ok; decide; decide) | apply W.store cx_ok | (apply W.gS; rfl; decide) | (apply D.gS; rfl; decide; decide) | apply AW.cond); (simp (disch := omega) only [push_cast, simprocAttr, hS3, hZ3, hk3, hg3, q1, q2, q3, q4, q5, q6, q7, q8, q9, g1, g2, g5, hp13, hsq] <;> rfl); all_goals try ((with_reducible intro hI); try first | (cases hI; done) | (simp only [INTS] at hI; try first | (exfalso; omega) | (have hT : True := hI; clear hT hI))))
                | ((first | (apply W.gU; rfl; decide) | (apply D.gU; rfl; decide; decide) | (apply D.store cx_ok; decide) | (apply D.stept cx_ok; decide; decide) | (apply D.stepm cx_ok; decide; decide)); (simp (disch := omega) only [push_cast, simprocAttr, hS3, hZ3, hk3, hg3, q1, q2, q3, q4, q5, q6, q7, q8, q9, g1, g2, g5, hp13, hsq] <;> rfl); try first | exact .inl rfl | exact .inr (by simp))
                | ((apply D.alloct cx_ok; decide; decide); (simp (disch := omega) only [push_cast, simprocAttr, hS3, hZ3, hk3, hg3, q1, q2, q3, q4, q5, q6, q7, q8, q9, g1, g2, g5, hp13, hsq] <;> rfl); first | exact .inl rfl | exact .inr (by simp))
                | ((first | (apply W.callv cx_ok; decide) | (apply D.callv cx_ok; decide; decide) | (apply D.callvt cx_ok; decide; decide)); (iterate 2 (simp (disch := omega) only [push_cast, simprocAttr, hS3, hZ3, hk3, hg3, q1, q2, q3, q4, q5, q6, q7, q8, q9, g1, g2, g5, hp13, hsq] <;> rfl)); (with_reducible first | exact departR_ok h x3 _ hv hgo (by omega) (by omega)); try first | rfl | (simp (disch := omega) only [push_cast, simprocAttr, hS3, hZ3, hk3, hg3, q1, q2, q3, q4, q5, q6, q7, q8, q9, g1, g2, g5, hp13, hsq] <;> rfl))
                | ((first | apply W.ret1 | apply W.end1); (iterate 2 (try (simp (disch := omega) only [push_cast, simprocAttr, hS3, hZ3, hk3, hg3, q1, q2, q3, q4, q5, q6, q7, q8, q9, g1, g2, g5, hp13, hsq] <;> rfl))))
              all_goals
                (have hnew := depart_spec hv hgo (t := out3.getD c2.toNat 0) (by omega)
                 (refine ⟨rest3.length, ?_, j3 + 1, (out3.set x3.from'.toNat (max (out3.getD x3.from'.toNat 0) (depart h x3 (out3.getD c2.toNat 0)))), rest3, rfl, hd'3, (by rw [List.length_set]; exact hp13), (by intro y hy; rcases List.mem_or_eq_of_mem_set hy with hy | rfl; exact hp23 y hy; (have := hp23 _ (List.mem_of_getElem? (getD_set' out3 x3.from'.toNat 0 (by omega))); omega)), (by rw [← hp33, List.foldl_cons, hrx]), (by rw [List.getD_eq_getElem?_getD, List.getElem?_set, if_neg (by omega), ← List.getD_eq_getElem?_getD]; exact hp43), ?_, ?_, ?_, ?_, ?_, ?_, ?_, ?_, ?_, ?_, ?_⟩; ((simp only [List.length_cons] at *; omega)); all_goals first | (simp (disch := omega) only [push_cast, simprocAttr, hS3, hZ3, hk3, hg3, q1, q2, q3, q4, q5, q6, q7, q8, q9, g1, g2, g5, hp13, hsq] <;> first | rfl | omega) | omega))
            · rw [if_neg (by omega)] at hrx
              repeat' first
                | apply AW.seq | apply AW.region | apply AW.ret | apply AW.block | apply AW.skip | apply AW.exit | apply AW.scope | apply AW.label | apply AWL.nil | apply D.nil
                | refine W.draw cx_mixed (by decide +kernel) ?_
                | ((first | (apply W.step cx_ok; decide) | (apply D.step cx_ok; decide; decide) | apply W.store cx_ok | (apply W.gS; rfl; decide) | (apply D.gS; rfl; decide; decide) | apply AW.cond); (simp (disch := omega) only [push_cast, simprocAttr, hS3, hZ3, hk3, hg3, q1, q2, q3, q4, q5, q6, q7, q8, q9, g1, g2, g5, hp13, hsr] <;> rfl); all_goals try ((with_reducible intro hI); try first | (cases hI; done) | (simp only [INTS] at hI; try first | (exfalso; omega) | (have hT : True := hI; clear hT hI))))
                | ((first | (apply W.gU; rfl; decide) | (apply D.gU; rfl; decide; decide)); (simp (disch := omega) only [push_cast, simprocAttr, hS3, hZ3, hk3, hg3, q1, q2, q3, q4, q5, q6, q7, q8, q9, g1, g2, g5, hp13, hsr] <;> rfl))
                | ((first | apply W.ret1 | apply W.end1); (iterate 2 (try (simp (disch := omega) only [push_cast, simprocAttr, hS3, hZ3, hk3, hg3, q1, q2, q3, q4, q5, q6, q7, q8, q9, g1, g2, g5, hp13, hsr] <;> rfl))))
              all_goals
                (refine ⟨rest3.length, ?_, j3 + 1, out3, rest3, rfl, hd'3, hp13, hp23, (by rw [← hp33, List.foldl_cons, hrx]), hp43, ?_, ?_, ?_, ?_, ?_, ?_, ?_, ?_, ?_, ?_, ?_⟩; ((simp only [List.length_cons] at *; omega)); all_goals first | (simp (disch := omega) only [push_cast, simprocAttr, hS3, hZ3, hk3, hg3, q1, q2, q3, q4, q5, q6, q7, q8, q9, g1, g2, g5, hp13, hsr] <;> first | rfl | omega) | omega)
    · have hk1a : ¬ (k1 : Int) < (h.rooms.length : Int) := by omega
      have hfin : out1 = depR h n0.toNat t := by rw [← hp31, show h.rooms.length - k1 = 0 by omega]; rfl
      repeat' first
        | apply AW.seq | apply AW.region | apply AW.ret | apply AW.block | apply AW.skip | apply AW.exit | apply AW.scope | apply AW.label | apply AWL.nil | apply D.nil
        | refine W.draw cx_mixed (by decide +kernel) ?_
        | ((first | (apply W.step cx_ok; decide) | (apply D.step cx_ok; decide; decide) | apply W.store cx_ok | (apply W.gS; rfl; decide) | (apply D.gS; rfl; decide; decide) | apply AW.cond); (simp (disch := omega) only [push_cast, simprocAttr, hS1, hZ1, hk1a, hp11, Nat.le_refl] <;> rfl); all_goals try ((with_reducible intro hI); try first | (cases hI; done) | (simp only [INTS] at hI; try first | (exfalso; omega) | (have hT : True := hI; clear hT hI))))
        | ((first | (apply W.gU; rfl; decide) | (apply D.gU; rfl; decide; decide)); (simp (disch := omega) only [push_cast, simprocAttr, hS1, hZ1, hk1a, hp11, Nat.le_refl] <;> rfl))
        | ((first | apply W.ret1 | apply W.end1); (iterate 2 (try (simp (disch := omega) only [push_cast, simprocAttr, hS1, hZ1, hk1a, hp11, Nat.le_refl] <;> rfl))))
      all_goals (show _ = _; rw [hfin])


end Go.Proofs.Hs

namespace Go.Proofs.Hs
open Go Go.Pg Go.Proofs

theorem arrH_eq {h : House} (hv : h.V) {n t : Int} (hn : 0 ≤ n ∧ n < (h.rooms.length : Int)) (ht : 0 ≤ t ∧ t ≤ 1073741823) : (arrH h n.toNat t).1 = arrR h n.toNat t := spread_is hv (by omega) ht
theorem EarliestR_ok (h : House) (n0 t : Int) (hfit : h.Fit) : OKv cx 28 [.agg (eHouse h), ai n0, ai t] (.agg [lInt (earliestH h n0 t).1, ai (earliestH h n0 t).2]) := by
  by_cases he : roomE h n0 t = 0
  · obtain ⟨hc, hn, ht⟩ := roomE_zero he
    unfold timeOK at ht
    have hE : earliestH h n0 t = (arrR h n0.toNat t, 0) := by rw [← arrH_eq (Check_V hc) hn ht]; exact if_neg (by simp [he])
    rw [hE]
    refine OKat.of_bodyM cx_ok (rs := [.cell 6 47]) Tryd.func28 rfl (by decide +kernel) rfl (by simp [Tryd.ntmps28]) ?_
    simp only [Tryd.ntmps28]
    repeat' first
      | apply AW.seq | apply AW.region | apply AW.ret | apply AW.block | apply AW.skip | apply AW.exit | apply AW.scope | apply AW.label | apply AWL.nil
      | ((first | (apply W.step cx_ok; decide) | apply W.store cx_ok | apply AW.cond); (simp (disch := omega) only [push_cast, simprocAttr, he] <;> rfl); all_goals try ((with_reducible intro hI); try first | (cases hI; done) | (simp only [INTS] at hI; try first | (exfalso; omega) | (have hT : True := hI; clear hT hI))))
      | ((apply W.callv cx_ok; decide); (iterate 2 (simp (disch := omega) only [push_cast, simprocAttr, he] <;> rfl)); (with_reducible first | exact room_ok _ _ _ hfit | exact Arrivals_ok h n0 t hfit (Check_V hc) hn ht); try first | rfl | (simp (disch := omega) only [push_cast, simprocAttr, he] <;> rfl))
      | ((first | apply W.retM | apply W.endM'); (iterate 2 (try (simp (disch := omega) only [push_cast, simprocAttr, he] <;> rfl))))
    all_goals (show _ = _; rfl)
  · have hE : earliestH h n0 t = ([], roomE h n0 t) := if_pos he
    rw [hE]
    refine OKat.of_bodyM cx_ok (rs := [.cell 6 47]) Tryd.func28 rfl (by decide +kernel) rfl (by simp [Tryd.ntmps28]) ?_
    simp only [Tryd.ntmps28]
    repeat' first
      | apply AW.seq | apply AW.region | apply AW.ret | apply AW.block | apply AW.skip | apply AW.exit | apply AW.scope | apply AW.label | apply AWL.nil
      | ((first | (apply W.step cx_ok; decide) | apply W.store cx_ok | apply AW.cond); (simp (disch := omega) only [push_cast, simprocAttr, he] <;> rfl); all_goals try ((with_reducible intro hI); try first | (cases hI; done) | (simp only [INTS] at hI; try first | (exfalso; omega) | (have hT : True := hI; clear hT hI))))
      | ((apply W.callv cx_ok; decide); (iterate 2 (simp (disch := omega) only [push_cast, simprocAttr, he] <;> rfl)); (with_reducible first | exact room_ok _ _ _ hfit); try first | rfl | (simp (disch := omega) only [push_cast, simprocAttr, he] <;> rfl))
      | ((first | apply W.retM | apply W.endM'); (iterate 2 (try (simp (disch := omega) only [push_cast, simprocAttr, he] <;> rfl))))
    all_goals (show _ = _; rfl)
theorem LatestR_ok (h : House) (n0 t : Int) (hfit : h.Fit) : OKv cx 30 [.agg (eHouse h), ai n0, ai t] (.agg [lInt (latestH h n0 t).1, ai (latestH h n0 t).2]) := by
  by_cases he : roomE h n0 t = 0
  · obtain ⟨hc, hn, ht⟩ := roomE_zero he
    unfold timeOK at ht
    have hE : latestH h n0 t = (depR h n0.toNat t, 0) := by rw [← late_is (Check_V hc) (by omega) ht]; exact if_neg (by simp [he])
    rw [hE]
    refine OKat.of_bodyM cx_ok (rs := [.cell 6 47]) Tryd.func30 rfl (by decide +kernel) rfl (by simp [Tryd.ntmps30]) ?_
    simp only [Tryd.ntmps30]
    repeat' first
      | apply AW.seq | apply AW.region | apply AW.ret | apply AW.block | apply AW.skip | apply AW.exit | apply AW.scope | apply AW.label | apply AWL.nil
      | ((first | (apply W.step cx_ok; decide) | apply W.store cx_ok | apply AW.cond); (simp (disch := omega) only [push_cast, simprocAttr, he] <;> rfl); all_goals try ((with_reducible intro hI); try first | (cases hI; done) | (simp only [INTS] at hI; try first | (exfalso; omega) | (have hT : True := hI; clear hT hI))))
      | ((apply W.callv cx_ok; decide); (iterate 2 (simp (disch := omega) only [push_cast, simprocAttr, he] <;> rfl)); (with_reducible first | exact room_ok _ _ _ hfit | exact Departures_ok h n0 t hfit (Check_V hc) hn ht); try first | rfl | (simp (disch := omega) only [push_cast, simprocAttr, he] <;> rfl))
      | ((first | apply W.retM | apply W.endM'); (iterate 2 (try (simp (disch := omega) only [push_cast, simprocAttr, he] <;> rfl))))
    all_goals (show _ = _; rfl)
  · have hE : latestH h n0 t = ([], roomE h n0 t) := if_pos he
    rw [hE]
    refine OKat.of_bodyM cx_ok (rs := [.cell 6 47]) Tryd.func30 rfl (by decide +kernel) rfl (by simp [Tryd.ntmps30]) ?_
    simp only [Tryd.ntmps30]
    repeat' first
      | apply AW.seq | apply AW.region | apply AW.ret | apply AW.block | apply AW.skip | apply AW.exit | apply AW.scope | apply AW.label | apply AWL.nil
      | ((first | (apply W.step cx_ok; decide) | apply W.store cx_ok | apply AW.cond); (simp (disch := omega) only [push_cast, simprocAttr, he] <;> rfl); all_goals try ((with_reducible intro hI); try first | (cases hI; done) | (simp only [INTS] at hI; try first | (exfalso; omega) | (have hT : True := hI; clear hT hI))))
      | ((apply W.callv cx_ok; decide); (iterate 2 (simp (disch := omega) only [push_cast, simprocAttr, he] <;> rfl)); (with_reducible first | exact room_ok _ _ _ hfit); try first | rfl | (simp (disch := omega) only [push_cast, simprocAttr, he] <;> rfl))
      | ((first | apply W.retM | apply W.endM'); (iterate 2 (try (simp (disch := omega) only [push_cast, simprocAttr, he] <;> rfl))))
    all_goals (show _ = _; rfl)
theorem twoE_eq (h : House) (a ta b tb : Int) : twoE h a ta b tb = askedE h [a, b] [ta, tb] := by rw [askedE_two]; rfl
theorem CanR_ok (h : House) (a ta b tb : Int) (hfit : h.Fit) : OKv cx 32 [.agg (eHouse h), ai a, ai ta, ai b, ai tb] (.tup [ab (canH h a ta b tb).1, ai (canH h a ta b tb).2]) := by
  by_cases he : twoE h a ta b tb = 0
  · obtain ⟨hc, hra, hrb, hta, htb⟩ := askedE_two_zero (by rw [← twoE_eq]; exact he)
    have hl := (arrH_len h a.toNat ta).1
    rw [arrH_eq (Check_V hc) hra hta] at hl
    have hb1 := hrb.1
    have hb2 := hrb.2
    have hb3 : b.toNat < (arrR h a.toNat ta).length := by omega
    have hb4 : b < ((arrR h a.toNat ta).length : Int) := by omega
    have hC : canH h a ta b tb = (decide ((arrR h a.toNat ta).getD b.toNat 0 ≤ tb), 0) := by rw [← arrH_eq (Check_V hc) hra hta]; exact if_neg (by rw [← twoE_eq]; simp [he])
    rw [hC]
    refine OKat.of_body (rs := [10, 11]) Tryd.func32 rfl (by decide +kernel) rfl (by simp [Tryd.ntmps32]) ?_
    simp only [Tryd.ntmps32]
    repeat' first
      | apply AW.seq | apply AW.region | apply AW.ret | apply AW.block | apply AW.skip | apply AW.exit | apply AW.scope | apply AW.label | apply AWL.nil
      | ((first | (apply W.step cx_ok; decide) | apply AW.cond); (simp (disch := omega) only [push_cast, simprocAttr, he, hb1, hb2, hb3, hb4] <;> rfl); all_goals try ((with_reducible intro hI); try first | (cases hI; done) | (simp only [INTS] at hI; try first | (exfalso; omega) | (have hT : True := hI; clear hT hI))))
      | ((apply W.callv cx_ok; decide); (iterate 2 (simp (disch := omega) only [push_cast, simprocAttr, he, hb1, hb2, hb3, hb4] <;> rfl)); (with_reducible first | exact Two_ok _ _ _ _ _ hfit | exact Arrivals_ok h a ta hfit (Check_V hc) hra hta); try first | rfl | (simp (disch := omega) only [push_cast, simprocAttr, he, hb1, hb2, hb3, hb4] <;> rfl))
      | ((first | apply W.ret2 | apply W.end2); (iterate 2 (try (simp (disch := omega) only [push_cast, simprocAttr, he, hb1, hb2, hb3, hb4] <;> rfl))))
    all_goals (show _ = _; first | rfl | (simp [*]; done))
  · have hC : canH h a ta b tb = (false, twoE h a ta b tb) := by rw [twoE_eq]; exact if_pos (by rw [← twoE_eq]; exact he)
    rw [hC]
    refine OKat.of_body (rs := [10, 11]) Tryd.func32 rfl (by decide +kernel) rfl (by simp [Tryd.ntmps32]) ?_
    simp only [Tryd.ntmps32]
    repeat' first
      | apply AW.seq | apply AW.region | apply AW.ret | apply AW.block | apply AW.skip | apply AW.exit | apply AW.scope | apply AW.label | apply AWL.nil
      | ((first | (apply W.step cx_ok; decide) | apply AW.cond); (simp (disch := omega) only [push_cast, simprocAttr, he] <;> rfl); all_goals try ((with_reducible intro hI); try first | (cases hI; done) | (simp only [INTS] at hI; try first | (exfalso; omega) | (have hT : True := hI; clear hT hI))))
      | ((apply W.callv cx_ok; decide); (iterate 2 (simp (disch := omega) only [push_cast, simprocAttr, he] <;> rfl)); (with_reducible first | exact Two_ok _ _ _ _ _ hfit); try first | rfl | (simp (disch := omega) only [push_cast, simprocAttr, he] <;> rfl))
      | ((first | apply W.ret2 | apply W.end2); (iterate 2 (try (simp (disch := omega) only [push_cast, simprocAttr, he] <;> rfl))))
    all_goals (show _ = _; rfl)

theorem IsWallR_ok (h : House) (a ta b tb : Int) (l : List Int) (hfit : h.Fit) (hv : h.V) (hra : 0 ≤ a ∧ a < (h.rooms.length : Int)) (hrb : 0 ≤ b ∧ b < (h.rooms.length : Int)) (hll : l.length ≤ 1099511627776) : OKv cx 35 [.agg (eHouse h), ai a, ai ta, ai b, ai tb, lInt l] (ab (isWall h a ta b tb l)) := by
  have hgl := gates_len h
  have hwn := hv.nw
  have hrn := hv.rooms
  by_cases hln : l.length = h.rooms.length
  · have hle : (l.length : Int) = (h.rooms.length : Int) := by omega
    have ha1 := hra.1
    have ha2 : a < (l.length : Int) := by omega
    have ha3 : a.toNat < l.length := by omega
    have ha4 := hra.2
    have hb1 := hrb.1
    have hb2 : b < (l.length : Int) := by omega
    have hb3 : b.toNat < l.length := by omega
    have hb4 := hrb.2
    have hIW : isWall h a ta b tb l = (l.all neverB && (decide (l.getD a.toNat 0 ≤ ta) && (decide (tb < l.getD b.toNat 0) && (gates h).all (fineG h l)))) := by
      unfold isWall; rw [decide_eq_true hln, Bool.true_and]
    refine OKat.of_body (rs := [12]) Tryd.func35 rfl (by decide +kernel) rfl (by simp [Tryd.ntmps35]) ?_
    simp only [Tryd.ntmps35]
    repeat' first
      | apply AW.seq | apply AW.region | apply AW.ret | apply AW.block | apply AW.skip | apply AW.exit | apply AW.scope | apply AW.label | apply AWL.nil | apply D.nil
      | refine W.draw cx_mixed (by decide +kernel) ?_
      | ((first | (apply W.step cx_ok; decide) | (apply D.step cx_ok; decide; decide) | (apply W.gS; rfl; decide) | (apply D.gS; rfl; decide; decide) | apply AW.cond); (simp (disch := omega) only [push_cast, simprocAttr, ha1, ha2, ha3, ha4, hb1, hb2, hb3, hb4] <;> rfl); all_goals try ((with_reducible intro hI); try first | (cases hI; done) | (simp only [INTS] at hI; try first | (exfalso; omega) | (have hT : True := hI; clear hT hI))))
      | ((first | apply W.ret1 | apply W.end1); (iterate 2 (try (simp (disch := omega) only [push_cast, simprocAttr, ha1, ha2, ha3, ha4, hb1, hb2, hb3, hb4] <;> rfl))))
    all_goals try (exfalso; omega)
    refine AW.loop (fun n s => ∃ (k : Nat) (rest : List Int), n = rest.length ∧ (l.drop k = rest) ∧ (rest.all neverB = l.all neverB) ∧ 1 ≤ s.nx ∧ s.tm 1 = ai a ∧ s.tm 2 = ai ta ∧ s.tm 3 = ai b ∧ s.tm 4 = ai tb ∧ s.tm 5 = lInt l ∧ s.tm 6 = .ptr 0 0 0 1 ∧ s.tm 13 = ai k ∧ Pg.rowAt s.H (0) = some ({ k := 3, es := [eHouse h], ty := 26 })) (l.length) ⟨0, _, rfl, rfl, rfl, ?_, ?_, ?_, ?_, ?_, ?_, ?_, ?_, ?_⟩ ?_
    iterate 9 (first | (simp (disch := omega) only [push_cast, simprocAttr, ha1, ha2, ha3, ha4, hb1, hb2, hb3, hb4] <;> first | rfl | omega) | omega)
    rintro n s ⟨k, rest, hn, hp0, hp1, hnl, hS⟩
    have hZ : (0 : Nat) ≠ s.nx ∧ s.nx ≠ (0 : Nat) := by omega
    rcases rest with _ | ⟨x, rest⟩
    · have hk := drop_nil hp0
      have hall : l.all neverB = true := by rw [← hp1]; rfl
      repeat' first
        | apply AW.seq | apply AW.region | apply AW.ret | apply AW.block | apply AW.skip | apply AW.exit | apply AW.scope | apply AW.label | apply AWL.nil | apply D.nil
        | refine W.draw cx_mixed (by decide +kernel) ?_
        | ((first | (apply W.step cx_ok; decide) | (apply D.step cx_ok; decide; decide) | (apply W.gS; rfl; decide) | (apply D.gS; rfl; decide; decide) | apply AW.cond); (simp (disch := omega) only [push_cast, simprocAttr, hS, hZ, hk, ha1, ha2, ha3, ha4, hb1, hb2, hb3, hb4] <;> rfl); all_goals try ((with_reducible intro hI); try first | (cases hI; done) | (simp only [INTS] at hI; try first | (exfalso; omega) | (have hT : True := hI; clear hT hI))))
        | ((first | (apply W.callv cx_ok; decide) | (apply D.callv cx_ok; decide; decide)); (iterate 2 (simp (disch := omega) only [push_cast, simprocAttr, hS, hZ, hk, ha1, ha2, ha3, ha4, hb1, hb2, hb3, hb4] <;> rfl)); (with_reducible first | exact GatesR_ok h hfit.nw); try first | rfl | (simp (disch := omega) only [push_cast, simprocAttr, hS, hZ, hk, ha1, ha2, ha3, ha4, hb1, hb2, hb3, hb4] <;> rfl))
        | ((first | apply W.ret1 | apply W.end1); (iterate 2 (try (simp (disch := omega) only [push_cast, simprocAttr, hS, hZ, hk, ha1, ha2, ha3, ha4, hb1, hb2, hb3, hb4] <;> rfl))))
      all_goals try
        (have hf : isWall h a ta b tb l = false := by
           rw [hIW, hall]; simp only [Bool.true_and, Bool.and_eq_false_iff, decide_eq_false_iff_not]; first | exact .inl (by omega) | exact .inr (.inl (by omega))
         show _ = _; rw [hf]; first | done | rfl)
      have hI2 : isWall h a ta b tb l = (gates h).all (fineG h l) := by
        rw [hIW, hall, decide_eq_true (by omega), decide_eq_true (by omega)]; rfl
      refine AW.loop (fun n s => ∃ (k : Nat) (rest : List Gate), n = rest.length ∧ ((gates h).drop k = rest) ∧ (rest.all (fineG h l) = (gates h).all (fineG h l)) ∧ 1 ≤ s.nx ∧ s.tm 5 = lInt l ∧ s.tm 6 = .ptr 0 0 0 1 ∧ s.tm 14 = .lst ((gates h).map eGateR) ∧ s.tm 15 = ai k ∧ Pg.rowAt s.H (0) = some ({ k := 3, es := [eHouse h], ty := 26 })) ((gates h).length) ⟨0, _, rfl, rfl, rfl, ?_, ?_, ?_, ?_, ?_, ?_⟩ ?_
      iterate 6 (first | (simp (disch := omega) only [push_cast, simprocAttr, hS, hZ, hk, ha1, ha2, ha3, ha4, hb1, hb2, hb3, hb4] <;> first | rfl | omega) | omega)
      rintro n2 s2 ⟨k2, rest2, hn2, hp02, hp12, hnl2, hS2⟩
      have hZ2 : (0 : Nat) ≠ s2.nx ∧ s2.nx ≠ (0 : Nat) := by omega
      rcases rest2 with _ | ⟨x2, rest2⟩
      · have hk2 := drop_nil hp02
        repeat' first
          | apply AW.seq | apply AW.region | apply AW.ret | apply AW.block | apply AW.skip | apply AW.exit | apply AW.scope | apply AW.label | apply AWL.nil | apply D.nil
          | refine W.draw cx_mixed (by decide +kernel) ?_
          | ((first | (apply W.step cx_ok; decide) | (apply D.step cx_ok; decide; decide) | (apply W.gS; rfl; decide) | (apply D.gS; rfl; decide; decide) | apply AW.cond); (simp (disch := omega) only [push_cast, simprocAttr, hS2, hZ2, hk2] <;> rfl); all_goals try ((with_reducible intro hI); try first | (cases hI; done) | (simp only [INTS] at hI; try first | (exfalso; omega) | (have hT : True := hI; clear hT hI))))
          | ((first | apply W.ret1 | apply W.end1); (iterate 2 (try (simp (disch := omega) only [push_cast, simprocAttr, hS2, hZ2, hk2] <;> rfl))))
        all_goals (show _ = _; rw [hI2, ← hp12]; first | done | rfl)
      · obtain ⟨hk2, hg2, hd'2, hl'2, hm2, hx2⟩ := drop_cons hp02 eGateR []
        have hgo := gate_ok hv hm2
        have g1 := hgo.from'.1
        have g2 : x2.from' < (l.length : Int) := by have := hgo.from'.2; omega
        have g3 := hgo.to.1
        have g4 : x2.to < (l.length : Int) := by have := hgo.to.2; omega
        have g5 : x2.from'.toNat < l.length := by omega
        have g6 : x2.to.toNat < l.length := by omega
        have hx0 : neverB (l.getD x2.from'.toNat 0) = true := List.all_eq_true.1 hall _ (List.mem_of_getElem? (getD_set' l x2.from'.toNat 0 g5))
        simp only [neverB, Bool.and_eq_true, decide_eq_true_eq] at hx0
        repeat' first
          | apply AW.seq | apply AW.region | apply AW.ret | apply AW.block | apply AW.skip | apply AW.exit | apply AW.scope | apply AW.label | apply AWL.nil | apply D.nil
          | refine W.draw cx_mixed (by decide +kernel) ?_
          | ((first | (apply W.step cx_ok; decide) | (apply D.step cx_ok; decide; decide) | (apply W.gS; rfl; decide) | (apply D.gS; rfl; decide; decide) | apply AW.cond); (simp (disch := omega) only [push_cast, simprocAttr, hS2, hZ2, hk2, hg2, g1, g2, g3, g4, g5, g6] <;> rfl); all_goals try ((with_reducible intro hI); try first | (cases hI; done) | (simp only [INTS] at hI; try first | (exfalso; omega) | (have hT : True := hI; clear hT hI))))
          | ((first | (apply W.callv cx_ok; decide) | (apply D.callv cx_ok; decide; decide)); (iterate 2 (simp (disch := omega) only [push_cast, simprocAttr, hS2, hZ2, hk2, hg2, g1, g2, g3, g4, g5, g6] <;> rfl)); (with_reducible first | exact enterR_ok h x2 _ hv hgo (by omega) (by omega)); try first | rfl | (simp (disch := omega) only [push_cast, simprocAttr, hS2, hZ2, hk2, hg2, g1, g2, g3, g4, g5, g6] <;> rfl))
          | ((first | apply W.ret1 | apply W.end1); (iterate 2 (try (simp (disch := omega) only [push_cast, simprocAttr, hS2, hZ2, hk2, hg2, g1, g2, g3, g4, g5, g6] <;> rfl))))
        all_goals first
          | (have hq : fineG h l x2 = true := by
               simp only [fineG, timeB, Bool.not_eq_true', Bool.and_eq_false_iff, decide_eq_false_iff_not]; omega
             rw [List.all_cons, hq, Bool.true_and] at hp12
             (refine ⟨rest2.length, ?_, k2 + 1, rest2, rfl, hd'2, hp12, ?_, ?_, ?_, ?_, ?_, ?_⟩; ((simp only [List.length_cons] at *; omega)); all_goals first | (simp (disch := omega) only [push_cast, simprocAttr, hS2, hZ2, hg2, hk2] <;> first | rfl | omega) | omega))
          | (have hq : fineG h l x2 = false := by
               simp only [fineG, timeB, Bool.not_eq_false', Bool.and_eq_true, decide_eq_true_eq]; omega
             show _ = _; rw [hI2, ← hp12, List.all_cons, hq]; first | done | rfl)
    · obtain ⟨hk, hg, hd', hl', hm, hx⟩ := drop_cons hp0 eInt []
      repeat' first
        | apply AW.seq | apply AW.region | apply AW.ret | apply AW.block | apply AW.skip | apply AW.exit | apply AW.scope | apply AW.label | apply AWL.nil | apply D.nil
        | refine W.draw cx_mixed (by decide +kernel) ?_
        | ((first | (apply W.step cx_ok; decide) | (apply D.step cx_ok; decide; decide) | (apply W.gS; rfl; decide) | (apply D.gS; rfl; decide; decide) | apply AW.cond); (simp (disch := omega) only [push_cast, simprocAttr, hS, hZ, hk, hg, ha1, ha2, ha3, ha4, hb1, hb2, hb3, hb4] <;> rfl); all_goals try ((with_reducible intro hI); try first | (cases hI; done) | (simp only [INTS] at hI; try first | (exfalso; omega) | (have hT : True := hI; clear hT hI))))
        | ((first | (apply W.callv cx_ok; decide) | (apply D.callv cx_ok; decide; decide)); (iterate 2 (simp (disch := omega) only [push_cast, simprocAttr, hS, hZ, hk, hg, ha1, ha2, ha3, ha4, hb1, hb2, hb3, hb4] <;> rfl)); (with_reducible first | exact In_ok _ _ _); try first | rfl | (simp (disch := omega) only [push_cast, simprocAttr, hS, hZ, hk, hg, ha1, ha2, ha3, ha4, hb1, hb2, hb3, hb4] <;> rfl))
        | ((first | apply W.ret1 | apply W.end1); (iterate 2 (try (simp (disch := omega) only [push_cast, simprocAttr, hS, hZ, hk, hg, ha1, ha2, ha3, ha4, hb1, hb2, hb3, hb4] <;> rfl))))
      all_goals first
        | (have hq : neverB x = false := by simp only [neverB, Bool.and_eq_false_iff, decide_eq_false_iff_not]; omega
           show _ = _; rw [hIW, ← hp1, List.all_cons, hq]; first | done | rfl)
        | (have hq : neverB x = true := by simp only [neverB, Bool.and_eq_true, decide_eq_true_eq]; omega
           rw [List.all_cons, hq, Bool.true_and] at hp1
           (refine ⟨rest.length, ?_, k + 1, rest, rfl, hd', hp1, ?_, ?_, ?_, ?_, ?_, ?_, ?_, ?_, ?_⟩; ((simp only [List.length_cons] at *; omega)); all_goals first | (simp (disch := omega) only [push_cast, simprocAttr, hS, hZ, hg, hk] <;> first | rfl | omega) | omega))
  · have hle : ¬ (l.length : Int) = (h.rooms.length : Int) := by omega
    have hIW : isWall h a ta b tb l = false := by unfold isWall; rw [decide_eq_false hln]; rfl
    refine OKat.of_body (rs := [12]) Tryd.func35 rfl (by decide +kernel) rfl (by simp [Tryd.ntmps35]) ?_
    simp only [Tryd.ntmps35]
    repeat' first
      | apply AW.seq | apply AW.region | apply AW.ret | apply AW.block | apply AW.skip | apply AW.exit | apply AW.scope | apply AW.label | apply AWL.nil | apply D.nil
      | refine W.draw cx_mixed (by decide +kernel) ?_
      | ((first | (apply W.step cx_ok; decide) | (apply D.step cx_ok; decide; decide) | (apply W.gS; rfl; decide) | (apply D.gS; rfl; decide; decide) | apply AW.cond); (simp (disch := omega) only [push_cast, simprocAttr] <;> rfl); all_goals try ((with_reducible intro hI); try first | (cases hI; done) | (simp only [INTS] at hI; try first | (exfalso; omega) | (have hT : True := hI; clear hT hI))))
      | ((first | apply W.ret1 | apply W.end1); (iterate 2 (try (simp (disch := omega) only [push_cast, simprocAttr] <;> rfl))))
    all_goals first
      | (show _ = _; rw [hIW]; done)
      | (exfalso; omega)
theorem CheckWallR_ok (h : House) (a ta b tb : Int) (l : List Int) (hfit : h.Fit) (hll : l.length ≤ 1099511627776) : OKv cx 51 [.agg (eHouse h), ai a, ai ta, ai b, ai tb, lInt l] (ai (checkWallH h a ta b tb l)) := by
  by_cases he : twoE h a ta b tb = 0
  · obtain ⟨hc, hra, hrb, hta, htb⟩ := askedE_two_zero (by rw [← twoE_eq]; exact he)
    have hW : checkWallH h a ta b tb l = if isWall h a ta b tb l = true then 0 else 8 := if_neg (by rw [← twoE_eq]; simp [he])
    rw [hW]
    refine OKat.of_body (rs := [12]) Tryd.func51 rfl (by decide +kernel) rfl (by simp [Tryd.ntmps51]) ?_
    simp only [Tryd.ntmps51]
    repeat' first
      | apply AW.seq | apply AW.region | apply AW.ret | apply AW.block | apply AW.skip | apply AW.exit | apply AW.scope | apply AW.label | apply AWL.nil
      | ((first | (apply W.step cx_ok; decide) | apply AW.cond); (simp (disch := omega) only [push_cast, simprocAttr, he] <;> rfl); all_goals try ((with_reducible intro hI); try first | (cases hI; done) | (simp only [INTS] at hI; try first | (exfalso; omega) | (have hT : True := hI; clear hT hI))))
      | ((apply W.callv cx_ok; decide); (iterate 2 (simp (disch := omega) only [push_cast, simprocAttr, he] <;> rfl)); (with_reducible first | exact Two_ok _ _ _ _ _ hfit | exact IsWallR_ok h a ta b tb l hfit (Check_V hc) hra hrb hll); try first | rfl | (simp (disch := omega) only [push_cast, simprocAttr, he] <;> rfl))
      | ((first | apply W.ret1 | apply W.end1); (iterate 2 (try (simp (disch := omega) only [push_cast, simprocAttr, he] <;> rfl))))
    all_goals (show _ = _; first | (rw [if_pos (by assumption)]; done) | (rw [if_neg (by simp [*])]; done))
  · have hW : checkWallH h a ta b tb l = twoE h a ta b tb := by rw [twoE_eq]; exact if_pos (by rw [← twoE_eq]; exact he)
    rw [hW]
    refine OKat.of_body (rs := [12]) Tryd.func51 rfl (by decide +kernel) rfl (by simp [Tryd.ntmps51]) ?_
    simp only [Tryd.ntmps51]
    repeat' first
      | apply AW.seq | apply AW.region | apply AW.ret | apply AW.block | apply AW.skip | apply AW.exit | apply AW.scope | apply AW.label | apply AWL.nil
      | ((first | (apply W.step cx_ok; decide) | apply AW.cond); (simp (disch := omega) only [push_cast, simprocAttr, he] <;> rfl); all_goals try ((with_reducible intro hI); try first | (cases hI; done) | (simp only [INTS] at hI; try first | (exfalso; omega) | (have hT : True := hI; clear hT hI))))
      | ((apply W.callv cx_ok; decide); (iterate 2 (simp (disch := omega) only [push_cast, simprocAttr, he] <;> rfl)); (with_reducible first | exact Two_ok _ _ _ _ _ hfit); try first | rfl | (simp (disch := omega) only [push_cast, simprocAttr, he] <;> rfl))
      | ((first | apply W.ret1 | apply W.end1); (iterate 2 (try (simp (disch := omega) only [push_cast, simprocAttr, he] <;> rfl))))
    all_goals (show _ = _; rfl)

theorem SameR_ok (l : List Int) (hl : l.length ≤ 1099511627776) : OKv cx 33 [lInt l, lInt l] (ab true) := by
  have := SameInts_ok l l hl hl
  rw [decide_eq_true rfl] at this; exact this
theorem earliestH_len (h : House) (n t : Int) : (earliestH h n t).1.length ≤ h.rooms.length := by
  unfold earliestH
  split
  · simp
  · rw [(arrH_len h n.toNat t).1]; exact Nat.le_refl _
theorem lateF_len (f : Gate → Int → Int) (gs : List Gate) : ∀ (k : Nat) (row : List Int), (lateF f gs k row).length = row.length := by
  have hstep : ∀ (l : List Gate) (p : List Int × Bool), (l.foldl (lateStep f) p).1.length = p.1.length := by
    intro l
    induction l with
    | nil => intro p; rfl
    | cons g l ih =>
      intro p
      rw [List.foldl_cons, ih]
      unfold lateStep
      split
      · rfl
      · split
        · simp
        · rfl
  intro k
  induction k with
  | zero => intro row; rfl
  | succ k ih =>
    intro row
    unfold lateF
    split
    · rw [ih, hstep]
    · rw [hstep]
theorem latestH_len (h : House) (n t : Int) : (latestH h n t).1.length ≤ h.rooms.length := by
  unfold latestH
  split
  · simp
  · unfold late; rw [lateF_len]; simp

end Go.Proofs.Hs
