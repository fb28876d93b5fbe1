/-
  Contracts of functions, proved by going through their code. No conditions.
-/
import Derived.Test.YtbeiiipphicdlaaGreatDoorTao
import Derived.Test.YtbeiiipphicdlaaGreatDoorTap
import Derived.Test.YtbeiiipphicdlaaGreatDoorTau
import Derived.Test.YtbeiiipphicdlaaGreatDoorTbd
set_option linter.unusedVariables false
set_option linter.unusedSimpArgs false
set_option maxHeartbeats 8000000
set_option maxRecDepth 10000
namespace Go.Proofs.Hz
open Go Go.Pg Go.Proofs
theorem enter_ok (h : House) (g : Gate) (t : Int) (hv : h.V) (hg : g.OK h) (h0 : 0 ≤ t) (h1 : t ≤ 1073741824) : OKv cx 43 [.agg (eHouse h), .agg (eGate g), ai t] (ai (enter h g t)) := by
  have hb := nextAt_ge hv hg h0 h1
  have hs := hg.secs
  by_cases hdn : 0 ≤ g.door
  · have hdl := hg.door.2
    have hdv := hv.door hdn hdl
    have hdg : (h.doors.map eDoor).getD g.door.toNat [] = eDoor (h.door g.door) := getD_map eDoor h.doors _ [] ⟨[], []⟩ (by omega)
    have hn : h.nextAt g t = next (h.door g.door) t := if_pos hdn
    rw [hn] at hb
    refine OKat.of_body (rs := [6]) Tryz.func43 rfl (by decide +kernel) rfl (by simp [Tryz.ntmps43]) ?_
    simp only [Tryz.ntmps43]
    repeat' first
      | apply AW.seq | apply AW.region | apply AW.ret | apply AW.block | apply AW.skip | apply AW.exit | apply AW.scope | apply AW.label | apply AWL.nil
      | ((first | (apply W.step cx_ok; decide) | apply AW.cond); (simp (disch := omega) only [push_cast, simprocAttr, hdn, hdl, hdg] <;> rfl); all_goals try ((with_reducible intro hI); try first | (cases hI; done) | (simp only [INTS] at hI; try first | (exfalso; omega) | (have hT : True := hI; clear hT hI))))
      | ((apply W.callv cx_ok; decide); (iterate 2 (simp (disch := omega) only [push_cast, simprocAttr, hdn, hdl, hdg] <;> rfl)); (with_reducible first | exact next_ok _ _ hdv.ok h0 h1); try first | rfl | (simp (disch := omega) only [push_cast, simprocAttr, hdn, hdl, hdg] <;> rfl))
      | ((first | apply W.ret1 | apply W.end1); (iterate 2 (try (simp (disch := omega) only [push_cast, simprocAttr, hdn, hdl, hdg] <;> rfl))))
    all_goals (show _ = _; unfold enter; rw [hn]; first | rw [if_pos (by omega)] | rw [if_neg (by omega)])
  · have hn : h.nextAt g t = t := if_neg hdn
    refine OKat.of_body (rs := [6]) Tryz.func43 rfl (by decide +kernel) rfl (by simp [Tryz.ntmps43]) ?_
    simp only [Tryz.ntmps43]
    repeat' first
      | apply AW.seq | apply AW.region | apply AW.ret | apply AW.block | apply AW.skip | apply AW.exit | apply AW.scope | apply AW.label | apply AWL.nil
      | ((first | (apply W.step cx_ok; decide) | apply AW.cond); (simp (disch := omega) only [push_cast, simprocAttr, hdn] <;> rfl); all_goals try ((with_reducible intro hI); try first | (cases hI; done) | (simp only [INTS] at hI; try first | (exfalso; omega) | (have hT : True := hI; clear hT hI))))
      | ((first | apply W.ret1 | apply W.end1); (iterate 2 (try (simp (disch := omega) only [push_cast, simprocAttr, hdn] <;> rfl))))
    all_goals (show _ = _; unfold enter; rw [hn]; first | rw [if_pos (by omega)] | rw [if_neg (by omega)])
theorem depart_ok (h : House) (g : Gate) (t : Int) (hv : h.V) (hg : g.OK h) (h0 : 0 ≤ t) (h1 : t ≤ 1073741824) : OKv cx 39 [.agg (eHouse h), .agg (eGate g), ai t] (ai (depart h g t)) := by
  have hs := hg.secs
  by_cases hdn : 0 ≤ g.door
  · have hdl := hg.door.2
    have hdv := hv.door hdn hdl
    have hdg : (h.doors.map eDoor).getD g.door.toNat [] = eDoor (h.door g.door) := getD_map eDoor h.doors _ [] ⟨[], []⟩ (by omega)
    have hn : h.lastAt g (t - g.secs) = last (h.door g.door) (t - g.secs) := if_pos hdn
    refine OKat.of_body (rs := [6]) Tryz.func39 rfl (by decide +kernel) rfl (by simp [Tryz.ntmps39]) ?_
    simp only [Tryz.ntmps39]
    repeat' first
      | apply AW.seq | apply AW.region | apply AW.ret | apply AW.block | apply AW.skip | apply AW.exit | apply AW.scope | apply AW.label | apply AWL.nil
      | ((first | (apply W.step cx_ok; decide) | apply AW.cond); (simp (disch := omega) only [push_cast, simprocAttr, hdn, hdl, hdg] <;> rfl); all_goals try ((with_reducible intro hI); try first | (cases hI; done) | (simp only [INTS] at hI; try first | (exfalso; omega) | (have hT : True := hI; clear hT hI))))
      | ((apply W.callv cx_ok; decide); (iterate 2 (simp (disch := omega) only [push_cast, simprocAttr, hdn, hdl, hdg] <;> rfl)); (with_reducible first | exact last_ok _ _ hdv.ok (by omega) (by omega)); try first | rfl | (simp (disch := omega) only [push_cast, simprocAttr, hdn, hdl, hdg] <;> rfl))
      | ((first | apply W.ret1 | apply W.end1); (iterate 2 (try (simp (disch := omega) only [push_cast, simprocAttr, hdn, hdl, hdg] <;> rfl))))
    all_goals (show _ = _; unfold depart; rw [hn]; first | rw [if_pos (by omega)] | rw [if_neg (by omega)])
  · have hn : h.lastAt g (t - g.secs) = t - g.secs := if_neg hdn
    refine OKat.of_body (rs := [6]) Tryz.func39 rfl (by decide +kernel) rfl (by simp [Tryz.ntmps39]) ?_
    simp only [Tryz.ntmps39]
    repeat' first
      | apply AW.seq | apply AW.region | apply AW.ret | apply AW.block | apply AW.skip | apply AW.exit | apply AW.scope | apply AW.label | apply AWL.nil
      | ((first | (apply W.step cx_ok; decide) | apply AW.cond); (simp (disch := omega) only [push_cast, simprocAttr, hdn] <;> rfl); all_goals try ((with_reducible intro hI); try first | (cases hI; done) | (simp only [INTS] at hI; try first | (exfalso; omega) | (have hT : True := hI; clear hT hI))))
      | ((first | apply W.ret1 | apply W.end1); (iterate 2 (try (simp (disch := omega) only [push_cast, simprocAttr, hdn] <;> rfl))))
    all_goals (show _ = _; unfold depart; rw [hn]; first | rw [if_pos (by omega)] | rw [if_neg (by omega)])
theorem arrNext_ok (h : House) (g : Gate) (t : Int) (hv : h.V) (hg : g.OK h) (h0 : 0 ≤ t) (h1 : t ≤ 1073741824) : OKv cx 64 [.agg (eGate g), ai t, .iptr (eHouse h) 0] (ai (nextH h g t)) := by
  refine OKat.of_body (rs := [5]) Tryz.func64 rfl (by decide +kernel) rfl (by simp [Tryz.ntmps64]) ?_
  simp only [Tryz.ntmps64]
  repeat' first
    | apply AW.seq | apply AW.region | apply AW.ret | apply AW.block | apply AW.skip | apply AW.exit | apply AW.scope | apply AW.label | apply AWL.nil
    | ((first | (apply W.step cx_ok; decide) | apply AW.cond); (simp (disch := omega) only [push_cast, simprocAttr] <;> rfl); all_goals try ((with_reducible intro hI); try first | (cases hI; done) | (simp only [INTS] at hI; try first | (exfalso; omega) | (have hT : True := hI; clear hT hI))))
    | ((apply W.callv cx_ok; decide); (iterate 2 (simp (disch := omega) only [push_cast, simprocAttr] <;> rfl)); (with_reducible first | exact enter_ok h g t hv hg h0 h1); try first | rfl | (simp (disch := omega) only [push_cast, simprocAttr] <;> rfl))
    | ((first | apply W.ret1 | apply W.end1); (iterate 2 (try (simp (disch := omega) only [push_cast, simprocAttr] <;> rfl))))
  all_goals (show _ = _; unfold nextH; first | rw [if_pos (by assumption)] | rw [if_neg (by simp [*])])
theorem better_ok (a b : Int) : OKv cx 65 [ai a, ai b] (ab (decide (b < 0) || decide (a < b))) := by
  refine OKat.of_body (rs := [4]) Tryz.func65 rfl (by decide +kernel) rfl (by simp [Tryz.ntmps65]) ?_
  simp only [Tryz.ntmps65]
  repeat' first
    | apply AW.seq | apply AW.region | apply AW.ret | apply AW.block | apply AW.skip | apply AW.exit | apply AW.scope | apply AW.label | apply AWL.nil
    | ((first | (apply W.step cx_ok; decide) | (apply W.gS; rfl; decide) | apply AW.cond); (simp (disch := omega) only [push_cast, simprocAttr] <;> rfl); all_goals try ((with_reducible intro hI); try first | (cases hI; done) | (simp only [INTS] at hI; try first | (exfalso; omega) | (have hT : True := hI; clear hT hI))))
    | ((first | apply W.ret1 | apply W.end1); (iterate 2 (try (simp (disch := omega) only [push_cast, simprocAttr] <;> rfl))))
  all_goals (show _ = _; first | (simp [*]; done) | (simp; omega))
def doorE (h : House) (n : Int) (ts : List Int) : Int :=
  if (Check h).1 = 0 ∧ ¬ (0 ≤ n ∧ n < (h.doors.length : Int)) then 1 else askedE h [] ts
theorem askedNil_ok (h : House) (ts : List Int) (hfit : h.Fit) (hts : ts.length ≤ 1099511627776) : OKv cx 36 [.agg (eHouse h), .lst [], lInt ts] (ai (askedE h [] ts)) := asked_ok h [] ts hfit (by simp) hts
theorem doorAsked_ok (h : House) (n : Int) (ts : List Int) (hfit : h.Fit) (hts : ts.length ≤ 1099511627776) : OKv cx 44 [.agg (eHouse h), ai n, lInt ts] (ai (doorE h n ts)) := by
  refine OKat.of_body (rs := [6]) Tryz.func44 rfl (by decide +kernel) rfl (by simp [Tryz.ntmps44]) ?_
  simp only [Tryz.ntmps44]
  repeat' first
    | apply AW.seq | apply AW.region | apply AW.ret | apply AW.block | apply AW.skip | apply AW.exit | apply AW.scope | apply AW.label | apply AWL.nil
    | ((first | (apply W.step cx_ok; decide) | (apply W.gS; rfl; decide) | apply AW.cond); (simp (disch := omega) only [push_cast, simprocAttr] <;> rfl); all_goals try ((with_reducible intro hI); try first | (cases hI; done) | (simp only [INTS] at hI; try first | (exfalso; omega) | (have hT : True := hI; clear hT hI))))
    | ((apply W.callv cx_ok; decide); (iterate 2 (simp (disch := omega) only [push_cast, simprocAttr] <;> rfl)); (with_reducible first | exact askedNil_ok h ts hfit hts | exact Check_ok _ hfit | exact index_ok _ _); try first | rfl | (simp (disch := omega) only [push_cast, simprocAttr] <;> rfl))
    | ((first | apply W.ret1 | apply W.end1); (iterate 2 (try (simp (disch := omega) only [push_cast, simprocAttr] <;> rfl))))
  all_goals (show _ = _; unfold doorE; first | (rw [if_pos ⟨by assumption, by omega⟩]; done) | (rw [if_neg (fun hc => by first | exact absurd hc.1 (by assumption) | (have := hc.2; omega))]; done))
end Go.Proofs.Hz

namespace Go.Proofs.Hz
open Go Go.Pg Go.Proofs
theorem doorOne_ok (h : House) (n t : Int) (hfit : h.Fit) : OKv cx 44 [.agg (eHouse h), ai n, .lst [[ai t]]] (ai (doorE h n [t])) := doorAsked_ok h n [t] hfit (by simp)
theorem doorNone_ok (h : House) (n : Int) (hfit : h.Fit) : OKv cx 44 [.agg (eHouse h), ai n, .lst []] (ai (doorE h n [])) := doorAsked_ok h n [] hfit (by simp)
theorem doorE_zero {h : House} {n : Int} {ts : List Int} (he : doorE h n ts = 0) : (Check h).1 = 0 ∧ (0 ≤ n ∧ n < (h.doors.length : Int)) ∧ ∀ t ∈ ts, timeOK t := by
  unfold doorE at he
  split at he
  · cases he
  · rename_i hc
    unfold askedE at he
    split at he
    · rename_i hx; exact absurd he hx
    · rename_i h0
      have h0' : (Check h).1 = 0 := by simpa using h0
      refine ⟨h0', ?_, ?_⟩
      · by_cases hx : 0 ≤ n ∧ n < (h.doors.length : Int)
        · exact hx
        · exact absurd ⟨h0', hx⟩ hc
      · simp only [List.all_nil, if_true] at he
        split at he
        · rename_i ha
          intro t ht
          have := List.all_eq_true.1 ha t ht
          simpa [timeB, timeOK] using this
        · cases he
def nextOpenH (h : House) (n t : Int) : Int × Int := if doorE h n [t] ≠ 0 then (0, doorE h n [t]) else (next (h.door n) t, 0)
theorem NextOpen_ok (h : House) (n t : Int) (hfit : h.Fit) : OKv cx 18 [.agg (eHouse h), ai n, ai t] (.tup [ai (nextOpenH h n t).1, ai (nextOpenH h n t).2]) := by
  by_cases he : doorE h n [t] = 0
  · obtain ⟨hc, ⟨hdn, hdl⟩, ht⟩ := doorE_zero he
    have ht0 := ht t (by simp)
    unfold timeOK at ht0
    have hdv := (Check_V hc).door hdn hdl
    have hdg : (h.doors.map eDoor).getD n.toNat [] = eDoor (h.door n) := getD_map eDoor h.doors _ [] ⟨[], []⟩ (by omega)
    refine OKat.of_body (rs := [6, 7]) Tryz.func18 rfl (by decide +kernel) rfl (by simp [Tryz.ntmps18]) ?_
    simp only [Tryz.ntmps18]
    repeat' first
      | apply AW.seq | apply AW.region | apply AW.ret | apply AW.block | apply AW.skip | apply AW.exit | apply AW.scope | apply AW.label | apply AWL.nil
      | ((first | (apply W.step cx_ok; decide) | apply AW.cond); (simp (disch := omega) only [push_cast, simprocAttr, he, hdn, hdl, hdg] <;> rfl); all_goals try ((with_reducible intro hI); try first | (cases hI; done) | (simp only [INTS] at hI; try first | (exfalso; omega) | (have hT : True := hI; clear hT hI))))
      | ((apply W.callv cx_ok; decide); (iterate 2 (simp (disch := omega) only [push_cast, simprocAttr, he, hdn, hdl, hdg] <;> rfl)); (with_reducible first | exact doorOne_ok _ _ _ hfit | exact next_ok _ _ hdv.ok (by omega) (by omega)); try first | rfl | (simp (disch := omega) only [push_cast, simprocAttr, he, hdn, hdl, hdg] <;> rfl))
      | ((first | apply W.ret2 | apply W.end2); (iterate 2 (try (simp (disch := omega) only [push_cast, simprocAttr, he, hdn, hdl, hdg] <;> rfl))))
    all_goals (show _ = _; unfold nextOpenH; rw [if_neg (by simp [he])]; first | done | rfl | simp [*])
  ·
    refine OKat.of_body (rs := [6, 7]) Tryz.func18 rfl (by decide +kernel) rfl (by simp [Tryz.ntmps18]) ?_
    simp only [Tryz.ntmps18]
    repeat' first
      | apply AW.seq | apply AW.region | apply AW.ret | apply AW.block | apply AW.skip | apply AW.exit | apply AW.scope | apply AW.label | apply AWL.nil
      | ((first | (apply W.step cx_ok; decide) | apply AW.cond); (simp (disch := omega) only [push_cast, simprocAttr, he] <;> rfl); all_goals try ((with_reducible intro hI); try first | (cases hI; done) | (simp only [INTS] at hI; try first | (exfalso; omega) | (have hT : True := hI; clear hT hI))))
      | ((apply W.callv cx_ok; decide); (iterate 2 (simp (disch := omega) only [push_cast, simprocAttr, he] <;> rfl)); (with_reducible first | exact doorOne_ok _ _ _ hfit); try first | rfl | (simp (disch := omega) only [push_cast, simprocAttr, he] <;> rfl))
      | ((first | apply W.ret2 | apply W.end2); (iterate 2 (try (simp (disch := omega) only [push_cast, simprocAttr, he] <;> rfl))))
    all_goals (show _ = _; unfold nextOpenH; rw [if_pos he])
end Go.Proofs.Hz

namespace Go.Proofs.Hz
open Go Go.Pg Go.Proofs
theorem askedOne_ok (h : House) (n t : Int) (hfit : h.Fit) : OKv cx 36 [.agg (eHouse h), .lst [[ai n]], .lst [[ai t]]] (ai (askedE h [n] [t])) :=
  asked_ok h [n] [t] hfit (by simp) (by simp)
theorem Walk_ok (h : House) (from' t : Int) (l : List Step) (hfit : h.Fit) (hl : l.length ≤ 1099511627776) :
    OKv cx 15 [.agg (eHouse h), ai from', ai t, .lst (l.map eStep)] (.tup [ai (Walk h from' t l).1, ai (Walk h from' t l).2.1, ai (Walk h from' t l).2.2]) := by
  refine OKat.of_body (rs := [8, 9, 10]) Tryz.func15 rfl (by decide +kernel) rfl (by simp [Tryz.ntmps15]) ?_
  simp only [Tryz.ntmps15]
  repeat' first
    | apply AW.seq | apply AW.region | apply AW.ret | apply AW.block | apply AW.skip | apply AW.exit | apply AW.scope | apply AW.label | apply AWL.nil | apply D.nil
    | refine W.draw cx_mixed (by decide +kernel) ?_
    | ((first | (apply W.step cx_ok; decide) | (apply D.step cx_ok; decide; decide) | apply W.store cx_ok | (apply W.gS; rfl; decide) | (apply D.gS; rfl; decide; decide) | apply AW.cond); (simp (disch := omega) only [push_cast, simprocAttr, askedE_one] <;> rfl); all_goals try ((with_reducible intro hI); try first | (cases hI; done) | (simp only [INTS] at hI; try first | (exfalso; omega) | (have hT : True := hI; clear hT hI))))
    | ((first | (apply W.callv cx_ok; decide) | (apply D.callv cx_ok; decide; decide)); (iterate 2 (simp (disch := omega) only [push_cast, simprocAttr, askedE_one] <;> rfl)); (with_reducible first | exact askedOne_ok _ _ _ hfit); try first | rfl | (simp (disch := omega) only [push_cast, simprocAttr, askedE_one] <;> rfl))
    | ((first | apply W.ret3 | apply W.end3); (iterate 2 (try (simp (disch := omega) only [push_cast, simprocAttr, askedE_one] <;> rfl))))
  all_goals try (show _ = _; rw [Walk_err l (by assumption)]; done)
  all_goals try (show _ = _; rw [Walk_zero l (by assumption), if_pos (by omega)]; done)
  have hr1 := roomE_zero (h := h) (n := from') (t := t) (by assumption)
  have hW : Walk h from' t l = walkL h l from' t := by rw [Walk_zero l (by assumption), if_neg (by omega)]
  rw [hW]
  refine AW.loop (fun n s => ∃ (k : Nat) (fr tt : Int) (rest : List Step), n = rest.length ∧ (l.drop k = rest) ∧ (walkL h rest fr tt = walkL h l from' t) ∧ 1 ≤ s.nx ∧ s.tm 1 = ai fr ∧ s.tm 2 = ai tt ∧ s.tm 4 = .ptr 0 0 0 1 ∧ s.tm 28 = .lst (l.map eStep) ∧ s.tm 29 = ai l.length ∧ s.tm 30 = ai k ∧ Pg.rowAt s.H (0) = some ({ k := 3, es := [eHouse h], ty := 26 })) (l.length) ⟨0, _, _, _, rfl, rfl, rfl, ?_, ?_, ?_, ?_, ?_, ?_, ?_, ?_⟩ ?_
  iterate 8 (first | (simp (disch := omega) only [push_cast, simprocAttr] <;> first | rfl | omega) | omega)
  rintro n s ⟨k, fr, tt, rest, hn, hp0, hp1, hnl, hS⟩
  have hZ : (0 : Nat) ≠ s.nx ∧ s.nx ≠ (0 : Nat) := by omega
  rcases rest with _ | ⟨x, rest⟩
  · have hk := drop_nil hp0
    repeat' first
      | apply AW.seq | apply AW.region | apply AW.ret | apply AW.block | apply AW.skip | apply AW.exit | apply AW.scope | apply AW.label | apply AWL.nil | apply D.nil
      | refine W.draw cx_mixed (by decide +kernel) ?_
      | ((first | (apply W.step cx_ok; decide) | (apply D.step cx_ok; decide; decide) | apply W.store cx_ok | (apply W.gS; rfl; decide) | (apply D.gS; rfl; decide; decide) | apply AW.cond); (simp (disch := omega) only [push_cast, simprocAttr, hS, hZ, hk] <;> rfl); all_goals try ((with_reducible intro hI); try first | (cases hI; done) | (simp only [INTS] at hI; try first | (exfalso; omega) | (have hT : True := hI; clear hT hI))))
      | ((first | apply W.ret3 | apply W.end3); (iterate 2 (try (simp (disch := omega) only [push_cast, simprocAttr, hS, hZ, hk] <;> rfl))))
    all_goals (show _ = _; rw [← hp1]; rfl)
  · obtain ⟨hk, hg, hd', hl', hm, hx⟩ := drop_cons hp0 eStep []
    by_cases he : (gateAsked h x.way x.back x.at').2 = 0
    · obtain ⟨_, htx, hgo⟩ := askedR_ok (h := h) (way := x.way) (back := x.back) (t := x.at') (by rw [← gateAsked_eq]; exact he)
      rw [← gateAsked_eq] at hgo
      have hgs := hgo.secs
      have hgd := hgo.door
      have hta : 0 ≤ x.at' := htx.1
      have htb : x.at' ≤ 1073741824 := by have := htx.2; omega
      have htc : x.at' ≤ 1073741823 := htx.2
      by_cases hdn : 0 ≤ (gateAsked h x.way x.back x.at').1.door
      · have hdv := (Check_V hr1.1).door hdn hgd.2
        have hdl := hgd.2
        have hdg : (h.doors.map eDoor).getD (gateAsked h x.way x.back x.at').1.door.toNat [] = eDoor (h.door (gateAsked h x.way x.back x.at').1.door) := getD_map eDoor h.doors _ [] ⟨[], []⟩ (by omega)
        repeat' first
          | apply AW.seq | apply AW.region | apply AW.ret | apply AW.block | apply AW.skip | apply AW.exit | apply AW.scope | apply AW.label | apply AWL.nil | apply D.nil
          | refine W.draw cx_mixed (by decide +kernel) ?_
          | ((first | (apply W.step cx_ok; decide) | (apply D.step cx_ok; decide; decide) | apply W.store cx_ok | (apply W.gS; rfl; decide) | (apply D.gS; rfl; decide; decide) | apply AW.cond); (simp (disch := omega) only [push_cast, simprocAttr, hS, hZ, hk, hg, he, hdn, hdl, hdg] <;> rfl); all_goals try ((with_reducible intro hI); try first | (cases hI; done) | (simp only [INTS] at hI; try first | (exfalso; omega) | (have hT : True := hI; clear hT hI))))
          | ((first | (apply W.callv cx_ok; decide) | (apply D.callv cx_ok; decide; decide)); (iterate 2 (simp (disch := omega) only [push_cast, simprocAttr, hS, hZ, hk, hg, he, hdn, hdl, hdg] <;> rfl)); (with_reducible first | exact Check_ok _ hfit | exact gateAsked_ok _ _ _ _ hfit | exact next_ok _ _ hdv.ok hta htb); try first | rfl | (simp (disch := omega) only [push_cast, simprocAttr, hS, hZ, hk, hg, he, hdn, hdl, hdg] <;> rfl))
          | ((first | apply W.ret3 | apply W.end3); (iterate 2 (try (simp (disch := omega) only [push_cast, simprocAttr, hS, hZ, hk, hg, he, hdn, hdl, hdg] <;> rfl))))
        all_goals first
          | (have hq : stepH h fr tt x = (0, 0, 1) := by unfold stepH; rw [if_pos (by assumption)]
             show _ = _; rw [← hp1, walkL, hq]; first | done | rfl)
          | (have hq : stepH h fr tt x = (0, 0, 4) := by unfold stepH; rw [if_neg (by omega), if_pos (by assumption)]
             show _ = _; rw [← hp1, walkL, hq]; first | done | rfl)
          | (have hq : stepH h fr tt x = (0, 0, 3) := by unfold stepH; rw [if_neg (by omega), if_neg (by omega), if_pos (by omega)]
             show _ = _; rw [← hp1, walkL, hq]; first | done | rfl)
          | (have hq : stepH h fr tt x = (0, 0, 9) := by unfold stepH; rw [if_neg (by omega), if_neg (by omega), if_neg (by omega), if_pos (by omega)]
             show _ = _; rw [← hp1, walkL, hq]; first | done | rfl)
          | (have hq : stepH h fr tt x = (0, 0, 3) := by unfold stepH; rw [if_neg (by omega), if_neg (by omega), if_neg (by omega), if_neg (by omega), if_pos (by omega)]
             show _ = _; rw [← hp1, walkL, hq]; first | done | rfl)
          | (have hq : stepH h fr tt x = ((gateAsked h x.way x.back x.at').1.to, x.at' + (gateAsked h x.way x.back x.at').1.secs, 0) := by unfold stepH; rw [if_neg (by omega), if_neg (by omega), if_neg (by omega), if_neg (by omega), if_neg (by omega)]
             rw [walkL, hq, if_neg (by simp)] at hp1
             (refine ⟨rest.length, ?_, k + 1, _, _, rest, rfl, hd', hp1, ?_, ?_, ?_, ?_, ?_, ?_, ?_, ?_⟩; ((simp only [List.length_cons] at *; omega)); all_goals first | (simp (disch := omega) only [push_cast, simprocAttr, hS, hZ, hg, hk] <;> first | rfl | omega) | omega))
      ·
        repeat' first
          | apply AW.seq | apply AW.region | apply AW.ret | apply AW.block | apply AW.skip | apply AW.exit | apply AW.scope | apply AW.label | apply AWL.nil | apply D.nil
          | refine W.draw cx_mixed (by decide +kernel) ?_
          | ((first | (apply W.step cx_ok; decide) | (apply D.step cx_ok; decide; decide) | apply W.store cx_ok | (apply W.gS; rfl; decide) | (apply D.gS; rfl; decide; decide) | apply AW.cond); (simp (disch := omega) only [push_cast, simprocAttr, hS, hZ, hk, hg, he, hdn] <;> rfl); all_goals try ((with_reducible intro hI); try first | (cases hI; done) | (simp only [INTS] at hI; try first | (exfalso; omega) | (have hT : True := hI; clear hT hI))))
          | ((first | (apply W.callv cx_ok; decide) | (apply D.callv cx_ok; decide; decide)); (iterate 2 (simp (disch := omega) only [push_cast, simprocAttr, hS, hZ, hk, hg, he, hdn] <;> rfl)); (with_reducible first | exact Check_ok _ hfit | exact gateAsked_ok _ _ _ _ hfit); try first | rfl | (simp (disch := omega) only [push_cast, simprocAttr, hS, hZ, hk, hg, he, hdn] <;> rfl))
          | ((first | apply W.ret3 | apply W.end3); (iterate 2 (try (simp (disch := omega) only [push_cast, simprocAttr, hS, hZ, hk, hg, he, hdn] <;> rfl))))
        all_goals first
          | (have hq : stepH h fr tt x = (0, 0, 1) := by unfold stepH; rw [if_pos (by assumption)]
             show _ = _; rw [← hp1, walkL, hq]; first | done | rfl)
          | (have hq : stepH h fr tt x = (0, 0, 4) := by unfold stepH; rw [if_neg (by omega), if_pos (by assumption)]
             show _ = _; rw [← hp1, walkL, hq]; first | done | rfl)
          | (have hq : stepH h fr tt x = (0, 0, 3) := by unfold stepH; rw [if_neg (by omega), if_neg (by omega), if_pos (by omega)]
             show _ = _; rw [← hp1, walkL, hq]; first | done | rfl)
          | (have hq : stepH h fr tt x = (0, 0, 9) := by unfold stepH; rw [if_neg (by omega), if_neg (by omega), if_neg (by omega), if_pos (by omega)]
             show _ = _; rw [← hp1, walkL, hq]; first | done | rfl)
          | (have hq : stepH h fr tt x = (0, 0, 3) := by unfold stepH; rw [if_neg (by omega), if_neg (by omega), if_neg (by omega), if_neg (by omega), if_pos (by omega)]
             show _ = _; rw [← hp1, walkL, hq]; first | done | rfl)
          | (have hq : stepH h fr tt x = ((gateAsked h x.way x.back x.at').1.to, x.at' + (gateAsked h x.way x.back x.at').1.secs, 0) := by unfold stepH; rw [if_neg (by omega), if_neg (by omega), if_neg (by omega), if_neg (by omega), if_neg (by omega)]
             rw [walkL, hq, if_neg (by simp)] at hp1
             (refine ⟨rest.length, ?_, k + 1, _, _, rest, rfl, hd', hp1, ?_, ?_, ?_, ?_, ?_, ?_, ?_, ?_⟩; ((simp only [List.length_cons] at *; omega)); all_goals first | (simp (disch := omega) only [push_cast, simprocAttr, hS, hZ, hg, hk] <;> first | rfl | omega) | omega))
    ·
      repeat' first
        | apply AW.seq | apply AW.region | apply AW.ret | apply AW.block | apply AW.skip | apply AW.exit | apply AW.scope | apply AW.label | apply AWL.nil | apply D.nil
        | refine W.draw cx_mixed (by decide +kernel) ?_
        | ((first | (apply W.step cx_ok; decide) | (apply D.step cx_ok; decide; decide) | apply W.store cx_ok | (apply W.gS; rfl; decide) | (apply D.gS; rfl; decide; decide) | apply AW.cond); (simp (disch := omega) only [push_cast, simprocAttr, hS, hZ, hk, hg, he] <;> rfl); all_goals try ((with_reducible intro hI); try first | (cases hI; done) | (simp only [INTS] at hI; try first | (exfalso; omega) | (have hT : True := hI; clear hT hI))))
        | ((first | (apply W.callv cx_ok; decide) | (apply D.callv cx_ok; decide; decide)); (iterate 2 (simp (disch := omega) only [push_cast, simprocAttr, hS, hZ, hk, hg, he] <;> rfl)); (with_reducible first | exact Check_ok _ hfit | exact gateAsked_ok _ _ _ _ hfit); try first | rfl | (simp (disch := omega) only [push_cast, simprocAttr, hS, hZ, hk, hg, he] <;> rfl))
        | ((first | apply W.ret3 | apply W.end3); (iterate 2 (try (simp (disch := omega) only [push_cast, simprocAttr, hS, hZ, hk, hg, he] <;> rfl))))
      all_goals
        (have hq : stepH h fr tt x = (0, 0, 1) := by unfold stepH; rw [if_pos (by assumption)]
         show _ = _; rw [← hp1, walkL, hq]; first | done | rfl)
end Go.Proofs.Hz

namespace Go.Proofs.Hz
open Go Go.Pg Go.Proofs
theorem SameSpans_ok (l : List Span) (hl : l.length ≤ 1099511627776) : OKv cx 35 [lSpan l, lSpan l] (ab true) := by
  refine OKat.of_body (rs := [4]) Tryz.func35 rfl (by decide +kernel) rfl (by simp [Tryz.ntmps35]) ?_
  simp only [Tryz.ntmps35]
  repeat' first
    | apply AW.seq | apply AW.region | apply AW.ret | apply AW.block | apply AW.skip | apply AW.exit | apply AW.scope | apply AW.label | apply AWL.nil | apply D.nil
    | refine W.draw cx_mixed (by decide +kernel) ?_
    | ((first | (apply W.step cx_ok; decide) | (apply D.step cx_ok; decide; decide) | apply AW.cond); (simp (disch := omega) only [push_cast, simprocAttr] <;> rfl); all_goals try ((with_reducible intro hI); try first | (cases hI; done) | (simp only [INTS] at hI; try first | (exfalso; omega) | (have hT : True := hI; clear hT hI))))
    | ((first | apply W.ret1 | apply W.end1); (iterate 2 (try (simp (disch := omega) only [push_cast, simprocAttr] <;> rfl))))
  all_goals try (exact absurd trivial (by assumption))
  refine AW.loop (fun n s => ∃ (k : Nat) (rest : List Span), n = rest.length ∧ (l.drop k = rest) ∧ s.tm 0 = lSpan l ∧ s.tm 1 = lSpan l ∧ s.tm 5 = ai k) (l.length) ⟨0, l, rfl, rfl, ?_, ?_, ?_⟩ ?_
  iterate 3 (first | (simp (disch := omega) only [push_cast, simprocAttr] <;> first | rfl | omega) | omega)
  rintro n s ⟨k, rest, hn, hp0, hS⟩
  rcases rest with _ | ⟨x, rest⟩
  · have hk := drop_nil hp0
    repeat' first
      | apply AW.seq | apply AW.region | apply AW.ret | apply AW.block | apply AW.skip | apply AW.exit | apply AW.scope | apply AW.label | apply AWL.nil | apply D.nil
      | refine W.draw cx_mixed (by decide +kernel) ?_
      | ((first | (apply W.step cx_ok; decide) | (apply D.step cx_ok; decide; decide) | apply AW.cond); (simp (disch := omega) only [push_cast, simprocAttr, hS, hk] <;> rfl); all_goals try ((with_reducible intro hI); try first | (cases hI; done) | (simp only [INTS] at hI; try first | (exfalso; omega) | (have hT : True := hI; clear hT hI))))
      | ((first | apply W.ret1 | apply W.end1); (iterate 2 (try (simp (disch := omega) only [push_cast, simprocAttr, hS, hk] <;> rfl))))
    all_goals (show _ = _; rfl)
  · obtain ⟨hk, hg, hd', hl', hm, hx⟩ := drop_cons hp0 eSpan []
    repeat' first
      | apply AW.seq | apply AW.region | apply AW.ret | apply AW.block | apply AW.skip | apply AW.exit | apply AW.scope | apply AW.label | apply AWL.nil | apply D.nil
      | refine W.draw cx_mixed (by decide +kernel) ?_
      | ((first | (apply W.step cx_ok; decide) | (apply D.step cx_ok; decide; decide) | apply AW.cond); (simp (disch := omega) only [push_cast, simprocAttr, hS, hk, hg] <;> rfl); all_goals try ((with_reducible intro hI); try first | (cases hI; done) | (simp only [INTS] at hI; try first | (exfalso; omega) | (have hT : True := hI; clear hT hI))))
      | ((first | apply W.ret1 | apply W.end1); (iterate 2 (try (simp (disch := omega) only [push_cast, simprocAttr, hS, hk, hg] <;> rfl))))
    all_goals first
      | (exfalso; first | exact absurd trivial (by assumption) | omega | (simp_all; done))
      | (refine ⟨rest.length, ?_, k + 1, rest, rfl, hd', ?_, ?_, ?_⟩; ((simp only [List.length_cons] at *; omega)); all_goals first | (simp (disch := omega) only [push_cast, simprocAttr, hS, hg, hk] <;> first | rfl | omega) | omega)
theorem Same_ok (h : House) (hr : h.rooms.length ≤ 1048576) (hd : h.doors.length ≤ 1048576) (hw : h.ways.length ≤ 1048576) (hds : ∀ d ∈ h.doors, d.hours.length ≤ 1048576 ∧ d.shut.length ≤ 1048576) : OKv cx 11 [.agg (eHouse h), .agg (eHouse h)] (ab true) := by
  refine OKat.of_body (rs := [4]) Tryz.func11 rfl (by decide +kernel) rfl (by simp [Tryz.ntmps11]) ?_
  simp only [Tryz.ntmps11]
  repeat' first
    | apply AW.seq | apply AW.region | apply AW.ret | apply AW.block | apply AW.skip | apply AW.exit | apply AW.scope | apply AW.label | apply AWL.nil | apply D.nil
    | refine W.draw cx_mixed (by decide +kernel) ?_
    | ((first | (apply W.step cx_ok; decide) | (apply D.step cx_ok; decide; decide) | (apply W.gS; rfl; decide) | (apply D.gS; rfl; decide; decide) | apply AW.cond); (simp (disch := omega) only [push_cast, simprocAttr] <;> rfl); all_goals try ((with_reducible intro hI); try first | (cases hI; done) | (simp only [INTS] at hI; try first | (exfalso; omega) | (have hT : True := hI; clear hT hI))))
    | ((first | apply W.ret1 | apply W.end1); (iterate 2 (try (simp (disch := omega) only [push_cast, simprocAttr] <;> rfl))))
  all_goals try (exfalso; first | exact absurd trivial (by assumption) | omega | (simp_all; done))
  refine AW.loop (fun n s => ∃ (k : Nat) (rest : List Room), n = rest.length ∧ (h.rooms.drop k = rest) ∧ 2 ≤ s.nx ∧ s.tm 2 = .ptr 0 0 0 1 ∧ s.tm 3 = .ptr 1 0 0 1 ∧ s.tm 5 = ai k ∧ Pg.rowAt s.H (0) = some ({ k := 3, es := [eHouse h], ty := 26 }) ∧ Pg.rowAt s.H (1) = some ({ k := 3, es := [eHouse h], ty := 26 })) (h.rooms.length) ⟨0, _, rfl, rfl, ?_, ?_, ?_, ?_, ?_, ?_⟩ ?_
  iterate 6 (first | (simp (disch := omega) only [push_cast, simprocAttr] <;> first | rfl | omega) | omega)
  rintro n s ⟨k, rest, hn, hp0, hnl, hS⟩
  have hZ : (0 : Nat) ≠ s.nx ∧ s.nx ≠ (0 : Nat) ∧ (1 : Nat) ≠ s.nx ∧ s.nx ≠ (1 : Nat) := by omega
  rcases rest with _ | ⟨x, rest⟩
  · have hk := drop_nil hp0
    repeat' first
      | apply AW.seq | apply AW.region | apply AW.ret | apply AW.block | apply AW.skip | apply AW.exit | apply AW.scope | apply AW.label | apply AWL.nil | apply D.nil
      | refine W.draw cx_mixed (by decide +kernel) ?_
      | ((first | (apply W.step cx_ok; decide) | (apply D.step cx_ok; decide; decide) | (apply W.gS; rfl; decide) | (apply D.gS; rfl; decide; decide) | apply AW.cond); (simp (disch := omega) only [push_cast, simprocAttr, hS, hZ, hk] <;> rfl); all_goals try ((with_reducible intro hI); try first | (cases hI; done) | (simp only [INTS] at hI; try first | (exfalso; omega) | (have hT : True := hI; clear hT hI))))
      | ((first | apply W.ret1 | apply W.end1); (iterate 2 (try (simp (disch := omega) only [push_cast, simprocAttr, hS, hZ, hk] <;> rfl))))
    refine AW.loop (fun n s => ∃ (k : Nat) (rest : List Door), n = rest.length ∧ (h.doors.drop k = rest) ∧ 2 ≤ s.nx ∧ s.tm 2 = .ptr 0 0 0 1 ∧ s.tm 3 = .ptr 1 0 0 1 ∧ s.tm 6 = ai k ∧ Pg.rowAt s.H (0) = some ({ k := 3, es := [eHouse h], ty := 26 }) ∧ Pg.rowAt s.H (1) = some ({ k := 3, es := [eHouse h], ty := 26 })) (h.doors.length) ⟨0, _, rfl, rfl, ?_, ?_, ?_, ?_, ?_, ?_⟩ ?_
    iterate 6 (first | (simp (disch := omega) only [push_cast, simprocAttr, hS, hZ, hk] <;> first | rfl | omega) | omega)
    rintro n2 s2 ⟨k2, rest2, hn2, hp02, hnl2, hS2⟩
    have hZ2 : (0 : Nat) ≠ s2.nx ∧ s2.nx ≠ (0 : Nat) ∧ (1 : Nat) ≠ s2.nx ∧ s2.nx ≠ (1 : Nat) := by omega
    rcases rest2 with _ | ⟨x2, rest2⟩
    · have hk2 := drop_nil hp02
      repeat' first
        | apply AW.seq | apply AW.region | apply AW.ret | apply AW.block | apply AW.skip | apply AW.exit | apply AW.scope | apply AW.label | apply AWL.nil | apply D.nil
        | refine W.draw cx_mixed (by decide +kernel) ?_
        | ((first | (apply W.step cx_ok; decide) | (apply D.step cx_ok; decide; decide) | (apply W.gS; rfl; decide) | (apply D.gS; rfl; decide; decide) | apply AW.cond); (simp (disch := omega) only [push_cast, simprocAttr, hS2, hZ2, hk2] <;> rfl); all_goals try ((with_reducible intro hI); try first | (cases hI; done) | (simp only [INTS] at hI; try first | (exfalso; omega) | (have hT : True := hI; clear hT hI))))
        | ((first | (apply W.callv cx_ok; decide) | (apply D.callv cx_ok; decide; decide)); (iterate 2 (simp (disch := omega) only [push_cast, simprocAttr, hS2, hZ2, hk2] <;> rfl)); (with_reducible first | exact SameSpans_ok _ (by have := hds _ hm2; omega)); try first | rfl | (simp (disch := omega) only [push_cast, simprocAttr, hS2, hZ2, hk2] <;> rfl))
        | ((first | apply W.ret1 | apply W.end1); (iterate 2 (try (simp (disch := omega) only [push_cast, simprocAttr, hS2, hZ2, hk2] <;> rfl))))
      refine AW.loop (fun n s => ∃ (k : Nat) (rest : List Way), n = rest.length ∧ (h.ways.drop k = rest) ∧ 2 ≤ s.nx ∧ s.tm 2 = .ptr 0 0 0 1 ∧ s.tm 3 = .ptr 1 0 0 1 ∧ s.tm 9 = ai k ∧ Pg.rowAt s.H (0) = some ({ k := 3, es := [eHouse h], ty := 26 }) ∧ Pg.rowAt s.H (1) = some ({ k := 3, es := [eHouse h], ty := 26 })) (h.ways.length) ⟨0, _, rfl, rfl, ?_, ?_, ?_, ?_, ?_, ?_⟩ ?_
      iterate 6 (first | (simp (disch := omega) only [push_cast, simprocAttr, hS2, hZ2, hk2] <;> first | rfl | omega) | omega)
      rintro n3 s3 ⟨k3, rest3, hn3, hp03, hnl3, hS3⟩
      have hZ3 : (0 : Nat) ≠ s3.nx ∧ s3.nx ≠ (0 : Nat) ∧ (1 : Nat) ≠ s3.nx ∧ s3.nx ≠ (1 : Nat) := by omega
      rcases rest3 with _ | ⟨x3, rest3⟩
      · have hk3 := drop_nil hp03
        repeat' first
          | apply AW.seq | apply AW.region | apply AW.ret | apply AW.block | apply AW.skip | apply AW.exit | apply AW.scope | apply AW.label | apply AWL.nil | apply D.nil
          | refine W.draw cx_mixed (by decide +kernel) ?_
          | ((first | (apply W.step cx_ok; decide) | (apply D.step cx_ok; decide; decide) | (apply W.gS; rfl; decide) | (apply D.gS; rfl; decide; decide) | apply AW.cond); (simp (disch := omega) only [push_cast, simprocAttr, hS3, hZ3, hk3] <;> rfl); all_goals try ((with_reducible intro hI); try first | (cases hI; done) | (simp only [INTS] at hI; try first | (exfalso; omega) | (have hT : True := hI; clear hT hI))))
          | ((first | apply W.ret1 | apply W.end1); (iterate 2 (try (simp (disch := omega) only [push_cast, simprocAttr, hS3, hZ3, hk3] <;> rfl))))
        all_goals (show _ = _; rfl)
      · obtain ⟨hk3, hg3, hd'3, hl'3, hm3, hx3⟩ := drop_cons hp03 eWay []
        repeat' first
          | apply AW.seq | apply AW.region | apply AW.ret | apply AW.block | apply AW.skip | apply AW.exit | apply AW.scope | apply AW.label | apply AWL.nil | apply D.nil
          | refine W.draw cx_mixed (by decide +kernel) ?_
          | ((first | (apply W.step cx_ok; decide) | (apply D.step cx_ok; decide; decide) | (apply W.gS; rfl; decide) | (apply D.gS; rfl; decide; decide) | apply AW.cond); (simp (disch := omega) only [push_cast, simprocAttr, hS3, hZ3, hk3, hg3] <;> rfl); all_goals try ((with_reducible intro hI); try first | (cases hI; done) | (simp only [INTS] at hI; try first | (exfalso; omega) | (have hT : True := hI; clear hT hI))))
          | ((first | apply W.ret1 | apply W.end1); (iterate 2 (try (simp (disch := omega) only [push_cast, simprocAttr, hS3, hZ3, hk3, hg3] <;> rfl))))
        all_goals first
          | (exfalso; first | exact absurd trivial (by assumption) | omega | (simp_all; done))
          | (refine ⟨rest3.length, ?_, k3 + 1, rest3, rfl, hd'3, ?_, ?_, ?_, ?_, ?_, ?_⟩; ((simp only [List.length_cons] at *; omega)); all_goals first | (simp (disch := omega) only [push_cast, simprocAttr, hS3, hZ3, hg3, hk3] <;> first | rfl | omega) | omega)
    · obtain ⟨hk2, hg2, hd'2, hl'2, hm2, hx2⟩ := drop_cons hp02 eDoor []
      repeat' first
        | apply AW.seq | apply AW.region | apply AW.ret | apply AW.block | apply AW.skip | apply AW.exit | apply AW.scope | apply AW.label | apply AWL.nil | apply D.nil
        | refine W.draw cx_mixed (by decide +kernel) ?_
        | ((first | (apply W.step cx_ok; decide) | (apply D.step cx_ok; decide; decide) | (apply W.gS; rfl; decide) | (apply D.gS; rfl; decide; decide) | apply AW.cond); (simp (disch := omega) only [push_cast, simprocAttr, hS2, hZ2, hk2, hg2] <;> rfl); all_goals try ((with_reducible intro hI); try first | (cases hI; done) | (simp only [INTS] at hI; try first | (exfalso; omega) | (have hT : True := hI; clear hT hI))))
        | ((first | (apply W.callv cx_ok; decide) | (apply D.callv cx_ok; decide; decide)); (iterate 2 (simp (disch := omega) only [push_cast, simprocAttr, hS2, hZ2, hk2, hg2] <;> rfl)); (with_reducible first | exact SameSpans_ok _ (by have := hds _ hm2; omega)); try first | rfl | (simp (disch := omega) only [push_cast, simprocAttr, hS2, hZ2, hk2, hg2] <;> rfl))
        | ((first | apply W.ret1 | apply W.end1); (iterate 2 (try (simp (disch := omega) only [push_cast, simprocAttr, hS2, hZ2, hk2, hg2] <;> rfl))))
      all_goals first
        | (exfalso; first | exact absurd trivial (by assumption) | omega | (simp_all; done))
        | (refine ⟨rest2.length, ?_, k2 + 1, rest2, rfl, hd'2, ?_, ?_, ?_, ?_, ?_, ?_⟩; ((simp only [List.length_cons] at *; omega)); all_goals first | (simp (disch := omega) only [push_cast, simprocAttr, hS2, hZ2, hg2, hk2] <;> first | rfl | omega) | omega)
  · obtain ⟨hk, hg, hd', hl', hm, hx⟩ := drop_cons hp0 eRoom []
    repeat' first
      | apply AW.seq | apply AW.region | apply AW.ret | apply AW.block | apply AW.skip | apply AW.exit | apply AW.scope | apply AW.label | apply AWL.nil | apply D.nil
      | refine W.draw cx_mixed (by decide +kernel) ?_
      | ((first | (apply W.step cx_ok; decide) | (apply D.step cx_ok; decide; decide) | (apply W.gS; rfl; decide) | (apply D.gS; rfl; decide; decide) | apply AW.cond); (simp (disch := omega) only [push_cast, simprocAttr, hS, hZ, hk, hg] <;> rfl); all_goals try ((with_reducible intro hI); try first | (cases hI; done) | (simp only [INTS] at hI; try first | (exfalso; omega) | (have hT : True := hI; clear hT hI))))
      | ((first | apply W.ret1 | apply W.end1); (iterate 2 (try (simp (disch := omega) only [push_cast, simprocAttr, hS, hZ, hk, hg] <;> rfl))))
    all_goals first
      | (exfalso; first | exact absurd trivial (by assumption) | omega | (simp_all; done))
      | (refine ⟨rest.length, ?_, k + 1, rest, rfl, hd', ?_, ?_, ?_, ?_, ?_, ?_⟩; ((simp only [List.length_cons] at *; omega)); all_goals first | (simp (disch := omega) only [push_cast, simprocAttr, hS, hZ, hg, hk] <;> first | rfl | omega) | omega)
end Go.Proofs.Hz

namespace Go.Proofs.Hz
open Go Go.Pg Go.Proofs
def mergeS (s x : Span) : Span := ⟨min s.lo x.lo, max s.hi x.hi⟩
def shutH : List Span → Span → Bool → List Span
  | [], s, put => if put = true then [] else [s]
  | x :: rest, s, put => if x = s then x :: shutH rest s true else if x.hi + 1 < s.lo then x :: shutH rest s put else
    if s.hi + 1 < x.lo then (if put = true then x :: shutH rest s true else s :: x :: shutH rest s true) else shutH rest (mergeS s x) put
end Go.Proofs.Hz
