/-
  Contracts of functions, proved by going through their code. No conditions.
-/
import Derived.Test.YtofdhddbfjfkcaaDoorHc
import Derived.Test.YtofdhddbfjfkcaaDoorHe
import Derived.Test.YtofdhddbfjfkcaaDoorHf
set_option maxHeartbeats 8000000
set_option linter.unusedSimpArgs false
set_option linter.unusedVariables false
set_option maxRecDepth 10000
namespace Go.Proofs.Hs
open Go Go.Pg Go.Proofs

def findO (s : ByteArray) (i : Nat) : List Room → Option Int
  | [] => none
  | r :: l => if s.data.toList == r.name.data.toList then some (i : Int) else findO s (i + 1) l
def idxM (i : Nat) : List Room → List (ByteArray × AV)
  | [] => []
  | r :: l => (r.name, ai (i : Int)) :: idxM (i + 1) l
theorem findM_idx (s : ByteArray) : ∀ (l : List Room) (i : Nat), findM s (idxM i l) = (findO s i l).map ai
  | [], _ => rfl
  | r :: l, i => by
    unfold idxM findO findM
    split
    · rfl
    · exact findM_idx s l (i + 1)
theorem putM_idx (x : Room) : ∀ (pre : List Room) (i : Nat), hasN pre x.name = false → putM x.name (ai ((i + pre.length : Nat) : Int)) (idxM i pre) = idxM i (pre ++ [x])
  | [], _, _ => rfl
  | r :: l, i, h => by
    simp only [hasN, List.any_cons, Bool.or_eq_false_iff] at h
    simp only [List.cons_append, idxM, putM, List.length_cons]
    rw [if_neg (by rw [h.1]; simp), show i + (l.length + 1) = i + 1 + l.length by omega, putM_idx x l (i + 1) h.2]
theorem chkR_cons {k : Nat} {pre rest : List Room} {x : Room} (h : chkR k pre (x :: rest) = none) : hasN pre x.name = false ∧ chkR (k + 1) (pre ++ [x]) rest = none := by
  unfold chkR at h
  split at h
  · split at h
    · cases h
    · rename_i hq; exact ⟨by simpa using hq, h⟩
  · cases h
theorem chkR_valid {h : House} (hc : (Check h).1 = 0) : chkR 0 [] h.rooms = none := by
  unfold Check at hc
  split at hc
  · cases hc
  · split at hc
    · cases hc
    · unfold chk1 at hc
      cases hq : chkR 0 [] h.rooms with
      | none => rfl
      | some e => rw [hq] at hc; exact absurd hc (chkR_ne0 _ _ _ _ hq)
def findH (h : House) (s : ByteArray) : Int × Int := if (Check h).1 ≠ 0 then (0, (Check h).1) else match findO s 0 h.rooms with
  | some i => (i, 0)
  | none => (0, 5)
theorem askedNN_ok (h : House) (hfit : h.Fit) : OKv cx 74 [.agg (eHouse h), .lst [], .lst []] (ai (Check h).1) := by
  have h1 := asked_ok h [] [] hfit (by simp) (by simp)
  have h2 : askedE h [] [] = (Check h).1 := by unfold askedE; split <;> simp_all
  rw [h2] at h1
  exact h1
theorem Find_ok (h : House) (s0 : ByteArray) (hfit : h.Fit) : OKv cx 39 [.agg (eHouse h), .v (.string s0)] (.tup [ai (findH h s0).1, ai (findH h s0).2]) := by
  have hfr := hfit.rooms
  by_cases hc : (Check h).1 = 0
  · have hcr := chkR_valid hc
    refine OKat.of_body (rs := [4, 5]) Tryd.func39 rfl (by decide +kernel) rfl (by simp [Tryd.ntmps39]) ?_
    simp only [Tryd.ntmps39]
    repeat' first
      | apply AW.seq | apply AW.region | apply AW.ret | apply AW.block | apply AW.skip | apply AW.exit | apply AW.scope | apply AW.label | apply AWL.nil
      | ((first | (apply W.step cx_ok; decide) | apply W.store cx_ok | apply AW.cond | apply W.mapUpdate cx_ok); (simp (disch := omega) only [push_cast, simprocAttr, hc] <;> rfl); all_goals try ((with_reducible intro hI); try first | (cases hI; done) | (simp only [INTS] at hI; try first | (exfalso; omega) | (have hT : True := hI; clear hT hI))))
      | (refine W.makeMap cx_ok (by decide) ?_)
      | ((apply W.callv cx_ok; decide); (iterate 2 (simp (disch := omega) only [push_cast, simprocAttr, hc] <;> rfl)); (with_reducible first | exact askedNN_ok _ hfit); try first | rfl | (simp (disch := omega) only [push_cast, simprocAttr, hc] <;> rfl))
      | ((first | apply W.ret2 | apply W.end2); (iterate 2 (try (simp (disch := omega) only [push_cast, simprocAttr, hc] <;> rfl))))
    refine AW.loop (fun n s => ∃ (k : Nat) (pre rest : List Room), n = rest.length ∧ (h.rooms.drop k = rest) ∧ (pre ++ rest = h.rooms) ∧ (pre.length = k) ∧ (chkR k pre rest = none) ∧ 2 ≤ s.nx ∧ s.tm 1 = .v (.string s0) ∧ s.tm 2 = .ptr 0 0 0 1 ∧ s.tm 7 = .map 1 ∧ s.tm 19 = .lst (h.rooms.map eRoom) ∧ s.tm 20 = ai h.rooms.length ∧ s.tm 21 = ai k ∧ Pg.rowAt s.H (0) = some ({ k := 3, es := [eHouse h], ty := 26 }) ∧ s.H (1) = some (.mp 0 0 (idxM 0 pre))) (h.rooms.length) ⟨0, [], h.rooms, rfl, rfl, rfl, rfl, hcr, ?_, ?_, ?_, ?_, ?_, ?_, ?_, ?_, ?_⟩ ?_
    iterate 9 (first | (simp (disch := omega) only [push_cast, simprocAttr] <;> first | rfl | omega) | omega)
    rintro n s ⟨k, pre, rest, hn, hp0, hp1, hp2, hp3, hnl, hS⟩
    have hZ : (0 : Nat) ≠ s.nx ∧ s.nx ≠ (0 : Nat) ∧ (1 : Nat) ≠ s.nx ∧ s.nx ≠ (1 : Nat) := by omega
    rcases rest with _ | ⟨x, rest⟩
    · have hk := drop_nil hp0
      have hpr : pre = h.rooms := by simpa using hp1
      rw [hpr] at hS
      cases hfo : findO s0 0 h.rooms with
      | none =>
        have hE : findH h s0 = (0, 5) := by unfold findH; rw [if_neg (by simp [hc]), hfo]
        repeat' first
          | apply AW.seq | apply AW.region | apply AW.ret | apply AW.block | apply AW.skip | apply AW.exit | apply AW.scope | apply AW.label | apply AWL.nil
          | ((first | (apply W.step cx_ok; decide) | apply W.store cx_ok | apply AW.cond | apply W.mapUpdate cx_ok); (simp (disch := omega) only [push_cast, simprocAttr, hS, hZ, hk, findM_idx, hfo, pickM, Option.map_none, Option.map_some] <;> rfl); all_goals try ((with_reducible intro hI); try first | (cases hI; done) | (simp only [INTS] at hI; try first | (exfalso; omega) | (have hT : True := hI; clear hT hI))))
          | (refine W.makeMap cx_ok (by decide) ?_)
          | ((first | apply W.ret2 | apply W.end2); (iterate 2 (try (simp (disch := omega) only [push_cast, simprocAttr, hS, hZ, hk, findM_idx, hfo, pickM, Option.map_none, Option.map_some] <;> rfl))))
        all_goals (show _ = _; rw [hE])
      | some i =>
        have hE : findH h s0 = (i, 0) := by unfold findH; rw [if_neg (by simp [hc]), hfo]
        repeat' first
          | apply AW.seq | apply AW.region | apply AW.ret | apply AW.block | apply AW.skip | apply AW.exit | apply AW.scope | apply AW.label | apply AWL.nil
          | ((first | (apply W.step cx_ok; decide) | apply W.store cx_ok | apply AW.cond | apply W.mapUpdate cx_ok); (simp (disch := omega) only [push_cast, simprocAttr, hS, hZ, hk, findM_idx, hfo, pickM, Option.map_none, Option.map_some] <;> rfl); all_goals try ((with_reducible intro hI); try first | (cases hI; done) | (simp only [INTS] at hI; try first | (exfalso; omega) | (have hT : True := hI; clear hT hI))))
          | (refine W.makeMap cx_ok (by decide) ?_)
          | ((first | apply W.ret2 | apply W.end2); (iterate 2 (try (simp (disch := omega) only [push_cast, simprocAttr, hS, hZ, hk, findM_idx, hfo, pickM, Option.map_none, Option.map_some] <;> rfl))))
        all_goals (show _ = _; rw [hE])
    · obtain ⟨hk, hg, hd', hl', hm, hx⟩ := drop_cons hp0 eRoom []
      obtain ⟨hnn, hcr'⟩ := chkR_cons hp3
      have hput : putM x.name (ai (k : Int)) (idxM 0 pre) = idxM 0 (pre ++ [x]) := by have := putM_idx x pre 0 hnn; rwa [Nat.zero_add, hp2] at this
      repeat' first
        | apply AW.seq | apply AW.region | apply AW.ret | apply AW.block | apply AW.skip | apply AW.exit | apply AW.scope | apply AW.label | apply AWL.nil
        | ((first | (apply W.step cx_ok; decide) | apply W.store cx_ok | apply AW.cond | apply W.mapUpdate cx_ok); (simp (disch := omega) only [push_cast, simprocAttr, hS, hZ, hk, hg, hput] <;> rfl); all_goals try ((with_reducible intro hI); try first | (cases hI; done) | (simp only [INTS] at hI; try first | (exfalso; omega) | (have hT : True := hI; clear hT hI))))
        | (refine W.makeMap cx_ok (by decide) ?_)
        | ((first | apply W.ret2 | apply W.end2); (iterate 2 (try (simp (disch := omega) only [push_cast, simprocAttr, hS, hZ, hk, hg, hput] <;> rfl))))
      all_goals
        (refine ⟨rest.length, ?_, k + 1, pre ++ [x], rest, rfl, hd', (by simpa using hp1), (by simp [hp2]), hcr', ?_, ?_, ?_, ?_, ?_, ?_, ?_, ?_, ?_⟩; ((simp only [List.length_cons] at *; omega)); all_goals first | (simp (disch := omega) only [push_cast, simprocAttr, hS, hZ, hg, hk, hput] <;> first | rfl | omega) | omega)
  · have hE : findH h s0 = (0, (Check h).1) := if_pos hc
    refine OKat.of_body (rs := [4, 5]) Tryd.func39 rfl (by decide +kernel) rfl (by simp [Tryd.ntmps39]) ?_
    simp only [Tryd.ntmps39]
    repeat' first
      | apply AW.seq | apply AW.region | apply AW.ret | apply AW.block | apply AW.skip | apply AW.exit | apply AW.scope | apply AW.label | apply AWL.nil
      | ((first | (apply W.step cx_ok; decide) | apply W.store cx_ok | apply AW.cond | apply W.mapUpdate cx_ok); (simp (disch := omega) only [push_cast, simprocAttr, hc] <;> rfl); all_goals try ((with_reducible intro hI); try first | (cases hI; done) | (simp only [INTS] at hI; try first | (exfalso; omega) | (have hT : True := hI; clear hT hI))))
      | (refine W.makeMap cx_ok (by decide) ?_)
      | ((apply W.callv cx_ok; decide); (iterate 2 (simp (disch := omega) only [push_cast, simprocAttr, hc] <;> rfl)); (with_reducible first | exact askedNN_ok _ hfit); try first | rfl | (simp (disch := omega) only [push_cast, simprocAttr, hc] <;> rfl))
      | ((first | apply W.ret2 | apply W.end2); (iterate 2 (try (simp (disch := omega) only [push_cast, simprocAttr, hc] <;> rfl))))
    all_goals (show _ = _; rw [hE])
theorem FindR_ok (h : House) (s0 : ByteArray) (hfit : h.Fit) : OKv cx 40 [.agg (eHouse h), .v (.string s0)] (.tup [ai (findH h s0).1, ai (findH h s0).2]) := by
  have hfr := hfit.rooms
  by_cases hc : (Check h).1 = 0
  · have hF : findH h s0 = match findO s0 0 h.rooms with
      | some i => (i, 0)
      | none => (0, 5) := if_neg (by simp [hc])
    refine OKat.of_body (rs := [4, 5]) Tryd.func40 rfl (by decide +kernel) rfl (by simp [Tryd.ntmps40]) ?_
    simp only [Tryd.ntmps40]
    repeat' first
      | apply AW.seq | apply AW.region | apply AW.ret | apply AW.block | apply AW.skip | apply AW.exit | apply AW.scope | apply AW.label | apply AWL.nil
      | ((first | (apply W.step cx_ok; decide) | apply AW.cond); (simp (disch := omega) only [push_cast, simprocAttr, hc] <;> rfl); all_goals try ((with_reducible intro hI); try first | (cases hI; done) | (simp only [INTS] at hI; try first | (exfalso; omega) | (have hT : True := hI; clear hT hI))))
      | ((apply W.callv cx_ok; decide); (iterate 2 (simp (disch := omega) only [push_cast, simprocAttr, hc] <;> rfl)); (with_reducible first | exact Error_ok _ hfit); try first | rfl | (simp (disch := omega) only [push_cast, simprocAttr, hc] <;> rfl))
      | ((first | apply W.ret2 | apply W.end2); (iterate 2 (try (simp (disch := omega) only [push_cast, simprocAttr, hc] <;> rfl))))
    refine AW.loop (fun n s => ∃ (k : Nat) (rest : List Room), n = rest.length ∧ (h.rooms.drop k = rest) ∧ (findO s0 k rest = findO s0 0 h.rooms) ∧ 1 ≤ s.nx ∧ s.tm 1 = .v (.string s0) ∧ s.tm 2 = .ptr 0 0 0 1 ∧ s.tm 7 = ai k ∧ Pg.rowAt s.H (0) = some ({ k := 3, es := [eHouse h], ty := 26 })) (h.rooms.length) ⟨0, h.rooms, rfl, rfl, rfl, ?_, ?_, ?_, ?_, ?_⟩ ?_
    iterate 5 (first | (simp (disch := omega) only [push_cast, simprocAttr] <;> first | rfl | omega) | omega)
    rintro n s ⟨k, rest, hn, hp0, hp1, hnl, hS⟩
    have hZ : (0 : Nat) ≠ s.nx ∧ s.nx ≠ (0 : Nat) := by omega
    rcases rest with _ | ⟨x, rest⟩
    · have hk := drop_nil hp0
      repeat' first
        | apply AW.seq | apply AW.region | apply AW.ret | apply AW.block | apply AW.skip | apply AW.exit | apply AW.scope | apply AW.label | apply AWL.nil
        | ((first | (apply W.step cx_ok; decide) | apply AW.cond); (simp (disch := omega) only [push_cast, simprocAttr, hS, hZ, hk] <;> rfl); all_goals try ((with_reducible intro hI); try first | (cases hI; done) | (simp only [INTS] at hI; try first | (exfalso; omega) | (have hT : True := hI; clear hT hI))))
        | ((first | apply W.ret2 | apply W.end2); (iterate 2 (try (simp (disch := omega) only [push_cast, simprocAttr, hS, hZ, hk] <;> rfl))))
      all_goals (show _ = _; rw [hF, ← hp1]; rfl)
    · obtain ⟨hk, hg, hd', hl', hm, hx⟩ := drop_cons hp0 eRoom []
      repeat' first
        | apply AW.seq | apply AW.region | apply AW.ret | apply AW.block | apply AW.skip | apply AW.exit | apply AW.scope | apply AW.label | apply AWL.nil
        | ((first | (apply W.step cx_ok; decide) | apply AW.cond); (simp (disch := omega) only [push_cast, simprocAttr, hS, hZ, hk, hg] <;> rfl); all_goals try ((with_reducible intro hI); try first | (cases hI; done) | (simp only [INTS] at hI; try first | (exfalso; omega) | (have hT : True := hI; clear hT hI))))
        | ((first | apply W.ret2 | apply W.end2); (iterate 2 (try (simp (disch := omega) only [push_cast, simprocAttr, hS, hZ, hk, hg] <;> rfl))))
      all_goals first
        | (have hq : findO s0 k (x :: rest) = some (k : Int) := if_pos (by simp [*])
           rw [hq] at hp1
           show _ = _; rw [hF, ← hp1]; done)
        | (have hq : findO s0 k (x :: rest) = findO s0 (k + 1) rest := if_neg (by rw [beq_iff_eq]; intro hh; simp_all)
           rw [hq] at hp1
           (refine ⟨rest.length, ?_, k + 1, rest, rfl, hd', hp1, ?_, ?_, ?_, ?_, ?_⟩; ((simp only [List.length_cons] at *; omega)); all_goals first | (simp (disch := omega) only [push_cast, simprocAttr, hS, hZ, hg, hk] <;> first | rfl | omega) | omega))
  · have hE : findH h s0 = (0, (Check h).1) := if_pos hc
    refine OKat.of_body (rs := [4, 5]) Tryd.func40 rfl (by decide +kernel) rfl (by simp [Tryd.ntmps40]) ?_
    simp only [Tryd.ntmps40]
    repeat' first
      | apply AW.seq | apply AW.region | apply AW.ret | apply AW.block | apply AW.skip | apply AW.exit | apply AW.scope | apply AW.label | apply AWL.nil
      | ((first | (apply W.step cx_ok; decide) | apply AW.cond); (simp (disch := omega) only [push_cast, simprocAttr, hc] <;> rfl); all_goals try ((with_reducible intro hI); try first | (cases hI; done) | (simp only [INTS] at hI; try first | (exfalso; omega) | (have hT : True := hI; clear hT hI))))
      | ((apply W.callv cx_ok; decide); (iterate 2 (simp (disch := omega) only [push_cast, simprocAttr, hc] <;> rfl)); (with_reducible first | exact Error_ok _ hfit); try first | rfl | (simp (disch := omega) only [push_cast, simprocAttr, hc] <;> rfl))
      | ((first | apply W.ret2 | apply W.end2); (iterate 2 (try (simp (disch := omega) only [push_cast, simprocAttr, hc] <;> rfl))))
    all_goals (show _ = _; rw [hE])

end Go.Proofs.Hs

set_option maxHeartbeats 8000000
set_option linter.unusedSimpArgs false
set_option linter.unusedVariables false
set_option maxRecDepth 10000
namespace Go.Proofs.Hs
open Go Go.Pg Go.Proofs

theorem law7_ok (h : House) (s0 : ByteArray) (hn : ∀ r ∈ h.rooms, r.name.size ≤ 9223372036854775807) : OKv cx 7 [.agg (eHouse h), .v (.string s0)] (ab true) := by
  by_cases hf : few h = true
  · have hfit := few_fit hf hn
    have hrl := hfit.rooms
    refine OKat.of_body (rs := [4]) Tryd.func7 rfl (by decide +kernel) rfl (by simp [Tryd.ntmps7]) ?_
    simp only [Tryd.ntmps7]
    repeat' first
      | apply AW.seq | apply AW.region | apply AW.ret | apply AW.block | apply AW.skip | apply AW.exit | apply AW.scope | apply AW.label | apply AWL.nil
      | ((first | (apply W.step cx_ok; decide) | (apply W.gS; rfl; decide) | apply AW.cond); (simp (disch := omega) only [push_cast, simprocAttr, hf] <;> rfl); all_goals try ((with_reducible intro hI); try first | (cases hI; done) | (simp only [INTS] at hI; try first | (exfalso; omega) | (have hT : True := hI; clear hT hI))))
      | ((apply W.callv cx_ok; decide); (iterate 2 (simp (disch := omega) only [push_cast, simprocAttr, hf] <;> rfl)); (with_reducible first | exact few_ok _ | exact sanity_ok | exact Check_ok _ hfit | exact CheckR_ok _ hfit | exact Find_ok _ _ hfit | exact FindR_ok _ _ hfit); try first | rfl | (simp (disch := omega) only [push_cast, simprocAttr, hf] <;> rfl))
      | ((first | apply W.ret1 | apply W.end1); (iterate 2 (try (simp (disch := omega) only [push_cast, simprocAttr, hf] <;> rfl))))
    all_goals (show _ = _; first | rfl | (simp_all; done))
  · have hf' : few h = false := by simpa using hf
    refine OKat.of_body (rs := [4]) Tryd.func7 rfl (by decide +kernel) rfl (by simp [Tryd.ntmps7]) ?_
    simp only [Tryd.ntmps7]
    repeat' first
      | apply AW.seq | apply AW.region | apply AW.ret | apply AW.block | apply AW.skip | apply AW.exit | apply AW.scope | apply AW.label | apply AWL.nil
      | ((first | (apply W.step cx_ok; decide) | (apply W.gS; rfl; decide) | apply AW.cond); (simp (disch := omega) only [push_cast, simprocAttr, hf'] <;> rfl); all_goals try ((with_reducible intro hI); try first | (cases hI; done) | (simp only [INTS] at hI; try first | (exfalso; omega) | (have hT : True := hI; clear hT hI))))
      | ((apply W.callv cx_ok; decide); (iterate 2 (simp (disch := omega) only [push_cast, simprocAttr, hf'] <;> rfl)); (with_reducible first | exact few_ok _ | exact sanity_ok); try first | rfl | (simp (disch := omega) only [push_cast, simprocAttr, hf'] <;> rfl))
      | ((first | apply W.ret1 | apply W.end1); (iterate 2 (try (simp (disch := omega) only [push_cast, simprocAttr, hf'] <;> rfl))))
    all_goals (show _ = _; first | rfl | (simp_all; done))

end Go.Proofs.Hs
