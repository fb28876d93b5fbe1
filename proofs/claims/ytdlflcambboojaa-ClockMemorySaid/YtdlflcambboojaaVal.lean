/-
  Contracts of functions, proved by going through their code. No conditions.
-/
import Derived.Test.YtdlflcambboojaaVaa
import Derived.Test.YtdlflcambboojaaVak
set_option linter.unusedVariables false
set_option linter.unusedSimpArgs false
set_option maxHeartbeats 8000000
set_option maxRecDepth 10000
namespace Go.Proofs.Ks
open Go Go.Pg Go.Proofs
def stopsE (fin : Int) : Int → List Stop → Int
  | _, [] => 0
  | b, x :: r => if x.pos ≤ b ∨ fin ≤ x.pos ∨ inB x.secs 0 36000 = false then 1 else stopsE fin x.pos r
def sessB (s : Session) : Bool := decide (1 ≤ s.id) && decide (s.id ≤ 1099511627776) && inB s.inn 0 1073741823 && inB s.out 0 1073741823 && inB s.zero 0 43199 && inB s.fin s.zero.lo 43199 && decide (s.zero.hi ≤ s.fin.hi) && inB s.rate 900000 1100000
def sessE (s : Session) : Int := if 4 < s.stops.length then 2 else if sessB s = true then stopsE s.fin.lo s.zero.hi s.stops else 1
theorem sessB_facts {s : Session} (h : sessB s = true) : 1 ≤ s.id ∧ s.id ≤ 1099511627776 ∧ inB s.inn 0 1073741823 = true ∧ inB s.out 0 1073741823 = true ∧ inB s.zero 0 43199 = true ∧ inB s.fin s.zero.lo 43199 = true ∧ s.zero.hi ≤ s.fin.hi ∧ inB s.rate 900000 1100000 = true := by
  unfold sessB at h; simpa [and_assoc] using h
theorem sessB_of {s : Session} (h1 : 1 ≤ s.id) (h2 : s.id ≤ 1099511627776) (h3 : inB s.inn 0 1073741823 = true) (h4 : inB s.out 0 1073741823 = true) (h5 : inB s.zero 0 43199 = true) (h6 : inB s.fin s.zero.lo 43199 = true) (h7 : s.zero.hi ≤ s.fin.hi) (h8 : inB s.rate 900000 1100000 = true) : sessB s = true := by
  unfold sessB; simp [*]
theorem checkSession_ok (s0 : Session) : OKv cx 92 [.agg (eSession s0)] (ai (sessE s0)) := by
  by_cases h4 : 4 < s0.stops.length
  · have e : sessE s0 = 2 := if_pos h4
    have h4' : (4 : Int) < (s0.stops.length : Int) := by omega
    rw [e]
    refine OKat.of_body (rs := [2]) Try.func92 rfl (by decide +kernel) rfl (by simp [Try.ntmps92]) ?_
    simp only [Try.ntmps92]
    repeat' first
      | apply jA | apply jB | apply jC | apply jD | apply jE | apply jF | apply jG | apply jH | apply jI
      | ((first | (apply jK cx_ok; decide) | apply jM cx_ok | (apply jN; rfl; decide) | apply jR); (simp (disch := omega) only [push_cast, simprocAttr, h4'] <;> rfl); all_goals try ((with_reducible intro hI); try first | (cases hI; done) | (simp only [INTS, zL] at hI; try first | (exfalso; omega) | (have hT : True := hI; clear hT hI))))
      | ((first | apply jf | apply jg); (iterate 2 (try (simp (disch := omega) only [push_cast, simprocAttr, h4'] <;> rfl))))
    all_goals (show _ = _; rfl)
  have h4' : ¬ (4 : Int) < (s0.stops.length : Int) := by omega
  by_cases hB : sessB s0 = true
  · obtain ⟨b1, b2, b3, b4, b5, b6, b7, b8⟩ := sessB_facts hB
    obtain ⟨RES, hR⟩ : ∃ x, stopsE s0.fin.lo s0.zero.hi s0.stops = x := ⟨_, rfl⟩
    have e : sessE s0 = RES := by unfold sessE; rw [if_neg h4, if_pos hB, hR]
    rw [e]
    refine OKat.of_body (rs := [2]) Try.func92 rfl (by decide +kernel) rfl (by simp [Try.ntmps92]) ?_
    simp only [Try.ntmps92]
    repeat' first
      | apply jA | apply jB | apply jC | apply jD | apply jE | apply jF | apply jG | apply jH | apply jI
      | ((first | (apply jK cx_ok; decide) | apply jM cx_ok | (apply jN; rfl; decide) | apply jR); (simp (disch := omega) only [push_cast, simprocAttr, h4', b1, b2, b3, b4, b5, b6, b7, b8] <;> rfl); all_goals try ((with_reducible intro hI); try first | (cases hI; done) | (simp only [INTS, zL] at hI; try first | (exfalso; omega) | (have hT : True := hI; clear hT hI))))
      | ((apply jV cx_ok; decide); (iterate 2 (simp (disch := omega) only [push_cast, simprocAttr, h4', b1, b2, b3, b4, b5, b6, b7, b8] <;> rfl)); (with_reducible first | exact within_ok _ _ _); try first | rfl | (simp (disch := omega) only [push_cast, simprocAttr, h4', b1, b2, b3, b4, b5, b6, b7, b8] <;> rfl))
      | ((first | apply jf | apply jg); (iterate 2 (try (simp (disch := omega) only [push_cast, simprocAttr, h4', b1, b2, b3, b4, b5, b6, b7, b8] <;> rfl))))
    refine AW.loop (fun n s => ∃ (k : Nat) (b : Int) (rest : List Stop), n = rest.length ∧ (s0.stops.drop k = rest) ∧ (stopsE s0.fin.lo b rest = RES) ∧ 1 ≤ s.nx ∧ s.tm 1 = .ptr 0 0 0 1 ∧ s.tm 3 = ai b ∧ s.tm 62 = lStop s0.stops ∧ s.tm 63 = ai s0.stops.length ∧ s.tm 64 = ai k ∧ Pg.rowAt s.H (0) = some ({ k := 12, es := [eSession s0], ty := 26 })) (s0.stops.length) ⟨0, s0.zero.hi, s0.stops, rfl, rfl, hR, ?_, ?_, ?_, ?_, ?_, ?_, ?_⟩ ?_
    iterate 7 (first | (simp (disch := omega) only [push_cast, simprocAttr, h4', b1, b2, b3, b4, b5, b6, b7, b8] <;> first | rfl | omega) | omega)
    rintro n s ⟨k, b, rest, hn, hp0, hp1, hnl, hS⟩
    have hZ : (0 : Nat) ≠ s.nx ∧ s.nx ≠ (0 : Nat) := by omega
    rcases rest with _ | ⟨x, rest⟩
    · have hk := drop_nil hp0
      repeat' first
        | apply jA | apply jB | apply jC | apply jD | apply jE | apply jF | apply jG | apply jH | apply jI
        | ((first | (apply jK cx_ok; decide) | apply jM cx_ok | (apply jN; rfl; decide) | apply jR); (simp (disch := omega) only [push_cast, simprocAttr, hS, hZ, hk] <;> rfl); all_goals try ((with_reducible intro hI); try first | (cases hI; done) | (simp only [INTS, zL] at hI; try first | (exfalso; omega) | (have hT : True := hI; clear hT hI))))
        | ((first | apply jf | apply jg); (iterate 2 (try (simp (disch := omega) only [push_cast, simprocAttr, hS, hZ, hk] <;> rfl))))
      all_goals (show _ = _; rw [← hp1]; rfl)
    · obtain ⟨hk, hg, hd', hl', hm, hx⟩ := drop_cons hp0 eStop []
      by_cases hq : x.pos ≤ b ∨ s0.fin.lo ≤ x.pos ∨ inB x.secs 0 36000 = false
      · rw [stopsE, if_pos hq] at hp1
        subst hp1
        repeat' first
          | apply jA | apply jB | apply jC | apply jD | apply jE | apply jF | apply jG | apply jH | apply jI
          | ((first | (apply jK cx_ok; decide) | apply jM cx_ok | (apply jN; rfl; decide) | apply jR); (simp (disch := omega) only [push_cast, simprocAttr, hS, hZ, hk, hg, hx] <;> rfl); all_goals try ((with_reducible intro hI); try first | (cases hI; done) | (simp only [INTS, zL] at hI; try first | (exfalso; omega) | (have hT : True := hI; clear hT hI))))
          | ((apply jV cx_ok; decide); (iterate 2 (simp (disch := omega) only [push_cast, simprocAttr, hS, hZ, hk, hg, hx] <;> rfl)); (with_reducible first | exact within_ok _ _ _); try first | rfl | (simp (disch := omega) only [push_cast, simprocAttr, hS, hZ, hk, hg, hx] <;> rfl))
          | ((first | apply jf | apply jg); (iterate 2 (try (simp (disch := omega) only [push_cast, simprocAttr, hS, hZ, hk, hg, hx] <;> rfl))))
        all_goals first | (show _ = _; rfl) | (exfalso; rcases hq with hq | hq | hq <;> first | omega | simp_all)
      · rw [stopsE, if_neg hq] at hp1
        have q1 : ¬ x.pos ≤ b := fun h => hq (.inl h)
        have q2 : ¬ s0.fin.lo ≤ x.pos := fun h => hq (.inr (.inl h))
        have q3 : inB x.secs 0 36000 = true := by
          cases h : inB x.secs 0 36000 with
          | true => rfl
          | false => exact absurd (.inr (.inr h)) hq
        repeat' first
          | apply jA | apply jB | apply jC | apply jD | apply jE | apply jF | apply jG | apply jH | apply jI
          | ((first | (apply jK cx_ok; decide) | apply jM cx_ok | (apply jN; rfl; decide) | apply jR); (simp (disch := omega) only [push_cast, simprocAttr, hS, hZ, hk, hg, hx, q1, q2, q3] <;> rfl); all_goals try ((with_reducible intro hI); try first | (cases hI; done) | (simp only [INTS, zL] at hI; try first | (exfalso; omega) | (have hT : True := hI; clear hT hI))))
          | ((apply jV cx_ok; decide); (iterate 2 (simp (disch := omega) only [push_cast, simprocAttr, hS, hZ, hk, hg, hx, q1, q2, q3] <;> rfl)); (with_reducible first | exact within_ok _ _ _); try first | rfl | (simp (disch := omega) only [push_cast, simprocAttr, hS, hZ, hk, hg, hx, q1, q2, q3] <;> rfl))
          | ((first | apply jf | apply jg); (iterate 2 (try (simp (disch := omega) only [push_cast, simprocAttr, hS, hZ, hk, hg, hx, q1, q2, q3] <;> rfl))))
        all_goals (refine ⟨rest.length, ?_, k + 1, x.pos, rest, rfl, hd', hp1, ?_, ?_, ?_, ?_, ?_, ?_, ?_⟩; ((simp only [zD] at *; omega)); all_goals first | (simp (disch := omega) only [push_cast, simprocAttr, hS, hZ, hk, hg, hx, q1, q2, q3] <;> first | rfl | omega) | omega)
  · have e : sessE s0 = 1 := by unfold sessE; rw [if_neg h4, if_neg hB]
    rw [e]
    refine OKat.of_body (rs := [2]) Try.func92 rfl (by decide +kernel) rfl (by simp [Try.ntmps92]) ?_
    simp only [Try.ntmps92]
    repeat' first
      | apply jA | apply jB | apply jC | apply jD | apply jE | apply jF | apply jG | apply jH | apply jI
      | ((first | (apply jK cx_ok; decide) | apply jM cx_ok | (apply jN; rfl; decide) | apply jR); (simp (disch := omega) only [push_cast, simprocAttr, h4'] <;> rfl); all_goals try ((with_reducible intro hI); try first | (cases hI; done) | (simp only [INTS, zL] at hI; try first | (exfalso; omega) | (have hT : True := hI; clear hT hI))))
      | ((apply jV cx_ok; decide); (iterate 2 (simp (disch := omega) only [push_cast, simprocAttr, h4'] <;> rfl)); (with_reducible first | exact within_ok _ _ _); try first | rfl | (simp (disch := omega) only [push_cast, simprocAttr, h4'] <;> rfl))
      | ((first | apply jf | apply jg); (iterate 2 (try (simp (disch := omega) only [push_cast, simprocAttr, h4'] <;> rfl))))
    all_goals first | (show _ = _; rfl) | (exfalso; exact hB (sessB_of (by omega) (by omega) (by assumption) (by assumption) (by assumption) (by assumption) (by omega) (by assumption)))
end Go.Proofs.Ks

namespace Go.Proofs.Ks
open Go Go.Pg Go.Proofs
end Go.Proofs.Ks

namespace Go.Proofs.Ks
open Go Go.Pg Go.Proofs
def strikeI (n : Int) : Nat → List Strike → Int
  | _, [] => -1
  | k, x :: r => if x.id = n then (k : Int) else strikeI n (k + 1) r
theorem rstrike_ok (l : List Strike) (n0 : Int) (hl : l.length ≤ 1099511627776) : OKv cx 79 [lStrike l, ai n0] (ai (strikeI n0 0 l)) := by
  obtain ⟨RES, hR⟩ : ∃ x, strikeI n0 0 l = x := ⟨_, rfl⟩
  rw [hR]
  refine OKat.of_body (rs := [4]) Try.func79 rfl (by decide +kernel) rfl (by simp [Try.ntmps79]) ?_
  simp only [Try.ntmps79]
  repeat' first
    | apply jA | apply jB | apply jC | apply jD | apply jE | apply jF | apply jG | apply jH | apply jI
    | ((first | (apply jK cx_ok; decide) | apply jR); (simp (disch := omega) only [push_cast, simprocAttr] <;> rfl); all_goals try ((with_reducible intro hI); try first | (cases hI; done) | (simp only [INTS, zL] at hI; try first | (exfalso; omega) | (have hT : True := hI; clear hT hI))))
    | ((first | apply jf | apply jg); (iterate 2 (try (simp (disch := omega) only [push_cast, simprocAttr] <;> rfl))))
  refine AW.loop (fun n s => ∃ (k : Nat) (rest : List Strike), n = rest.length ∧ (l.drop k = rest) ∧ (strikeI n0 k rest = RES) ∧ s.tm 0 = lStrike l ∧ s.tm 1 = ai n0 ∧ s.tm 5 = ai k) (l.length) ⟨0, l, rfl, rfl, hR, ?_, ?_, ?_⟩ ?_
  iterate 3 (first | (simp (disch := omega) only [push_cast, simprocAttr] <;> first | rfl | omega) | omega)
  rintro n s ⟨k, rest, hn, hp0, hp1, hS⟩
  rcases rest with _ | ⟨x, rest⟩
  · have hk := drop_nil hp0
    repeat' first
      | apply jA | apply jB | apply jC | apply jD | apply jE | apply jF | apply jG | apply jH | apply jI
      | ((first | (apply jK cx_ok; decide) | apply jR); (simp (disch := omega) only [push_cast, simprocAttr, hS, hk] <;> rfl); all_goals try ((with_reducible intro hI); try first | (cases hI; done) | (simp only [INTS, zL] at hI; try first | (exfalso; omega) | (have hT : True := hI; clear hT hI))))
      | ((first | apply jf | apply jg); (iterate 2 (try (simp (disch := omega) only [push_cast, simprocAttr, hS, hk] <;> rfl))))
    all_goals (show _ = _; rw [← hp1]; rfl)
  · obtain ⟨hk, hg, hd', hl', hm, hx⟩ := drop_cons hp0 eStrike []
    by_cases hq : x.id = n0
    · rw [strikeI, if_pos hq] at hp1
      have hqT : (x.id = n0) = True := eq_true hq
      repeat' first
        | apply jA | apply jB | apply jC | apply jD | apply jE | apply jF | apply jG | apply jH | apply jI
        | ((first | (apply jK cx_ok; decide) | apply jR); (simp (disch := omega) only [push_cast, simprocAttr, hS, hk, hg, hx, hqT] <;> rfl); all_goals try ((with_reducible intro hI); try first | (cases hI; done) | (simp only [INTS, zL] at hI; try first | (exfalso; omega) | (have hT : True := hI; clear hT hI))))
        | ((first | apply jf | apply jg); (iterate 2 (try (simp (disch := omega) only [push_cast, simprocAttr, hS, hk, hg, hx, hqT] <;> rfl))))
      all_goals (show _ = _; rw [← hp1])
    · rw [strikeI, if_neg hq] at hp1
      have hqF : (x.id = n0) = False := eq_false hq
      repeat' first
        | apply jA | apply jB | apply jC | apply jD | apply jE | apply jF | apply jG | apply jH | apply jI
        | ((first | (apply jK cx_ok; decide) | apply jR); (simp (disch := omega) only [push_cast, simprocAttr, hS, hk, hg, hx, hqF] <;> rfl); all_goals try ((with_reducible intro hI); try first | (cases hI; done) | (simp only [INTS, zL] at hI; try first | (exfalso; omega) | (have hT : True := hI; clear hT hI))))
        | ((first | apply jf | apply jg); (iterate 2 (try (simp (disch := omega) only [push_cast, simprocAttr, hS, hk, hg, hx, hqF] <;> rfl))))
      all_goals (refine ⟨rest.length, ?_, k + 1, rest, rfl, hd', hp1, ?_, ?_, ?_⟩; ((simp only [zD] at *; omega)); all_goals first | (simp (disch := omega) only [push_cast, simprocAttr, hS, hk, hg, hx, hqF] <;> first | rfl | omega) | omega)
def strikeB (lo hi : Int) (x : Strike) : Bool := decide (1 ≤ x.id) && decide (x.id ≤ 1099511627776) && inB x.pos lo hi
def strikesE (lo hi : Int) : List Int → List Strike → Int
  | _, [] => 0
  | seen, x :: r => if strikeB lo hi x = true then (if x.id ∈ seen then 6 else strikesE lo hi (seen ++ [x.id]) r) else 1
def sightsE (ids : List Int) : List Sight → Int
  | [] => 0
  | x :: r => if inB x.seen 0 1073741823 = true then (if x.strike ∈ ids then sightsE ids r else 5) else 1
def idsOf (r : Rec) : List Int := r.strikes.map (·.id)
def checkE (r : Rec) : Int :=
  if sessE r.s ≠ 0 then sessE r.s else if 12 < r.strikes.length ∨ 12 < r.sights.length then 2 else
  if strikesE r.s.zero.lo r.s.fin.hi [] r.strikes ≠ 0 then strikesE r.s.zero.lo r.s.fin.hi [] r.strikes else sightsE (idsOf r) r.sights
def seenM (ids : List Int) : List (Key × AV) := ids.map fun i => (Key.int i, ab true)
theorem seen_find (n : Int) : ∀ ids : List Int, findM (.int n) (seenM ids) = if n ∈ ids then some (ab true) else none
  | [] => rfl
  | x :: ids => by
    have ih := seen_find n ids
    unfold seenM at ih ⊢
    simp only [zX, findM, Key.same, beq_iff_eq, zI, ih]
    by_cases h : n = x <;> simp [h]
theorem seen_look (n : Int) (ids : List Int) : pickM (.v (.bool false)) false (findM (.int n) (seenM ids)) = ab (decide (n ∈ ids)) := by
  rw [seen_find]
  by_cases h : n ∈ ids <;> simp [h, pickM]
theorem seen_put (n : Int) : ∀ ids : List Int, ¬ n ∈ ids → putM (.int n) (.v (.bool true)) (seenM ids) = seenM (ids ++ [n])
  | [], _ => rfl
  | x :: ids, h => by
    have ih := seen_put n ids (fun hh => h (List.mem_cons_of_mem _ hh))
    have hne : n ≠ x := fun e => h (by rw [e]; exact List.mem_cons_self)
    have hx : (n == x) = false := by simpa using hne
    unfold seenM at ih ⊢
    simp only [zX, putM, Key.same, hx, zM, if_false, yB, ih]
theorem strikesE_ids (lo hi : Int) : ∀ (l : List Strike) (seen : List Int), strikesE lo hi seen l = 0 → (∀ x ∈ l, strikeB lo hi x = true) ∧ (seen ++ l.map (·.id)).Nodup ∨ ¬ seen.Nodup
  | [], seen, _ => by
    by_cases h : seen.Nodup
    · exact .inl ⟨fun x hx => by simp at hx, by simpa using h⟩
    · exact .inr h
  | x :: l, seen, h => by
    unfold strikesE at h
    split at h
    · rename_i hb
      split at h
      · exact absurd h (by decide)
      · rename_i hn
        by_cases hs : seen.Nodup
        · have hs' : (seen ++ [x.id]).Nodup := List.nodup_append.2 ⟨hs, by simp, fun a ha b hb e => by simp at hb; subst hb; subst e; exact hn ha⟩
          rcases strikesE_ids lo hi l _ h with ⟨h1, h2⟩ | h1
          · refine .inl ⟨fun y hy => ?_, by simpa using h2⟩
            rcases List.mem_cons.1 hy with rfl | hy
            · exact hb
            · exact h1 y hy
          · exact absurd hs' h1
        · exact .inr hs
    · exact absurd h (by decide)
end Go.Proofs.Ks
