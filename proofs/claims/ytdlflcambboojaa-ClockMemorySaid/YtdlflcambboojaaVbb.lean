/-
  Contracts of functions, proved by going through their code. No conditions.
-/
import Derived.Test.YtdlflcambboojaaVaa
import Derived.Test.YtdlflcambboojaaVan
import Derived.Test.YtdlflcambboojaaVba
set_option linter.unusedVariables false
set_option linter.unusedSimpArgs false
namespace Go.Proofs.Ks
open Go Go.Proofs
def unseenR (r : Rec) (k : Nat) : Rec := { r with sights := r.sights.take k ++ r.sights.drop (k + 1) }
def withoutR (r : Rec) (gone : List Int) : Rec := { s := r.s, strikes := r.strikes.filter fun x => !gone.contains x.id, sights := r.sights.filter fun x => !gone.contains x.strike }
theorem strikesE_filter {lo hi : Int} (p : Strike → Bool) : ∀ (l : List Strike) (seen seen' : List Int), (∀ a ∈ seen', a ∈ seen) → strikesE lo hi seen l = 0 → strikesE lo hi seen' (l.filter p) = 0
  | [], _, _, _, _ => rfl
  | x :: l, seen, seen', hs, h => by
    unfold strikesE at h
    split at h
    · rename_i hx
      split at h
      · cases h
      · rename_i hn
        rw [List.filter_cons]
        split
        · unfold strikesE
          rw [if_pos hx, if_neg (fun hm => hn (hs _ hm))]
          exact strikesE_filter p l _ _ (fun a ha => by
            rcases List.mem_append.1 ha with ha | ha
            · exact List.mem_append_left _ (hs a ha)
            · exact List.mem_append_right _ ha) h
        · exact strikesE_filter p l _ _ (fun a ha => List.mem_append_left _ (hs a ha)) h
    · cases h
theorem sightsE_iff {ids : List Int} : ∀ {l : List Sight}, sightsE ids l = 0 ↔ ∀ x ∈ l, inB x.seen 0 1073741823 = true ∧ x.strike ∈ ids
  | [] => by simp [sightsE]
  | x :: l => by
    unfold sightsE
    by_cases h1 : inB x.seen 0 1073741823 = true
    · rw [if_pos h1]
      by_cases h2 : x.strike ∈ ids
      · rw [if_pos h2, sightsE_iff]
        simp [h1, h2]
      · rw [if_neg h2]
        simp [h2]
    · rw [if_neg h1]
      simp [h1]
theorem checkE_parts {r : Rec} (h : checkE r = 0) : sessE r.s = 0 ∧ r.strikes.length ≤ 12 ∧ r.sights.length ≤ 12 ∧ strikesE r.s.zero.lo r.s.fin.hi [] r.strikes = 0 ∧ sightsE (idsOf r) r.sights = 0 := by
  unfold checkE at h
  split at h
  · rename_i hn; exact absurd h hn
  · rename_i h0
    simp only [ne_eq, Decidable.not_not] at h0
    split at h
    · cases h
    · rename_i h1
      split at h
      · rename_i hn; exact absurd h hn
      · rename_i h2
        simp only [ne_eq, Decidable.not_not] at h2
        exact ⟨h0, by omega, by omega, h2, h⟩
theorem checkE_of {r : Rec} (h1 : sessE r.s = 0) (h2 : r.strikes.length ≤ 12) (h3 : r.sights.length ≤ 12) (h4 : strikesE r.s.zero.lo r.s.fin.hi [] r.strikes = 0) (h5 : sightsE (idsOf r) r.sights = 0) : checkE r = 0 := by
  unfold checkE
  rw [if_neg (by simp [h1]), if_neg (by omega), if_neg (by simp [h4]), h5]
theorem without_zero {r : Rec} (h : checkE r = 0) (gone : List Int) : checkE (withoutR r gone) = 0 := by
  obtain ⟨h1, h2, h3, h4, h5⟩ := checkE_parts h
  refine checkE_of h1 (Nat.le_trans (List.length_filter_le _ _) h2) (Nat.le_trans (List.length_filter_le _ _) h3) (strikesE_filter _ _ _ _ (fun _ h => h) h4) (sightsE_iff.2 fun x hx => ?_)
  have hx' : x ∈ r.sights.filter fun x => !gone.contains x.strike := hx
  rw [List.mem_filter] at hx'
  obtain ⟨g1, g2⟩ := sightsE_iff.1 h5 x hx'.1
  refine ⟨g1, ?_⟩
  unfold idsOf at g2 ⊢
  obtain ⟨y, hy, hyx⟩ := List.mem_map.1 g2
  exact List.mem_map.2 ⟨y, List.mem_filter.2 ⟨hy, by rw [hyx]; exact hx'.2⟩, hyx⟩
theorem unseen_zero {r : Rec} (h : checkE r = 0) (k : Nat) : checkE (unseenR r k) = 0 := by
  obtain ⟨h1, h2, h3, h4, h5⟩ := checkE_parts h
  refine checkE_of h1 h2 ?_ h4 (sightsE_iff.2 fun x hx => sightsE_iff.1 h5 x ?_)
  · show (r.sights.take k ++ r.sights.drop (k + 1)).length ≤ 12
    rw [List.length_append, List.length_take, List.length_drop]; omega
  · have hx' : x ∈ r.sights.take k ++ r.sights.drop (k + 1) := hx
    rcases List.mem_append.1 hx' with hx' | hx'
    · exact List.mem_of_mem_take hx'
    · exact List.mem_of_mem_drop hx'
end Go.Proofs.Ks

set_option maxHeartbeats 8000000
set_option maxRecDepth 10000
namespace Go.Proofs.Ks
open Go Go.Pg Go.Proofs
theorem idsLL_sight : ∀ l : List Sight, idsLL (l.map eSight) = []
  | [] => rfl
  | x :: l => by simp only [zX, idsLL, idsLL_sight l]; rfl
theorem idsLL_strike : ∀ l : List Strike, idsLL (l.map eStrike) = []
  | [] => rfl
  | x :: l => by simp only [zX, idsLL, idsLL_strike l]; rfl
theorem unseen_ok (r : Rec) (k : Nat) (hk : k < r.sights.length) (hl : r.sights.length ≤ 1000000) : OKv cx 100 [.agg (eRec r), ai k] (.agg (eRec (unseenR r k))) := by
  have hk0 : (0 : Int) ≤ (k : Int) := by omega
  have hkl : k ≤ r.sights.length := by omega
  have hk1 : (0 : Int) ≤ (k : Int) + 1 := by omega
  have hk1n : ((k : Int) + 1).toNat = k + 1 := by omega
  have hkI : k + 1 ≤ r.sights.length := by omega
  have hmin : min k r.sights.length = k := Nat.min_eq_left hkl
  have hst : (r.sights.map eSight).take k = (r.sights.take k).map eSight := (List.map_take ..).symm
  have hsd : (r.sights.map eSight).drop (k + 1) = (r.sights.drop (k + 1)).map eSight := (List.map_drop ..).symm
  have heS : (∀ e ∈ r.sights.map eSight, e.length = 3) = True := eq_true fun e he => by obtain ⟨y, _, rfl⟩ := List.mem_map.1 he; rfl
  have hcl := clone119_ok (r.sights.take k) (by rw [List.length_take]; omega)
  have hsl : ((r.sights.take k).map eSight).length = k := by rw [List.length_map, List.length_take]; omega
  have hdl : (r.sights.drop (k + 1)).length = r.sights.length - (k + 1) := List.length_drop ..
  refine OKat.of_bodyM cx_ok (rs := [.cell 4 30]) Try.func100 rfl (by decide +kernel) rfl (by simp [Try.ntmps100]) ?_
  simp only [Try.ntmps100]
  repeat' first
    | ((apply D.callw cx_ok; decide; decide); (iterate 3 (simp (disch := (first | omega | (simp only [vC]; omega))) only [push_cast, simprocAttr, takeM, dropM, zK, zA, zB, zN, zQ, zR, zO, zP, zT, zS, zU, leT, zH, natNe, zI, zG, zJ, isEmpty_map, zV, zW, zC, zZ, yA, zM, hkI, hk0, hkl, hk1, hk1n, hsl, hst, hsd, heS, hdl, hmin, zE] <;> rfl)); (with_reducible exact hcl); (first | exact .inl rfl | (refine .inr ?_; simp (disch := (first | omega | (simp only [vC]; omega))) only [push_cast, simprocAttr, takeM, dropM, zK, zA, zB, zN, zQ, zR, zO, zP, zT, zS, zU, leT, zH, natNe, zI, zG, zJ, isEmpty_map, zV, zW, zC, zZ, yA, zM, hkI, hk0, hkl, hk1, hk1n, hsl, hst, hsd, heS, hdl, hmin, zE] <;> simp)))
    | ((apply W.callw cx_ok; decide); (iterate 3 (simp (disch := (first | omega | (simp only [vC]; omega))) only [push_cast, simprocAttr, takeM, dropM, zK, zA, zB, zN, zQ, zR, zO, zP, zT, zS, zU, leT, zH, natNe, zI, zG, zJ, isEmpty_map, zV, zW, zC, zZ, yA, zM, hkI, hk0, hkl, hk1, hk1n, hsl, hst, hsd, heS, hdl, hmin, zE] <;> rfl)); (with_reducible exact hcl))
    | apply jA | apply jB | apply jC | apply jD | apply jE | apply jF | apply jG | apply jH | apply jI | apply jJ
    | refine AW.draw (id := 2) cx_mixed [4, 10, 12] [5, 6, 7, 8, 9, 11] [3, 2] 0 (by decide +kernel) ?_
    | refine W.draw cx_mixed (by decide +kernel) ?_
    | ((first | (apply jK cx_ok; decide) | (apply jL cx_ok; decide; decide) | apply jM cx_ok | apply jR); (simp (disch := (first | omega | (simp only [vC]; omega))) only [push_cast, simprocAttr, takeM, dropM, zK, zA, zB, zN, zQ, zR, zO, zP, zT, zS, zU, leT, zH, natNe, zI, zG, zJ, isEmpty_map, zV, zW, zC, zZ, yA, zM, hkI, hk0, hkl, hk1, hk1n, hsl, hst, hsd, heS, hdl, hmin, zE] <;> rfl); all_goals try ((with_reducible intro hI); try first | (cases hI; done) | (simp only [INTS, zL] at hI; try first | (exfalso; omega) | (have hT : True := hI; clear hT hI))))
    | ((first | (apply ja cx_ok; decide) | (apply jb cx_ok; decide; decide) | (apply jc cx_ok; decide; decide)); (simp (disch := (first | omega | (simp only [vC]; omega))) only [push_cast, simprocAttr, takeM, dropM, zK, zA, zB, zN, zQ, zR, zO, zP, zT, zS, zU, leT, zH, natNe, zI, zG, zJ, isEmpty_map, zV, zW, zC, zZ, yA, zM, hkI, hk0, hkl, hk1, hk1n, hsl, hst, hsd, heS, hdl, hmin, zE] <;> rfl); try first | exact .inl rfl | exact .inr (by simp))
    | ((apply jY cx_ok; decide; decide); (simp (disch := (first | omega | (simp only [vC]; omega))) only [push_cast, simprocAttr, takeM, dropM, zK, zA, zB, zN, zQ, zR, zO, zP, zT, zS, zU, leT, zH, natNe, zI, zG, zJ, isEmpty_map, zV, zW, zC, zZ, yA, zM, hkI, hk0, hkl, hk1, hk1n, hsl, hst, hsd, heS, hdl, hmin, zE] <;> rfl); first | exact .inl rfl | exact .inr (by simp))
    | (apply jT cx_ok; decide; rfl; rfl; rfl; decide; (iterate 3 (simp (disch := (first | omega | (simp only [vC]; omega))) only [push_cast, simprocAttr, takeM, dropM, zK, zA, zB, zN, zQ, zR, zO, zP, zT, zS, zU, leT, zH, natNe, zI, zG, zJ, isEmpty_map, zV, zW, zC, zZ, yA, zM, hkI, hk0, hkl, hk1, hk1n, hsl, hst, hsd, heS, hdl, hmin, zE] <;> rfl)); (first | (focus (simp; done)) | (intro c hc; obtain ⟨x, _, rfl⟩ := List.mem_map.1 hc; rfl)); ((first | rfl | simp (disch := omega) only [push_cast])); ((try dsimp only); (try simp only [vC]); omega); ((try dsimp only); (try simp only [vC]); omega))
    | (apply jU cx_ok; decide; decide; rfl; rfl; rfl; decide; (iterate 3 (simp (disch := (first | omega | (simp only [vC]; omega))) only [push_cast, simprocAttr, takeM, dropM, zK, zA, zB, zN, zQ, zR, zO, zP, zT, zS, zU, leT, zH, natNe, zI, zG, zJ, isEmpty_map, zV, zW, zC, zZ, yA, zM, hkI, hk0, hkl, hk1, hk1n, hsl, hst, hsd, heS, hdl, hmin, zE] <;> rfl)); (first | (focus (simp; done)) | (intro c hc; obtain ⟨x, _, rfl⟩ := List.mem_map.1 hc; rfl)); ((first | rfl | exact idsLL_sight _ | (simp (disch := omega) only [push_cast]; done))); ((try dsimp only); (try simp only [vC]); omega); ((try dsimp only); (try simp only [vC]); omega); first | exact .inl rfl | exact .inr (by simp))
    | ((first | apply jl | apply jm); (iterate 2 (try (simp (disch := (first | omega | (simp only [vC]; omega))) only [push_cast, simprocAttr, takeM, dropM, zK, zA, zB, zN, zQ, zR, zO, zP, zT, zS, zU, leT, zH, natNe, zI, zG, zJ, isEmpty_map, zV, zW, zC, zZ, yA, zM, hkI, hk0, hkl, hk1, hk1n, hsl, hst, hsd, heS, hdl, hmin, zE] <;> rfl))))

  all_goals (rw [← List.map_append]; rfl)
end Go.Proofs.Ks

namespace Go.Proofs.Ks
open Go Go.Pg Go.Proofs
def setM (ids : List Int) : List (Key × AV) := ids.foldl (fun M i => putM (.int i) (ab true) M) []
theorem findM_putM (x i : Int) (v : AV) : ∀ M : List (Key × AV), (∀ e ∈ M, ∃ j, e.1 = .int j) → findM (.int x) (putM (.int i) v M) = if x = i then some v else findM (.int x) M
  | [], _ => by
    by_cases h : x = i <;> simp [putM, findM, Key.same, h]
  | (kk, u) :: M, hM => by
    obtain ⟨j, hj⟩ := hM (kk, u) (by simp)
    simp only at hj
    subst hj
    have ih := findM_putM x i v M (fun e he => hM e (by simp [he]))
    by_cases hij : i = j
    · subst hij
      by_cases h : x = i <;> simp [putM, findM, Key.same, h]
    · by_cases hxj : x = j
      · subst hxj
        have hne : ¬ x = i := fun e => hij e.symm
        simp [putM, findM, Key.same, hij, hne]
      · simp [putM, findM, Key.same, hij, hxj]
        simpa using ih
theorem putM_int (i : Int) (v : AV) : ∀ M : List (Key × AV), (∀ e ∈ M, ∃ j, e.1 = .int j) → ∀ e ∈ putM (.int i) v M, ∃ j, e.1 = .int j
  | [], _, e, he => by simp [putM] at he; subst he; exact ⟨i, rfl⟩
  | (kk, u) :: M, hM, e, he => by
    unfold putM at he
    split at he
    · rcases List.mem_cons.1 he with rfl | he
      · exact ⟨i, rfl⟩
      · exact hM e (by simp [he])
    · rcases List.mem_cons.1 he with rfl | he
      · exact hM _ (by simp)
      · exact putM_int i v M (fun e he => hM e (by simp [he])) e he
theorem setM_snoc (ids : List Int) (x : Int) : setM (ids ++ [x]) = putM (.int x) (ab true) (setM ids) := by unfold setM; rw [List.foldl_append]; rfl
theorem setM_find (x : Int) (ids : List Int) : findM (.int x) (setM ids) = if ids.contains x = true then some (ab true) else none := by
  have key : ∀ (l : List Int) (M : List (Key × AV)), (∀ e ∈ M, ∃ j, e.1 = .int j) → findM (.int x) (l.foldl (fun M i => putM (.int i) (ab true) M) M) = if l.contains x = true then some (ab true) else findM (.int x) M := by
    intro l
    induction l with
    | nil => intro M h; simp
    | cons i l ih =>
      intro M h
      rw [List.foldl_cons, ih _ (putM_int i _ M h), findM_putM x i _ M h, List.contains_cons]
      by_cases h1 : x = i
      · subst h1; simp
      · simp [h1]
  exact key ids [] (fun e he => by cases he)
theorem setM_look (x : Int) (ids : List Int) : pickM (.v (.bool false)) false (findM (.int x) (setM ids)) = ab (ids.contains x) := by
  rw [setM_find]
  cases ids.contains x <;> rfl
theorem without_ok (r : Rec) (ids : List Int) (hi : ids.length ≤ 1000000) (hst : r.s.stops.length ≤ 1000000) (hsk : r.strikes.length ≤ 1000000) (hsg : r.sights.length ≤ 1000000) : OKv cx 95 [.agg (eRec r), lInt ids] (.agg (eRec (withoutR r ids))) := by
  have hcl := clone114_ok r.s.stops hst
  obtain ⟨PS, hPS⟩ : ∃ f, (fun x : Strike => !ids.contains x.id) = f := ⟨_, rfl⟩
  obtain ⟨PT, hPT⟩ : ∃ f, (fun x : Sight => !ids.contains x.strike) = f := ⟨_, rfl⟩
  obtain ⟨SS, hSS⟩ : ∃ z, r.strikes.filter PS = z := ⟨_, rfl⟩
  obtain ⟨TT, hTT⟩ : ∃ z, r.sights.filter PT = z := ⟨_, rfl⟩
  have hR : withoutR r ids = { s := r.s, strikes := SS, sights := TT } := by unfold withoutR; rw [hPS, hPT, hSS, hTT]
  have hPSe : ∀ x, PS x = !ids.contains x.id := fun x => by rw [← hPS]
  have hPTe : ∀ x, PT x = !ids.contains x.strike := fun x => by rw [← hPT]
  rw [hR]
  clear hR hPS hPT
  have hlook := fun x => setM_look x ids
  refine OKat.of_bodyM cx_ok (rs := [.cell 4 30]) Try.func95 rfl (by decide +kernel) rfl (by simp [Try.ntmps95]) ?_
  simp only [Try.ntmps95]
  obtain ⟨Z1, hZ1⟩ : ∃ z, ([.v (.int .i64 0), .v (.int .i64 0), .v (.int .i64 0), .v (.int .i64 0), .v (.int .i64 0), .v (.int .i64 0), .v (.int .i64 0), .v (.int .i64 0), .v (.int .i64 0), .v (.int .i64 0), .v (.int .i64 0), .v (.slice none 0 0), .v (.slice none 0 0), .v (.slice none 0 0)] : List AV) = z := ⟨_, rfl⟩
  repeat' first
    | apply jA | apply jB | apply jC | apply jD | apply jE | apply jF | apply jG | apply jH | apply jI
    | ((first | (apply jK cx_ok; decide) | apply jM cx_ok | apply jR | apply jS cx_ok); (simp (disch := (first | omega | (simp only [vC]; omega))) only [push_cast, simprocAttr, takeM, dropM, zK, zA, zB, zN, zQ, zR, zO, zP, zT, zS, zU, leT, zH, natNe, zI, zG, zJ, isEmpty_map, zV, zW, zC, zM, hZ1] <;> rfl); all_goals try ((with_reducible intro hI); try first | (cases hI; done) | (simp only [INTS, zL] at hI; try first | (exfalso; omega) | (have hT : True := hI; clear hT hI))))
    | (refine W.makeMap cx_ok (by simp only [push_cast, simprocAttr] <;> rfl) (by decide) ?_)
    | (apply jT cx_ok; decide; rfl; rfl; rfl; decide; (iterate 3 (simp (disch := (first | omega | (simp only [vC]; omega))) only [push_cast, simprocAttr, takeM, dropM, zK, zA, zB, zN, zQ, zR, zO, zP, zT, zS, zU, leT, zH, natNe, zI, zG, zJ, isEmpty_map, zV, zW, zC, zM, hZ1] <;> rfl)); (first | (focus (simp; done)) | (intro c hc; obtain ⟨x, _, rfl⟩ := List.mem_map.1 hc; rfl)); ((first | rfl | simp (disch := omega) only [push_cast])); ((try dsimp only); (try simp only [vC]); omega); ((try dsimp only); (try simp only [vC]); omega))
    | ((first | apply jl | apply jm); (iterate 2 (try (simp (disch := (first | omega | (simp only [vC]; omega))) only [push_cast, simprocAttr, takeM, dropM, zK, zA, zB, zN, zQ, zR, zO, zP, zT, zS, zU, leT, zH, natNe, zI, zG, zJ, isEmpty_map, zV, zW, zC, zM, hZ1] <;> rfl))))

  refine AW.loop (fun n s => ∃ (k : Nat) (rest : List Int), n = rest.length ∧ (ids.drop k = rest) ∧ (k ≤ ids.length) ∧ 3 ≤ s.nx ∧ s.tm 2 = .ptr 0 0 0 1 ∧ s.tm 4 = .ptr 1 0 0 1 ∧ s.tm 5 = .map 2 ∧ s.tm 14 = lInt ids ∧ s.tm 15 = ai ids.length ∧ s.tm 16 = ai k ∧ Pg.rowAt s.H 0 = some { k := 14, es := [eRec r], ty := 30 } ∧ Pg.rowAt s.H 1 = some { k := 14, es := [Z1], ty := 30 } ∧ s.H 2 = some (.mp (.map .int) 0 (setM (ids.take k)))) (ids.length) ⟨0, ids, rfl, rfl, (Nat.zero_le _), ?_, ?_, ?_, ?_, ?_, ?_, ?_, ?_, ?_, ?_⟩ ?_
  iterate 10 (first | (simp (disch := omega) only [push_cast, simprocAttr, natNe, zI, zG, zJ, isEmpty_map, zV, zW, zC, zM, hZ1, List.take_zero, setM, List.foldl_nil] <;> first | rfl | omega) | omega)
  rintro n0 s0 ⟨k0, rest0, hn0, hp00, hp10, hnl0, hS0⟩
  rcases rest0 with _ | ⟨x, rest0⟩
  rotate_left
  · obtain ⟨hk, hg, hd', hl', hm', hx⟩ := drop_cons hp00 eInt []
    have hsn : setM (ids.take (k0 + 1)) = putM (.int x) (ab true) (setM (ids.take k0)) := by rw [take_snoc hp00, setM_snoc]
    repeat' first
      | apply jA | apply jB | apply jC | apply jD | apply jE | apply jF | apply jG | apply jH | apply jI
      | ((first | (apply jK cx_ok; decide) | apply jM cx_ok | apply jR | apply jS cx_ok); (simp (disch := (first | omega | (simp only [vC]; omega))) only [push_cast, simprocAttr, takeM, dropM, zK, zA, zB, zN, zQ, zR, zO, zP, zT, zS, zU, leT, zH, hS0, natNe, zI, zG, zJ, isEmpty_map, zV, zW, zC, zM, hk, hg, hx] <;> rfl); all_goals try ((with_reducible intro hI); try first | (cases hI; done) | (simp only [INTS, zL] at hI; try first | (exfalso; omega) | (have hT : True := hI; clear hT hI))))
      | (refine W.makeMap cx_ok (by simp only [push_cast, simprocAttr] <;> rfl) (by decide) ?_)
      | (apply jT cx_ok; decide; rfl; rfl; rfl; decide; (iterate 3 (simp (disch := (first | omega | (simp only [vC]; omega))) only [push_cast, simprocAttr, takeM, dropM, zK, zA, zB, zN, zQ, zR, zO, zP, zT, zS, zU, leT, zH, hS0, natNe, zI, zG, zJ, isEmpty_map, zV, zW, zC, zM, hk, hg, hx] <;> rfl)); (first | (focus (simp; done)) | (intro c hc; obtain ⟨x, _, rfl⟩ := List.mem_map.1 hc; rfl)); ((first | rfl | simp (disch := omega) only [push_cast])); ((try dsimp only); (try simp only [vC]); omega); ((try dsimp only); (try simp only [vC]); omega))
      | ((first | apply jl | apply jm); (iterate 2 (try (simp (disch := (first | omega | (simp only [vC]; omega))) only [push_cast, simprocAttr, takeM, dropM, zK, zA, zB, zN, zQ, zR, zO, zP, zT, zS, zU, leT, zH, hS0, natNe, zI, zG, zJ, isEmpty_map, zV, zW, zC, zM, hk, hg, hx] <;> rfl))))

    all_goals (refine ⟨rest0.length, ?_, k0 + 1, rest0, rfl, hd', (by omega), ?_, ?_, ?_, ?_, ?_, ?_, ?_, ?_, ?_, ?_⟩; ((simp only [zD] at *; omega)); all_goals first | (simp (disch := omega) only [push_cast, simprocAttr, hS0, natNe, zI, zG, zJ, isEmpty_map, zV, zW, zC, zM, hk, hg, hx, hsn] <;> first | rfl | omega) | omega)
  have hk := drop_nil hp00
  have hkl : ids.take k0 = ids := List.take_of_length_le (List.drop_eq_nil_iff.1 hp00)
  rw [hkl] at hS0
  repeat' first
    | ((apply D.callw cx_ok; decide; decide); (iterate 3 (simp (disch := (first | omega | (simp only [vC]; omega))) only [push_cast, simprocAttr, takeM, dropM, zK, zA, zB, zN, zQ, zR, zO, zP, zT, zS, zU, leT, zH, hS0, natNe, zI, zG, zJ, isEmpty_map, zV, zW, zC, zM, hk] <;> rfl)); (with_reducible exact hcl); (first | exact .inl rfl | (refine .inr ?_; simp (disch := (first | omega | (simp only [vC]; omega))) only [push_cast, simprocAttr, takeM, dropM, zK, zA, zB, zN, zQ, zR, zO, zP, zT, zS, zU, leT, zH, hS0, natNe, zI, zG, zJ, isEmpty_map, zV, zW, zC, zM, hk] <;> simp)))
    | ((apply W.callw cx_ok; decide); (iterate 3 (simp (disch := (first | omega | (simp only [vC]; omega))) only [push_cast, simprocAttr, takeM, dropM, zK, zA, zB, zN, zQ, zR, zO, zP, zT, zS, zU, leT, zH, hS0, natNe, zI, zG, zJ, isEmpty_map, zV, zW, zC, zM, hk] <;> rfl)); (with_reducible exact hcl))
    | apply jA | apply jB | apply jC | apply jD | apply jE | apply jF | apply jG | apply jH | apply jI
    | ((first | (apply jK cx_ok; decide) | apply jM cx_ok | apply jR | apply jS cx_ok); (simp (disch := (first | omega | (simp only [vC]; omega))) only [push_cast, simprocAttr, takeM, dropM, zK, zA, zB, zN, zQ, zR, zO, zP, zT, zS, zU, leT, zH, hS0, natNe, zI, zG, zJ, isEmpty_map, zV, zW, zC, zM, hk] <;> rfl); all_goals try ((with_reducible intro hI); try first | (cases hI; done) | (simp only [INTS, zL] at hI; try first | (exfalso; omega) | (have hT : True := hI; clear hT hI))))
    | (refine W.makeMap cx_ok (by simp only [push_cast, simprocAttr] <;> rfl) (by decide) ?_)
    | (apply jT cx_ok; decide; rfl; rfl; rfl; decide; (iterate 3 (simp (disch := (first | omega | (simp only [vC]; omega))) only [push_cast, simprocAttr, takeM, dropM, zK, zA, zB, zN, zQ, zR, zO, zP, zT, zS, zU, leT, zH, hS0, natNe, zI, zG, zJ, isEmpty_map, zV, zW, zC, zM, hk] <;> rfl)); (first | (focus (simp; done)) | (intro c hc; obtain ⟨x, _, rfl⟩ := List.mem_map.1 hc; rfl)); ((first | rfl | simp (disch := omega) only [push_cast])); ((try dsimp only); (try simp only [vC]); omega); ((try dsimp only); (try simp only [vC]); omega))
    | ((first | apply jl | apply jm); (iterate 2 (try (simp (disch := (first | omega | (simp only [vC]; omega))) only [push_cast, simprocAttr, takeM, dropM, zK, zA, zB, zN, zQ, zR, zO, zP, zT, zS, zU, leT, zH, hS0, natNe, zI, zG, zJ, isEmpty_map, zV, zW, zC, zM, hk] <;> rfl))))

  refine AW.adoptCell s0.nx 0 12 3 60 (r := { k := 14, es := [[ai r.s.id, ai r.s.inn.lo, ai r.s.inn.hi, ai r.s.out.lo, ai r.s.out.hi, ai r.s.zero.lo, ai r.s.zero.hi, ai r.s.fin.lo, ai r.s.fin.hi, ai r.s.rate.lo, ai r.s.rate.hi, .ref (s0.nx + 1) 0 r.s.stops.length, .v (.slice none 0 0), .v (.slice none 0 0)]], ty := 30 }) (by simp (disch := omega) only [push_cast, simprocAttr, hS0, natNe, zI, zG, zJ, isEmpty_map, zV, zW, zC, zM, hk] <;> rfl) rfl ?_
  refine AW.adoptCell s0.nx 0 13 3 53 (r := { k := 14, es := [[ai r.s.id, ai r.s.inn.lo, ai r.s.inn.hi, ai r.s.out.lo, ai r.s.out.hi, ai r.s.zero.lo, ai r.s.zero.hi, ai r.s.fin.lo, ai r.s.fin.hi, ai r.s.rate.lo, ai r.s.rate.hi, .ref (s0.nx + 1) 0 r.s.stops.length, .ref (s0.nx + 2) 0 0, .v (.slice none 0 0)]], ty := 30 }) (by simp (disch := omega) only [push_cast, simprocAttr, hS0, natNe, zI, zG, zJ, isEmpty_map, zV, zW, zC, zM, hk] <;> rfl) rfl ?_
  refine AW.loop (fun n s => ∃ (k : Nat) (O : List Strike) (rest : List Strike), n = rest.length ∧ (r.strikes.drop k = rest) ∧ (O ++ rest.filter PS = SS) ∧ (O.length ≤ k) ∧ (k ≤ r.strikes.length) ∧ s0.nx + 4 ≤ s.nx ∧ s.tm 2 = .ptr 0 0 0 1 ∧ s.tm 4 = .ptr 1 0 0 1 ∧ s.tm 5 = .map 2 ∧ s.tm 8 = .ptr s0.nx 0 0 1 ∧ s.tm 33 = lStrike r.strikes ∧ s.tm 34 = ai r.strikes.length ∧ s.tm 35 = ai k ∧ Pg.rowAt s.H 0 = some { k := 14, es := [eRec r], ty := 30 } ∧ Pg.rowAt s.H 1 = some { k := 14, es := [Z1], ty := 30 } ∧ s.H 2 = some (.mp (.map .int) 0 (setM ids)) ∧ Pg.rowAt s.H s0.nx = some { k := 14, es := [[ai r.s.id, ai r.s.inn.lo, ai r.s.inn.hi, ai r.s.out.lo, ai r.s.out.hi, ai r.s.zero.lo, ai r.s.zero.hi, ai r.s.fin.lo, ai r.s.fin.hi, ai r.s.rate.lo, ai r.s.rate.hi, .ref (s0.nx + 1) 0 r.s.stops.length, .ref (s0.nx + 2) 0 O.length, .ref (s0.nx + 3) 0 ([] : List Sight).length]], ty := 30 } ∧ Pg.rowAt s.H (s0.nx + 1) = some { k := 3, es := r.s.stops.map eStop, ty := 68, lo := if r.s.stops.isEmpty = true then 0 else r.s.stops.length } ∧ Pg.rowAt s.H (s0.nx + 2) = some { k := 3, es := O.map eStrike, ty := 60, lo := O.length } ∧ Pg.rowAt s.H (s0.nx + 3) = some { k := 3, es := ([] : List Sight).map eSight, ty := 53, lo := 0 }) (r.strikes.length) ⟨0, [], r.strikes, rfl, rfl, (by rw [hSS]; rfl), (Nat.zero_le _), (Nat.zero_le _), ?_, ?_, ?_, ?_, ?_, ?_, ?_, ?_, ?_, ?_, ?_, ?_, ?_, ?_, ?_⟩ ?_
  iterate 15 (first | (simp (disch := omega) only [push_cast, simprocAttr, hS0, natNe, zI, zG, zJ, isEmpty_map, zV, zW, zC, zM, hk] <;> first | rfl | omega) | omega)
  rintro n2 s2 ⟨k2, O2, rest2, hn2, hp02, hp12, hp22, hp32, hnl2, hS2⟩
  rcases rest2 with _ | ⟨x, rest2⟩
  rotate_left
  · obtain ⟨hk2, hg2, hd2, hl2, hm2, hx2⟩ := drop_cons hp02 eStrike []
    rw [List.filter_cons, hPSe] at hp12
    cases hq : ids.contains x.id with
    | true =>
      rw [hq, if_neg (by decide)] at hp12
      repeat' first
        | apply jA | apply jB | apply jC | apply jD | apply jE | apply jF | apply jG | apply jH | apply jI
        | ((first | (apply jK cx_ok; decide) | apply jM cx_ok | apply jR | apply jS cx_ok); (simp (disch := (first | omega | (simp only [vC]; omega))) only [push_cast, simprocAttr, takeM, dropM, zK, zA, zB, zN, zQ, zR, zO, zP, zT, zS, zU, leT, zH, hS2, natNe, zI, zG, zJ, isEmpty_map, zV, zW, zC, zM, hk2, hg2, hx2, hlook, hq] <;> rfl); all_goals try ((with_reducible intro hI); try first | (cases hI; done) | (simp only [INTS, zL] at hI; try first | (exfalso; omega) | (have hT : True := hI; clear hT hI))))
        | (refine W.makeMap cx_ok (by simp only [push_cast, simprocAttr] <;> rfl) (by decide) ?_)
        | (apply jT cx_ok; decide; rfl; rfl; rfl; decide; (iterate 3 (simp (disch := (first | omega | (simp only [vC]; omega))) only [push_cast, simprocAttr, takeM, dropM, zK, zA, zB, zN, zQ, zR, zO, zP, zT, zS, zU, leT, zH, hS2, natNe, zI, zG, zJ, isEmpty_map, zV, zW, zC, zM, hk2, hg2, hx2, hlook, hq] <;> rfl)); (first | (focus (simp; done)) | (intro c hc; obtain ⟨x, _, rfl⟩ := List.mem_map.1 hc; rfl)); ((first | rfl | simp (disch := omega) only [push_cast])); ((try dsimp only); (try simp only [vC]); omega); ((try dsimp only); (try simp only [vC]); omega))
        | ((first | apply jl | apply jm); (iterate 2 (try (simp (disch := (first | omega | (simp only [vC]; omega))) only [push_cast, simprocAttr, takeM, dropM, zK, zA, zB, zN, zQ, zR, zO, zP, zT, zS, zU, leT, zH, hS2, natNe, zI, zG, zJ, isEmpty_map, zV, zW, zC, zM, hk2, hg2, hx2, hlook, hq] <;> rfl))))

      all_goals (refine ⟨rest2.length, ?_, k2 + 1, O2, rest2, rfl, hd2, hp12, (by omega), (by omega), ?_, ?_, ?_, ?_, ?_, ?_, ?_, ?_, ?_, ?_, ?_, ?_, ?_, ?_, ?_⟩; ((simp only [zD] at *; omega)); all_goals first | (simp (disch := omega) only [push_cast, simprocAttr, hS2, natNe, zI, zG, zJ, isEmpty_map, zV, zW, zC, zM, hk2, hg2, hx2, hlook, hq] <;> first | rfl | omega) | omega)
    | false =>
      rw [hq, if_pos (by decide)] at hp12
      repeat' first
        | apply jA | apply jB | apply jC | apply jD | apply jE | apply jF | apply jG | apply jH | apply jI
        | ((first | (apply jK cx_ok; decide) | apply jM cx_ok | apply jR | apply jS cx_ok); (simp (disch := (first | omega | (simp only [vC]; omega))) only [push_cast, simprocAttr, takeM, dropM, zK, zA, zB, zN, zQ, zR, zO, zP, zT, zS, zU, leT, zH, hS2, natNe, zI, zG, zJ, isEmpty_map, zV, zW, zC, zM, zY, zX, zE, zD, Nat.zero_add, hk2, hg2, hx2, hlook, hq] <;> rfl); all_goals try ((with_reducible intro hI); try first | (cases hI; done) | (simp only [INTS, zL] at hI; try first | (exfalso; omega) | (have hT : True := hI; clear hT hI))))
        | (refine W.makeMap cx_ok (by simp only [push_cast, simprocAttr] <;> rfl) (by decide) ?_)
        | (apply jT cx_ok; decide; rfl; rfl; rfl; decide; (iterate 3 (simp (disch := (first | omega | (simp only [vC]; omega))) only [push_cast, simprocAttr, takeM, dropM, zK, zA, zB, zN, zQ, zR, zO, zP, zT, zS, zU, leT, zH, hS2, natNe, zI, zG, zJ, isEmpty_map, zV, zW, zC, zM, zY, zX, zE, zD, Nat.zero_add, hk2, hg2, hx2, hlook, hq] <;> rfl)); (first | (focus (simp; done)) | (intro c hc; obtain ⟨x, _, rfl⟩ := List.mem_map.1 hc; rfl)); ((first | rfl | simp (disch := omega) only [push_cast])); ((try dsimp only); (try simp only [vC]); omega); ((try dsimp only); (try simp only [vC]); omega))
        | ((first | apply jl | apply jm); (iterate 2 (try (simp (disch := (first | omega | (simp only [vC]; omega))) only [push_cast, simprocAttr, takeM, dropM, zK, zA, zB, zN, zQ, zR, zO, zP, zT, zS, zU, leT, zH, hS2, natNe, zI, zG, zJ, isEmpty_map, zV, zW, zC, zM, zY, zX, zE, zD, Nat.zero_add, hk2, hg2, hx2, hlook, hq] <;> rfl))))

      all_goals (refine ⟨rest2.length, ?_, k2 + 1, (O2 ++ [x]), rest2, rfl, hd2, (by rw [List.append_assoc]; exact hp12), (by rw [List.length_append, List.length_singleton]; omega), (by omega), ?_, ?_, ?_, ?_, ?_, ?_, ?_, ?_, ?_, ?_, ?_, ?_, ?_, ?_, ?_⟩; ((simp only [zD] at *; omega)); all_goals first | (simp (disch := omega) only [push_cast, simprocAttr, hS2, natNe, zI, zG, zJ, isEmpty_map, zV, zW, zC, zM, zY, zX, zE, zD, Nat.zero_add, hk2, hg2, hx2, hlook, hq] <;> first | rfl | omega) | omega)
  have hk2 := drop_nil hp02
  simp only [List.filter_nil, zZ] at hp12
  rw [hp12] at hS2
  repeat' first
    | apply jA | apply jB | apply jC | apply jD | apply jE | apply jF | apply jG | apply jH | apply jI
    | ((first | (apply jK cx_ok; decide) | apply jM cx_ok | apply jR | apply jS cx_ok); (simp (disch := (first | omega | (simp only [vC]; omega))) only [push_cast, simprocAttr, takeM, dropM, zK, zA, zB, zN, zQ, zR, zO, zP, zT, zS, zU, leT, zH, hS2, natNe, zI, zG, zJ, isEmpty_map, zV, zW, zC, zM, hk2] <;> rfl); all_goals try ((with_reducible intro hI); try first | (cases hI; done) | (simp only [INTS, zL] at hI; try first | (exfalso; omega) | (have hT : True := hI; clear hT hI))))
    | (refine W.makeMap cx_ok (by simp only [push_cast, simprocAttr] <;> rfl) (by decide) ?_)
    | (apply jT cx_ok; decide; rfl; rfl; rfl; decide; (iterate 3 (simp (disch := (first | omega | (simp only [vC]; omega))) only [push_cast, simprocAttr, takeM, dropM, zK, zA, zB, zN, zQ, zR, zO, zP, zT, zS, zU, leT, zH, hS2, natNe, zI, zG, zJ, isEmpty_map, zV, zW, zC, zM, hk2] <;> rfl)); (first | (focus (simp; done)) | (intro c hc; obtain ⟨x, _, rfl⟩ := List.mem_map.1 hc; rfl)); ((first | rfl | simp (disch := omega) only [push_cast])); ((try dsimp only); (try simp only [vC]); omega); ((try dsimp only); (try simp only [vC]); omega))
    | ((first | apply jl | apply jm); (iterate 2 (try (simp (disch := (first | omega | (simp only [vC]; omega))) only [push_cast, simprocAttr, takeM, dropM, zK, zA, zB, zN, zQ, zR, zO, zP, zT, zS, zU, leT, zH, hS2, natNe, zI, zG, zJ, isEmpty_map, zV, zW, zC, zM, hk2] <;> rfl))))

  refine AW.loop (fun n s => ∃ (k : Nat) (O : List Sight) (rest : List Sight), n = rest.length ∧ (r.sights.drop k = rest) ∧ (O ++ rest.filter PT = TT) ∧ (O.length ≤ k) ∧ (k ≤ r.sights.length) ∧ s0.nx + 4 ≤ s.nx ∧ s.tm 2 = .ptr 0 0 0 1 ∧ s.tm 4 = .ptr 1 0 0 1 ∧ s.tm 5 = .map 2 ∧ s.tm 8 = .ptr s0.nx 0 0 1 ∧ s.tm 52 = lSight r.sights ∧ s.tm 53 = ai r.sights.length ∧ s.tm 54 = ai k ∧ Pg.rowAt s.H 0 = some { k := 14, es := [eRec r], ty := 30 } ∧ Pg.rowAt s.H 1 = some { k := 14, es := [Z1], ty := 30 } ∧ s.H 2 = some (.mp (.map .int) 0 (setM ids)) ∧ Pg.rowAt s.H s0.nx = some { k := 14, es := [[ai r.s.id, ai r.s.inn.lo, ai r.s.inn.hi, ai r.s.out.lo, ai r.s.out.hi, ai r.s.zero.lo, ai r.s.zero.hi, ai r.s.fin.lo, ai r.s.fin.hi, ai r.s.rate.lo, ai r.s.rate.hi, .ref (s0.nx + 1) 0 r.s.stops.length, .ref (s0.nx + 2) 0 SS.length, .ref (s0.nx + 3) 0 O.length]], ty := 30 } ∧ Pg.rowAt s.H (s0.nx + 1) = some { k := 3, es := r.s.stops.map eStop, ty := 68, lo := if r.s.stops.isEmpty = true then 0 else r.s.stops.length } ∧ Pg.rowAt s.H (s0.nx + 2) = some { k := 3, es := SS.map eStrike, ty := 60, lo := SS.length } ∧ Pg.rowAt s.H (s0.nx + 3) = some { k := 3, es := O.map eSight, ty := 53, lo := O.length }) (r.sights.length) ⟨0, [], r.sights, rfl, rfl, (by rw [hTT]; rfl), (Nat.zero_le _), (Nat.zero_le _), ?_, ?_, ?_, ?_, ?_, ?_, ?_, ?_, ?_, ?_, ?_, ?_, ?_, ?_, ?_⟩ ?_
  iterate 15 (first | (simp (disch := omega) only [push_cast, simprocAttr, hS2, natNe, zI, zG, zJ, isEmpty_map, zV, zW, zC, zM, hk2] <;> first | rfl | omega) | omega)
  rintro n4 s4 ⟨k4, O4, rest4, hn4, hp04, hp14, hp24, hp34, hnl4, hS4⟩
  rcases rest4 with _ | ⟨x, rest4⟩
  rotate_left
  · obtain ⟨hk4, hg4, hd4, hl4, hm4, hx4⟩ := drop_cons hp04 eSight []
    rw [List.filter_cons, hPTe] at hp14
    cases hq : ids.contains x.strike with
    | true =>
      rw [hq, if_neg (by decide)] at hp14
      repeat' first
        | apply jA | apply jB | apply jC | apply jD | apply jE | apply jF | apply jG | apply jH | apply jI
        | ((first | (apply jK cx_ok; decide) | apply jM cx_ok | apply jR | apply jS cx_ok); (simp (disch := (first | omega | (simp only [vC]; omega))) only [push_cast, simprocAttr, takeM, dropM, zK, zA, zB, zN, zQ, zR, zO, zP, zT, zS, zU, leT, zH, hS4, natNe, zI, zG, zJ, isEmpty_map, zV, zW, zC, zM, hk4, hg4, hx4, hlook, hq] <;> rfl); all_goals try ((with_reducible intro hI); try first | (cases hI; done) | (simp only [INTS, zL] at hI; try first | (exfalso; omega) | (have hT : True := hI; clear hT hI))))
        | (refine W.makeMap cx_ok (by simp only [push_cast, simprocAttr] <;> rfl) (by decide) ?_)
        | (apply jT cx_ok; decide; rfl; rfl; rfl; decide; (iterate 3 (simp (disch := (first | omega | (simp only [vC]; omega))) only [push_cast, simprocAttr, takeM, dropM, zK, zA, zB, zN, zQ, zR, zO, zP, zT, zS, zU, leT, zH, hS4, natNe, zI, zG, zJ, isEmpty_map, zV, zW, zC, zM, hk4, hg4, hx4, hlook, hq] <;> rfl)); (first | (focus (simp; done)) | (intro c hc; obtain ⟨x, _, rfl⟩ := List.mem_map.1 hc; rfl)); ((first | rfl | simp (disch := omega) only [push_cast])); ((try dsimp only); (try simp only [vC]); omega); ((try dsimp only); (try simp only [vC]); omega))
        | ((first | apply jl | apply jm); (iterate 2 (try (simp (disch := (first | omega | (simp only [vC]; omega))) only [push_cast, simprocAttr, takeM, dropM, zK, zA, zB, zN, zQ, zR, zO, zP, zT, zS, zU, leT, zH, hS4, natNe, zI, zG, zJ, isEmpty_map, zV, zW, zC, zM, hk4, hg4, hx4, hlook, hq] <;> rfl))))

      all_goals (refine ⟨rest4.length, ?_, k4 + 1, O4, rest4, rfl, hd4, hp14, (by omega), (by omega), ?_, ?_, ?_, ?_, ?_, ?_, ?_, ?_, ?_, ?_, ?_, ?_, ?_, ?_, ?_⟩; ((simp only [zD] at *; omega)); all_goals first | (simp (disch := omega) only [push_cast, simprocAttr, hS4, natNe, zI, zG, zJ, isEmpty_map, zV, zW, zC, zM, hk4, hg4, hx4, hlook, hq] <;> first | rfl | omega) | omega)
    | false =>
      rw [hq, if_pos (by decide)] at hp14
      repeat' first
        | apply jA | apply jB | apply jC | apply jD | apply jE | apply jF | apply jG | apply jH | apply jI
        | ((first | (apply jK cx_ok; decide) | apply jM cx_ok | apply jR | apply jS cx_ok); (simp (disch := (first | omega | (simp only [vC]; omega))) only [push_cast, simprocAttr, takeM, dropM, zK, zA, zB, zN, zQ, zR, zO, zP, zT, zS, zU, leT, zH, hS4, natNe, zI, zG, zJ, isEmpty_map, zV, zW, zC, zM, zY, zX, zE, zD, Nat.zero_add, hk4, hg4, hx4, hlook, hq] <;> rfl); all_goals try ((with_reducible intro hI); try first | (cases hI; done) | (simp only [INTS, zL] at hI; try first | (exfalso; omega) | (have hT : True := hI; clear hT hI))))
        | (refine W.makeMap cx_ok (by simp only [push_cast, simprocAttr] <;> rfl) (by decide) ?_)
        | (apply jT cx_ok; decide; rfl; rfl; rfl; decide; (iterate 3 (simp (disch := (first | omega | (simp only [vC]; omega))) only [push_cast, simprocAttr, takeM, dropM, zK, zA, zB, zN, zQ, zR, zO, zP, zT, zS, zU, leT, zH, hS4, natNe, zI, zG, zJ, isEmpty_map, zV, zW, zC, zM, zY, zX, zE, zD, Nat.zero_add, hk4, hg4, hx4, hlook, hq] <;> rfl)); (first | (focus (simp; done)) | (intro c hc; obtain ⟨x, _, rfl⟩ := List.mem_map.1 hc; rfl)); ((first | rfl | simp (disch := omega) only [push_cast])); ((try dsimp only); (try simp only [vC]); omega); ((try dsimp only); (try simp only [vC]); omega))
        | ((first | apply jl | apply jm); (iterate 2 (try (simp (disch := (first | omega | (simp only [vC]; omega))) only [push_cast, simprocAttr, takeM, dropM, zK, zA, zB, zN, zQ, zR, zO, zP, zT, zS, zU, leT, zH, hS4, natNe, zI, zG, zJ, isEmpty_map, zV, zW, zC, zM, zY, zX, zE, zD, Nat.zero_add, hk4, hg4, hx4, hlook, hq] <;> rfl))))

      all_goals (refine ⟨rest4.length, ?_, k4 + 1, (O4 ++ [x]), rest4, rfl, hd4, (by rw [List.append_assoc]; exact hp14), (by rw [List.length_append, List.length_singleton]; omega), (by omega), ?_, ?_, ?_, ?_, ?_, ?_, ?_, ?_, ?_, ?_, ?_, ?_, ?_, ?_, ?_⟩; ((simp only [zD] at *; omega)); all_goals first | (simp (disch := omega) only [push_cast, simprocAttr, hS4, natNe, zI, zG, zJ, isEmpty_map, zV, zW, zC, zM, zY, zX, zE, zD, Nat.zero_add, hk4, hg4, hx4, hlook, hq] <;> first | rfl | omega) | omega)
  have hk4 := drop_nil hp04
  simp only [List.filter_nil, zZ] at hp14
  rw [hp14] at hS4
  have hif : (if r.s.stops.isEmpty = true then 0 else r.s.stops.length) ≤ r.s.stops.length := by split <;> omega
  obtain ⟨LO, hLO⟩ : ∃ z, (if r.s.stops.isEmpty = true then 0 else r.s.stops.length) = z := ⟨_, rfl⟩
  rw [hLO] at hS4 hif
  repeat' first
    | apply jA | apply jB | apply jC | apply jD | apply jE | apply jF | apply jG | apply jH | apply jI
    | ((first | (apply jK cx_ok; decide) | apply jM cx_ok | apply jR | apply jS cx_ok); (simp (disch := (first | omega | (simp only [vC]; omega))) only [push_cast, simprocAttr, takeM, dropM, zK, zA, zB, zN, zQ, zR, zO, zP, zT, zS, zU, leT, zH, hS4, natNe, zI, zG, zJ, isEmpty_map, zV, zW, zC, zM, hk4, hif] <;> rfl); all_goals try ((with_reducible intro hI); try first | (cases hI; done) | (simp only [INTS, zL] at hI; try first | (exfalso; omega) | (have hT : True := hI; clear hT hI))))
    | (refine W.makeMap cx_ok (by simp only [push_cast, simprocAttr] <;> rfl) (by decide) ?_)
    | (apply jT cx_ok; decide; rfl; rfl; rfl; decide; (iterate 3 (simp (disch := (first | omega | (simp only [vC]; omega))) only [push_cast, simprocAttr, takeM, dropM, zK, zA, zB, zN, zQ, zR, zO, zP, zT, zS, zU, leT, zH, hS4, natNe, zI, zG, zJ, isEmpty_map, zV, zW, zC, zM, hk4, hif] <;> rfl)); (first | (focus (simp; done)) | (intro c hc; obtain ⟨x, _, rfl⟩ := List.mem_map.1 hc; rfl)); ((first | rfl | simp (disch := omega) only [push_cast])); ((try dsimp only); (try simp only [vC]); omega); ((try dsimp only); (try simp only [vC]); omega))
    | ((first | apply jl | apply jm); (iterate 2 (try (simp (disch := (first | omega | (simp only [vC]; omega))) only [push_cast, simprocAttr, takeM, dropM, zK, zA, zB, zN, zQ, zR, zO, zP, zT, zS, zU, leT, zH, hS4, natNe, zI, zG, zJ, isEmpty_map, zV, zW, zC, zM, hk4, hif] <;> rfl))))

  all_goals (show _ = _; rfl)
end Go.Proofs.Ks
