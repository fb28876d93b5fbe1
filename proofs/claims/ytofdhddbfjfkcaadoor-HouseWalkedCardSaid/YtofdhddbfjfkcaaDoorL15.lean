/-
  Contracts of functions, proved by going through their code. No conditions.
-/
import Derived.Test.YtofdhddbfjfkcaaDoorHe
import Derived.Test.YtofdhddbfjfkcaaDoorHf
import Derived.Test.YtofdhddbfjfkcaaDoorVi
import Derived.Test.YtofdhddbfjfkcaaDoorVj
set_option maxHeartbeats 8000000
set_option linter.unusedSimpArgs false
set_option linter.unusedVariables false
set_option maxRecDepth 10000
namespace Go.Proofs.Hs
open Go Go.Pg Go.Proofs

theorem AW.post {K I : St → Prop} {C : Cx} {N id : Nat} {c : Code} {Q : Exit → St → Prop} {s : St} (hK : ∀ s, I s → K s) (h : AW C N c (blockQ id (thenQ I Q)) s) : AW C N c (blockQ id (thenQ K Q)) s := by
  refine AW.mono h fun e s' hq => ?_
  cases e with
  | normal => exact hK _ hq
  | exit id' =>
    simp only [blockQ] at hq ⊢
    split
    · rename_i he; rw [if_pos he] at hq; exact hK _ hq
    · rename_i he; rw [if_neg he] at hq; exact hq
  | ret => exact hq
  | goto l => exact hq
  | panic c => exact hq
  | outgrown => exact hq
theorem gatesL_way' : ∀ (l : List Way) (i j : Nat) (w : Way), l[j]? = some w → (⟨((i + j : Nat) : Int), false, w.a, w.b, w.secs, w.door⟩ : Gate) ∈ gatesL i l ∧ (0 < w.back → (⟨((i + j : Nat) : Int), true, w.b, w.a, w.back, w.door⟩ : Gate) ∈ gatesL i l)
  | [], _, _, _, h => by simp at h
  | x :: l, i, 0, w, h => by
    simp only [List.getElem?_cons_zero, Option.some.injEq] at h
    subst h
    unfold gatesL
    exact ⟨by simp, fun hb => by simp [hb]⟩
  | x :: l, i, j + 1, w, h => by
    obtain ⟨h1, h2⟩ := gatesL_way' l (i + 1) j w (by simpa using h)
    rw [show i + 1 + j = i + (j + 1) by omega] at h1 h2
    unfold gatesL
    exact ⟨List.mem_cons_of_mem _ (List.mem_append_right _ h1), fun hb => List.mem_cons_of_mem _ (List.mem_append_right _ (h2 hb))⟩
theorem walked_step {h : House} (hc : (Check h).1 = 0) {F t p now s0 : Int} {L : List Step} {g : Gate} (hg : g ∈ gates h) (hf : g.from' = p) (hw : walkR h L F t = (p, now, 0)) (h0 : 0 ≤ now) (hs : now ≤ s0) (hm : s0 ≤ 1073741823) (hsec : h.nextAt g s0 + g.secs ≤ 1073741823) :
    walkR h (L ++ [⟨g.way, g.back, h.nextAt g s0⟩]) F t = (g.to, h.nextAt g s0 + g.secs, 0) := by
  have hv := Check_V hc
  have hgo := gate_ok hv hg
  have hn := nextAt_ge hv hgo (t := s0) (by omega) (by omega)
  have hse := hgo.secs
  rw [← hf] at hw
  exact walkR_snoc L hw (stepR_gate hc hg h0 (by omega) hsec fun hd => nextAt_open hv hgo (by omega) (by omega) (by omega) hd)
theorem walked_post {h : House} (hc : (Check h).1 = 0) {F t p now : Int} {L : List Step} (hF : 0 ≤ F ∧ F < (h.rooms.length : Int)) (ht : 0 ≤ t ∧ t ≤ 1073741823) (hw : walkR h L F t = (p, now, 0)) (hl : L.length ≤ 12) :
    ∃ X Y S, Walk h F t L = (p, now, 0) ∧ earliestH h F t = (X, 0) ∧ latestH h p now = (Y, 0) ∧ canH h F t p now = (true, 0) ∧ routeH h F t p = (S, 0) ∧ Walk h F t S = (p, X.getD p.toNat 0, 0) ∧ S.length ≤ 60 ∧
      X.length = h.rooms.length ∧ Y.length = h.rooms.length ∧ X.getD p.toNat 0 ≤ now ∧ t ≤ Y.getD F.toNat 0 := by
  have hv := Check_V hc
  have hrl := hv.rooms
  obtain ⟨hp, w1, w2, _⟩ := walk_low hv L hF ht hw
  have hle := walk_arr hv hF ht hw
  have hnow : 0 ≤ now ∧ now ≤ 1073741823 := by omega
  have hro : roomE h F t = 0 := by unfold roomE; rw [if_neg (by simp [hc]), if_neg (by omega)]
  have hrp : roomE h p now = 0 := by unfold roomE; rw [if_neg (by simp [hc]), if_neg (by omega)]
  have hA := arrH_eq hv hF ht
  have hcb := canBack hv hF hp ht hnow
  rw [hA] at hcb
  have hC : Came h F.toNat t (arrH h F.toNat t).1 (arrH h F.toNat t).2 := came hv (by omega) ht
  rw [hA] at hC
  have hW : ∀ l : List Step, l.length ≤ 60 → Walk h F t l = walkR h l F t := fun l hl => by
    rw [Walk_eq]; unfold WalkR; rw [if_neg (by simp [hc]), if_neg (by omega), if_neg (by omega)]
  have hlt : (arrR h F.toNat t).getD p.toNat 0 < 1073741824 := by omega
  obtain ⟨r1, r2⟩ := route_walk hc hF ht hC (rk (arrR h F.toNat t) ((arrR h F.toNat t).getD p.toNat 0) + 1) p hp hlt (Nat.lt_succ_self _)
  have hrk := rk_le (arrR h F.toNat t) ((arrR h F.toNat t).getD p.toNat 0)
  have hl1 := hC.len
  have hask : askedE h [F, p] [t] = 0 := by
    unfold askedE
    rw [if_neg (by simp [hc])]
    have hb : ∀ x : Int, 0 ≤ x ∧ x < (h.rooms.length : Int) → roomB h x = true := fun x hx => by simp only [roomB, Bool.and_eq_true, decide_eq_true_eq]; exact hx
    have htb : timeB t = true := by simp only [timeB, Bool.and_eq_true, decide_eq_true_eq]; exact ht
    simp [hb F hF, hb p hp, htb]
  have hrt : routeH h F t p = ((routeL (arrR h F.toNat t) (arrH h F.toNat t).2 F (rk (arrR h F.toNat t) ((arrR h F.toNat t).getD p.toNat 0) + 1) p).reverse, 0) := by
    unfold routeH; rw [if_neg (by simp [hask]), hA, if_neg (by omega)]
  refine ⟨arrR h F.toNat t, late h p.toNat now, _, by rw [hW L (by omega)]; exact hw, by rw [← hA]; exact if_neg (by simp [hro]), if_neg (by simp [hrp]), ?_, hrt, ?_, by rw [List.length_reverse]; omega, hl1, by unfold late; rw [lateF_len]; simp, hle, hcb.1 hle⟩
  · unfold canH; rw [if_neg (by rw [askedE_two, if_neg (by simp [hro])]; simp [hrp]), hA, decide_eq_true hle]
  · rw [hW _ (by rw [List.length_reverse]; omega)]; exact r1
theorem law15_ok (h : House) (from0 t : Int) (ws wt : List Int) (hn : ∀ r ∈ h.rooms, r.name.size ≤ 9223372036854775807) : OKv cx 15 [.agg (eHouse h), ai from0, ai t, lInt ws, lInt wt] (ab true) := by
  by_cases hr : (few h && decide ((Check h).1 = 0)) = true
  ·
    by_cases hta : (decide (0 ≤ t) && decide (t ≤ 1073741823)) = true
    ·
      obtain ⟨hf, hc⟩ : few h = true ∧ (Check h).1 = 0 := by simpa using hr
      have hfit := few_fit hf hn
      have hv := Check_V hc
      have hrl := hv.rooms
      have htab : 0 ≤ t ∧ t ≤ 1073741823 := by simpa using hta
      obtain ⟨F, hF⟩ : ∃ x, someN from0 h.rooms.length = x := ⟨_, rfl⟩
      have hFb := someN_lt from0 (k := (h.rooms.length : Int)) (by omega)
      rw [hF] at hFb
      have hwn := hv.nw
      refine OKat.of_body (rs := [10]) Tryd.func15 rfl (by decide +kernel) rfl (by simp [Tryd.ntmps15]) ?_
      simp only [Tryd.ntmps15]
      repeat' first
        | apply AW.seq | apply AW.region | apply AW.ret | apply AW.block | apply AW.skip | apply AW.exit | apply AW.scope | apply AW.label | apply AWL.nil | apply D.nil
        | refine W.draw cx_mixed (by decide +kernel) ?_
        | ((first | (apply W.step cx_ok; decide) | (apply D.step cx_ok; decide; decide) | (apply W.gS; rfl; decide) | (apply D.gS; rfl; decide; decide) | apply AW.cond); (simp (disch := omega) only [push_cast, simprocAttr, hr, hta, hF] <;> rfl); all_goals try ((with_reducible intro hI); try first | (cases hI; done) | (simp only [INTS, not_true_eq_false] at hI; try first | (exfalso; omega) | (have hT : True := hI; clear hT hI))))
        | ((first | (apply W.gU; rfl; decide) | (apply D.gU; rfl; decide; decide)); (simp (disch := omega) only [push_cast, simprocAttr, hr, hta, hF] <;> rfl))
        | ((first | (apply W.callv cx_ok; decide) | (apply D.callv cx_ok; decide; decide)); (iterate 2 (simp (disch := omega) only [push_cast, simprocAttr, hr, hta, hF] <;> rfl)); (with_reducible first | exact right_ok _ hn | exact sanity_ok | exact Time_ok _ | exact some_ok _ _ (by omega) | exact NextOpen_ok _ _ _ hfit); try first | rfl | (simp (disch := omega) only [push_cast, simprocAttr, hr, hta, hF] <;> rfl))
        | ((first | apply W.ret1 | apply W.end1); (iterate 2 (try (simp (disch := omega) only [push_cast, simprocAttr, hr, hta, hF] <;> rfl))))
      refine AW.adopt 14 3 84 ?_ ?_
      · simp (disch := omega) only [push_cast, simprocAttr, hr, hta, hF]
      refine AW.post (I := fun s => ∃ (p now : Int) (L : List Step), (0 ≤ p ∧ p < (h.rooms.length : Int)) ∧ (0 ≤ now ∧ now ≤ 1073741823) ∧ (walkR h L F t = (p, now, 0)) ∧ (L.length ≤ 12) ∧ 2 ≤ s.nx ∧ s.tm 2 = ai t ∧ s.tm 5 = .ptr 0 0 0 1 ∧ s.tm 11 = ai F ∧ s.tm 12 = ai p ∧ s.tm 13 = ai now ∧ s.tm 14 = .ref 1 0 L.length ∧ Pg.rowAt s.H (0) = some ({ k := 3, es := [eHouse h], ty := 26 }) ∧ Pg.rowAt s.H (1) = some ({ k := 3, es := L.map eStep, ty := 84, lo := L.length })) ?_ ?_
      ·
        rintro s ⟨p, now, L, hp1, hp2, hp3, hp4, hnl, hS⟩
        have hZ : (0 : Nat) ≠ s.nx ∧ s.nx ≠ (0 : Nat) ∧ (1 : Nat) ≠ s.nx ∧ s.nx ≠ (1 : Nat) := by omega
        obtain ⟨X, Y, S, g1, g2, g3, g4, g5, g6, hSl, g7, g8, h9, h10⟩ := walked_post hc hFb htab hp3 hp4
        have g9 : ¬ (now < X.getD p.toNat 0) := by omega
        have b9 : ¬ (Y.getD F.toNat 0 < t) := by omega
        have b1 := hp1.1
        have b2 := hp1.2
        have b3 : p < (X.length : Int) := by omega
        have b4 : p.toNat < X.length := by omega
        have b5 := hFb.1
        have b6 := hFb.2
        have b7 : F.toNat < Y.length := by omega
        have b8 : p.toNat < h.rooms.length ∧ F.toNat < h.rooms.length := by omega
        refine AW.freeze (t := 14) (v := .lst (L.map eStep)) (by simp (disch := omega) only [push_cast, simprocAttr, hS, pure_steps, take_map_all] <;> rfl) ?_
        repeat' first
          | apply AW.seq | apply AW.region | apply AW.ret | apply AW.block | apply AW.skip | apply AW.exit | apply AW.scope | apply AW.label | apply AWL.nil | apply D.nil
          | refine W.draw cx_mixed (by decide +kernel) ?_
          | ((first | (apply W.step cx_ok; decide) | (apply D.step cx_ok; decide; decide) | (apply W.gS; rfl; decide) | (apply D.gS; rfl; decide; decide) | apply AW.cond); (simp (disch := omega) only [push_cast, simprocAttr, hS, hZ, g1, g2, g3, g4, g5, g6, g7, g8, g9, b1, b2, b3, b4, b5, b6, b7, b8, b9, pure_steps, take_map_all] <;> rfl); all_goals try ((with_reducible intro hI); try first | (cases hI; done) | (simp only [INTS, not_true_eq_false] at hI; try first | (exfalso; omega) | (have hT : True := hI; clear hT hI))))
          | ((first | (apply W.gU; rfl; decide) | (apply D.gU; rfl; decide; decide)); (simp (disch := omega) only [push_cast, simprocAttr, hS, hZ, g1, g2, g3, g4, g5, g6, g7, g8, g9, b1, b2, b3, b4, b5, b6, b7, b8, b9, pure_steps, take_map_all] <;> rfl))
          | ((first | (apply W.callv cx_ok; decide) | (apply D.callv cx_ok; decide; decide)); (iterate 2 (simp (disch := omega) only [push_cast, simprocAttr, hS, hZ, g1, g2, g3, g4, g5, g6, g7, g8, g9, b1, b2, b3, b4, b5, b6, b7, b8, b9, pure_steps, take_map_all] <;> rfl)); (with_reducible first | exact sanity_ok | exact Walk_ok h F t L hfit (by omega) | exact Walk_ok h F t S hfit (by omega) | exact Earliest_ok _ _ _ hfit | exact Latest_ok _ _ _ hfit | exact Can_ok _ _ _ _ _ hfit | exact Route_ok _ _ _ _ hfit); try first | rfl | (simp (disch := omega) only [push_cast, simprocAttr, hS, hZ, g1, g2, g3, g4, g5, g6, g7, g8, g9, b1, b2, b3, b4, b5, b6, b7, b8, b9, pure_steps, take_map_all] <;> rfl))
          | ((first | apply W.ret1 | apply W.end1); (iterate 2 (try (simp (disch := omega) only [push_cast, simprocAttr, hS, hZ, g1, g2, g3, g4, g5, g6, g7, g8, g9, b1, b2, b3, b4, b5, b6, b7, b8, b9, pure_steps, take_map_all] <;> rfl))))
        all_goals (show _ = _; first | rfl | (simp_all; done))
      refine AW.loop (fun n s => ∃ (k : Nat) (p now : Int) (L : List Step) (rest : List Int), n = rest.length ∧ (ws.drop k = rest) ∧ (0 ≤ p ∧ p < (h.rooms.length : Int)) ∧ (0 ≤ now ∧ now ≤ 1073741823) ∧ (walkR h L F t = (p, now, 0)) ∧ (L.length ≤ k) ∧ (k ≤ 12) ∧ 2 ≤ s.nx ∧ s.tm 2 = ai t ∧ s.tm 5 = .ptr 0 0 0 1 ∧ s.tm 11 = ai F ∧ s.tm 12 = ai p ∧ s.tm 13 = ai now ∧ s.tm 14 = .ref 1 0 L.length ∧ s.tm 3 = lInt ws ∧ s.tm 4 = lInt wt ∧ s.tm 15 = ai k ∧ Pg.rowAt s.H (0) = some ({ k := 3, es := [eHouse h], ty := 26 }) ∧ Pg.rowAt s.H (1) = some ({ k := 3, es := L.map eStep, ty := 84, lo := L.length })) (ws.length) ⟨0, F, t, [], ws, rfl, rfl, hFb, htab, rfl, (Nat.zero_le _), (by omega), ?_, ?_, ?_, ?_, ?_, ?_, ?_, ?_, ?_, ?_, ?_, ?_⟩ ?_
      iterate 12 (first | (simp (disch := omega) only [push_cast, simprocAttr, hr, hta, hF] <;> first | rfl | omega) | omega)
      rintro n s ⟨k, p, now, L, rest, hn, hp0, hp1, hp2, hp3, hp4, hp5, hnl, hS⟩
      have hZ : (0 : Nat) ≠ s.nx ∧ s.nx ≠ (0 : Nat) ∧ (1 : Nat) ≠ s.nx ∧ s.nx ≠ (1 : Nat) := by omega
      rcases rest with _ | ⟨x, rest⟩
      · have hk := drop_nil hp0
        repeat' first
          | apply AW.seq | apply AW.region | apply AW.ret | apply AW.block | apply AW.skip | apply AW.exit | apply AW.scope | apply AW.label | apply AWL.nil | apply D.nil
          | refine W.draw cx_mixed (by decide +kernel) ?_
          | ((first | (apply W.step cx_ok; decide) | (apply D.step cx_ok; decide; decide) | (apply W.gS; rfl; decide) | (apply D.gS; rfl; decide; decide) | apply AW.cond); (simp (disch := omega) only [push_cast, simprocAttr, hS, hZ, hk] <;> rfl); all_goals try ((with_reducible intro hI); try first | (cases hI; done) | (simp only [INTS, not_true_eq_false] at hI; try first | (exfalso; omega) | (have hT : True := hI; clear hT hI))))
          | ((first | (apply W.gU; rfl; decide) | (apply D.gU; rfl; decide; decide)); (simp (disch := omega) only [push_cast, simprocAttr, hS, hZ, hk] <;> rfl))
          | ((first | apply W.ret1 | apply W.end1); (iterate 2 (try (simp (disch := omega) only [push_cast, simprocAttr, hS, hZ, hk] <;> rfl))))
        all_goals (refine ⟨p, now, L, hp1, hp2, hp3, (by omega), ?_, ?_, ?_, ?_, ?_, ?_, ?_, ?_, ?_⟩; all_goals first | (simp (disch := omega) only [push_cast, simprocAttr, hS, hZ, hk] <;> first | rfl | omega) | omega)
      · obtain ⟨hk, hg, hd', hl', hm, hx⟩ := drop_cons hp0 eInt []
        by_cases hk12 : (k : Int) < 12
        · by_cases hw0 : (h.ways.length : Int) = 0
          ·
            repeat' first
              | apply AW.seq | apply AW.region | apply AW.ret | apply AW.block | apply AW.skip | apply AW.exit | apply AW.scope | apply AW.label | apply AWL.nil | apply D.nil
              | refine W.draw cx_mixed (by decide +kernel) ?_
              | ((first | (apply W.step cx_ok; decide) | (apply D.step cx_ok; decide; decide) | (apply W.gS; rfl; decide) | (apply D.gS; rfl; decide; decide) | apply AW.cond); (simp (disch := omega) only [push_cast, simprocAttr, hS, hZ, hk, hg, hk12, hw0] <;> rfl); all_goals try ((with_reducible intro hI); try first | (cases hI; done) | (simp only [INTS, not_true_eq_false] at hI; try first | (exfalso; omega) | (have hT : True := hI; clear hT hI))))
              | ((first | (apply W.gU; rfl; decide) | (apply D.gU; rfl; decide; decide)); (simp (disch := omega) only [push_cast, simprocAttr, hS, hZ, hk, hg, hk12, hw0] <;> rfl))
              | ((first | apply W.ret1 | apply W.end1); (iterate 2 (try (simp (disch := omega) only [push_cast, simprocAttr, hS, hZ, hk, hg, hk12, hw0] <;> rfl))))
            all_goals (refine ⟨p, now, L, hp1, hp2, hp3, (by omega), ?_, ?_, ?_, ?_, ?_, ?_, ?_, ?_, ?_⟩; all_goals first | (simp (disch := omega) only [push_cast, simprocAttr, hS, hZ, hk, hg, hk12, hw0] <;> first | rfl | omega) | omega)
          ·
            have hwF : ((h.ways.length : Int) = 0) = False := eq_false hw0
            obtain ⟨N, hN⟩ : ∃ z, someN x h.ways.length = z := ⟨_, rfl⟩
            have hNb := someN_lt x (k := (h.ways.length : Int)) (by omega)
            rw [hN] at hNb
            have n0 := hNb.1
            have n1 := hNb.2
            have n2 : N.toNat < h.ways.length := by omega
            obtain ⟨w, hw⟩ : ∃ z, h.ways[N.toNat] = z := ⟨_, rfl⟩
            have hwq : h.ways[N.toNat]? = some w := by rw [← hw]; exact List.getElem?_eq_getElem n2
            have hwm : w ∈ h.ways := List.mem_of_getElem? hwq
            have hgw : (h.ways.map eWay).getD N.toNat [] = eWay w := by rw [List.getD_eq_getElem?_getD, List.getElem?_map, hwq]; rfl
            have hgw2 : (h.ways.map eWay)[N.toNat]? = some (eWay w) := by rw [List.getElem?_map, hwq]; rfl
            obtain ⟨o1, o2, o3, o4, o5, o6⟩ := hv.ways w hwm
            obtain ⟨hga, hgb⟩ := gatesL_way' h.ways 0 N.toNat w hwq
            rw [show ((0 + N.toNat : Nat) : Int) = N by omega] at hga hgb
            by_cases ha : w.a = p
            ·
              have haE : w.a = p := ha
              have haT : (w.a = p) = True := eq_true ha
              have hbF : (w.b = p) = False := eq_false (by omega)
              have hbB : (w.b == p) = false := by rw [beq_eq_false_iff_ne]; omega
              by_cases hkw : k < wt.length
              ·
                have c1 : (k : Int) < (wt.length : Int) := by omega
                obtain ⟨y, hy⟩ : ∃ z, someN (wt.getD k 0) 3000 = z := ⟨_, rfl⟩
                have hyb := someN_lt (wt.getD k 0) (k := 3000) (by omega)
                rw [hy] at hyb
                obtain ⟨s0, hs0⟩ : ∃ z, now + y = z := ⟨_, rfl⟩
                have hs0b : now ≤ s0 ∧ s0 ≤ now + 3000 := by omega
                obtain ⟨s1, hs1⟩ : ∃ z, h.nextAt ⟨N, false, w.a, w.b, w.secs, w.door⟩ s0 = z := ⟨_, rfl⟩
                have hgo := gate_ok hv hga
                have hsb : s0 ≤ 1073741823 → s0 ≤ s1 ∧ s1 ≤ 1073741824 := fun hm0 => by rw [← hs1]; exact nextAt_ge hv hgo (by omega) (by omega)
                have hst : s0 ≤ 1073741823 → s1 + w.secs ≤ 1073741823 → walkR h (L ++ [⟨N, false, s1⟩]) F t = (w.b, s1 + w.secs, 0) := fun hm0 hm1 => by
                  have := walked_step hc hga haE hp3 hp2.1 hs0b.1 hm0 (by rw [hs1]; exact hm1)
                  rw [hs1] at this; exact this
                by_cases hdo : 0 ≤ w.door
                ·
                  have hq : s0 ≤ 1073741823 → nextOpenH h w.door s0 = (s1, 0) := fun hm0 => by
                    have hde : doorE h w.door [s0] = 0 := by
                      unfold doorE
                      rw [if_neg (fun hh => hh.2 ⟨hdo, o6.2⟩)]
                      unfold askedE
                      have htb : timeB s0 = true := by simp only [timeB, Bool.and_eq_true, decide_eq_true_eq]; omega
                      simp [hc, htb]
                    unfold nextOpenH
                    rw [if_neg (by simp [hde]), ← hs1]
                    unfold House.nextAt
                    rw [if_pos hdo]
                  repeat' first
                    | apply AW.seq | apply AW.region | apply AW.ret | apply AW.block | apply AW.skip | apply AW.exit | apply AW.scope | apply AW.label | apply AWL.nil | apply D.nil
                    | refine W.draw cx_mixed (by decide +kernel) ?_
                    | ((first | (apply W.step cx_ok; decide) | (apply D.step cx_ok; decide; decide) | (apply W.gS; rfl; decide) | (apply D.gS; rfl; decide; decide) | apply AW.cond); (simp (disch := omega) only [push_cast, simprocAttr, hS, hZ, hk, hg, hk12, hwF, hN, n0, n1, n2, hgw, hgw2, haT, hbF, hbB, hkw, c1, hy, hs0, hdo, hq] <;> rfl); all_goals try ((with_reducible intro hI); try first | (cases hI; done) | (simp only [INTS, not_true_eq_false] at hI; try first | (exfalso; omega) | (have hT : True := hI; clear hT hI))))
                    | ((first | (apply W.gU; rfl; decide) | (apply D.gU; rfl; decide; decide)); (simp (disch := omega) only [push_cast, simprocAttr, hS, hZ, hk, hg, hk12, hwF, hN, n0, n1, n2, hgw, hgw2, haT, hbF, hbB, hkw, c1, hy, hs0, hdo, hq] <;> rfl))
                    | (apply W.append cx_ok; decide; rfl; rfl; rfl; decide; (iterate 3 (simp (disch := omega) only [push_cast, simprocAttr, hS, hZ, hk, hg, hk12, hwF, hN, n0, n1, n2, hgw, hgw2, haT, hbF, hbB, hkw, c1, hy, hs0, hdo, hq] <;> rfl)); simp; (rfl); ((try dsimp only); (try simp only [List.length_map, List.length_append, List.length_cons, List.length_nil]); omega); ((try dsimp only); (try simp only [List.length_map, List.length_append, List.length_cons, List.length_nil]); omega))
                    | ((first | (apply W.callv cx_ok; decide) | (apply D.callv cx_ok; decide; decide)); (iterate 2 (simp (disch := omega) only [push_cast, simprocAttr, hS, hZ, hk, hg, hk12, hwF, hN, n0, n1, n2, hgw, hgw2, haT, hbF, hbB, hkw, c1, hy, hs0, hdo, hq] <;> rfl)); (with_reducible first | exact right_ok _ hn | exact sanity_ok | exact Time_ok _ | exact some_ok _ _ (by omega) | exact NextOpen_ok _ _ _ hfit); try first | rfl | (simp (disch := omega) only [push_cast, simprocAttr, hS, hZ, hk, hg, hk12, hwF, hN, n0, n1, n2, hgw, hgw2, haT, hbF, hbB, hkw, c1, hy, hs0, hdo, hq] <;> rfl))
                    | ((first | apply W.ret1 | apply W.end1); (iterate 2 (try (simp (disch := omega) only [push_cast, simprocAttr, hS, hZ, hk, hg, hk12, hwF, hN, n0, n1, n2, hgw, hgw2, haT, hbF, hbB, hkw, c1, hy, hs0, hdo, hq] <;> rfl))))
                  all_goals first
                    | (refine ⟨p, now, L, hp1, hp2, hp3, (by omega), ?_, ?_, ?_, ?_, ?_, ?_, ?_, ?_, ?_⟩; all_goals first | (simp (disch := omega) only [push_cast, simprocAttr, hS, hZ, hk, hg, hk12, hwF, hN, n0, n1, n2, hgw, hgw2, haT, hbF, hbB, hkw, c1, hy, hs0, hdo, hq] <;> first | rfl | omega) | omega)
                    | (refine ⟨rest.length, ?_, k + 1, w.b, s1 + w.secs, L ++ [⟨N, false, s1⟩], rest, rfl, hd', o2, (by omega), (hst (by omega) (by omega)), (by simp; omega), (by omega), ?_, ?_, ?_, ?_, ?_, ?_, ?_, ?_, ?_, ?_, ?_, ?_⟩; ((simp only [List.length_cons] at *; omega)); all_goals first | (simp (disch := omega) only [push_cast, simprocAttr, hS, hZ, hk, hg, hk12, hwF, hN, n0, n1, n2, hgw, hgw2, haT, hbF, hbB, hkw, c1, hy, hs0, hdo, hq, List.length_cons, List.length_nil, pure_steps, take_map_all] <;> first | rfl | omega) | omega)
                ·
                  have hs2 : s1 = s0 := by rw [← hs1]; unfold House.nextAt; rw [if_neg hdo]
                  subst hs2
                  repeat' first
                    | apply AW.seq | apply AW.region | apply AW.ret | apply AW.block | apply AW.skip | apply AW.exit | apply AW.scope | apply AW.label | apply AWL.nil | apply D.nil
                    | refine W.draw cx_mixed (by decide +kernel) ?_
                    | ((first | (apply W.step cx_ok; decide) | (apply D.step cx_ok; decide; decide) | (apply W.gS; rfl; decide) | (apply D.gS; rfl; decide; decide) | apply AW.cond); (simp (disch := omega) only [push_cast, simprocAttr, hS, hZ, hk, hg, hk12, hwF, hN, n0, n1, n2, hgw, hgw2, haT, hbF, hbB, hkw, c1, hy, hs0, hdo] <;> rfl); all_goals try ((with_reducible intro hI); try first | (cases hI; done) | (simp only [INTS, not_true_eq_false] at hI; try first | (exfalso; omega) | (have hT : True := hI; clear hT hI))))
                    | ((first | (apply W.gU; rfl; decide) | (apply D.gU; rfl; decide; decide)); (simp (disch := omega) only [push_cast, simprocAttr, hS, hZ, hk, hg, hk12, hwF, hN, n0, n1, n2, hgw, hgw2, haT, hbF, hbB, hkw, c1, hy, hs0, hdo] <;> rfl))
                    | (apply W.append cx_ok; decide; rfl; rfl; rfl; decide; (iterate 3 (simp (disch := omega) only [push_cast, simprocAttr, hS, hZ, hk, hg, hk12, hwF, hN, n0, n1, n2, hgw, hgw2, haT, hbF, hbB, hkw, c1, hy, hs0, hdo] <;> rfl)); simp; (rfl); ((try dsimp only); (try simp only [List.length_map, List.length_append, List.length_cons, List.length_nil]); omega); ((try dsimp only); (try simp only [List.length_map, List.length_append, List.length_cons, List.length_nil]); omega))
                    | ((first | (apply W.callv cx_ok; decide) | (apply D.callv cx_ok; decide; decide)); (iterate 2 (simp (disch := omega) only [push_cast, simprocAttr, hS, hZ, hk, hg, hk12, hwF, hN, n0, n1, n2, hgw, hgw2, haT, hbF, hbB, hkw, c1, hy, hs0, hdo] <;> rfl)); (with_reducible first | exact right_ok _ hn | exact sanity_ok | exact Time_ok _ | exact some_ok _ _ (by omega) | exact NextOpen_ok _ _ _ hfit); try first | rfl | (simp (disch := omega) only [push_cast, simprocAttr, hS, hZ, hk, hg, hk12, hwF, hN, n0, n1, n2, hgw, hgw2, haT, hbF, hbB, hkw, c1, hy, hs0, hdo] <;> rfl))
                    | ((first | apply W.ret1 | apply W.end1); (iterate 2 (try (simp (disch := omega) only [push_cast, simprocAttr, hS, hZ, hk, hg, hk12, hwF, hN, n0, n1, n2, hgw, hgw2, haT, hbF, hbB, hkw, c1, hy, hs0, hdo] <;> rfl))))
                  all_goals first
                    | (refine ⟨p, now, L, hp1, hp2, hp3, (by omega), ?_, ?_, ?_, ?_, ?_, ?_, ?_, ?_, ?_⟩; all_goals first | (simp (disch := omega) only [push_cast, simprocAttr, hS, hZ, hk, hg, hk12, hwF, hN, n0, n1, n2, hgw, hgw2, haT, hbF, hbB, hkw, c1, hy, hs0, hdo] <;> first | rfl | omega) | omega)
                    | (refine ⟨rest.length, ?_, k + 1, w.b, s1 + w.secs, L ++ [⟨N, false, s1⟩], rest, rfl, hd', o2, (by omega), (hst (by omega) (by omega)), (by simp; omega), (by omega), ?_, ?_, ?_, ?_, ?_, ?_, ?_, ?_, ?_, ?_, ?_, ?_⟩; ((simp only [List.length_cons] at *; omega)); all_goals first | (simp (disch := omega) only [push_cast, simprocAttr, hS, hZ, hk, hg, hk12, hwF, hN, n0, n1, n2, hgw, hgw2, haT, hbF, hbB, hkw, c1, hy, hs0, hdo, List.length_cons, List.length_nil, pure_steps, take_map_all] <;> first | rfl | omega) | omega)
              ·
                have c1 : ¬ ((k : Int) < (wt.length : Int)) := by omega
                obtain ⟨s0, hs0⟩ : ∃ z, now = z := ⟨_, rfl⟩
                have hs0b : now ≤ s0 ∧ s0 ≤ now + 3000 := by omega
                obtain ⟨s1, hs1⟩ : ∃ z, h.nextAt ⟨N, false, w.a, w.b, w.secs, w.door⟩ s0 = z := ⟨_, rfl⟩
                have hgo := gate_ok hv hga
                have hsb : s0 ≤ 1073741823 → s0 ≤ s1 ∧ s1 ≤ 1073741824 := fun hm0 => by rw [← hs1]; exact nextAt_ge hv hgo (by omega) (by omega)
                have hst : s0 ≤ 1073741823 → s1 + w.secs ≤ 1073741823 → walkR h (L ++ [⟨N, false, s1⟩]) F t = (w.b, s1 + w.secs, 0) := fun hm0 hm1 => by
                  have := walked_step hc hga haE hp3 hp2.1 hs0b.1 hm0 (by rw [hs1]; exact hm1)
                  rw [hs1] at this; exact this
                subst hs0
                by_cases hdo : 0 ≤ w.door
                ·
                  have hq : now ≤ 1073741823 → nextOpenH h w.door now = (s1, 0) := fun hm0 => by
                    have hde : doorE h w.door [now] = 0 := by
                      unfold doorE
                      rw [if_neg (fun hh => hh.2 ⟨hdo, o6.2⟩)]
                      unfold askedE
                      have htb : timeB now = true := by simp only [timeB, Bool.and_eq_true, decide_eq_true_eq]; omega
                      simp [hc, htb]
                    unfold nextOpenH
                    rw [if_neg (by simp [hde]), ← hs1]
                    unfold House.nextAt
                    rw [if_pos hdo]
                  repeat' first
                    | apply AW.seq | apply AW.region | apply AW.ret | apply AW.block | apply AW.skip | apply AW.exit | apply AW.scope | apply AW.label | apply AWL.nil | apply D.nil
                    | refine W.draw cx_mixed (by decide +kernel) ?_
                    | ((first | (apply W.step cx_ok; decide) | (apply D.step cx_ok; decide; decide) | (apply W.gS; rfl; decide) | (apply D.gS; rfl; decide; decide) | apply AW.cond); (simp (disch := omega) only [push_cast, simprocAttr, hS, hZ, hk, hg, hk12, hwF, hN, n0, n1, n2, hgw, hgw2, haT, hbF, hbB, c1, hdo, hq] <;> rfl); all_goals try ((with_reducible intro hI); try first | (cases hI; done) | (simp only [INTS, not_true_eq_false] at hI; try first | (exfalso; omega) | (have hT : True := hI; clear hT hI))))
                    | ((first | (apply W.gU; rfl; decide) | (apply D.gU; rfl; decide; decide)); (simp (disch := omega) only [push_cast, simprocAttr, hS, hZ, hk, hg, hk12, hwF, hN, n0, n1, n2, hgw, hgw2, haT, hbF, hbB, c1, hdo, hq] <;> rfl))
                    | (apply W.append cx_ok; decide; rfl; rfl; rfl; decide; (iterate 3 (simp (disch := omega) only [push_cast, simprocAttr, hS, hZ, hk, hg, hk12, hwF, hN, n0, n1, n2, hgw, hgw2, haT, hbF, hbB, c1, hdo, hq] <;> rfl)); simp; (rfl); ((try dsimp only); (try simp only [List.length_map, List.length_append, List.length_cons, List.length_nil]); omega); ((try dsimp only); (try simp only [List.length_map, List.length_append, List.length_cons, List.length_nil]); omega))
                    | ((first | (apply W.callv cx_ok; decide) | (apply D.callv cx_ok; decide; decide)); (iterate 2 (simp (disch := omega) only [push_cast, simprocAttr, hS, hZ, hk, hg, hk12, hwF, hN, n0, n1, n2, hgw, hgw2, haT, hbF, hbB, c1, hdo, hq] <;> rfl)); (with_reducible first | exact right_ok _ hn | exact sanity_ok | exact Time_ok _ | exact some_ok _ _ (by omega) | exact NextOpen_ok _ _ _ hfit); try first | rfl | (simp (disch := omega) only [push_cast, simprocAttr, hS, hZ, hk, hg, hk12, hwF, hN, n0, n1, n2, hgw, hgw2, haT, hbF, hbB, c1, hdo, hq] <;> rfl))
                    | ((first | apply W.ret1 | apply W.end1); (iterate 2 (try (simp (disch := omega) only [push_cast, simprocAttr, hS, hZ, hk, hg, hk12, hwF, hN, n0, n1, n2, hgw, hgw2, haT, hbF, hbB, c1, hdo, hq] <;> rfl))))
                  all_goals first
                    | (refine ⟨p, now, L, hp1, hp2, hp3, (by omega), ?_, ?_, ?_, ?_, ?_, ?_, ?_, ?_, ?_⟩; all_goals first | (simp (disch := omega) only [push_cast, simprocAttr, hS, hZ, hk, hg, hk12, hwF, hN, n0, n1, n2, hgw, hgw2, haT, hbF, hbB, c1, hdo, hq] <;> first | rfl | omega) | omega)
                    | (refine ⟨rest.length, ?_, k + 1, w.b, s1 + w.secs, L ++ [⟨N, false, s1⟩], rest, rfl, hd', o2, (by omega), (hst (by omega) (by omega)), (by simp; omega), (by omega), ?_, ?_, ?_, ?_, ?_, ?_, ?_, ?_, ?_, ?_, ?_, ?_⟩; ((simp only [List.length_cons] at *; omega)); all_goals first | (simp (disch := omega) only [push_cast, simprocAttr, hS, hZ, hk, hg, hk12, hwF, hN, n0, n1, n2, hgw, hgw2, haT, hbF, hbB, c1, hdo, hq, List.length_cons, List.length_nil, pure_steps, take_map_all] <;> first | rfl | omega) | omega)
                ·
                  have hs2 : s1 = now := by rw [← hs1]; unfold House.nextAt; rw [if_neg hdo]
                  repeat' first
                    | apply AW.seq | apply AW.region | apply AW.ret | apply AW.block | apply AW.skip | apply AW.exit | apply AW.scope | apply AW.label | apply AWL.nil | apply D.nil
                    | refine W.draw cx_mixed (by decide +kernel) ?_
                    | ((first | (apply W.step cx_ok; decide) | (apply D.step cx_ok; decide; decide) | (apply W.gS; rfl; decide) | (apply D.gS; rfl; decide; decide) | apply AW.cond); (simp (disch := omega) only [push_cast, simprocAttr, hS, hZ, hk, hg, hk12, hwF, hN, n0, n1, n2, hgw, hgw2, haT, hbF, hbB, c1, hdo, hs2] <;> rfl); all_goals try ((with_reducible intro hI); try first | (cases hI; done) | (simp only [INTS, not_true_eq_false] at hI; try first | (exfalso; omega) | (have hT : True := hI; clear hT hI))))
                    | ((first | (apply W.gU; rfl; decide) | (apply D.gU; rfl; decide; decide)); (simp (disch := omega) only [push_cast, simprocAttr, hS, hZ, hk, hg, hk12, hwF, hN, n0, n1, n2, hgw, hgw2, haT, hbF, hbB, c1, hdo, hs2] <;> rfl))
                    | (apply W.append cx_ok; decide; rfl; rfl; rfl; decide; (iterate 3 (simp (disch := omega) only [push_cast, simprocAttr, hS, hZ, hk, hg, hk12, hwF, hN, n0, n1, n2, hgw, hgw2, haT, hbF, hbB, c1, hdo, hs2] <;> rfl)); simp; (rfl); ((try dsimp only); (try simp only [List.length_map, List.length_append, List.length_cons, List.length_nil]); omega); ((try dsimp only); (try simp only [List.length_map, List.length_append, List.length_cons, List.length_nil]); omega))
                    | ((first | (apply W.callv cx_ok; decide) | (apply D.callv cx_ok; decide; decide)); (iterate 2 (simp (disch := omega) only [push_cast, simprocAttr, hS, hZ, hk, hg, hk12, hwF, hN, n0, n1, n2, hgw, hgw2, haT, hbF, hbB, c1, hdo, hs2] <;> rfl)); (with_reducible first | exact right_ok _ hn | exact sanity_ok | exact Time_ok _ | exact some_ok _ _ (by omega) | exact NextOpen_ok _ _ _ hfit); try first | rfl | (simp (disch := omega) only [push_cast, simprocAttr, hS, hZ, hk, hg, hk12, hwF, hN, n0, n1, n2, hgw, hgw2, haT, hbF, hbB, c1, hdo, hs2] <;> rfl))
                    | ((first | apply W.ret1 | apply W.end1); (iterate 2 (try (simp (disch := omega) only [push_cast, simprocAttr, hS, hZ, hk, hg, hk12, hwF, hN, n0, n1, n2, hgw, hgw2, haT, hbF, hbB, c1, hdo, hs2] <;> rfl))))
                  all_goals first
                    | (refine ⟨p, now, L, hp1, hp2, hp3, (by omega), ?_, ?_, ?_, ?_, ?_, ?_, ?_, ?_, ?_⟩; all_goals first | (simp (disch := omega) only [push_cast, simprocAttr, hS, hZ, hk, hg, hk12, hwF, hN, n0, n1, n2, hgw, hgw2, haT, hbF, hbB, c1, hdo, hs2] <;> first | rfl | omega) | omega)
                    | (refine ⟨rest.length, ?_, k + 1, w.b, s1 + w.secs, L ++ [⟨N, false, s1⟩], rest, rfl, hd', o2, (by omega), (hst (by omega) (by omega)), (by simp; omega), (by omega), ?_, ?_, ?_, ?_, ?_, ?_, ?_, ?_, ?_, ?_, ?_, ?_⟩; ((simp only [List.length_cons] at *; omega)); all_goals first | (simp (disch := omega) only [push_cast, simprocAttr, hS, hZ, hk, hg, hk12, hwF, hN, n0, n1, n2, hgw, hgw2, haT, hbF, hbB, c1, hdo, hs2, List.length_cons, List.length_nil, pure_steps, take_map_all] <;> first | rfl | omega) | omega)
            · have haF : (w.a = p) = False := eq_false ha
              by_cases hb : w.b = p
              · have hbE : w.b = p := hb
                have hbT : (w.b = p) = True := eq_true hb
                have hbB : (w.b == p) = true := by rw [beq_iff_eq]; exact hb
                by_cases hbk0 : w.back = 0
                ·
                  repeat' first
                    | apply AW.seq | apply AW.region | apply AW.ret | apply AW.block | apply AW.skip | apply AW.exit | apply AW.scope | apply AW.label | apply AWL.nil | apply D.nil
                    | refine W.draw cx_mixed (by decide +kernel) ?_
                    | ((first | (apply W.step cx_ok; decide) | (apply D.step cx_ok; decide; decide) | (apply W.gS; rfl; decide) | (apply D.gS; rfl; decide; decide) | apply AW.cond); (simp (disch := omega) only [push_cast, simprocAttr, hS, hZ, hk, hg, hk12, hwF, hN, n0, n1, n2, hgw, hgw2, haF, hbT, hbk0] <;> rfl); all_goals try ((with_reducible intro hI); try first | (cases hI; done) | (simp only [INTS, not_true_eq_false] at hI; try first | (exfalso; omega) | (have hT : True := hI; clear hT hI))))
                    | ((first | (apply W.gU; rfl; decide) | (apply D.gU; rfl; decide; decide)); (simp (disch := omega) only [push_cast, simprocAttr, hS, hZ, hk, hg, hk12, hwF, hN, n0, n1, n2, hgw, hgw2, haF, hbT, hbk0] <;> rfl))
                    | ((first | (apply W.callv cx_ok; decide) | (apply D.callv cx_ok; decide; decide)); (iterate 2 (simp (disch := omega) only [push_cast, simprocAttr, hS, hZ, hk, hg, hk12, hwF, hN, n0, n1, n2, hgw, hgw2, haF, hbT, hbk0] <;> rfl)); (with_reducible first | exact right_ok _ hn | exact sanity_ok | exact Time_ok _ | exact some_ok _ _ (by omega) | exact NextOpen_ok _ _ _ hfit); try first | rfl | (simp (disch := omega) only [push_cast, simprocAttr, hS, hZ, hk, hg, hk12, hwF, hN, n0, n1, n2, hgw, hgw2, haF, hbT, hbk0] <;> rfl))
                    | ((first | apply W.ret1 | apply W.end1); (iterate 2 (try (simp (disch := omega) only [push_cast, simprocAttr, hS, hZ, hk, hg, hk12, hwF, hN, n0, n1, n2, hgw, hgw2, haF, hbT, hbk0] <;> rfl))))
                  all_goals (refine ⟨rest.length, ?_, k + 1, p, now, L, rest, rfl, hd', hp1, hp2, hp3, (by omega), (by omega), ?_, ?_, ?_, ?_, ?_, ?_, ?_, ?_, ?_, ?_, ?_, ?_⟩; ((simp only [List.length_cons] at *; omega)); all_goals first | (simp (disch := omega) only [push_cast, simprocAttr, hS, hZ, hk, hg, hk12, hwF, hN, n0, n1, n2, hgw, hgw2, haF, hbT, hbk0] <;> first | rfl | omega) | omega)
                · have hbk : (w.back = 0) = False := eq_false hbk0
                  by_cases hkw : k < wt.length
                  ·
                    have c1 : (k : Int) < (wt.length : Int) := by omega
                    obtain ⟨y, hy⟩ : ∃ z, someN (wt.getD k 0) 3000 = z := ⟨_, rfl⟩
                    have hyb := someN_lt (wt.getD k 0) (k := 3000) (by omega)
                    rw [hy] at hyb
                    obtain ⟨s0, hs0⟩ : ∃ z, now + y = z := ⟨_, rfl⟩
                    have hs0b : now ≤ s0 ∧ s0 ≤ now + 3000 := by omega
                    obtain ⟨s1, hs1⟩ : ∃ z, h.nextAt ⟨N, true, w.b, w.a, w.back, w.door⟩ s0 = z := ⟨_, rfl⟩
                    have hgo := gate_ok hv (hgb (by omega))
                    have hsb : s0 ≤ 1073741823 → s0 ≤ s1 ∧ s1 ≤ 1073741824 := fun hm0 => by rw [← hs1]; exact nextAt_ge hv hgo (by omega) (by omega)
                    have hst : s0 ≤ 1073741823 → s1 + w.back ≤ 1073741823 → walkR h (L ++ [⟨N, true, s1⟩]) F t = (w.a, s1 + w.back, 0) := fun hm0 hm1 => by
                      have := walked_step hc (hgb (by omega)) hbE hp3 hp2.1 hs0b.1 hm0 (by rw [hs1]; exact hm1)
                      rw [hs1] at this; exact this
                    by_cases hdo : 0 ≤ w.door
                    ·
                      have hq : s0 ≤ 1073741823 → nextOpenH h w.door s0 = (s1, 0) := fun hm0 => by
                        have hde : doorE h w.door [s0] = 0 := by
                          unfold doorE
                          rw [if_neg (fun hh => hh.2 ⟨hdo, o6.2⟩)]
                          unfold askedE
                          have htb : timeB s0 = true := by simp only [timeB, Bool.and_eq_true, decide_eq_true_eq]; omega
                          simp [hc, htb]
                        unfold nextOpenH
                        rw [if_neg (by simp [hde]), ← hs1]
                        unfold House.nextAt
                        rw [if_pos hdo]
                      repeat' first
                        | apply AW.seq | apply AW.region | apply AW.ret | apply AW.block | apply AW.skip | apply AW.exit | apply AW.scope | apply AW.label | apply AWL.nil | apply D.nil
                        | refine W.draw cx_mixed (by decide +kernel) ?_
                        | ((first | (apply W.step cx_ok; decide) | (apply D.step cx_ok; decide; decide) | (apply W.gS; rfl; decide) | (apply D.gS; rfl; decide; decide) | apply AW.cond); (simp (disch := omega) only [push_cast, simprocAttr, hS, hZ, hk, hg, hk12, hwF, hN, n0, n1, n2, hgw, hgw2, haF, hbT, hbk, hbB, hkw, c1, hy, hs0, hdo, hq] <;> rfl); all_goals try ((with_reducible intro hI); try first | (cases hI; done) | (simp only [INTS, not_true_eq_false] at hI; try first | (exfalso; omega) | (have hT : True := hI; clear hT hI))))
                        | ((first | (apply W.gU; rfl; decide) | (apply D.gU; rfl; decide; decide)); (simp (disch := omega) only [push_cast, simprocAttr, hS, hZ, hk, hg, hk12, hwF, hN, n0, n1, n2, hgw, hgw2, haF, hbT, hbk, hbB, hkw, c1, hy, hs0, hdo, hq] <;> rfl))
                        | (apply W.append cx_ok; decide; rfl; rfl; rfl; decide; (iterate 3 (simp (disch := omega) only [push_cast, simprocAttr, hS, hZ, hk, hg, hk12, hwF, hN, n0, n1, n2, hgw, hgw2, haF, hbT, hbk, hbB, hkw, c1, hy, hs0, hdo, hq] <;> rfl)); simp; (rfl); ((try dsimp only); (try simp only [List.length_map, List.length_append, List.length_cons, List.length_nil]); omega); ((try dsimp only); (try simp only [List.length_map, List.length_append, List.length_cons, List.length_nil]); omega))
                        | ((first | (apply W.callv cx_ok; decide) | (apply D.callv cx_ok; decide; decide)); (iterate 2 (simp (disch := omega) only [push_cast, simprocAttr, hS, hZ, hk, hg, hk12, hwF, hN, n0, n1, n2, hgw, hgw2, haF, hbT, hbk, hbB, hkw, c1, hy, hs0, hdo, hq] <;> rfl)); (with_reducible first | exact right_ok _ hn | exact sanity_ok | exact Time_ok _ | exact some_ok _ _ (by omega) | exact NextOpen_ok _ _ _ hfit); try first | rfl | (simp (disch := omega) only [push_cast, simprocAttr, hS, hZ, hk, hg, hk12, hwF, hN, n0, n1, n2, hgw, hgw2, haF, hbT, hbk, hbB, hkw, c1, hy, hs0, hdo, hq] <;> rfl))
                        | ((first | apply W.ret1 | apply W.end1); (iterate 2 (try (simp (disch := omega) only [push_cast, simprocAttr, hS, hZ, hk, hg, hk12, hwF, hN, n0, n1, n2, hgw, hgw2, haF, hbT, hbk, hbB, hkw, c1, hy, hs0, hdo, hq] <;> rfl))))
                      all_goals first
                        | (refine ⟨p, now, L, hp1, hp2, hp3, (by omega), ?_, ?_, ?_, ?_, ?_, ?_, ?_, ?_, ?_⟩; all_goals first | (simp (disch := omega) only [push_cast, simprocAttr, hS, hZ, hk, hg, hk12, hwF, hN, n0, n1, n2, hgw, hgw2, haF, hbT, hbk, hbB, hkw, c1, hy, hs0, hdo, hq] <;> first | rfl | omega) | omega)
                        | (refine ⟨rest.length, ?_, k + 1, w.a, s1 + w.back, L ++ [⟨N, true, s1⟩], rest, rfl, hd', o1, (by omega), (hst (by omega) (by omega)), (by simp; omega), (by omega), ?_, ?_, ?_, ?_, ?_, ?_, ?_, ?_, ?_, ?_, ?_, ?_⟩; ((simp only [List.length_cons] at *; omega)); all_goals first | (simp (disch := omega) only [push_cast, simprocAttr, hS, hZ, hk, hg, hk12, hwF, hN, n0, n1, n2, hgw, hgw2, haF, hbT, hbk, hbB, hkw, c1, hy, hs0, hdo, hq, List.length_cons, List.length_nil, pure_steps, take_map_all] <;> first | rfl | omega) | omega)
                    ·
                      have hs2 : s1 = s0 := by rw [← hs1]; unfold House.nextAt; rw [if_neg hdo]
                      subst hs2
                      repeat' first
                        | apply AW.seq | apply AW.region | apply AW.ret | apply AW.block | apply AW.skip | apply AW.exit | apply AW.scope | apply AW.label | apply AWL.nil | apply D.nil
                        | refine W.draw cx_mixed (by decide +kernel) ?_
                        | ((first | (apply W.step cx_ok; decide) | (apply D.step cx_ok; decide; decide) | (apply W.gS; rfl; decide) | (apply D.gS; rfl; decide; decide) | apply AW.cond); (simp (disch := omega) only [push_cast, simprocAttr, hS, hZ, hk, hg, hk12, hwF, hN, n0, n1, n2, hgw, hgw2, haF, hbT, hbk, hbB, hkw, c1, hy, hs0, hdo] <;> rfl); all_goals try ((with_reducible intro hI); try first | (cases hI; done) | (simp only [INTS, not_true_eq_false] at hI; try first | (exfalso; omega) | (have hT : True := hI; clear hT hI))))
                        | ((first | (apply W.gU; rfl; decide) | (apply D.gU; rfl; decide; decide)); (simp (disch := omega) only [push_cast, simprocAttr, hS, hZ, hk, hg, hk12, hwF, hN, n0, n1, n2, hgw, hgw2, haF, hbT, hbk, hbB, hkw, c1, hy, hs0, hdo] <;> rfl))
                        | (apply W.append cx_ok; decide; rfl; rfl; rfl; decide; (iterate 3 (simp (disch := omega) only [push_cast, simprocAttr, hS, hZ, hk, hg, hk12, hwF, hN, n0, n1, n2, hgw, hgw2, haF, hbT, hbk, hbB, hkw, c1, hy, hs0, hdo] <;> rfl)); simp; (rfl); ((try dsimp only); (try simp only [List.length_map, List.length_append, List.length_cons, List.length_nil]); omega); ((try dsimp only); (try simp only [List.length_map, List.length_append, List.length_cons, List.length_nil]); omega))
                        | ((first | (apply W.callv cx_ok; decide) | (apply D.callv cx_ok; decide; decide)); (iterate 2 (simp (disch := omega) only [push_cast, simprocAttr, hS, hZ, hk, hg, hk12, hwF, hN, n0, n1, n2, hgw, hgw2, haF, hbT, hbk, hbB, hkw, c1, hy, hs0, hdo] <;> rfl)); (with_reducible first | exact right_ok _ hn | exact sanity_ok | exact Time_ok _ | exact some_ok _ _ (by omega) | exact NextOpen_ok _ _ _ hfit); try first | rfl | (simp (disch := omega) only [push_cast, simprocAttr, hS, hZ, hk, hg, hk12, hwF, hN, n0, n1, n2, hgw, hgw2, haF, hbT, hbk, hbB, hkw, c1, hy, hs0, hdo] <;> rfl))
                        | ((first | apply W.ret1 | apply W.end1); (iterate 2 (try (simp (disch := omega) only [push_cast, simprocAttr, hS, hZ, hk, hg, hk12, hwF, hN, n0, n1, n2, hgw, hgw2, haF, hbT, hbk, hbB, hkw, c1, hy, hs0, hdo] <;> rfl))))
                      all_goals first
                        | (refine ⟨p, now, L, hp1, hp2, hp3, (by omega), ?_, ?_, ?_, ?_, ?_, ?_, ?_, ?_, ?_⟩; all_goals first | (simp (disch := omega) only [push_cast, simprocAttr, hS, hZ, hk, hg, hk12, hwF, hN, n0, n1, n2, hgw, hgw2, haF, hbT, hbk, hbB, hkw, c1, hy, hs0, hdo] <;> first | rfl | omega) | omega)
                        | (refine ⟨rest.length, ?_, k + 1, w.a, s1 + w.back, L ++ [⟨N, true, s1⟩], rest, rfl, hd', o1, (by omega), (hst (by omega) (by omega)), (by simp; omega), (by omega), ?_, ?_, ?_, ?_, ?_, ?_, ?_, ?_, ?_, ?_, ?_, ?_⟩; ((simp only [List.length_cons] at *; omega)); all_goals first | (simp (disch := omega) only [push_cast, simprocAttr, hS, hZ, hk, hg, hk12, hwF, hN, n0, n1, n2, hgw, hgw2, haF, hbT, hbk, hbB, hkw, c1, hy, hs0, hdo, List.length_cons, List.length_nil, pure_steps, take_map_all] <;> first | rfl | omega) | omega)
                  ·
                    have c1 : ¬ ((k : Int) < (wt.length : Int)) := by omega
                    obtain ⟨s0, hs0⟩ : ∃ z, now = z := ⟨_, rfl⟩
                    have hs0b : now ≤ s0 ∧ s0 ≤ now + 3000 := by omega
                    obtain ⟨s1, hs1⟩ : ∃ z, h.nextAt ⟨N, true, w.b, w.a, w.back, w.door⟩ s0 = z := ⟨_, rfl⟩
                    have hgo := gate_ok hv (hgb (by omega))
                    have hsb : s0 ≤ 1073741823 → s0 ≤ s1 ∧ s1 ≤ 1073741824 := fun hm0 => by rw [← hs1]; exact nextAt_ge hv hgo (by omega) (by omega)
                    have hst : s0 ≤ 1073741823 → s1 + w.back ≤ 1073741823 → walkR h (L ++ [⟨N, true, s1⟩]) F t = (w.a, s1 + w.back, 0) := fun hm0 hm1 => by
                      have := walked_step hc (hgb (by omega)) hbE hp3 hp2.1 hs0b.1 hm0 (by rw [hs1]; exact hm1)
                      rw [hs1] at this; exact this
                    subst hs0
                    by_cases hdo : 0 ≤ w.door
                    ·
                      have hq : now ≤ 1073741823 → nextOpenH h w.door now = (s1, 0) := fun hm0 => by
                        have hde : doorE h w.door [now] = 0 := by
                          unfold doorE
                          rw [if_neg (fun hh => hh.2 ⟨hdo, o6.2⟩)]
                          unfold askedE
                          have htb : timeB now = true := by simp only [timeB, Bool.and_eq_true, decide_eq_true_eq]; omega
                          simp [hc, htb]
                        unfold nextOpenH
                        rw [if_neg (by simp [hde]), ← hs1]
                        unfold House.nextAt
                        rw [if_pos hdo]
                      repeat' first
                        | apply AW.seq | apply AW.region | apply AW.ret | apply AW.block | apply AW.skip | apply AW.exit | apply AW.scope | apply AW.label | apply AWL.nil | apply D.nil
                        | refine W.draw cx_mixed (by decide +kernel) ?_
                        | ((first | (apply W.step cx_ok; decide) | (apply D.step cx_ok; decide; decide) | (apply W.gS; rfl; decide) | (apply D.gS; rfl; decide; decide) | apply AW.cond); (simp (disch := omega) only [push_cast, simprocAttr, hS, hZ, hk, hg, hk12, hwF, hN, n0, n1, n2, hgw, hgw2, haF, hbT, hbk, hbB, c1, hdo, hq] <;> rfl); all_goals try ((with_reducible intro hI); try first | (cases hI; done) | (simp only [INTS, not_true_eq_false] at hI; try first | (exfalso; omega) | (have hT : True := hI; clear hT hI))))
                        | ((first | (apply W.gU; rfl; decide) | (apply D.gU; rfl; decide; decide)); (simp (disch := omega) only [push_cast, simprocAttr, hS, hZ, hk, hg, hk12, hwF, hN, n0, n1, n2, hgw, hgw2, haF, hbT, hbk, hbB, c1, hdo, hq] <;> rfl))
                        | (apply W.append cx_ok; decide; rfl; rfl; rfl; decide; (iterate 3 (simp (disch := omega) only [push_cast, simprocAttr, hS, hZ, hk, hg, hk12, hwF, hN, n0, n1, n2, hgw, hgw2, haF, hbT, hbk, hbB, c1, hdo, hq] <;> rfl)); simp; (rfl); ((try dsimp only); (try simp only [List.length_map, List.length_append, List.length_cons, List.length_nil]); omega); ((try dsimp only); (try simp only [List.length_map, List.length_append, List.length_cons, List.length_nil]); omega))
                        | ((first | (apply W.callv cx_ok; decide) | (apply D.callv cx_ok; decide; decide)); (iterate 2 (simp (disch := omega) only [push_cast, simprocAttr, hS, hZ, hk, hg, hk12, hwF, hN, n0, n1, n2, hgw, hgw2, haF, hbT, hbk, hbB, c1, hdo, hq] <;> rfl)); (with_reducible first | exact right_ok _ hn | exact sanity_ok | exact Time_ok _ | exact some_ok _ _ (by omega) | exact NextOpen_ok _ _ _ hfit); try first | rfl | (simp (disch := omega) only [push_cast, simprocAttr, hS, hZ, hk, hg, hk12, hwF, hN, n0, n1, n2, hgw, hgw2, haF, hbT, hbk, hbB, c1, hdo, hq] <;> rfl))
                        | ((first | apply W.ret1 | apply W.end1); (iterate 2 (try (simp (disch := omega) only [push_cast, simprocAttr, hS, hZ, hk, hg, hk12, hwF, hN, n0, n1, n2, hgw, hgw2, haF, hbT, hbk, hbB, c1, hdo, hq] <;> rfl))))
                      all_goals first
                        | (refine ⟨p, now, L, hp1, hp2, hp3, (by omega), ?_, ?_, ?_, ?_, ?_, ?_, ?_, ?_, ?_⟩; all_goals first | (simp (disch := omega) only [push_cast, simprocAttr, hS, hZ, hk, hg, hk12, hwF, hN, n0, n1, n2, hgw, hgw2, haF, hbT, hbk, hbB, c1, hdo, hq] <;> first | rfl | omega) | omega)
                        | (refine ⟨rest.length, ?_, k + 1, w.a, s1 + w.back, L ++ [⟨N, true, s1⟩], rest, rfl, hd', o1, (by omega), (hst (by omega) (by omega)), (by simp; omega), (by omega), ?_, ?_, ?_, ?_, ?_, ?_, ?_, ?_, ?_, ?_, ?_, ?_⟩; ((simp only [List.length_cons] at *; omega)); all_goals first | (simp (disch := omega) only [push_cast, simprocAttr, hS, hZ, hk, hg, hk12, hwF, hN, n0, n1, n2, hgw, hgw2, haF, hbT, hbk, hbB, c1, hdo, hq, List.length_cons, List.length_nil, pure_steps, take_map_all] <;> first | rfl | omega) | omega)
                    ·
                      have hs2 : s1 = now := by rw [← hs1]; unfold House.nextAt; rw [if_neg hdo]
                      repeat' first
                        | apply AW.seq | apply AW.region | apply AW.ret | apply AW.block | apply AW.skip | apply AW.exit | apply AW.scope | apply AW.label | apply AWL.nil | apply D.nil
                        | refine W.draw cx_mixed (by decide +kernel) ?_
                        | ((first | (apply W.step cx_ok; decide) | (apply D.step cx_ok; decide; decide) | (apply W.gS; rfl; decide) | (apply D.gS; rfl; decide; decide) | apply AW.cond); (simp (disch := omega) only [push_cast, simprocAttr, hS, hZ, hk, hg, hk12, hwF, hN, n0, n1, n2, hgw, hgw2, haF, hbT, hbk, hbB, c1, hdo, hs2] <;> rfl); all_goals try ((with_reducible intro hI); try first | (cases hI; done) | (simp only [INTS, not_true_eq_false] at hI; try first | (exfalso; omega) | (have hT : True := hI; clear hT hI))))
                        | ((first | (apply W.gU; rfl; decide) | (apply D.gU; rfl; decide; decide)); (simp (disch := omega) only [push_cast, simprocAttr, hS, hZ, hk, hg, hk12, hwF, hN, n0, n1, n2, hgw, hgw2, haF, hbT, hbk, hbB, c1, hdo, hs2] <;> rfl))
                        | (apply W.append cx_ok; decide; rfl; rfl; rfl; decide; (iterate 3 (simp (disch := omega) only [push_cast, simprocAttr, hS, hZ, hk, hg, hk12, hwF, hN, n0, n1, n2, hgw, hgw2, haF, hbT, hbk, hbB, c1, hdo, hs2] <;> rfl)); simp; (rfl); ((try dsimp only); (try simp only [List.length_map, List.length_append, List.length_cons, List.length_nil]); omega); ((try dsimp only); (try simp only [List.length_map, List.length_append, List.length_cons, List.length_nil]); omega))
                        | ((first | (apply W.callv cx_ok; decide) | (apply D.callv cx_ok; decide; decide)); (iterate 2 (simp (disch := omega) only [push_cast, simprocAttr, hS, hZ, hk, hg, hk12, hwF, hN, n0, n1, n2, hgw, hgw2, haF, hbT, hbk, hbB, c1, hdo, hs2] <;> rfl)); (with_reducible first | exact right_ok _ hn | exact sanity_ok | exact Time_ok _ | exact some_ok _ _ (by omega) | exact NextOpen_ok _ _ _ hfit); try first | rfl | (simp (disch := omega) only [push_cast, simprocAttr, hS, hZ, hk, hg, hk12, hwF, hN, n0, n1, n2, hgw, hgw2, haF, hbT, hbk, hbB, c1, hdo, hs2] <;> rfl))
                        | ((first | apply W.ret1 | apply W.end1); (iterate 2 (try (simp (disch := omega) only [push_cast, simprocAttr, hS, hZ, hk, hg, hk12, hwF, hN, n0, n1, n2, hgw, hgw2, haF, hbT, hbk, hbB, c1, hdo, hs2] <;> rfl))))
                      all_goals first
                        | (refine ⟨p, now, L, hp1, hp2, hp3, (by omega), ?_, ?_, ?_, ?_, ?_, ?_, ?_, ?_, ?_⟩; all_goals first | (simp (disch := omega) only [push_cast, simprocAttr, hS, hZ, hk, hg, hk12, hwF, hN, n0, n1, n2, hgw, hgw2, haF, hbT, hbk, hbB, c1, hdo, hs2] <;> first | rfl | omega) | omega)
                        | (refine ⟨rest.length, ?_, k + 1, w.a, s1 + w.back, L ++ [⟨N, true, s1⟩], rest, rfl, hd', o1, (by omega), (hst (by omega) (by omega)), (by simp; omega), (by omega), ?_, ?_, ?_, ?_, ?_, ?_, ?_, ?_, ?_, ?_, ?_, ?_⟩; ((simp only [List.length_cons] at *; omega)); all_goals first | (simp (disch := omega) only [push_cast, simprocAttr, hS, hZ, hk, hg, hk12, hwF, hN, n0, n1, n2, hgw, hgw2, haF, hbT, hbk, hbB, c1, hdo, hs2, List.length_cons, List.length_nil, pure_steps, take_map_all] <;> first | rfl | omega) | omega)
              · have hbF : (w.b = p) = False := eq_false hb
                repeat' first
                  | apply AW.seq | apply AW.region | apply AW.ret | apply AW.block | apply AW.skip | apply AW.exit | apply AW.scope | apply AW.label | apply AWL.nil | apply D.nil
                  | refine W.draw cx_mixed (by decide +kernel) ?_
                  | ((first | (apply W.step cx_ok; decide) | (apply D.step cx_ok; decide; decide) | (apply W.gS; rfl; decide) | (apply D.gS; rfl; decide; decide) | apply AW.cond); (simp (disch := omega) only [push_cast, simprocAttr, hS, hZ, hk, hg, hk12, hwF, hN, n0, n1, n2, hgw, hgw2, haF, hbF] <;> rfl); all_goals try ((with_reducible intro hI); try first | (cases hI; done) | (simp only [INTS, not_true_eq_false] at hI; try first | (exfalso; omega) | (have hT : True := hI; clear hT hI))))
                  | ((first | (apply W.gU; rfl; decide) | (apply D.gU; rfl; decide; decide)); (simp (disch := omega) only [push_cast, simprocAttr, hS, hZ, hk, hg, hk12, hwF, hN, n0, n1, n2, hgw, hgw2, haF, hbF] <;> rfl))
                  | ((first | (apply W.callv cx_ok; decide) | (apply D.callv cx_ok; decide; decide)); (iterate 2 (simp (disch := omega) only [push_cast, simprocAttr, hS, hZ, hk, hg, hk12, hwF, hN, n0, n1, n2, hgw, hgw2, haF, hbF] <;> rfl)); (with_reducible first | exact right_ok _ hn | exact sanity_ok | exact Time_ok _ | exact some_ok _ _ (by omega) | exact NextOpen_ok _ _ _ hfit); try first | rfl | (simp (disch := omega) only [push_cast, simprocAttr, hS, hZ, hk, hg, hk12, hwF, hN, n0, n1, n2, hgw, hgw2, haF, hbF] <;> rfl))
                  | ((first | apply W.ret1 | apply W.end1); (iterate 2 (try (simp (disch := omega) only [push_cast, simprocAttr, hS, hZ, hk, hg, hk12, hwF, hN, n0, n1, n2, hgw, hgw2, haF, hbF] <;> rfl))))
                all_goals (refine ⟨rest.length, ?_, k + 1, p, now, L, rest, rfl, hd', hp1, hp2, hp3, (by omega), (by omega), ?_, ?_, ?_, ?_, ?_, ?_, ?_, ?_, ?_, ?_, ?_, ?_⟩; ((simp only [List.length_cons] at *; omega)); all_goals first | (simp (disch := omega) only [push_cast, simprocAttr, hS, hZ, hk, hg, hk12, hwF, hN, n0, n1, n2, hgw, hgw2, haF, hbF] <;> first | rfl | omega) | omega)
        ·
          repeat' first
            | apply AW.seq | apply AW.region | apply AW.ret | apply AW.block | apply AW.skip | apply AW.exit | apply AW.scope | apply AW.label | apply AWL.nil | apply D.nil
            | refine W.draw cx_mixed (by decide +kernel) ?_
            | ((first | (apply W.step cx_ok; decide) | (apply D.step cx_ok; decide; decide) | (apply W.gS; rfl; decide) | (apply D.gS; rfl; decide; decide) | apply AW.cond); (simp (disch := omega) only [push_cast, simprocAttr, hS, hZ, hk, hg, hk12] <;> rfl); all_goals try ((with_reducible intro hI); try first | (cases hI; done) | (simp only [INTS, not_true_eq_false] at hI; try first | (exfalso; omega) | (have hT : True := hI; clear hT hI))))
            | ((first | (apply W.gU; rfl; decide) | (apply D.gU; rfl; decide; decide)); (simp (disch := omega) only [push_cast, simprocAttr, hS, hZ, hk, hg, hk12] <;> rfl))
            | ((first | apply W.ret1 | apply W.end1); (iterate 2 (try (simp (disch := omega) only [push_cast, simprocAttr, hS, hZ, hk, hg, hk12] <;> rfl))))
          all_goals (refine ⟨p, now, L, hp1, hp2, hp3, (by omega), ?_, ?_, ?_, ?_, ?_, ?_, ?_, ?_, ?_⟩; all_goals first | (simp (disch := omega) only [push_cast, simprocAttr, hS, hZ, hk, hg, hk12] <;> first | rfl | omega) | omega)
    ·
      have hta' : (decide (0 ≤ t) && decide (t ≤ 1073741823)) = false := by simpa using hta
      refine OKat.of_body (rs := [10]) Tryd.func15 rfl (by decide +kernel) rfl (by simp [Tryd.ntmps15]) ?_
      simp only [Tryd.ntmps15]
      repeat' first
        | apply AW.seq | apply AW.region | apply AW.ret | apply AW.block | apply AW.skip | apply AW.exit | apply AW.scope | apply AW.label | apply AWL.nil | apply D.nil
        | refine W.draw cx_mixed (by decide +kernel) ?_
        | ((first | (apply W.step cx_ok; decide) | (apply D.step cx_ok; decide; decide) | (apply W.gS; rfl; decide) | (apply D.gS; rfl; decide; decide) | apply AW.cond); (simp (disch := omega) only [push_cast, simprocAttr, hr, hta'] <;> rfl); all_goals try ((with_reducible intro hI); try first | (cases hI; done) | (simp only [INTS, not_true_eq_false] at hI; try first | (exfalso; omega) | (have hT : True := hI; clear hT hI))))
        | ((first | (apply W.gU; rfl; decide) | (apply D.gU; rfl; decide; decide)); (simp (disch := omega) only [push_cast, simprocAttr, hr, hta'] <;> rfl))
        | ((first | (apply W.callv cx_ok; decide) | (apply D.callv cx_ok; decide; decide)); (iterate 2 (simp (disch := omega) only [push_cast, simprocAttr, hr, hta'] <;> rfl)); (with_reducible first | exact right_ok _ hn | exact sanity_ok | exact Time_ok _); try first | rfl | (simp (disch := omega) only [push_cast, simprocAttr, hr, hta'] <;> rfl))
        | ((first | apply W.ret1 | apply W.end1); (iterate 2 (try (simp (disch := omega) only [push_cast, simprocAttr, hr, hta'] <;> rfl))))
      all_goals (show _ = _; first | rfl | (simp_all; done))
  ·
    have hr' : (few h && decide ((Check h).1 = 0)) = false := by simpa using hr
    refine OKat.of_body (rs := [10]) Tryd.func15 rfl (by decide +kernel) rfl (by simp [Tryd.ntmps15]) ?_
    simp only [Tryd.ntmps15]
    repeat' first
      | apply AW.seq | apply AW.region | apply AW.ret | apply AW.block | apply AW.skip | apply AW.exit | apply AW.scope | apply AW.label | apply AWL.nil | apply D.nil
      | refine W.draw cx_mixed (by decide +kernel) ?_
      | ((first | (apply W.step cx_ok; decide) | (apply D.step cx_ok; decide; decide) | (apply W.gS; rfl; decide) | (apply D.gS; rfl; decide; decide) | apply AW.cond); (simp (disch := omega) only [push_cast, simprocAttr, hr'] <;> rfl); all_goals try ((with_reducible intro hI); try first | (cases hI; done) | (simp only [INTS, not_true_eq_false] at hI; try first | (exfalso; omega) | (have hT : True := hI; clear hT hI))))
      | ((first | (apply W.gU; rfl; decide) | (apply D.gU; rfl; decide; decide)); (simp (disch := omega) only [push_cast, simprocAttr, hr'] <;> rfl))
      | ((first | (apply W.callv cx_ok; decide) | (apply D.callv cx_ok; decide; decide)); (iterate 2 (simp (disch := omega) only [push_cast, simprocAttr, hr'] <;> rfl)); (with_reducible first | exact right_ok _ hn | exact sanity_ok | exact Time_ok _); try first | rfl | (simp (disch := omega) only [push_cast, simprocAttr, hr'] <;> rfl))
      | ((first | apply W.ret1 | apply W.end1); (iterate 2 (try (simp (disch := omega) only [push_cast, simprocAttr, hr'] <;> rfl))))
    all_goals (show _ = _; first | rfl | (simp_all; done))

end Go.Proofs.Hs
