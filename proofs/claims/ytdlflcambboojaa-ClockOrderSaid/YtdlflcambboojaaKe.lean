/-
  Contracts of functions, proved by going through their code. No conditions.
-/
import Derived.Test.YtdlflcambboojaaKa
import Derived.Test.YtdlflcambboojaaKb
import Derived.Test.YtdlflcambboojaaKd
set_option maxHeartbeats 8000000
set_option linter.unusedSimpArgs false
set_option linter.unusedVariables false
set_option maxRecDepth 10000
namespace Go.Proofs.Ks
open Go Go.Pg Go.Proofs
theorem OKm.nilArg {C : Cx} {f : FuncId} {x : AV} {H : Nat → Option AO} {nx : Nat} {Q : AV → (Nat → Option AO) → Nat → Prop} (h : OKm C f [x, .lst []] H nx Q) : OKm C f [x, .v (.slice none 0 0)] H nx Q :=
  ⟨h.1, fun S0 w0 w σ vals hE hi hnx hb hs hr => h.2 S0 w0 w σ vals hE hi hnx hb hs (by
    simp only [RepL] at hr ⊢
    obtain ⟨a, ⟨u, hu, hru⟩, _⟩ := hr
    refine ⟨a, ⟨u, hu, ?_⟩, trivial⟩
    simp only [Rep] at hru ⊢
    exact ⟨none, 0, 0, hru, Nat.le_refl _, Nat.zero_le _, fun e he => (by cases he), fun h => absurd rfl h⟩)⟩
theorem linksR_len9 {r : Rec} (hv : r.V) {more : List Int} (hml : more.length ≤ 8) (hmb : ∀ a ∈ more, 0 ≤ a ∧ a ≤ 43200) : (linksR r more).length ≤ 9000 := by
  have hnl := nodesR_len r more
  have hmk := marksR_len r more
  have hns := hv.nstrikes
  have hng := hv.nsights
  have h3 : 3 + r.strikes.length ≤ (nodesR r more).length := by omega
  obtain ⟨_, s2⟩ := sgL_ok hv h3 r.sights (fun _ h => h)
  obtain ⟨_, w2⟩ := rwL_ok h3 (r.strikes.length + 1) 0 (by omega)
  obtain ⟨_, n2⟩ := ndL_ok (r := r) (more := more) r.strikes 0 (by omega) (fun _ h => h)
  obtain ⟨_, p2⟩ := pairsL_ok hv.r (n := (nodesR r more).length) (marksR r more) (3 + r.strikes.length) (by omega) (marksR_sorted r more) (fun y h => marksR_bound hv hmb h)
  have hp : 2 * (marksR r more).length * (marksR r more).length ≤ 2 * 36 * 36 := Nat.mul_le_mul (by omega) (by omega)
  unfold linksR
  simp only [List.length_append, bothL_len, needleL_len, s2, w2, n2]
  omega
def okT (t : Int) : Bool := decide (0 ≤ t) && decide (t ≤ 1073741823)
def fitL : Nat → List Int → List Lk
  | _, [] => []
  | i, t :: l => ⟨0, 3 + i, t⟩ :: ⟨3 + i, 0, -t⟩ :: fitL (i + 1) l
theorem fitL_snoc (t : Int) : ∀ (l : List Int) (i : Nat), fitL i (l ++ [t]) = fitL i l ++ [⟨0, 3 + (i + l.length), t⟩, ⟨3 + (i + l.length), 0, -t⟩]
  | [], i => rfl
  | x :: l, i => by
    simp only [List.cons_append, fitL, fitL_snoc t l (i + 1), List.length_cons]
    rw [show i + 1 + l.length = i + (l.length + 1) by omega]
theorem fitL_len : ∀ (l : List Int) (i : Nat), (fitL i l).length = 2 * l.length
  | [], _ => rfl
  | x :: l, i => by simp only [fitL, List.length_cons, fitL_len l (i + 1)]; omega
theorem fitL_ok {n : Nat} : ∀ (l : List Int) (i : Nat), 3 + i + l.length ≤ n → (∀ t ∈ l, 0 ≤ t ∧ t ≤ 1073741823) → ∀ x ∈ fitL i l, (x.a < n ∧ x.b < n) ∧ (-1073741823 ≤ x.m ∧ x.m ≤ 1073741823)
  | [], _, _, _, x, hx => by simp [fitL] at hx
  | t :: l, i, hn, hl, x, hx => by
    simp only [List.length_cons] at hn
    have ht := hl t (by simp)
    unfold fitL at hx
    rcases List.mem_cons.1 hx with rfl | hx
    · dsimp only; omega
    · rcases List.mem_cons.1 hx with rfl | hx
      · dsimp only; omega
      · exact fitL_ok l (i + 1) (by omega) (fun t ht => hl t (by simp [ht])) x hx
def fitsP (r : Rec) (ts : List Int) : Bool × Int :=
  if checkE r = 0 then (if ts.length = r.strikes.length then (if ts.all okT = true then (decide ((lengthsF (nodesR r []).length (linksR r [] ++ fitL 0 ts) (-1)).2.2 < 0), 0) else (false, 1)) else (false, 1)) else (false, checkE r)
theorem Fits_ok (r : Rec) (ts : List Int) (hlt : ts.length ≤ 1099511627776) : OKv cx 53 [.agg (eRec r), lInt ts] (.tup [ab (fitsP r ts).1, ai (fitsP r ts).2]) := by
  unfold fitsP
  by_cases hc : checkE r = 0
  · rw [if_pos hc]
    have hv := checkE_V hc
    have hns := hv.nstrikes
    by_cases hl : ts.length = r.strikes.length
    · have hlI : ((ts.length : Int) = (r.strikes.length : Int)) = True := eq_true (by omega)
      rw [if_pos hl]
      cases hall : ts.all okT with
      | false =>
        rw [if_neg (by decide)]
        refine OKat.of_body (rs := [4, 5]) Try.func53 rfl (by decide +kernel) rfl (by simp [Try.ntmps53]) ?_
        simp only [Try.ntmps53]
        repeat' first
          | apply AW.seq | apply AW.region | apply AW.ret | apply AW.block | apply AW.skip | apply AW.exit | apply AW.scope | apply AW.label | apply AWL.nil
          | ((first | (apply W.step cx_ok; decide) | apply W.store cx_ok | (apply W.gS; rfl; decide) | apply AW.cond); (simp (disch := omega) only [push_cast, simprocAttr, hc, hlI] <;> rfl); all_goals try ((with_reducible intro hI); try first | (cases hI; done) | (simp only [INTS, zL] at hI; try first | (exfalso; omega) | (have hT : True := hI; clear hT hI))))
          | ((apply W.callv cx_ok; decide); (iterate 2 (simp (disch := omega) only [push_cast, simprocAttr, hc, hlI] <;> rfl)); (with_reducible first | exact Check_ok r); try first | rfl | (simp (disch := omega) only [push_cast, simprocAttr, hc, hlI] <;> rfl))
          | ((first | apply W.ret2 | apply W.end2); (iterate 2 (try (simp (disch := omega) only [push_cast, simprocAttr, hc, hlI] <;> rfl))))

        refine AW.loop (fun n s => ∃ (k : Nat) (rest : List Int), n = rest.length ∧ (ts.drop k = rest) ∧ (rest.all okT = ts.all okT) ∧ 1 ≤ s.nx ∧ s.tm 1 = lInt ts ∧ s.tm 2 = .ptr 0 0 0 1 ∧ s.tm 24 = lInt ts ∧ s.tm 25 = ai ts.length ∧ s.tm 26 = ai k ∧ Pg.rowAt s.H 0 = some { k := 14, es := [eRec r], ty := 30 }) (ts.length) ⟨0, ts, rfl, rfl, rfl, ?_, ?_, ?_, ?_, ?_, ?_, ?_⟩ ?_
        iterate 7 (first | (simp (disch := omega) only [push_cast, simprocAttr, hc, hlI] <;> first | rfl | omega) | omega)
        rintro n0 s0 ⟨k0, rest0, hn0, hp00, hp10, hnl0, hS0⟩
        rcases rest0 with _ | ⟨x, rest0⟩
        · rw [hall] at hp10; cases hp10
        · obtain ⟨hk, hg, hd', hl', hm', hx⟩ := drop_cons hp00 eInt []
          rw [List.all_cons] at hp10
          cases hx0 : okT x with
          | true =>
            have hx1 := hx0
            unfold okT at hx1
            simp only [Bool.and_eq_true, decide_eq_true_eq] at hx1
            obtain ⟨x1, x2⟩ := hx1
            rw [hx0, Bool.true_and] at hp10
            repeat' first
              | apply AW.seq | apply AW.region | apply AW.ret | apply AW.block | apply AW.skip | apply AW.exit | apply AW.scope | apply AW.label | apply AWL.nil
              | ((first | (apply W.step cx_ok; decide) | apply W.store cx_ok | (apply W.gS; rfl; decide) | apply AW.cond); (simp (disch := omega) only [push_cast, simprocAttr, hS0, hk, hg, hx, x1, x2] <;> rfl); all_goals try ((with_reducible intro hI); try first | (cases hI; done) | (simp only [INTS, zL] at hI; try first | (exfalso; omega) | (have hT : True := hI; clear hT hI))))
              | ((first | apply W.ret2 | apply W.end2); (iterate 2 (try (simp (disch := omega) only [push_cast, simprocAttr, hS0, hk, hg, hx, x1, x2] <;> rfl))))

            all_goals (refine ⟨rest0.length, ?_, k0 + 1, rest0, rfl, hd', hp10, ?_, ?_, ?_, ?_, ?_, ?_, ?_⟩; ((simp only [List.length_cons] at *; omega)); all_goals first | (simp (disch := omega) only [push_cast, simprocAttr, hS0, hk, hg, hx, x1, x2] <;> first | rfl | omega) | omega)
          | false =>
            have hx1 : ¬ (0 ≤ x ∧ x ≤ 1073741823) := fun h => by unfold okT at hx0; simp [h.1, h.2] at hx0
            repeat' first
              | apply AW.seq | apply AW.region | apply AW.ret | apply AW.block | apply AW.skip | apply AW.exit | apply AW.scope | apply AW.label | apply AWL.nil
              | ((first | (apply W.step cx_ok; decide) | apply W.store cx_ok | (apply W.gS; rfl; decide) | apply AW.cond); (simp (disch := omega) only [push_cast, simprocAttr, hS0, hk, hg, hx] <;> rfl); all_goals try ((with_reducible intro hI); try first | (cases hI; done) | (simp only [INTS, zL] at hI; try first | (exfalso; omega) | (have hT : True := hI; clear hT hI))))
              | ((first | apply W.ret2 | apply W.end2); (iterate 2 (try (simp (disch := omega) only [push_cast, simprocAttr, hS0, hk, hg, hx] <;> rfl))))

            all_goals first
              | (exfalso; omega)
              | (show _ = _; rfl)
      | true =>
        rw [if_pos rfl]
        have hokT : ∀ t ∈ ts, 0 ≤ t ∧ t ≤ 1073741823 := fun t ht => by
          have := List.all_eq_true.1 hall t ht
          unfold okT at this
          simpa using this
        obtain ⟨h1, h2, h3, h4, h5⟩ := links_facts (more := []) hv (by decide) nomore
        have hnl := nodesR_len r []
        have hfl := fitL_len ts 0
        have hco := consistent_ok (nodesR r []) (linksR r [] ++ fitL 0 ts) h1 (by rw [List.length_append, hfl]; have := linksR_len9 (more := []) hv (by decide) nomore; omega)
          (fun l hm => (List.mem_append.1 hm).elim (h3 l) fun hm => (fitL_ok ts 0 (by omega) hokT l hm).1) (fun l hm => (List.mem_append.1 hm).elim (h4 l) fun hm => (fitL_ok (n := (nodesR r []).length) ts 0 (by omega) hokT l hm).2)
        refine OKat.of_body (rs := [4, 5]) Try.func53 rfl (by decide +kernel) rfl (by simp [Try.ntmps53]) ?_
        simp only [Try.ntmps53]
        repeat' first
          | apply AW.seq | apply AW.region | apply AW.ret | apply AW.block | apply AW.skip | apply AW.exit | apply AW.scope | apply AW.label | apply AWL.nil
          | ((first | (apply W.step cx_ok; decide) | apply W.store cx_ok | (apply W.gS; rfl; decide) | apply AW.cond); (simp (disch := omega) only [push_cast, simprocAttr, hc, hlI] <;> rfl); all_goals try ((with_reducible intro hI); try first | (cases hI; done) | (simp only [INTS, zL] at hI; try first | (exfalso; omega) | (have hT : True := hI; clear hT hI))))
          | ((apply W.callv cx_ok; decide); (iterate 2 (simp (disch := omega) only [push_cast, simprocAttr, hc, hlI] <;> rfl)); (with_reducible first | exact Check_ok r); try first | rfl | (simp (disch := omega) only [push_cast, simprocAttr, hc, hlI] <;> rfl))
          | ((first | apply W.ret2 | apply W.end2); (iterate 2 (try (simp (disch := omega) only [push_cast, simprocAttr, hc, hlI] <;> rfl))))

        refine AW.loop (fun n s => ∃ (k : Nat) (rest : List Int), n = rest.length ∧ (ts.drop k = rest) ∧ (rest.all okT = ts.all okT) ∧ 1 ≤ s.nx ∧ s.tm 1 = lInt ts ∧ s.tm 2 = .ptr 0 0 0 1 ∧ s.tm 24 = lInt ts ∧ s.tm 25 = ai ts.length ∧ s.tm 26 = ai k ∧ Pg.rowAt s.H 0 = some { k := 14, es := [eRec r], ty := 30 }) (ts.length) ⟨0, ts, rfl, rfl, rfl, ?_, ?_, ?_, ?_, ?_, ?_, ?_⟩ ?_
        iterate 7 (first | (simp (disch := omega) only [push_cast, simprocAttr, hc, hlI] <;> first | rfl | omega) | omega)
        rintro n0 s0 ⟨k0, rest0, hn0, hp00, hp10, hnl0, hS0⟩
        rcases rest0 with _ | ⟨x, rest0⟩
        rotate_left
        · obtain ⟨hk, hg, hd', hl', hm', hx⟩ := drop_cons hp00 eInt []
          obtain ⟨x1, x2⟩ := hokT x hm'
          rw [List.all_cons, List.all_eq_true.1 hall x hm', Bool.true_and] at hp10
          repeat' first
            | apply AW.seq | apply AW.region | apply AW.ret | apply AW.block | apply AW.skip | apply AW.exit | apply AW.scope | apply AW.label | apply AWL.nil
            | ((first | (apply W.step cx_ok; decide) | apply W.store cx_ok | (apply W.gS; rfl; decide) | apply AW.cond); (simp (disch := omega) only [push_cast, simprocAttr, hS0, hk, hg, hx, x1, x2] <;> rfl); all_goals try ((with_reducible intro hI); try first | (cases hI; done) | (simp only [INTS, zL] at hI; try first | (exfalso; omega) | (have hT : True := hI; clear hT hI))))
            | ((first | apply W.ret2 | apply W.end2); (iterate 2 (try (simp (disch := omega) only [push_cast, simprocAttr, hS0, hk, hg, hx, x1, x2] <;> rfl))))

          all_goals (refine ⟨rest0.length, ?_, k0 + 1, rest0, rfl, hd', hp10, ?_, ?_, ?_, ?_, ?_, ?_, ?_⟩; ((simp only [List.length_cons] at *; omega)); all_goals first | (simp (disch := omega) only [push_cast, simprocAttr, hS0, hk, hg, hx, x1, x2] <;> first | rfl | omega) | omega)
        have hk := drop_nil hp00
        repeat' first
          | apply AW.seq | apply AW.region | apply AW.ret | apply AW.block | apply AW.skip | apply AW.exit | apply AW.scope | apply AW.label | apply AWL.nil
          | ((first | (apply W.step cx_ok; decide) | apply W.store cx_ok | (apply W.gS; rfl; decide) | apply AW.cond); (simp (disch := omega) only [push_cast, simprocAttr, hS0, hk] <;> rfl); all_goals try ((with_reducible intro hI); try first | (cases hI; done) | (simp only [INTS, zL] at hI; try first | (exfalso; omega) | (have hT : True := hI; clear hT hI))))
          | ((first | apply W.ret2 | apply W.end2); (iterate 2 (try (simp (disch := omega) only [push_cast, simprocAttr, hS0, hk] <;> rfl))))

        refine W.callm cx_ok (by decide) (f := 87) (caps := []) (by simp (disch := omega) only [push_cast, simprocAttr, natNe, zI, zG, TyD.isAgg, zJ, hS0, hk] <;> rfl) (OKm.nilArg (by simp (disch := omega) only [push_cast, simprocAttr, natNe, zI, zG, TyD.isAgg, zJ, hS0, hk] <;> exact build_m r [] hv (by decide) nomore)) ?_
        rintro _ H1 nx1 ⟨rfl, hM, hn1, hf1⟩
        replace hM : SysM H1 (s0.nx + 2) (s0.nx + 4) (s0.nx + 1) (s0.nx + 5) (nodesR r []) (linksR r []) := hM
        replace hn1 : s0.nx + 6 ≤ nx1 := hn1
        repeat' first
          | apply AW.seq | apply AW.region | apply AW.ret | apply AW.block | apply AW.skip | apply AW.exit | apply AW.scope | apply AW.label | apply AWL.nil
          | ((first | (apply W.step cx_ok; decide) | apply W.store cx_ok | (apply W.gS; rfl; decide) | apply AW.cond); (simp (disch := omega) only [push_cast, simprocAttr, hS0, hk] <;> rfl); all_goals try ((with_reducible intro hI); try first | (cases hI; done) | (simp only [INTS, zL] at hI; try first | (exfalso; omega) | (have hT : True := hI; clear hT hI))))
          | ((first | apply W.ret2 | apply W.end2); (iterate 2 (try (simp (disch := omega) only [push_cast, simprocAttr, hS0, hk] <;> rfl))))

        refine AW.loop (fun n s => ∃ (k : Nat) (rest : List Int), n = rest.length ∧ (ts.drop k = rest) ∧ (k ≤ ts.length) ∧ (SysM s.H (s0.nx + 2) (s0.nx + 4) (s0.nx + 1) (s0.nx + 5) (nodesR r []) (linksR r [] ++ fitL 0 (ts.take k))) ∧ s0.nx + 6 ≤ s.nx ∧ s.tm 1 = lInt ts ∧ s.tm 9 = .ptr (s0.nx + 2) 0 0 1 ∧ s.tm 39 = lInt ts ∧ s.tm 40 = ai ts.length ∧ s.tm 41 = ai k) (ts.length) ⟨0, ts, rfl, rfl, (Nat.zero_le _), (by rw [List.take_zero, fitL, List.append_nil]; exact hM), ?_, ?_, ?_, ?_, ?_, ?_⟩ ?_
        iterate 6 (first | (simp (disch := omega) only [push_cast, simprocAttr, hS0, hk] <;> first | rfl | omega) | omega)
        rintro n2 s2 ⟨k2, rest2, hn2, hp02, hp12, hp22, hnl2, hS2⟩
        obtain ⟨m1, m2, m3, lw, m4, m5⟩ := hp22
        rcases rest2 with _ | ⟨x, rest2⟩
        rotate_left
        · obtain ⟨hk2, hg2, hd2, hl2, hm2, hx2⟩ := drop_cons hp02 eInt []
          obtain ⟨x1, x2⟩ := hokT x hm2
          have hmin : min k2 ts.length = k2 := Nat.min_eq_left hp12
          have hat : atP 3 (k2 : Int) (nodesR r []) = 3 + (k2 : Int) := atP_strike (by omega)
          have hft : fitL 0 (ts.take (k2 + 1)) = fitL 0 (ts.take k2) ++ [⟨0, 3 + k2, x⟩, ⟨3 + k2, 0, -x⟩] := by rw [take_snoc hp02, fitL_snoc, List.length_take, hmin, Nat.zero_add]
          have hfl2 := fitL_len (ts.take k2) 0
          rw [List.length_take, hmin] at hfl2
          have hLl := linksR_len9 (more := []) hv (by decide) nomore
          obtain ⟨LK, hLK⟩ : ∃ z, linksR r [] ++ fitL 0 (ts.take k2) = z := ⟨_, rfl⟩
          have hLn : LK.length ≤ 10000 := by rw [← hLK, List.length_append]; omega
          rw [hLK] at m1 m4 m5
          repeat' first
            | ((first | (apply W.callr cx_ok; decide) | (apply D.callr cx_ok; decide; decide)); (iterate 2 (simp (disch := (first | omega | (simp only [zE, zF, zD, zC, zA, zB, rwI_len, rowT_len, spanT_len, bothL_len]; omega))) only [push_cast, simprocAttr, takeM, dropM, zK, zA, zB, zN, zQ, zR, zO, zP, zT, zS, zU, leT, zH, pureL, pureA, natNe, zI, zG, TyD.isAgg, zJ, hS2, hk2, hg2, hx2, m1, m3, m5, m4, hat, yD, isEmpty_map, zV, zM, zE, zD, zC, zY, zX, zW] <;> rfl)); (exact at_r (nodesR r []) _ _ (by simp (disch := (first | omega | (simp only [zE, zF, zD, zC, zA, zB, rwI_len, rowT_len, spanT_len, bothL_len]; omega))) only [push_cast, simprocAttr, takeM, dropM, zK, zA, zB, zN, zQ, zR, zO, zP, zT, zS, zU, leT, zH, pureL, pureA, natNe, zI, zG, TyD.isAgg, zJ, hS2, hk2, hg2, hx2, m1, m3, m5, m4, hat, yD, isEmpty_map, zV, zM, zE, zD, zC, zY, zX, zW] <;> rfl) (by simp (disch := (first | omega | (simp only [zE, zF, zD, zC, zA, zB, rwI_len, rowT_len, spanT_len, bothL_len]; omega))) only [push_cast, simprocAttr, takeM, dropM, zK, zA, zB, zN, zQ, zR, zO, zP, zT, zS, zU, leT, zH, pureL, pureA, natNe, zI, zG, TyD.isAgg, zJ, hS2, hk2, hg2, hx2, m1, m3, m5, m4, hat, yD, isEmpty_map, zV, zM, zE, zD, zC, zY, zX, zW] <;> rfl)))
            | apply AW.seq | apply AW.region | apply AW.ret | apply AW.block | apply AW.skip | apply AW.exit | apply AW.scope | apply AW.label | apply AWL.nil
            | ((first | (apply W.step cx_ok; decide) | apply W.store cx_ok | (apply W.gS; rfl; decide) | apply AW.cond | apply W.mapUpdate cx_ok); (simp (disch := (first | omega | (simp only [zE, zF, zD, zC, zA, zB, rwI_len, rowT_len, spanT_len, bothL_len]; omega))) only [push_cast, simprocAttr, takeM, dropM, zK, zA, zB, zN, zQ, zR, zO, zP, zT, zS, zU, leT, zH, pureL, pureA, natNe, zI, zG, TyD.isAgg, zJ, hS2, hk2, hg2, hx2, m1, m3, m5, m4, hat, yD, isEmpty_map, zV, zM, zE, zD, zC, zY, zX, zW] <;> rfl); all_goals try ((with_reducible intro hI); try first | (cases hI; done) | (simp only [INTS, zL] at hI; try first | (exfalso; omega) | (have hT : True := hI; clear hT hI))))
            | (refine W.makeMap cx_ok (by simp only [push_cast, simprocAttr] <;> rfl) (by decide) ?_)
            | (apply W.append cx_ok; decide; rfl; rfl; rfl; decide; (iterate 3 (simp (disch := (first | omega | (simp only [zE, zF, zD, zC, zA, zB, rwI_len, rowT_len, spanT_len, bothL_len]; omega))) only [push_cast, simprocAttr, takeM, dropM, zK, zA, zB, zN, zQ, zR, zO, zP, zT, zS, zU, leT, zH, pureL, pureA, natNe, zI, zG, TyD.isAgg, zJ, hS2, hk2, hg2, hx2, m1, m3, m5, m4, hat, yD, isEmpty_map, zV, zM, zE, zD, zC, zY, zX, zW] <;> rfl)); (first | (focus (simp; done)) | (intro c hc; obtain ⟨x, _, rfl⟩ := List.mem_map.1 hc; rfl)); ((first | rfl | simp (disch := omega) only [push_cast])); ((try dsimp only); (try simp only [zF, zE, zD, zC, zA, zB, rwI_len, rowT_len, spanT_len, bothL_len]); omega); ((try dsimp only); (try simp only [zF, zE, zD, zC, zA, zB, rwI_len, rowT_len, spanT_len, bothL_len]); omega))

          all_goals (refine ⟨rest2.length, ?_, k2 + 1, rest2, rfl, hd2, (by omega), (by rw [hft, ← List.append_assoc, hLK]; refine ⟨?_, ?_, ?_, LK.length + 2, by simp, ?_⟩ <;> (simp (disch := omega) only [push_cast, simprocAttr, natNe, zI, zG, TyD.isAgg, zJ, hS2, m1, m2, m3, m5, yB, yA, isEmpty_map, zV, zM, zE, zD, zC, zY, zX, zW] <;> rfl)), ?_, ?_, ?_, ?_, ?_, ?_⟩; ((simp only [List.length_cons] at *; omega)); all_goals first | (simp (disch := omega) only [push_cast, simprocAttr, hS2, hk2, hg2, hx2, m1, m3, m5, m4, hat, natNe, zI, zG, TyD.isAgg, zJ, isEmpty_map, zV, zM, zE, zD, zC, zY, zX, zW] <;> first | rfl | omega) | omega)
        have hk2 := drop_nil hp02
        have hM2 : SysM s2.H (s0.nx + 2) (s0.nx + 4) (s0.nx + 1) (s0.nx + 5) (nodesR r []) (linksR r [] ++ fitL 0 ts) := by
          rw [List.take_of_length_le (List.drop_eq_nil_iff.1 hp02)] at m1 m4 m5
          exact ⟨m1, m2, m3, lw, m4, m5⟩
        obtain ⟨LK, hLK⟩ : ∃ z, linksR r [] ++ fitL 0 ts = z := ⟨_, rfl⟩
        rw [hLK] at hM2 hco ⊢
        repeat' first
          | apply AW.seq | apply AW.region | apply AW.ret | apply AW.block | apply AW.skip | apply AW.exit | apply AW.scope | apply AW.label | apply AWL.nil
          | ((first | (apply W.step cx_ok; decide) | apply W.store cx_ok | (apply W.gS; rfl; decide) | apply AW.cond); (simp (disch := omega) only [push_cast, simprocAttr, hS2, hk2] <;> rfl); all_goals try ((with_reducible intro hI); try first | (cases hI; done) | (simp only [INTS, zL] at hI; try first | (exfalso; omega) | (have hT : True := hI; clear hT hI))))
          | ((first | apply W.ret2 | apply W.end2); (iterate 2 (try (simp (disch := omega) only [push_cast, simprocAttr, hS2, hk2] <;> rfl))))

        refine settleM (g := s0.nx + 2) (nd := s0.nx + 4) (m := s0.nx + 1) (lk := s0.nx + 5) (N := nodesR r []) (L := LK) hM2 (by omega) (by omega) (by omega) (by omega) (by omega) fun H4 hg4 _ => ?_
        repeat' first
          | apply AW.seq | apply AW.region | apply AW.ret | apply AW.block | apply AW.skip | apply AW.exit | apply AW.scope | apply AW.label | apply AWL.nil
          | ((first | (apply W.step cx_ok; decide) | apply W.store cx_ok | (apply W.gS; rfl; decide) | apply AW.cond); (simp (disch := omega) only [push_cast, simprocAttr, hS2, hk2, hg4] <;> rfl); all_goals try ((with_reducible intro hI); try first | (cases hI; done) | (simp only [INTS, zL] at hI; try first | (exfalso; omega) | (have hT : True := hI; clear hT hI))))
          | ((apply W.callv cx_ok; decide); (iterate 2 (simp (disch := omega) only [push_cast, simprocAttr, hS2, hk2, hg4] <;> rfl)); (with_reducible first | exact hco); try first | rfl | (simp (disch := omega) only [push_cast, simprocAttr, hS2, hk2, hg4] <;> rfl))
          | ((first | apply W.ret2 | apply W.end2); (iterate 2 (try (simp (disch := omega) only [push_cast, simprocAttr, hS2, hk2, hg4] <;> rfl))))

        all_goals (show _ = _; rfl)
    · have hlI : ((ts.length : Int) = (r.strikes.length : Int)) = False := eq_false (by omega)
      rw [if_neg hl]
      refine OKat.of_body (rs := [4, 5]) Try.func53 rfl (by decide +kernel) rfl (by simp [Try.ntmps53]) ?_
      simp only [Try.ntmps53]
      repeat' first
        | apply AW.seq | apply AW.region | apply AW.ret | apply AW.block | apply AW.skip | apply AW.exit | apply AW.scope | apply AW.label | apply AWL.nil
        | ((first | (apply W.step cx_ok; decide) | apply W.store cx_ok | (apply W.gS; rfl; decide) | apply AW.cond); (simp (disch := omega) only [push_cast, simprocAttr, hc, hlI] <;> rfl); all_goals try ((with_reducible intro hI); try first | (cases hI; done) | (simp only [INTS, zL] at hI; try first | (exfalso; omega) | (have hT : True := hI; clear hT hI))))
        | ((apply W.callv cx_ok; decide); (iterate 2 (simp (disch := omega) only [push_cast, simprocAttr, hc, hlI] <;> rfl)); (with_reducible first | exact Check_ok r); try first | rfl | (simp (disch := omega) only [push_cast, simprocAttr, hc, hlI] <;> rfl))
        | ((first | apply W.ret2 | apply W.end2); (iterate 2 (try (simp (disch := omega) only [push_cast, simprocAttr, hc, hlI] <;> rfl))))

      all_goals (show _ = _; rfl)
  · rw [if_neg hc]
    have hcF : (checkE r = 0) = False := eq_false hc
    refine OKat.of_body (rs := [4, 5]) Try.func53 rfl (by decide +kernel) rfl (by simp [Try.ntmps53]) ?_
    simp only [Try.ntmps53]
    repeat' first
      | apply AW.seq | apply AW.region | apply AW.ret | apply AW.block | apply AW.skip | apply AW.exit | apply AW.scope | apply AW.label | apply AWL.nil
      | ((first | (apply W.step cx_ok; decide) | apply W.store cx_ok | (apply W.gS; rfl; decide) | apply AW.cond); (simp (disch := omega) only [push_cast, simprocAttr, hcF] <;> rfl); all_goals try ((with_reducible intro hI); try first | (cases hI; done) | (simp only [INTS, zL] at hI; try first | (exfalso; omega) | (have hT : True := hI; clear hT hI))))
      | ((apply W.callv cx_ok; decide); (iterate 2 (simp (disch := omega) only [push_cast, simprocAttr, hcF] <;> rfl)); (with_reducible first | exact Check_ok r); try first | rfl | (simp (disch := omega) only [push_cast, simprocAttr, hcF] <;> rfl))
      | ((first | apply W.ret2 | apply W.end2); (iterate 2 (try (simp (disch := omega) only [push_cast, simprocAttr, hcF] <;> rfl))))

    all_goals (show _ = _; rfl)
end Go.Proofs.Ks

namespace Go.Pg
open Go Go.RowKit Go.Sort
def ReverseC (P : Program) (f : FuncId) : Prop :=
  ∀ (blk off cap : Nat) (zs : List Int) (w : World), Holds (Value.int .i64) w blk off zs.toArray → zs.length ≤ 9223372036854775807 →
    Calls P f #[.slice (some ⟨blk, off, none⟩) zs.length cap] w fun e w' => e = .returned (.tuple #[]) ∧ ∃ n, w' = putRow (Value.int .i64) (Sort.ahead w n) blk off zs.reverse.toArray
def SortC0 (P : Program) (f : FuncId) : Prop := ∀ (p : Option Addr) (cap : Nat) (w : World), Calls P f #[.slice p 0 cap] w fun e w' => e = .returned (.tuple #[]) ∧ w' = w
theorem OKm.reverses {C : Cx} {f : FuncId} (hent : Enters C.P f) (hc : ReverseC C.P f) {l : List Int} (hl : l ≠ []) (hmax : l.length ≤ 9223372036854775807) {id : Nat} {H : Nat → Option AO} {nx lo : Nat} {ty : TypeId}
    (h : rowAt H id = some { k := 1, es := l.map fun n => [.v (.int .i64 n)], ty := ty, lo := lo }) :
    OKm C f [.ref id 0 l.length] H nx (fun v H' nx' => v = .tup [] ∧ H' = updH H id (.row { k := 1, es := l.reverse.map fun n => [.v (.int .i64 n)], ty := ty, lo := lo }) ∧ nx' = nx) := by
  refine ⟨hent, fun S0 w0 w σ vals hE hi hnx hb hs hr => ?_⟩
  obtain ⟨b, hcur, rfl, hlt⟩ := refs_arg hi hl h (by simpa using hs) hr
  refine (hc b 0 (σ.cap b) l w (hi.holdsI h hcur) hmax).mono ?_
  rintro e w' ⟨rfl, n, rfl⟩
  obtain ⟨hle, hinv, hbel⟩ := hi.putInts h hcur (d := l.reverse) (by simp) n #[]
  rw [grow_empty] at hle hinv hbel
  exact ⟨_, .tup [], _, _, nx, rfl, ⟨rfl, rfl, rfl⟩, hb.trans hbel, hinv, updH_nx hnx (by rw [rowAt_eq h]; simp), hle, by simp [Rep, RepL]⟩
theorem OKm.sorts0 {C : Cx} {f : FuncId} (hent : Enters C.P f) (hc : SortC0 C.P f) {id : Nat} {H : Nat → Option AO} {nx : Nat} : OKm C f [.ref id 0 0] H nx (fun v H' nx' => v = .tup [] ∧ H' = H ∧ nx' = nx) := by
  refine ⟨hent, fun S0 w0 w σ vals hE hi hnx hb hs hr => ?_⟩
  simp only [RepL] at hr
  obtain ⟨⟨u, hu, hru⟩, _⟩ := hr
  simp only [Rep] at hru
  obtain ⟨hal, A, cap, rfl, h1, h2, h3, h4⟩ := hru
  have hv : vals = #[.slice A 0 cap] := by
    apply Array.ext
    · simpa using hs
    · intro i hi1 hi2
      have : i = 0 := by simp at hi2; omega
      subst this
      rw [Array.getElem?_eq_getElem hi1] at hu
      injection hu
  subst hv
  refine (hc A cap w).mono ?_
  rintro e w' ⟨rfl, rfl⟩
  exact ⟨_, .tup [], σ, H, nx, rfl, ⟨rfl, rfl, rfl⟩, hb, hi, hnx, Le.refl _ _ fun _ _ ho => hi.al_of_own ho, by simp [Rep, RepL]⟩
end Go.Pg

namespace Go.Pg
open Go Go.RowKit
section
variable {C : Cx} {N : Nat} {Q : Exit → St → Prop} {s : St} {ops : Array Oper} {rest : List Oper} {ty : TypeId} {ps : String} {af : Array Edge} {d : Nat}
theorem run_equalIn_slice {P : Program} (w : World) (n : Nat) (t e : TypeId) (A : Option Addr) (k cap : Nat) (h : P.underlying t = some (.slice e)) : (Op.equalIn (n + 1) t (.slice A k cap) (.slice none 0 0)).run P w = .ok A.isNone w := by
  cases A <;> simp only [Op.equalIn, Sem.run_bind, run_underlying h, Result.andThen_ok, Sem.run_pure, Option.isNone]
theorem W.eqNil (hC : C.OK) (hN : d < N) {t t2 e : TypeId} {x y : Operand} {T : Ty} (hT : C.T t = some T) (hd : T.d = .slice e) {es : List (List AV)} (hx : s.ev x = .lst es) (hy : s.ev y = .v (.slice none 0 0))
    (k : ∀ b : Bool, (b = true → es = []) → AWL C N ops Q rest (s.put d (.v (.bool b)) none)) : AWL C N ops Q (⟨some d, .binOp .eql t x y t2, ty, ps, af, none⟩ :: rest) s := by
  rintro S0 w0 a w hE ⟨σ, hσ⟩
  have h1 := hσ.ev x
  have h2 := hσ.ev y
  rw [hx] at h1
  rw [hy] at h2
  simp only [Rep] at h1 h2
  obtain ⟨A, cap, kk, hu, g1, g2, g3, g4⟩ := h1
  have hun := (hC.T t _ hT).slice hd
  have hrun : (execOp a.eval ⟨some d, .binOp .eql t x y t2, ty, ps, af, none⟩).run C.P w = .ok (.value (.bool A.isNone)) w := by
    simp only [execOp, hu, h2, Sem.run_bind, run_eqGuard_v .eql t x y (.slice A es.length cap) (.slice none 0 0) (by simp) (by simp), Result.andThen_ok]
    have hq := run_equalIn_slice (P := C.P) w 9999 t e A es.length cap hun
    simp only [binOp, Op.equal, Op.maxDepth, Sem.run_bind, hq, Result.andThen_ok, Sem.run_pure]
  refine wpListIn_plain rfl fun K hK => Oper.wpIn_of_wp C.hF (fun c e => by cases e) ?_
  simp only [Oper.wp, Oper.upon, hrun]
  have hnil : A.isNone = true → es = [] := fun hA => by
    by_cases he : es = []
    · exact he
    · obtain ⟨b, o, hb, _⟩ := g4 he
      rw [hb] at hA; cases hA
  have hs' := hσ.put hN (s' := s.put d (.v (.bool A.isNone)) none) (r := .v (.bool A.isNone)) (v := .bool A.isNone) hσ.inv hσ.nx (Le.refl _ _ fun _ _ ho => hσ.inv.al_of_own ho) (Below.refl _ _) rfl rfl
  exact hK _ _ (k _ hnil S0 w0 _ w hE ⟨σ, hs'⟩)
end
end Go.Pg

namespace Go.Pg
open Go Go.RowKit
section
variable {C : Cx} {N : Nat} {Q : Exit → St → Prop} {s : St} {ops : Array Oper} {rest : List Oper} {o : Oper}
def NewR (row : Row) (r : AV) (H : Nat → Option AO) (nx : Nat) : Prop :=
  NewRow (· = row) r H nx ∨ (row.es = [] ∧ row.lo = 0 ∧ row.fro = false ∧ (r = .v (.slice none 0 0) ∨ ∃ i, r = .ref i 0 0 ∧ rowAt H i = some row))
theorem AWL.callw (hC : C.OK) (hg : o.guard = none) {d : Nat} (hd : o.dst = some d) (hN : d < N) {fo : Operand} {args : Array Operand} {tys : Array TypeId} (ho : o.op = .call { callee := .value fo, args := args, argTypes := tys })
    {f : FuncId} {vs : List AV} (hf : s.ev fo = .clo f []) (hv : viewL s.H (evsA args.toList s.ev) = some vs) (hids : idsL (evsA args.toList s.ev) = []) {row : Row} (hok : OKm C f vs (fun _ => none) 0 (NewR row))
    (k : AWL C N ops Q rest { tm := upd s.tm d (.ref s.nx 0 row.es.length), H := updH s.H s.nx (.row row), nx := s.nx + 1 }) : AWL C N ops Q (o :: rest) s := by
  rintro S0 w0 a w hE ⟨σ, hσ⟩
  obtain ⟨⟨fn, hfn, hname, hbody⟩, hcall⟩ := hok
  have hfo := hσ.ev fo
  rw [hf] at hfo
  simp only [Rep] at hfo
  obtain ⟨ca, hca, hcs, hcr⟩ := hfo
  have hce : ca = #[] := by simpa using hcs
  subst hce
  have hargs : RepL σ w (evsA args.toList s.ev) (fun i => (args.map a.eval)[i]?) := repL_evs (σ := σ) (w := w) (fun x => hσ.ev x) args
  obtain ⟨g1, _, g3⟩ := viewL_sound hσ.inv (S' := σ.S) (fun b h => h) _ _ vs hv (fun id hid b hb => by rw [hids] at hid; cases hid) hargs
  have hEw : C.E w := hC.E _ _ hσ.below hE
  have hi0 : Inv w.heap.size (Fr.of σ.S) w (fun _ => none) (pureSg σ.S) :=
    ⟨fun id => by simp [pureSg], fun id _ => ⟨rfl, fun b h => by simp [pureSg] at h⟩, fun b h => ⟨(hσ.inv.S_lt b h).1, .inl h⟩, fun b id h => by simp [pureSg] at h, fun id r h => by simp at h, fun id kt et es h => by simp at h, trivial⟩
  have hsz : (args.map a.eval).size = vs.length := by rw [← g1]; simp [evsA_map]
  have hc := hcall (Fr.of σ.S) w w (pureSg σ.S) (args.map a.eval) hEw hi0 (fun _ _ => rfl) (Below.refl _ _) hsz g3
  refine wpListIn_plain hg fun K hK => Oper.wpIn_of_wp C.hF (fun c e => by rw [ho] at e; cases e) ?_
  have hexec : (execOp a.eval o).run C.P w = .ok (.enter f (args.map a.eval)) w := by
    have hb : (fn.name == "runtime.NumGoroutine") ≠ true := by simp [hname]
    simp only [execOp, ho, resolve, hca, Deferred.ofValue, Sem.run_bind, Sem.run_pure, Result.andThen_ok, invoke, callFunc, run_program, hfn, if_neg hb, hbody, Bool.false_eq_true, if_false]
    simp
  simp only [Oper.wp, hexec, Oper.upon]
  refine hc.mono ?_
  rintro e w' ⟨v, r, σ', H', nx', rfl, hnew, hb, hi', hnx', hle', hrep⟩
  dsimp only
  rw [hd]
  have hnone : s.H s.nx = none := hσ.nx _ (Nat.le_refl _)
  have hbel : Below w0.heap.size w w' := hb.mono hσ.size
  have hnxx : ∀ id, s.nx + 1 ≤ id → updH s.H s.nx (.row row) id = none := fun id hid => by
    simp only [updH]; rw [if_neg (by omega)]; exact hσ.nx id (by omega)
  have takes : ∀ i, H' i = some (.row row) → ∀ bb, σ'.cur i = some bb → row.fro = false → flatE row.es → r = .ref i 0 row.es.length → K (a.put (some d) v) w' := fun i hH bb hcur hfro hflat hr => by
    have hri := hi'.row i row hH
    obtain ⟨a1, a2, a3, a4, arr, a5, a6⟩ := hri.cur bb hcur
    have hbb := hi'.own_lt bb i a1
    have hinv := hσ.inv.take hnone hσ.size hb hbb.1 hbb.2 row (σ'.cap bb) arr a5 a3 a4 a6 hfro hri.lo hri.each hflat (hri.con bb hcur)
    have hlet := hσ.inv.le_take (n := row.es.length) (k := row.k) (cap := σ'.cap bb) hnone hb hbb.1
    refine hK _ _ (k S0 w0 _ w' hE ⟨_, hσ.put hN (s' := { tm := upd s.tm d (.ref s.nx 0 row.es.length), H := updH s.H s.nx (.row row), nx := s.nx + 1 }) hinv hnxx hlet hbel ?_ rfl⟩)
    subst hr
    simp only [Rep] at hrep ⊢
    obtain ⟨_, A, cap, hvv, h1, h2, h3, h4⟩ := hrep
    obtain ⟨b2, q1, q2, q3⟩ : ∃ b, σ'.cur i = some b ∧ A = some ⟨b, 0, none⟩ ∧ cap = σ'.cap b := by
      rcases h4 trivial hri.len.symm with h | h
      · rw [hcur] at h; cases h.1
      · exact h
    rw [hcur] at q1
    injection q1 with q1
    subst q1
    exact ⟨.inl rfl, A, cap, hvv, h1, h2, fun _ => ⟨bb, by rw [q2]; simp, by simp [Sg.push], by simp [Sg.push]⟩, fun _ _ => .inr ⟨bb, by simp [Sg.push], q2, by rw [q3]; simp [Sg.push]⟩⟩
  have nils : row.es = [] → row.lo = 0 → row.fro = false → v = .slice none 0 0 → K (a.put (some d) v) w' := fun he hl hfro hv0 => by
    have hi1 := hσ.inv.heap_eq hb.size (fun b hb' => hb.block b hb')
    have hl1 := hσ.inv.le_heap (fun b hb' => hb.block b hb')
    obtain ⟨hle2, hinv2⟩ := hi1.adopt hnone row he hfro hl
    refine hK _ _ (k S0 w0 _ w' hE ⟨_, hσ.put hN (s' := { tm := upd s.tm d (.ref s.nx 0 row.es.length), H := updH s.H s.nx (.row row), nx := s.nx + 1 }) hinv2 hnxx (hl1.trans hle2) hbel ?_ rfl⟩)
    subst hv0
    simp only [Rep, he, List.length_nil]
    exact ⟨.inl rfl, none, 0, rfl, Nat.le_refl _, Nat.zero_le _, fun h => absurd rfl h, fun _ _ => .inl ⟨by simp [Sg.adopt], trivial, rfl, rfl⟩⟩
  have rowOf : ∀ {H : Nat → Option AO} {i : Nat} {r : Row}, rowAt H i = some r → H i = some (.row r) := fun h => rowAt_eq h
  rcases hnew with ⟨i, row1, rfl, hrow, hfro, hflat, hne, hq⟩ | ⟨he, hl, hfro, rfl | ⟨i, rfl, hrow⟩⟩
  · subst hq
    have hH := rowOf hrow
    have hri := hi'.row i _ hH
    cases hcq : σ'.cur i with
    | none => exact absurd (hri.empty hcq) hne
    | some b => exact takes i hH b hcq hfro hflat rfl
  · simp only [Rep] at hrep
    exact nils he hl hfro hrep
  · have hH := rowOf hrow
    have hri := hi'.row i _ hH
    cases hcq : σ'.cur i with
    | none =>
      refine nils he hl hfro ?_
      simp only [Rep] at hrep
      obtain ⟨_, A, cap, hvv, h1, h2, h3, h4⟩ := hrep
      rcases h4 trivial (by rw [hri.len, he]; rfl) with h | ⟨b, hb', _⟩
      · rw [hvv, h.2.2.1, h.2.2.2]
      · rw [hcq] at hb'; cases hb'
    | some b => exact takes i hH b hcq hfro (by rw [he]; intro e he'; cases he') (by rw [he]; rfl)
end
section
variable {C : Cx} {N : Nat} {Q : Exit → St → Prop} {s : St} {ops : Array Oper} {rest : List Oper} {ty : TypeId} {ps : String} {af : Array Edge} {d : Nat}
variable {H0 : Nat → Option AO} {b : Nat} {tg mk av : List Nat} {Fin : St → Prop} {i : Nat}
theorem W.callw (hC : C.OK) (hN : d < N) {fo : Operand} {args : Array Operand} {tys : Array TypeId} {f : FuncId} {vs : List AV} (hf : s.ev fo = .clo f []) (hv : viewL s.H (evsA args.toList s.ev) = some vs) (hids : idsL (evsA args.toList s.ev) = [])
    {row : Row} (hok : OKm C f vs (fun _ => none) 0 (NewR row)) (k : AWL C N ops Q rest { tm := upd s.tm d (.ref s.nx 0 row.es.length), H := updH s.H s.nx (.row row), nx := s.nx + 1 }) :
    AWL C N ops Q (⟨some d, .call { callee := .value fo, args := args, argTypes := tys }, ty, ps, af, none⟩ :: rest) s :=
  AWL.callw hC rfl rfl hN rfl hf hv hids hok k
theorem D.callw (hC : C.OK) (hN : d < N) (hi : i ∈ tg) {fo : Operand} {args : Array Operand} {tys : Array TypeId} {f : FuncId} {vs : List AV} (hf : s.ev fo = .clo f []) (hv : viewL s.H (evsA args.toList s.ev) = some vs) (hids : idsL (evsA args.toList s.ev) = [])
    {row : Row} (hok : OKm C f vs (fun _ => none) 0 (NewR row)) (hav : mk = [] ∨ s.nx ∈ av)
    (k : DW C N ops H0 b tg mk av Fin (i + 1) rest { tm := upd s.tm d (.ref s.nx 0 row.es.length), H := updH s.H s.nx (.row row), nx := s.nx + 1 }) :
    DW C N ops H0 b tg mk av Fin i (⟨some d, .call { callee := .value fo, args := args, argTypes := tys }, ty, ps, af, none⟩ :: rest) s := by
  refine ⟨.ref s.nx 0 row.es.length, { tm := upd s.tm d (.ref s.nx 0 row.es.length), H := updH s.H s.nx (.row row), nx := s.nx + 1 }, rfl, ?_, k⟩
  rw [if_pos hi]
  refine ⟨fun s' h1 h2 hl => ?_, ?_⟩
  · have hev := ev_congr hl
    have e1 : s'.ev fo = .clo f [] := by rw [hev fo (by simp [Op.operands, Call.operands])]; exact hf
    have e2 : evsA args.toList s'.ev = evsA args.toList s.ev := evsA_congr (fun x hx => hev x (by simp only [Op.operands, Call.operands, Array.mem_append]; exact .inr (by simpa using hx)))
    refine one_of_AWL (W.callw (row := row) hC hN e1 (by rw [e2, h1]; exact hv) (by rw [e2]; exact hids) hok (AWL.nil ⟨rfl, ?_⟩))
    rw [h1, h2]; rfl
  · rcases hav with h | h
    · exact .inl h
    · refine .inr fun id' x hid' hx => ?_
      show updH s.H s.nx _ id' = some x
      simp only [updH]
      rw [if_neg (fun e => by rw [e] at hid'; exact hid' h)]; exact hx
end
end Go.Pg

namespace Go.Proofs.Ks
open Go Go.Pg Go.Proofs
theorem clone114_ok (l : List Stop) (hlen : l.length ≤ 1000000) : OKm cx 114 [lStop l] (fun _ => none) 0 (NewR { k := 3, es := l.map eStop, ty := 68, lo := if l.isEmpty = true then 0 else l.length }) := by
  refine OKm.of_body cx_ok (rs := [.tmp 2]) Try.func114 rfl (by decide +kernel) rfl (by simp [Try.ntmps114]) ?_
  simp only [Try.ntmps114]
  repeat' first
    | apply AW.seq | apply AW.region | apply AW.ret | apply AW.block | apply AW.skip | apply AW.exit | apply AW.scope | apply AW.label | apply AWL.nil
    | ((first | (apply W.step cx_ok; decide) | apply AW.cond); (simp (disch := (first | omega | (simp only [zE, zF, zD, zC, zA, zB]; omega))) only [push_cast, simprocAttr, takeM, dropM, zK, zA, zB, zN, zQ, zR, zO, zP, zT, zS, zU, leT, zH, pureL, pureA, natNe, zI, zG, TyD.isAgg, zJ, isEmpty_map, zV, zW, zC, zZ, yA, zM] <;> rfl); all_goals try ((with_reducible intro hI); try first | (cases hI; done) | (simp only [INTS, zL] at hI; try first | (exfalso; omega) | (have hT : True := hI; clear hT hI))))
    | (apply W.append cx_ok; decide; rfl; rfl; rfl; decide; (iterate 3 (simp (disch := (first | omega | (simp only [zE, zF, zD, zC, zA, zB]; omega))) only [push_cast, simprocAttr, takeM, dropM, zK, zA, zB, zN, zQ, zR, zO, zP, zT, zS, zU, leT, zH, pureL, pureA, natNe, zI, zG, TyD.isAgg, zJ, isEmpty_map, zV, zW, zC, zZ, yA, zM] <;> rfl)); (first | (focus (simp; done)) | (intro c hc; obtain ⟨x, _, rfl⟩ := List.mem_map.1 hc; rfl)); ((first | rfl | simp (disch := omega) only [push_cast])); ((try dsimp only); (try simp only [zF, zE, zD, zC, zA, zB]); omega); ((try dsimp only); (try simp only [zF, zE, zD, zC, zA, zB]); omega))

  refine W.eqNil cx_ok (by decide) (t := 24) rfl rfl (es := l.map eStop) (by simp (disch := omega) only [push_cast, simprocAttr, natNe, zI, zG, TyD.isAgg, zJ, isEmpty_map, zV, zW, zC, zZ, yA, zM] <;> rfl) (by simp (disch := omega) only [push_cast, simprocAttr, natNe, zI, zG, TyD.isAgg, zJ, isEmpty_map, zV, zW, zC, zZ, yA, zM] <;> rfl) fun b hb => ?_
  have hb' : b = true → l = [] := fun h => by simpa using hb h
  clear hb
  have hrr : (.ref 0 0 l.length : AV) = .ref 0 0 (l.map eStop).length := by rw [List.length_map]
  rcases b with _ | _
  · repeat' first
      | apply AW.seq | apply AW.region | apply AW.ret | apply AW.block | apply AW.skip | apply AW.exit | apply AW.scope | apply AW.label | apply AWL.nil
      | ((first | (apply W.step cx_ok; decide) | apply AW.cond); (simp (disch := (first | omega | (simp only [zE, zF, zD, zC, zA, zB]; omega))) only [push_cast, simprocAttr, takeM, dropM, zK, zA, zB, zN, zQ, zR, zO, zP, zT, zS, zU, leT, zH, pureL, pureA, natNe, zI, zG, TyD.isAgg, zJ, isEmpty_map, zV, zW, zC, zZ, yA, zM] <;> rfl); all_goals try ((with_reducible intro hI); try first | (cases hI; done) | (simp only [INTS, zL] at hI; try first | (exfalso; omega) | (have hT : True := hI; clear hT hI))))
      | (apply W.append cx_ok; decide; rfl; rfl; rfl; decide; (iterate 3 (simp (disch := (first | omega | (simp only [zE, zF, zD, zC, zA, zB]; omega))) only [push_cast, simprocAttr, takeM, dropM, zK, zA, zB, zN, zQ, zR, zO, zP, zT, zS, zU, leT, zH, pureL, pureA, natNe, zI, zG, TyD.isAgg, zJ, isEmpty_map, zV, zW, zC, zZ, yA, zM] <;> rfl)); (first | (focus (simp; done)) | (intro c hc; obtain ⟨x, _, rfl⟩ := List.mem_map.1 hc; rfl)); ((first | rfl | simp (disch := omega) only [push_cast])); ((try dsimp only); (try simp only [zF, zE, zD, zC, zA, zB]); omega); ((try dsimp only); (try simp only [zF, zE, zD, zC, zA, zB]); omega))

    all_goals
      (apply W.retX (vs := [.ref 0 0 l.length])
       · (simp (disch := omega) only [push_cast, simprocAttr, natNe, zI, zG, TyD.isAgg, zJ, isEmpty_map, zV, zW, zC, zZ, yA, zM] <;> rfl)
       · show NewR _ (.ref 0 0 l.length) _ _
         rcases l with _ | ⟨y, l⟩
         · exact .inr ⟨rfl, rfl, rfl, .inr ⟨0, rfl, by (simp (disch := omega) only [push_cast, simprocAttr, natNe, zI, zG, TyD.isAgg, zJ, isEmpty_map, zV, zW, zC, zZ, yA, zM] <;> rfl)⟩⟩
         · rw [hrr]
           exact .inl (newRow_of (i := 0) (by (simp (disch := omega) only [push_cast, simprocAttr, natNe, zI, zG, TyD.isAgg, zJ, isEmpty_map, zV, zW, zC, zZ, yA, zM] <;> rfl)) (by simp) rfl (fun e he c hc => by obtain ⟨z, _, rfl⟩ := List.mem_map.1 he; simp at hc; rcases hc with rfl | rfl | rfl <;> exact ⟨_, rfl⟩) (by simp)))
  · have hl := hb' rfl
    subst hl
    repeat' first
      | apply AW.seq | apply AW.region | apply AW.ret | apply AW.block | apply AW.skip | apply AW.exit | apply AW.scope | apply AW.label | apply AWL.nil
      | ((first | (apply W.step cx_ok; decide) | apply AW.cond); (simp (disch := (first | omega | (simp only [zE, zF, zD, zC, zA, zB]; omega))) only [push_cast, simprocAttr, takeM, dropM, zK, zA, zB, zN, zQ, zR, zO, zP, zT, zS, zU, leT, zH, pureL, pureA, natNe, zI, zG, TyD.isAgg, zJ, isEmpty_map, zV, zW, zC, zZ, yA, zM] <;> rfl); all_goals try ((with_reducible intro hI); try first | (cases hI; done) | (simp only [INTS, zL] at hI; try first | (exfalso; omega) | (have hT : True := hI; clear hT hI))))
      | (apply W.append cx_ok; decide; rfl; rfl; rfl; decide; (iterate 3 (simp (disch := (first | omega | (simp only [zE, zF, zD, zC, zA, zB]; omega))) only [push_cast, simprocAttr, takeM, dropM, zK, zA, zB, zN, zQ, zR, zO, zP, zT, zS, zU, leT, zH, pureL, pureA, natNe, zI, zG, TyD.isAgg, zJ, isEmpty_map, zV, zW, zC, zZ, yA, zM] <;> rfl)); (first | (focus (simp; done)) | (intro c hc; obtain ⟨x, _, rfl⟩ := List.mem_map.1 hc; rfl)); ((first | rfl | simp (disch := omega) only [push_cast])); ((try dsimp only); (try simp only [zF, zE, zD, zC, zA, zB]); omega); ((try dsimp only); (try simp only [zF, zE, zD, zC, zA, zB]); omega))

    all_goals
      (apply W.retX (vs := [.v (.slice none 0 0)])
       · (simp (disch := omega) only [push_cast, simprocAttr, natNe, zI, zG, TyD.isAgg, zJ, isEmpty_map, zV, zW, zC, zZ, yA, zM] <;> rfl)
       · exact .inr ⟨rfl, rfl, rfl, .inl rfl⟩)
theorem clone119_ok (l : List Sight) (hlen : l.length ≤ 1000000) : OKm cx 119 [lSight l] (fun _ => none) 0 (NewR { k := 3, es := l.map eSight, ty := 53, lo := if l.isEmpty = true then 0 else l.length }) := by
  refine OKm.of_body cx_ok (rs := [.tmp 2]) Try.func119 rfl (by decide +kernel) rfl (by simp [Try.ntmps119]) ?_
  simp only [Try.ntmps119]
  repeat' first
    | apply AW.seq | apply AW.region | apply AW.ret | apply AW.block | apply AW.skip | apply AW.exit | apply AW.scope | apply AW.label | apply AWL.nil
    | ((first | (apply W.step cx_ok; decide) | apply AW.cond); (simp (disch := (first | omega | (simp only [zE, zF, zD, zC, zA, zB]; omega))) only [push_cast, simprocAttr, takeM, dropM, zK, zA, zB, zN, zQ, zR, zO, zP, zT, zS, zU, leT, zH, pureL, pureA, natNe, zI, zG, TyD.isAgg, zJ, isEmpty_map, zV, zW, zC, zZ, yA, zM] <;> rfl); all_goals try ((with_reducible intro hI); try first | (cases hI; done) | (simp only [INTS, zL] at hI; try first | (exfalso; omega) | (have hT : True := hI; clear hT hI))))
    | (apply W.append cx_ok; decide; rfl; rfl; rfl; decide; (iterate 3 (simp (disch := (first | omega | (simp only [zE, zF, zD, zC, zA, zB]; omega))) only [push_cast, simprocAttr, takeM, dropM, zK, zA, zB, zN, zQ, zR, zO, zP, zT, zS, zU, leT, zH, pureL, pureA, natNe, zI, zG, TyD.isAgg, zJ, isEmpty_map, zV, zW, zC, zZ, yA, zM] <;> rfl)); (first | (focus (simp; done)) | (intro c hc; obtain ⟨x, _, rfl⟩ := List.mem_map.1 hc; rfl)); ((first | rfl | simp (disch := omega) only [push_cast])); ((try dsimp only); (try simp only [zF, zE, zD, zC, zA, zB]); omega); ((try dsimp only); (try simp only [zF, zE, zD, zC, zA, zB]); omega))

  refine W.eqNil cx_ok (by decide) (t := 28) rfl rfl (es := l.map eSight) (by simp (disch := omega) only [push_cast, simprocAttr, natNe, zI, zG, TyD.isAgg, zJ, isEmpty_map, zV, zW, zC, zZ, yA, zM] <;> rfl) (by simp (disch := omega) only [push_cast, simprocAttr, natNe, zI, zG, TyD.isAgg, zJ, isEmpty_map, zV, zW, zC, zZ, yA, zM] <;> rfl) fun b hb => ?_
  have hb' : b = true → l = [] := fun h => by simpa using hb h
  clear hb
  have hrr : (.ref 0 0 l.length : AV) = .ref 0 0 (l.map eSight).length := by rw [List.length_map]
  rcases b with _ | _
  · repeat' first
      | apply AW.seq | apply AW.region | apply AW.ret | apply AW.block | apply AW.skip | apply AW.exit | apply AW.scope | apply AW.label | apply AWL.nil
      | ((first | (apply W.step cx_ok; decide) | apply AW.cond); (simp (disch := (first | omega | (simp only [zE, zF, zD, zC, zA, zB]; omega))) only [push_cast, simprocAttr, takeM, dropM, zK, zA, zB, zN, zQ, zR, zO, zP, zT, zS, zU, leT, zH, pureL, pureA, natNe, zI, zG, TyD.isAgg, zJ, isEmpty_map, zV, zW, zC, zZ, yA, zM] <;> rfl); all_goals try ((with_reducible intro hI); try first | (cases hI; done) | (simp only [INTS, zL] at hI; try first | (exfalso; omega) | (have hT : True := hI; clear hT hI))))
      | (apply W.append cx_ok; decide; rfl; rfl; rfl; decide; (iterate 3 (simp (disch := (first | omega | (simp only [zE, zF, zD, zC, zA, zB]; omega))) only [push_cast, simprocAttr, takeM, dropM, zK, zA, zB, zN, zQ, zR, zO, zP, zT, zS, zU, leT, zH, pureL, pureA, natNe, zI, zG, TyD.isAgg, zJ, isEmpty_map, zV, zW, zC, zZ, yA, zM] <;> rfl)); (first | (focus (simp; done)) | (intro c hc; obtain ⟨x, _, rfl⟩ := List.mem_map.1 hc; rfl)); ((first | rfl | simp (disch := omega) only [push_cast])); ((try dsimp only); (try simp only [zF, zE, zD, zC, zA, zB]); omega); ((try dsimp only); (try simp only [zF, zE, zD, zC, zA, zB]); omega))

    all_goals
      (apply W.retX (vs := [.ref 0 0 l.length])
       · (simp (disch := omega) only [push_cast, simprocAttr, natNe, zI, zG, TyD.isAgg, zJ, isEmpty_map, zV, zW, zC, zZ, yA, zM] <;> rfl)
       · show NewR _ (.ref 0 0 l.length) _ _
         rcases l with _ | ⟨y, l⟩
         · exact .inr ⟨rfl, rfl, rfl, .inr ⟨0, rfl, by (simp (disch := omega) only [push_cast, simprocAttr, natNe, zI, zG, TyD.isAgg, zJ, isEmpty_map, zV, zW, zC, zZ, yA, zM] <;> rfl)⟩⟩
         · rw [hrr]
           exact .inl (newRow_of (i := 0) (by (simp (disch := omega) only [push_cast, simprocAttr, natNe, zI, zG, TyD.isAgg, zJ, isEmpty_map, zV, zW, zC, zZ, yA, zM] <;> rfl)) (by simp) rfl (fun e he c hc => by obtain ⟨z, _, rfl⟩ := List.mem_map.1 he; simp at hc; rcases hc with rfl | rfl | rfl <;> exact ⟨_, rfl⟩) (by simp)))
  · have hl := hb' rfl
    subst hl
    repeat' first
      | apply AW.seq | apply AW.region | apply AW.ret | apply AW.block | apply AW.skip | apply AW.exit | apply AW.scope | apply AW.label | apply AWL.nil
      | ((first | (apply W.step cx_ok; decide) | apply AW.cond); (simp (disch := (first | omega | (simp only [zE, zF, zD, zC, zA, zB]; omega))) only [push_cast, simprocAttr, takeM, dropM, zK, zA, zB, zN, zQ, zR, zO, zP, zT, zS, zU, leT, zH, pureL, pureA, natNe, zI, zG, TyD.isAgg, zJ, isEmpty_map, zV, zW, zC, zZ, yA, zM] <;> rfl); all_goals try ((with_reducible intro hI); try first | (cases hI; done) | (simp only [INTS, zL] at hI; try first | (exfalso; omega) | (have hT : True := hI; clear hT hI))))
      | (apply W.append cx_ok; decide; rfl; rfl; rfl; decide; (iterate 3 (simp (disch := (first | omega | (simp only [zE, zF, zD, zC, zA, zB]; omega))) only [push_cast, simprocAttr, takeM, dropM, zK, zA, zB, zN, zQ, zR, zO, zP, zT, zS, zU, leT, zH, pureL, pureA, natNe, zI, zG, TyD.isAgg, zJ, isEmpty_map, zV, zW, zC, zZ, yA, zM] <;> rfl)); (first | (focus (simp; done)) | (intro c hc; obtain ⟨x, _, rfl⟩ := List.mem_map.1 hc; rfl)); ((first | rfl | simp (disch := omega) only [push_cast])); ((try dsimp only); (try simp only [zF, zE, zD, zC, zA, zB]); omega); ((try dsimp only); (try simp only [zF, zE, zD, zC, zA, zB]); omega))

    all_goals
      (apply W.retX (vs := [.v (.slice none 0 0)])
       · (simp (disch := omega) only [push_cast, simprocAttr, natNe, zI, zG, TyD.isAgg, zJ, isEmpty_map, zV, zW, zC, zZ, yA, zM] <;> rfl)
       · exact .inr ⟨rfl, rfl, rfl, .inl rfl⟩)
end Go.Proofs.Ks

namespace Go.Proofs.Ks
open Go Go.Proofs
def unseenR (r : Rec) (k : Nat) : Rec := { r with sights := r.sights.take k ++ r.sights.drop (k + 1) }
def withoutR (r : Rec) (gone : List Int) : Rec := { s := r.s, strikes := r.strikes.filter fun x => !gone.contains x.id, sights := r.sights.filter fun x => !gone.contains x.strike }
theorem strikesE_filter {lo hi : Int} (p : Strike → Bool) : ∀ (l : List Strike) (seen seen' : List Int), (∀ a ∈ seen', a ∈ seen) → strikesE lo hi seen l = 0 → strikesE lo hi seen' (l.filter p) = 0
  | [], _, _, _, _ => rfl
  | x :: l, seen, seen', hs, h => by
    unfold strikesE at h
    split at h
    · rename_i hx
      split at h
      · cases h
      · rename_i hn
        rw [List.filter_cons]
        split
        · unfold strikesE
          rw [if_pos hx, if_neg (fun hm => hn (hs _ hm))]
          exact strikesE_filter p l _ _ (fun a ha => by
            rcases List.mem_append.1 ha with ha | ha
            · exact List.mem_append_left _ (hs a ha)
            · exact List.mem_append_right _ ha) h
        · exact strikesE_filter p l _ _ (fun a ha => List.mem_append_left _ (hs a ha)) h
    · cases h
theorem sightsE_iff {ids : List Int} : ∀ {l : List Sight}, sightsE ids l = 0 ↔ ∀ x ∈ l, inB x.seen 0 1073741823 = true ∧ x.strike ∈ ids
  | [] => by simp [sightsE]
  | x :: l => by
    unfold sightsE
    by_cases h1 : inB x.seen 0 1073741823 = true
    · rw [if_pos h1]
      by_cases h2 : x.strike ∈ ids
      · rw [if_pos h2, sightsE_iff]
        simp [h1, h2]
      · rw [if_neg h2]
        simp [h2]
    · rw [if_neg h1]
      simp [h1]
theorem checkE_parts {r : Rec} (h : checkE r = 0) : sessE r.s = 0 ∧ r.strikes.length ≤ 12 ∧ r.sights.length ≤ 12 ∧ strikesE r.s.zero.lo r.s.fin.hi [] r.strikes = 0 ∧ sightsE (idsOf r) r.sights = 0 := by
  unfold checkE at h
  split at h
  · rename_i hn; exact absurd h hn
  · rename_i h0
    simp only [ne_eq, Decidable.not_not] at h0
    split at h
    · cases h
    · rename_i h1
      split at h
      · rename_i hn; exact absurd h hn
      · rename_i h2
        simp only [ne_eq, Decidable.not_not] at h2
        exact ⟨h0, by omega, by omega, h2, h⟩
theorem checkE_of {r : Rec} (h1 : sessE r.s = 0) (h2 : r.strikes.length ≤ 12) (h3 : r.sights.length ≤ 12) (h4 : strikesE r.s.zero.lo r.s.fin.hi [] r.strikes = 0) (h5 : sightsE (idsOf r) r.sights = 0) : checkE r = 0 := by
  unfold checkE
  rw [if_neg (by simp [h1]), if_neg (by omega), if_neg (by simp [h4]), h5]
theorem without_zero {r : Rec} (h : checkE r = 0) (gone : List Int) : checkE (withoutR r gone) = 0 := by
  obtain ⟨h1, h2, h3, h4, h5⟩ := checkE_parts h
  refine checkE_of h1 (Nat.le_trans (List.length_filter_le _ _) h2) (Nat.le_trans (List.length_filter_le _ _) h3) (strikesE_filter _ _ _ _ (fun _ h => h) h4) (sightsE_iff.2 fun x hx => ?_)
  have hx' : x ∈ r.sights.filter fun x => !gone.contains x.strike := hx
  rw [List.mem_filter] at hx'
  obtain ⟨g1, g2⟩ := sightsE_iff.1 h5 x hx'.1
  refine ⟨g1, ?_⟩
  unfold idsOf at g2 ⊢
  obtain ⟨y, hy, hyx⟩ := List.mem_map.1 g2
  exact List.mem_map.2 ⟨y, List.mem_filter.2 ⟨hy, by rw [hyx]; exact hx'.2⟩, hyx⟩
theorem unseen_zero {r : Rec} (h : checkE r = 0) (k : Nat) : checkE (unseenR r k) = 0 := by
  obtain ⟨h1, h2, h3, h4, h5⟩ := checkE_parts h
  refine checkE_of h1 h2 ?_ h4 (sightsE_iff.2 fun x hx => sightsE_iff.1 h5 x ?_)
  · show (r.sights.take k ++ r.sights.drop (k + 1)).length ≤ 12
    rw [List.length_append, List.length_take, List.length_drop]; omega
  · have hx' : x ∈ r.sights.take k ++ r.sights.drop (k + 1) := hx
    rcases List.mem_append.1 hx' with hx' | hx'
    · exact List.mem_of_mem_take hx'
    · exact List.mem_of_mem_drop hx'
end Go.Proofs.Ks

namespace Go.Proofs.Ks
open Go Go.Pg Go.Proofs
theorem idsLL_sight : ∀ l : List Sight, idsLL (l.map eSight) = []
  | [] => rfl
  | x :: l => by simp only [List.map_cons, idsLL, idsLL_sight l]; rfl
theorem unseen_ok (r : Rec) (k : Nat) (hk : k < r.sights.length) (hl : r.sights.length ≤ 1000000) : OKv cx 100 [.agg (eRec r), ai k] (.agg (eRec (unseenR r k))) := by
  have hk0 : (0 : Int) ≤ (k : Int) := by omega
  have hkl : k ≤ r.sights.length := by omega
  have hk1 : (0 : Int) ≤ (k : Int) + 1 := by omega
  have hk1n : ((k : Int) + 1).toNat = k + 1 := by omega
  have hkI : k + 1 ≤ r.sights.length := by omega
  have hmin : min k r.sights.length = k := Nat.min_eq_left hkl
  have hst : (r.sights.map eSight).take k = (r.sights.take k).map eSight := (List.map_take ..).symm
  have hsd : (r.sights.map eSight).drop (k + 1) = (r.sights.drop (k + 1)).map eSight := (List.map_drop ..).symm
  have heS : (∀ e ∈ r.sights.map eSight, e.length = 3) = True := eq_true fun e he => by obtain ⟨y, _, rfl⟩ := List.mem_map.1 he; rfl
  have hcl := clone119_ok (r.sights.take k) (by rw [List.length_take]; omega)
  have hsl : ((r.sights.take k).map eSight).length = k := by rw [List.length_map, List.length_take]; omega
  have hdl : (r.sights.drop (k + 1)).length = r.sights.length - (k + 1) := List.length_drop ..
  refine OKat.of_bodyM cx_ok (rs := [.cell 4 30]) Try.func100 rfl (by decide +kernel) rfl (by simp [Try.ntmps100]) ?_
  simp only [Try.ntmps100]
  repeat' first
    | ((apply D.callw cx_ok; decide; decide); (iterate 3 (simp (disch := (first | omega | (simp only [zE, zF, zD, zC, zA, zB]; omega))) only [push_cast, simprocAttr, takeM, dropM, zK, zA, zB, zN, zQ, zR, zO, zP, zT, zS, zU, leT, zH, pureL, pureA, natNe, zI, zG, TyD.isAgg, zJ, isEmpty_map, zV, zW, zC, zZ, yA, zM, hkI, hk0, hkl, hk1, hk1n, hsl, hst, hsd, heS, hdl, hmin, zE] <;> rfl)); (with_reducible exact hcl); (first | exact .inl rfl | (refine .inr ?_; simp (disch := (first | omega | (simp only [zE, zF, zD, zC, zA, zB]; omega))) only [push_cast, simprocAttr, takeM, dropM, zK, zA, zB, zN, zQ, zR, zO, zP, zT, zS, zU, leT, zH, pureL, pureA, natNe, zI, zG, TyD.isAgg, zJ, isEmpty_map, zV, zW, zC, zZ, yA, zM, hkI, hk0, hkl, hk1, hk1n, hsl, hst, hsd, heS, hdl, hmin, zE] <;> simp)))
    | ((apply W.callw cx_ok; decide); (iterate 3 (simp (disch := (first | omega | (simp only [zE, zF, zD, zC, zA, zB]; omega))) only [push_cast, simprocAttr, takeM, dropM, zK, zA, zB, zN, zQ, zR, zO, zP, zT, zS, zU, leT, zH, pureL, pureA, natNe, zI, zG, TyD.isAgg, zJ, isEmpty_map, zV, zW, zC, zZ, yA, zM, hkI, hk0, hkl, hk1, hk1n, hsl, hst, hsd, heS, hdl, hmin, zE] <;> rfl)); (with_reducible exact hcl))
    | apply AW.seq | apply AW.region | apply AW.ret | apply AW.block | apply AW.skip | apply AW.exit | apply AW.scope | apply AW.label | apply AWL.nil | apply D.nil
    | refine AW.draw (id := 2) cx_mixed [4, 10, 12] [5, 6, 7, 8, 9, 11] [3, 2] 0 (by decide +kernel) ?_
    | refine W.draw cx_mixed (by decide +kernel) ?_
    | ((first | (apply W.step cx_ok; decide) | (apply D.step cx_ok; decide; decide) | apply W.store cx_ok | apply AW.cond); (simp (disch := (first | omega | (simp only [zE, zF, zD, zC, zA, zB]; omega))) only [push_cast, simprocAttr, takeM, dropM, zK, zA, zB, zN, zQ, zR, zO, zP, zT, zS, zU, leT, zH, pureL, pureA, natNe, zI, zG, TyD.isAgg, zJ, isEmpty_map, zV, zW, zC, zZ, yA, zM, hkI, hk0, hkl, hk1, hk1n, hsl, hst, hsd, heS, hdl, hmin, zE] <;> rfl); all_goals try ((with_reducible intro hI); try first | (cases hI; done) | (simp only [INTS, zL] at hI; try first | (exfalso; omega) | (have hT : True := hI; clear hT hI))))
    | ((first | (apply D.store cx_ok; decide) | (apply D.stept cx_ok; decide; decide) | (apply D.stepm cx_ok; decide; decide)); (simp (disch := (first | omega | (simp only [zE, zF, zD, zC, zA, zB]; omega))) only [push_cast, simprocAttr, takeM, dropM, zK, zA, zB, zN, zQ, zR, zO, zP, zT, zS, zU, leT, zH, pureL, pureA, natNe, zI, zG, TyD.isAgg, zJ, isEmpty_map, zV, zW, zC, zZ, yA, zM, hkI, hk0, hkl, hk1, hk1n, hsl, hst, hsd, heS, hdl, hmin, zE] <;> rfl); try first | exact .inl rfl | exact .inr (by simp))
    | ((apply D.alloct cx_ok; decide; decide); (simp (disch := (first | omega | (simp only [zE, zF, zD, zC, zA, zB]; omega))) only [push_cast, simprocAttr, takeM, dropM, zK, zA, zB, zN, zQ, zR, zO, zP, zT, zS, zU, leT, zH, pureL, pureA, natNe, zI, zG, TyD.isAgg, zJ, isEmpty_map, zV, zW, zC, zZ, yA, zM, hkI, hk0, hkl, hk1, hk1n, hsl, hst, hsd, heS, hdl, hmin, zE] <;> rfl); first | exact .inl rfl | exact .inr (by simp))
    | (apply W.append cx_ok; decide; rfl; rfl; rfl; decide; (iterate 3 (simp (disch := (first | omega | (simp only [zE, zF, zD, zC, zA, zB]; omega))) only [push_cast, simprocAttr, takeM, dropM, zK, zA, zB, zN, zQ, zR, zO, zP, zT, zS, zU, leT, zH, pureL, pureA, natNe, zI, zG, TyD.isAgg, zJ, isEmpty_map, zV, zW, zC, zZ, yA, zM, hkI, hk0, hkl, hk1, hk1n, hsl, hst, hsd, heS, hdl, hmin, zE] <;> rfl)); (first | (focus (simp; done)) | (intro c hc; obtain ⟨x, _, rfl⟩ := List.mem_map.1 hc; rfl)); ((first | rfl | simp (disch := omega) only [push_cast])); ((try dsimp only); (try simp only [zF, zE, zD, zC, zA, zB]); omega); ((try dsimp only); (try simp only [zF, zE, zD, zC, zA, zB]); omega))
    | (apply D.append cx_ok; decide; decide; rfl; rfl; rfl; decide; (iterate 3 (simp (disch := (first | omega | (simp only [zE, zF, zD, zC, zA, zB]; omega))) only [push_cast, simprocAttr, takeM, dropM, zK, zA, zB, zN, zQ, zR, zO, zP, zT, zS, zU, leT, zH, pureL, pureA, natNe, zI, zG, TyD.isAgg, zJ, isEmpty_map, zV, zW, zC, zZ, yA, zM, hkI, hk0, hkl, hk1, hk1n, hsl, hst, hsd, heS, hdl, hmin, zE] <;> rfl)); (first | (focus (simp; done)) | (intro c hc; obtain ⟨x, _, rfl⟩ := List.mem_map.1 hc; rfl)); ((first | rfl | exact idsLL_sight _ | (simp (disch := omega) only [push_cast]; done))); ((try dsimp only); (try simp only [zF, zE, zD, zC, zA, zB]); omega); ((try dsimp only); (try simp only [zF, zE, zD, zC, zA, zB]); omega); first | exact .inl rfl | exact .inr (by simp))
    | ((first | apply W.retM | apply W.endM'); (iterate 2 (try (simp (disch := (first | omega | (simp only [zE, zF, zD, zC, zA, zB]; omega))) only [push_cast, simprocAttr, takeM, dropM, zK, zA, zB, zN, zQ, zR, zO, zP, zT, zS, zU, leT, zH, pureL, pureA, natNe, zI, zG, TyD.isAgg, zJ, isEmpty_map, zV, zW, zC, zZ, yA, zM, hkI, hk0, hkl, hk1, hk1n, hsl, hst, hsd, heS, hdl, hmin, zE] <;> rfl))))

  all_goals (rw [← List.map_append]; rfl)
end Go.Proofs.Ks

namespace Go.Proofs.Ks
open Go Go.Pg Go.Proofs
def setM (ids : List Int) : List (Key × AV) := ids.foldl (fun M i => putM (.int i) (ab true) M) []
theorem findM_putM (x i : Int) (v : AV) : ∀ M : List (Key × AV), (∀ e ∈ M, ∃ j, e.1 = .int j) → findM (.int x) (putM (.int i) v M) = if x = i then some v else findM (.int x) M
  | [], _ => by
    by_cases h : x = i <;> simp [putM, findM, Key.same, h]
  | (kk, u) :: M, hM => by
    obtain ⟨j, hj⟩ := hM (kk, u) (by simp)
    simp only at hj
    subst hj
    have ih := findM_putM x i v M (fun e he => hM e (by simp [he]))
    by_cases hij : i = j
    · subst hij
      by_cases h : x = i <;> simp [putM, findM, Key.same, h]
    · by_cases hxj : x = j
      · subst hxj
        have hne : ¬ x = i := fun e => hij e.symm
        simp [putM, findM, Key.same, hij, hne]
      · simp [putM, findM, Key.same, hij, hxj]
        simpa using ih
theorem putM_int (i : Int) (v : AV) : ∀ M : List (Key × AV), (∀ e ∈ M, ∃ j, e.1 = .int j) → ∀ e ∈ putM (.int i) v M, ∃ j, e.1 = .int j
  | [], _, e, he => by simp [putM] at he; subst he; exact ⟨i, rfl⟩
  | (kk, u) :: M, hM, e, he => by
    unfold putM at he
    split at he
    · rcases List.mem_cons.1 he with rfl | he
      · exact ⟨i, rfl⟩
      · exact hM e (by simp [he])
    · rcases List.mem_cons.1 he with rfl | he
      · exact hM _ (by simp)
      · exact putM_int i v M (fun e he => hM e (by simp [he])) e he
theorem setM_snoc (ids : List Int) (x : Int) : setM (ids ++ [x]) = putM (.int x) (ab true) (setM ids) := by unfold setM; rw [List.foldl_append]; rfl
theorem setM_find (x : Int) (ids : List Int) : findM (.int x) (setM ids) = if ids.contains x = true then some (ab true) else none := by
  have key : ∀ (l : List Int) (M : List (Key × AV)), (∀ e ∈ M, ∃ j, e.1 = .int j) → findM (.int x) (l.foldl (fun M i => putM (.int i) (ab true) M) M) = if l.contains x = true then some (ab true) else findM (.int x) M := by
    intro l
    induction l with
    | nil => intro M h; simp
    | cons i l ih =>
      intro M h
      rw [List.foldl_cons, ih _ (putM_int i _ M h), findM_putM x i _ M h, List.contains_cons]
      by_cases h1 : x = i
      · subst h1; simp
      · simp [h1]
  exact key ids [] (fun e he => by cases he)
theorem setM_look (x : Int) (ids : List Int) : pickM (.v (.bool false)) false (findM (.int x) (setM ids)) = ab (ids.contains x) := by
  rw [setM_find]
  cases ids.contains x <;> rfl
theorem without_ok (r : Rec) (ids : List Int) (hi : ids.length ≤ 1000000) (hst : r.s.stops.length ≤ 1000000) (hsk : r.strikes.length ≤ 1000000) (hsg : r.sights.length ≤ 1000000) : OKv cx 95 [.agg (eRec r), lInt ids] (.agg (eRec (withoutR r ids))) := by
  have hcl := clone114_ok r.s.stops hst
  obtain ⟨PS, hPS⟩ : ∃ f, (fun x : Strike => !ids.contains x.id) = f := ⟨_, rfl⟩
  obtain ⟨PT, hPT⟩ : ∃ f, (fun x : Sight => !ids.contains x.strike) = f := ⟨_, rfl⟩
  obtain ⟨SS, hSS⟩ : ∃ z, r.strikes.filter PS = z := ⟨_, rfl⟩
  obtain ⟨TT, hTT⟩ : ∃ z, r.sights.filter PT = z := ⟨_, rfl⟩
  have hR : withoutR r ids = { s := r.s, strikes := SS, sights := TT } := by unfold withoutR; rw [hPS, hPT, hSS, hTT]
  have hPSe : ∀ x, PS x = !ids.contains x.id := fun x => by rw [← hPS]
  have hPTe : ∀ x, PT x = !ids.contains x.strike := fun x => by rw [← hPT]
  rw [hR]
  clear hR hPS hPT
  have hlook := fun x => setM_look x ids
  refine OKat.of_bodyM cx_ok (rs := [.cell 4 30]) Try.func95 rfl (by decide +kernel) rfl (by simp [Try.ntmps95]) ?_
  simp only [Try.ntmps95]
  obtain ⟨Z1, hZ1⟩ : ∃ z, ([.v (.int .i64 0), .v (.int .i64 0), .v (.int .i64 0), .v (.int .i64 0), .v (.int .i64 0), .v (.int .i64 0), .v (.int .i64 0), .v (.int .i64 0), .v (.int .i64 0), .v (.int .i64 0), .v (.int .i64 0), .v (.slice none 0 0), .v (.slice none 0 0), .v (.slice none 0 0)] : List AV) = z := ⟨_, rfl⟩
  repeat' first
    | apply AW.seq | apply AW.region | apply AW.ret | apply AW.block | apply AW.skip | apply AW.exit | apply AW.scope | apply AW.label | apply AWL.nil
    | ((first | (apply W.step cx_ok; decide) | apply W.store cx_ok | apply AW.cond | apply W.mapUpdate cx_ok); (simp (disch := (first | omega | (simp only [zE, zF, zD, zC, zA, zB]; omega))) only [push_cast, simprocAttr, takeM, dropM, zK, zA, zB, zN, zQ, zR, zO, zP, zT, zS, zU, leT, zH, pureL, pureA, natNe, zI, zG, TyD.isAgg, zJ, isEmpty_map, zV, zW, zC, zM, hZ1] <;> rfl); all_goals try ((with_reducible intro hI); try first | (cases hI; done) | (simp only [INTS, zL] at hI; try first | (exfalso; omega) | (have hT : True := hI; clear hT hI))))
    | (refine W.makeMap cx_ok (by simp only [push_cast, simprocAttr] <;> rfl) (by decide) ?_)
    | (apply W.append cx_ok; decide; rfl; rfl; rfl; decide; (iterate 3 (simp (disch := (first | omega | (simp only [zE, zF, zD, zC, zA, zB]; omega))) only [push_cast, simprocAttr, takeM, dropM, zK, zA, zB, zN, zQ, zR, zO, zP, zT, zS, zU, leT, zH, pureL, pureA, natNe, zI, zG, TyD.isAgg, zJ, isEmpty_map, zV, zW, zC, zM, hZ1] <;> rfl)); (first | (focus (simp; done)) | (intro c hc; obtain ⟨x, _, rfl⟩ := List.mem_map.1 hc; rfl)); ((first | rfl | simp (disch := omega) only [push_cast])); ((try dsimp only); (try simp only [zF, zE, zD, zC, zA, zB]); omega); ((try dsimp only); (try simp only [zF, zE, zD, zC, zA, zB]); omega))
    | ((first | apply W.retM | apply W.endM'); (iterate 2 (try (simp (disch := (first | omega | (simp only [zE, zF, zD, zC, zA, zB]; omega))) only [push_cast, simprocAttr, takeM, dropM, zK, zA, zB, zN, zQ, zR, zO, zP, zT, zS, zU, leT, zH, pureL, pureA, natNe, zI, zG, TyD.isAgg, zJ, isEmpty_map, zV, zW, zC, zM, hZ1] <;> rfl))))

  refine AW.loop (fun n s => ∃ (k : Nat) (rest : List Int), n = rest.length ∧ (ids.drop k = rest) ∧ (k ≤ ids.length) ∧ 3 ≤ s.nx ∧ s.tm 2 = .ptr 0 0 0 1 ∧ s.tm 4 = .ptr 1 0 0 1 ∧ s.tm 5 = .map 2 ∧ s.tm 14 = lInt ids ∧ s.tm 15 = ai ids.length ∧ s.tm 16 = ai k ∧ Pg.rowAt s.H 0 = some { k := 14, es := [eRec r], ty := 30 } ∧ Pg.rowAt s.H 1 = some { k := 14, es := [Z1], ty := 30 } ∧ s.H 2 = some (.mp (.map .int) 0 (setM (ids.take k)))) (ids.length) ⟨0, ids, rfl, rfl, (Nat.zero_le _), ?_, ?_, ?_, ?_, ?_, ?_, ?_, ?_, ?_, ?_⟩ ?_
  iterate 10 (first | (simp (disch := omega) only [push_cast, simprocAttr, natNe, zI, zG, TyD.isAgg, zJ, isEmpty_map, zV, zW, zC, zM, hZ1, List.take_zero, setM, List.foldl_nil] <;> first | rfl | omega) | omega)
  rintro n0 s0 ⟨k0, rest0, hn0, hp00, hp10, hnl0, hS0⟩
  rcases rest0 with _ | ⟨x, rest0⟩
  rotate_left
  · obtain ⟨hk, hg, hd', hl', hm', hx⟩ := drop_cons hp00 eInt []
    have hsn : setM (ids.take (k0 + 1)) = putM (.int x) (ab true) (setM (ids.take k0)) := by rw [take_snoc hp00, setM_snoc]
    repeat' first
      | apply AW.seq | apply AW.region | apply AW.ret | apply AW.block | apply AW.skip | apply AW.exit | apply AW.scope | apply AW.label | apply AWL.nil
      | ((first | (apply W.step cx_ok; decide) | apply W.store cx_ok | apply AW.cond | apply W.mapUpdate cx_ok); (simp (disch := (first | omega | (simp only [zE, zF, zD, zC, zA, zB]; omega))) only [push_cast, simprocAttr, takeM, dropM, zK, zA, zB, zN, zQ, zR, zO, zP, zT, zS, zU, leT, zH, pureL, pureA, hS0, natNe, zI, zG, TyD.isAgg, zJ, isEmpty_map, zV, zW, zC, zM, hk, hg, hx] <;> rfl); all_goals try ((with_reducible intro hI); try first | (cases hI; done) | (simp only [INTS, zL] at hI; try first | (exfalso; omega) | (have hT : True := hI; clear hT hI))))
      | (refine W.makeMap cx_ok (by simp only [push_cast, simprocAttr] <;> rfl) (by decide) ?_)
      | (apply W.append cx_ok; decide; rfl; rfl; rfl; decide; (iterate 3 (simp (disch := (first | omega | (simp only [zE, zF, zD, zC, zA, zB]; omega))) only [push_cast, simprocAttr, takeM, dropM, zK, zA, zB, zN, zQ, zR, zO, zP, zT, zS, zU, leT, zH, pureL, pureA, hS0, natNe, zI, zG, TyD.isAgg, zJ, isEmpty_map, zV, zW, zC, zM, hk, hg, hx] <;> rfl)); (first | (focus (simp; done)) | (intro c hc; obtain ⟨x, _, rfl⟩ := List.mem_map.1 hc; rfl)); ((first | rfl | simp (disch := omega) only [push_cast])); ((try dsimp only); (try simp only [zF, zE, zD, zC, zA, zB]); omega); ((try dsimp only); (try simp only [zF, zE, zD, zC, zA, zB]); omega))
      | ((first | apply W.retM | apply W.endM'); (iterate 2 (try (simp (disch := (first | omega | (simp only [zE, zF, zD, zC, zA, zB]; omega))) only [push_cast, simprocAttr, takeM, dropM, zK, zA, zB, zN, zQ, zR, zO, zP, zT, zS, zU, leT, zH, pureL, pureA, hS0, natNe, zI, zG, TyD.isAgg, zJ, isEmpty_map, zV, zW, zC, zM, hk, hg, hx] <;> rfl))))

    all_goals (refine ⟨rest0.length, ?_, k0 + 1, rest0, rfl, hd', (by omega), ?_, ?_, ?_, ?_, ?_, ?_, ?_, ?_, ?_, ?_⟩; ((simp only [List.length_cons] at *; omega)); all_goals first | (simp (disch := omega) only [push_cast, simprocAttr, hS0, natNe, zI, zG, TyD.isAgg, zJ, isEmpty_map, zV, zW, zC, zM, hk, hg, hx, hsn] <;> first | rfl | omega) | omega)
  have hk := drop_nil hp00
  have hkl : ids.take k0 = ids := List.take_of_length_le (List.drop_eq_nil_iff.1 hp00)
  rw [hkl] at hS0
  repeat' first
    | ((apply D.callw cx_ok; decide; decide); (iterate 3 (simp (disch := (first | omega | (simp only [zE, zF, zD, zC, zA, zB]; omega))) only [push_cast, simprocAttr, takeM, dropM, zK, zA, zB, zN, zQ, zR, zO, zP, zT, zS, zU, leT, zH, pureL, pureA, hS0, natNe, zI, zG, TyD.isAgg, zJ, isEmpty_map, zV, zW, zC, zM, hk] <;> rfl)); (with_reducible exact hcl); (first | exact .inl rfl | (refine .inr ?_; simp (disch := (first | omega | (simp only [zE, zF, zD, zC, zA, zB]; omega))) only [push_cast, simprocAttr, takeM, dropM, zK, zA, zB, zN, zQ, zR, zO, zP, zT, zS, zU, leT, zH, pureL, pureA, hS0, natNe, zI, zG, TyD.isAgg, zJ, isEmpty_map, zV, zW, zC, zM, hk] <;> simp)))
    | ((apply W.callw cx_ok; decide); (iterate 3 (simp (disch := (first | omega | (simp only [zE, zF, zD, zC, zA, zB]; omega))) only [push_cast, simprocAttr, takeM, dropM, zK, zA, zB, zN, zQ, zR, zO, zP, zT, zS, zU, leT, zH, pureL, pureA, hS0, natNe, zI, zG, TyD.isAgg, zJ, isEmpty_map, zV, zW, zC, zM, hk] <;> rfl)); (with_reducible exact hcl))
    | apply AW.seq | apply AW.region | apply AW.ret | apply AW.block | apply AW.skip | apply AW.exit | apply AW.scope | apply AW.label | apply AWL.nil
    | ((first | (apply W.step cx_ok; decide) | apply W.store cx_ok | apply AW.cond | apply W.mapUpdate cx_ok); (simp (disch := (first | omega | (simp only [zE, zF, zD, zC, zA, zB]; omega))) only [push_cast, simprocAttr, takeM, dropM, zK, zA, zB, zN, zQ, zR, zO, zP, zT, zS, zU, leT, zH, pureL, pureA, hS0, natNe, zI, zG, TyD.isAgg, zJ, isEmpty_map, zV, zW, zC, zM, hk] <;> rfl); all_goals try ((with_reducible intro hI); try first | (cases hI; done) | (simp only [INTS, zL] at hI; try first | (exfalso; omega) | (have hT : True := hI; clear hT hI))))
    | (refine W.makeMap cx_ok (by simp only [push_cast, simprocAttr] <;> rfl) (by decide) ?_)
    | (apply W.append cx_ok; decide; rfl; rfl; rfl; decide; (iterate 3 (simp (disch := (first | omega | (simp only [zE, zF, zD, zC, zA, zB]; omega))) only [push_cast, simprocAttr, takeM, dropM, zK, zA, zB, zN, zQ, zR, zO, zP, zT, zS, zU, leT, zH, pureL, pureA, hS0, natNe, zI, zG, TyD.isAgg, zJ, isEmpty_map, zV, zW, zC, zM, hk] <;> rfl)); (first | (focus (simp; done)) | (intro c hc; obtain ⟨x, _, rfl⟩ := List.mem_map.1 hc; rfl)); ((first | rfl | simp (disch := omega) only [push_cast])); ((try dsimp only); (try simp only [zF, zE, zD, zC, zA, zB]); omega); ((try dsimp only); (try simp only [zF, zE, zD, zC, zA, zB]); omega))
    | ((first | apply W.retM | apply W.endM'); (iterate 2 (try (simp (disch := (first | omega | (simp only [zE, zF, zD, zC, zA, zB]; omega))) only [push_cast, simprocAttr, takeM, dropM, zK, zA, zB, zN, zQ, zR, zO, zP, zT, zS, zU, leT, zH, pureL, pureA, hS0, natNe, zI, zG, TyD.isAgg, zJ, isEmpty_map, zV, zW, zC, zM, hk] <;> rfl))))

  refine AW.adoptCell s0.nx 0 12 3 60 (r := { k := 14, es := [[ai r.s.id, ai r.s.inn.lo, ai r.s.inn.hi, ai r.s.out.lo, ai r.s.out.hi, ai r.s.zero.lo, ai r.s.zero.hi, ai r.s.fin.lo, ai r.s.fin.hi, ai r.s.rate.lo, ai r.s.rate.hi, .ref (s0.nx + 1) 0 r.s.stops.length, .v (.slice none 0 0), .v (.slice none 0 0)]], ty := 30 }) (by simp (disch := omega) only [push_cast, simprocAttr, hS0, natNe, zI, zG, TyD.isAgg, zJ, isEmpty_map, zV, zW, zC, zM, hk] <;> rfl) rfl ?_
  refine AW.adoptCell s0.nx 0 13 3 53 (r := { k := 14, es := [[ai r.s.id, ai r.s.inn.lo, ai r.s.inn.hi, ai r.s.out.lo, ai r.s.out.hi, ai r.s.zero.lo, ai r.s.zero.hi, ai r.s.fin.lo, ai r.s.fin.hi, ai r.s.rate.lo, ai r.s.rate.hi, .ref (s0.nx + 1) 0 r.s.stops.length, .ref (s0.nx + 2) 0 0, .v (.slice none 0 0)]], ty := 30 }) (by simp (disch := omega) only [push_cast, simprocAttr, hS0, natNe, zI, zG, TyD.isAgg, zJ, isEmpty_map, zV, zW, zC, zM, hk] <;> rfl) rfl ?_
  refine AW.loop (fun n s => ∃ (k : Nat) (O : List Strike) (rest : List Strike), n = rest.length ∧ (r.strikes.drop k = rest) ∧ (O ++ rest.filter PS = SS) ∧ (O.length ≤ k) ∧ (k ≤ r.strikes.length) ∧ s0.nx + 4 ≤ s.nx ∧ s.tm 2 = .ptr 0 0 0 1 ∧ s.tm 4 = .ptr 1 0 0 1 ∧ s.tm 5 = .map 2 ∧ s.tm 8 = .ptr s0.nx 0 0 1 ∧ s.tm 33 = lStrike r.strikes ∧ s.tm 34 = ai r.strikes.length ∧ s.tm 35 = ai k ∧ Pg.rowAt s.H 0 = some { k := 14, es := [eRec r], ty := 30 } ∧ Pg.rowAt s.H 1 = some { k := 14, es := [Z1], ty := 30 } ∧ s.H 2 = some (.mp (.map .int) 0 (setM ids)) ∧ Pg.rowAt s.H s0.nx = some { k := 14, es := [[ai r.s.id, ai r.s.inn.lo, ai r.s.inn.hi, ai r.s.out.lo, ai r.s.out.hi, ai r.s.zero.lo, ai r.s.zero.hi, ai r.s.fin.lo, ai r.s.fin.hi, ai r.s.rate.lo, ai r.s.rate.hi, .ref (s0.nx + 1) 0 r.s.stops.length, .ref (s0.nx + 2) 0 O.length, .ref (s0.nx + 3) 0 ([] : List Sight).length]], ty := 30 } ∧ Pg.rowAt s.H (s0.nx + 1) = some { k := 3, es := r.s.stops.map eStop, ty := 68, lo := if r.s.stops.isEmpty = true then 0 else r.s.stops.length } ∧ Pg.rowAt s.H (s0.nx + 2) = some { k := 3, es := O.map eStrike, ty := 60, lo := O.length } ∧ Pg.rowAt s.H (s0.nx + 3) = some { k := 3, es := ([] : List Sight).map eSight, ty := 53, lo := 0 }) (r.strikes.length) ⟨0, [], r.strikes, rfl, rfl, (by rw [hSS]; rfl), (Nat.zero_le _), (Nat.zero_le _), ?_, ?_, ?_, ?_, ?_, ?_, ?_, ?_, ?_, ?_, ?_, ?_, ?_, ?_, ?_⟩ ?_
  iterate 15 (first | (simp (disch := omega) only [push_cast, simprocAttr, hS0, natNe, zI, zG, TyD.isAgg, zJ, isEmpty_map, zV, zW, zC, zM, hk] <;> first | rfl | omega) | omega)
  rintro n2 s2 ⟨k2, O2, rest2, hn2, hp02, hp12, hp22, hp32, hnl2, hS2⟩
  rcases rest2 with _ | ⟨x, rest2⟩
  rotate_left
  · obtain ⟨hk2, hg2, hd2, hl2, hm2, hx2⟩ := drop_cons hp02 eStrike []
    rw [List.filter_cons, hPSe] at hp12
    cases hq : ids.contains x.id with
    | true =>
      rw [hq, if_neg (by decide)] at hp12
      repeat' first
        | apply AW.seq | apply AW.region | apply AW.ret | apply AW.block | apply AW.skip | apply AW.exit | apply AW.scope | apply AW.label | apply AWL.nil
        | ((first | (apply W.step cx_ok; decide) | apply W.store cx_ok | apply AW.cond | apply W.mapUpdate cx_ok); (simp (disch := (first | omega | (simp only [zE, zF, zD, zC, zA, zB, zC]; omega))) only [push_cast, simprocAttr, takeM, dropM, zK, zA, zB, zN, zQ, zR, zO, zP, zT, zS, zU, leT, zH, pureL, pureA, hS2, natNe, zI, zG, TyD.isAgg, zJ, isEmpty_map, zV, zW, zC, zM, hk2, hg2, hx2, hlook, hq] <;> rfl); all_goals try ((with_reducible intro hI); try first | (cases hI; done) | (simp only [INTS, zL] at hI; try first | (exfalso; omega) | (have hT : True := hI; clear hT hI))))
        | (refine W.makeMap cx_ok (by simp only [push_cast, simprocAttr] <;> rfl) (by decide) ?_)
        | (apply W.append cx_ok; decide; rfl; rfl; rfl; decide; (iterate 3 (simp (disch := (first | omega | (simp only [zE, zF, zD, zC, zA, zB, zC]; omega))) only [push_cast, simprocAttr, takeM, dropM, zK, zA, zB, zN, zQ, zR, zO, zP, zT, zS, zU, leT, zH, pureL, pureA, hS2, natNe, zI, zG, TyD.isAgg, zJ, isEmpty_map, zV, zW, zC, zM, hk2, hg2, hx2, hlook, hq] <;> rfl)); (first | (focus (simp; done)) | (intro c hc; obtain ⟨x, _, rfl⟩ := List.mem_map.1 hc; rfl)); ((first | rfl | simp (disch := omega) only [push_cast])); ((try dsimp only); (try simp only [zF, zE, zD, zC, zA, zB, zC]); omega); ((try dsimp only); (try simp only [zF, zE, zD, zC, zA, zB, zC]); omega))
        | ((first | apply W.retM | apply W.endM'); (iterate 2 (try (simp (disch := (first | omega | (simp only [zE, zF, zD, zC, zA, zB, zC]; omega))) only [push_cast, simprocAttr, takeM, dropM, zK, zA, zB, zN, zQ, zR, zO, zP, zT, zS, zU, leT, zH, pureL, pureA, hS2, natNe, zI, zG, TyD.isAgg, zJ, isEmpty_map, zV, zW, zC, zM, hk2, hg2, hx2, hlook, hq] <;> rfl))))

      all_goals (refine ⟨rest2.length, ?_, k2 + 1, O2, rest2, rfl, hd2, hp12, (by omega), (by omega), ?_, ?_, ?_, ?_, ?_, ?_, ?_, ?_, ?_, ?_, ?_, ?_, ?_, ?_, ?_⟩; ((simp only [List.length_cons] at *; omega)); all_goals first | (simp (disch := omega) only [push_cast, simprocAttr, hS2, natNe, zI, zG, TyD.isAgg, zJ, isEmpty_map, zV, zW, zC, zM, hk2, hg2, hx2, hlook, hq] <;> first | rfl | omega) | omega)
    | false =>
      rw [hq, if_pos (by decide)] at hp12
      repeat' first
        | apply AW.seq | apply AW.region | apply AW.ret | apply AW.block | apply AW.skip | apply AW.exit | apply AW.scope | apply AW.label | apply AWL.nil
        | ((first | (apply W.step cx_ok; decide) | apply W.store cx_ok | apply AW.cond | apply W.mapUpdate cx_ok); (simp (disch := (first | omega | (simp only [zE, zF, zD, zC, zA, zB, zC]; omega))) only [push_cast, simprocAttr, takeM, dropM, zK, zA, zB, zN, zQ, zR, zO, zP, zT, zS, zU, leT, zH, pureL, pureA, hS2, natNe, zI, zG, TyD.isAgg, zJ, isEmpty_map, zV, zW, zC, zM, zY, zX, zE, zD, Nat.zero_add, hk2, hg2, hx2, hlook, hq] <;> rfl); all_goals try ((with_reducible intro hI); try first | (cases hI; done) | (simp only [INTS, zL] at hI; try first | (exfalso; omega) | (have hT : True := hI; clear hT hI))))
        | (refine W.makeMap cx_ok (by simp only [push_cast, simprocAttr] <;> rfl) (by decide) ?_)
        | (apply W.append cx_ok; decide; rfl; rfl; rfl; decide; (iterate 3 (simp (disch := (first | omega | (simp only [zE, zF, zD, zC, zA, zB, zC]; omega))) only [push_cast, simprocAttr, takeM, dropM, zK, zA, zB, zN, zQ, zR, zO, zP, zT, zS, zU, leT, zH, pureL, pureA, hS2, natNe, zI, zG, TyD.isAgg, zJ, isEmpty_map, zV, zW, zC, zM, zY, zX, zE, zD, Nat.zero_add, hk2, hg2, hx2, hlook, hq] <;> rfl)); (first | (focus (simp; done)) | (intro c hc; obtain ⟨x, _, rfl⟩ := List.mem_map.1 hc; rfl)); ((first | rfl | simp (disch := omega) only [push_cast])); ((try dsimp only); (try simp only [zF, zE, zD, zC, zA, zB, zC]); omega); ((try dsimp only); (try simp only [zF, zE, zD, zC, zA, zB, zC]); omega))
        | ((first | apply W.retM | apply W.endM'); (iterate 2 (try (simp (disch := (first | omega | (simp only [zE, zF, zD, zC, zA, zB, zC]; omega))) only [push_cast, simprocAttr, takeM, dropM, zK, zA, zB, zN, zQ, zR, zO, zP, zT, zS, zU, leT, zH, pureL, pureA, hS2, natNe, zI, zG, TyD.isAgg, zJ, isEmpty_map, zV, zW, zC, zM, zY, zX, zE, zD, Nat.zero_add, hk2, hg2, hx2, hlook, hq] <;> rfl))))

      all_goals (refine ⟨rest2.length, ?_, k2 + 1, (O2 ++ [x]), rest2, rfl, hd2, (by rw [List.append_assoc]; exact hp12), (by rw [List.length_append, List.length_singleton]; omega), (by omega), ?_, ?_, ?_, ?_, ?_, ?_, ?_, ?_, ?_, ?_, ?_, ?_, ?_, ?_, ?_⟩; ((simp only [List.length_cons] at *; omega)); all_goals first | (simp (disch := omega) only [push_cast, simprocAttr, hS2, natNe, zI, zG, TyD.isAgg, zJ, isEmpty_map, zV, zW, zC, zM, zY, zX, zE, zD, Nat.zero_add, hk2, hg2, hx2, hlook, hq] <;> first | rfl | omega) | omega)
  have hk2 := drop_nil hp02
  simp only [List.filter_nil, List.append_nil] at hp12
  rw [hp12] at hS2
  repeat' first
    | apply AW.seq | apply AW.region | apply AW.ret | apply AW.block | apply AW.skip | apply AW.exit | apply AW.scope | apply AW.label | apply AWL.nil
    | ((first | (apply W.step cx_ok; decide) | apply W.store cx_ok | apply AW.cond | apply W.mapUpdate cx_ok); (simp (disch := (first | omega | (simp only [zE, zF, zD, zC, zA, zB]; omega))) only [push_cast, simprocAttr, takeM, dropM, zK, zA, zB, zN, zQ, zR, zO, zP, zT, zS, zU, leT, zH, pureL, pureA, hS2, natNe, zI, zG, TyD.isAgg, zJ, isEmpty_map, zV, zW, zC, zM, hk2] <;> rfl); all_goals try ((with_reducible intro hI); try first | (cases hI; done) | (simp only [INTS, zL] at hI; try first | (exfalso; omega) | (have hT : True := hI; clear hT hI))))
    | (refine W.makeMap cx_ok (by simp only [push_cast, simprocAttr] <;> rfl) (by decide) ?_)
    | (apply W.append cx_ok; decide; rfl; rfl; rfl; decide; (iterate 3 (simp (disch := (first | omega | (simp only [zE, zF, zD, zC, zA, zB]; omega))) only [push_cast, simprocAttr, takeM, dropM, zK, zA, zB, zN, zQ, zR, zO, zP, zT, zS, zU, leT, zH, pureL, pureA, hS2, natNe, zI, zG, TyD.isAgg, zJ, isEmpty_map, zV, zW, zC, zM, hk2] <;> rfl)); (first | (focus (simp; done)) | (intro c hc; obtain ⟨x, _, rfl⟩ := List.mem_map.1 hc; rfl)); ((first | rfl | simp (disch := omega) only [push_cast])); ((try dsimp only); (try simp only [zF, zE, zD, zC, zA, zB]); omega); ((try dsimp only); (try simp only [zF, zE, zD, zC, zA, zB]); omega))
    | ((first | apply W.retM | apply W.endM'); (iterate 2 (try (simp (disch := (first | omega | (simp only [zE, zF, zD, zC, zA, zB]; omega))) only [push_cast, simprocAttr, takeM, dropM, zK, zA, zB, zN, zQ, zR, zO, zP, zT, zS, zU, leT, zH, pureL, pureA, hS2, natNe, zI, zG, TyD.isAgg, zJ, isEmpty_map, zV, zW, zC, zM, hk2] <;> rfl))))

  refine AW.loop (fun n s => ∃ (k : Nat) (O : List Sight) (rest : List Sight), n = rest.length ∧ (r.sights.drop k = rest) ∧ (O ++ rest.filter PT = TT) ∧ (O.length ≤ k) ∧ (k ≤ r.sights.length) ∧ s0.nx + 4 ≤ s.nx ∧ s.tm 2 = .ptr 0 0 0 1 ∧ s.tm 4 = .ptr 1 0 0 1 ∧ s.tm 5 = .map 2 ∧ s.tm 8 = .ptr s0.nx 0 0 1 ∧ s.tm 52 = lSight r.sights ∧ s.tm 53 = ai r.sights.length ∧ s.tm 54 = ai k ∧ Pg.rowAt s.H 0 = some { k := 14, es := [eRec r], ty := 30 } ∧ Pg.rowAt s.H 1 = some { k := 14, es := [Z1], ty := 30 } ∧ s.H 2 = some (.mp (.map .int) 0 (setM ids)) ∧ Pg.rowAt s.H s0.nx = some { k := 14, es := [[ai r.s.id, ai r.s.inn.lo, ai r.s.inn.hi, ai r.s.out.lo, ai r.s.out.hi, ai r.s.zero.lo, ai r.s.zero.hi, ai r.s.fin.lo, ai r.s.fin.hi, ai r.s.rate.lo, ai r.s.rate.hi, .ref (s0.nx + 1) 0 r.s.stops.length, .ref (s0.nx + 2) 0 SS.length, .ref (s0.nx + 3) 0 O.length]], ty := 30 } ∧ Pg.rowAt s.H (s0.nx + 1) = some { k := 3, es := r.s.stops.map eStop, ty := 68, lo := if r.s.stops.isEmpty = true then 0 else r.s.stops.length } ∧ Pg.rowAt s.H (s0.nx + 2) = some { k := 3, es := SS.map eStrike, ty := 60, lo := SS.length } ∧ Pg.rowAt s.H (s0.nx + 3) = some { k := 3, es := O.map eSight, ty := 53, lo := O.length }) (r.sights.length) ⟨0, [], r.sights, rfl, rfl, (by rw [hTT]; rfl), (Nat.zero_le _), (Nat.zero_le _), ?_, ?_, ?_, ?_, ?_, ?_, ?_, ?_, ?_, ?_, ?_, ?_, ?_, ?_, ?_⟩ ?_
  iterate 15 (first | (simp (disch := omega) only [push_cast, simprocAttr, hS2, natNe, zI, zG, TyD.isAgg, zJ, isEmpty_map, zV, zW, zC, zM, hk2] <;> first | rfl | omega) | omega)
  rintro n4 s4 ⟨k4, O4, rest4, hn4, hp04, hp14, hp24, hp34, hnl4, hS4⟩
  rcases rest4 with _ | ⟨x, rest4⟩
  rotate_left
  · obtain ⟨hk4, hg4, hd4, hl4, hm4, hx4⟩ := drop_cons hp04 eSight []
    rw [List.filter_cons, hPTe] at hp14
    cases hq : ids.contains x.strike with
    | true =>
      rw [hq, if_neg (by decide)] at hp14
      repeat' first
        | apply AW.seq | apply AW.region | apply AW.ret | apply AW.block | apply AW.skip | apply AW.exit | apply AW.scope | apply AW.label | apply AWL.nil
        | ((first | (apply W.step cx_ok; decide) | apply W.store cx_ok | apply AW.cond | apply W.mapUpdate cx_ok); (simp (disch := (first | omega | (simp only [zE, zF, zD, zC, zA, zB, zC]; omega))) only [push_cast, simprocAttr, takeM, dropM, zK, zA, zB, zN, zQ, zR, zO, zP, zT, zS, zU, leT, zH, pureL, pureA, hS4, natNe, zI, zG, TyD.isAgg, zJ, isEmpty_map, zV, zW, zC, zM, hk4, hg4, hx4, hlook, hq] <;> rfl); all_goals try ((with_reducible intro hI); try first | (cases hI; done) | (simp only [INTS, zL] at hI; try first | (exfalso; omega) | (have hT : True := hI; clear hT hI))))
        | (refine W.makeMap cx_ok (by simp only [push_cast, simprocAttr] <;> rfl) (by decide) ?_)
        | (apply W.append cx_ok; decide; rfl; rfl; rfl; decide; (iterate 3 (simp (disch := (first | omega | (simp only [zE, zF, zD, zC, zA, zB, zC]; omega))) only [push_cast, simprocAttr, takeM, dropM, zK, zA, zB, zN, zQ, zR, zO, zP, zT, zS, zU, leT, zH, pureL, pureA, hS4, natNe, zI, zG, TyD.isAgg, zJ, isEmpty_map, zV, zW, zC, zM, hk4, hg4, hx4, hlook, hq] <;> rfl)); (first | (focus (simp; done)) | (intro c hc; obtain ⟨x, _, rfl⟩ := List.mem_map.1 hc; rfl)); ((first | rfl | simp (disch := omega) only [push_cast])); ((try dsimp only); (try simp only [zF, zE, zD, zC, zA, zB, zC]); omega); ((try dsimp only); (try simp only [zF, zE, zD, zC, zA, zB, zC]); omega))
        | ((first | apply W.retM | apply W.endM'); (iterate 2 (try (simp (disch := (first | omega | (simp only [zE, zF, zD, zC, zA, zB, zC]; omega))) only [push_cast, simprocAttr, takeM, dropM, zK, zA, zB, zN, zQ, zR, zO, zP, zT, zS, zU, leT, zH, pureL, pureA, hS4, natNe, zI, zG, TyD.isAgg, zJ, isEmpty_map, zV, zW, zC, zM, hk4, hg4, hx4, hlook, hq] <;> rfl))))

      all_goals (refine ⟨rest4.length, ?_, k4 + 1, O4, rest4, rfl, hd4, hp14, (by omega), (by omega), ?_, ?_, ?_, ?_, ?_, ?_, ?_, ?_, ?_, ?_, ?_, ?_, ?_, ?_, ?_⟩; ((simp only [List.length_cons] at *; omega)); all_goals first | (simp (disch := omega) only [push_cast, simprocAttr, hS4, natNe, zI, zG, TyD.isAgg, zJ, isEmpty_map, zV, zW, zC, zM, hk4, hg4, hx4, hlook, hq] <;> first | rfl | omega) | omega)
    | false =>
      rw [hq, if_pos (by decide)] at hp14
      repeat' first
        | apply AW.seq | apply AW.region | apply AW.ret | apply AW.block | apply AW.skip | apply AW.exit | apply AW.scope | apply AW.label | apply AWL.nil
        | ((first | (apply W.step cx_ok; decide) | apply W.store cx_ok | apply AW.cond | apply W.mapUpdate cx_ok); (simp (disch := (first | omega | (simp only [zE, zF, zD, zC, zA, zB, zC]; omega))) only [push_cast, simprocAttr, takeM, dropM, zK, zA, zB, zN, zQ, zR, zO, zP, zT, zS, zU, leT, zH, pureL, pureA, hS4, natNe, zI, zG, TyD.isAgg, zJ, isEmpty_map, zV, zW, zC, zM, zY, zX, zE, zD, Nat.zero_add, hk4, hg4, hx4, hlook, hq] <;> rfl); all_goals try ((with_reducible intro hI); try first | (cases hI; done) | (simp only [INTS, zL] at hI; try first | (exfalso; omega) | (have hT : True := hI; clear hT hI))))
        | (refine W.makeMap cx_ok (by simp only [push_cast, simprocAttr] <;> rfl) (by decide) ?_)
        | (apply W.append cx_ok; decide; rfl; rfl; rfl; decide; (iterate 3 (simp (disch := (first | omega | (simp only [zE, zF, zD, zC, zA, zB, zC]; omega))) only [push_cast, simprocAttr, takeM, dropM, zK, zA, zB, zN, zQ, zR, zO, zP, zT, zS, zU, leT, zH, pureL, pureA, hS4, natNe, zI, zG, TyD.isAgg, zJ, isEmpty_map, zV, zW, zC, zM, zY, zX, zE, zD, Nat.zero_add, hk4, hg4, hx4, hlook, hq] <;> rfl)); (first | (focus (simp; done)) | (intro c hc; obtain ⟨x, _, rfl⟩ := List.mem_map.1 hc; rfl)); ((first | rfl | simp (disch := omega) only [push_cast])); ((try dsimp only); (try simp only [zF, zE, zD, zC, zA, zB, zC]); omega); ((try dsimp only); (try simp only [zF, zE, zD, zC, zA, zB, zC]); omega))
        | ((first | apply W.retM | apply W.endM'); (iterate 2 (try (simp (disch := (first | omega | (simp only [zE, zF, zD, zC, zA, zB, zC]; omega))) only [push_cast, simprocAttr, takeM, dropM, zK, zA, zB, zN, zQ, zR, zO, zP, zT, zS, zU, leT, zH, pureL, pureA, hS4, natNe, zI, zG, TyD.isAgg, zJ, isEmpty_map, zV, zW, zC, zM, zY, zX, zE, zD, Nat.zero_add, hk4, hg4, hx4, hlook, hq] <;> rfl))))

      all_goals (refine ⟨rest4.length, ?_, k4 + 1, (O4 ++ [x]), rest4, rfl, hd4, (by rw [List.append_assoc]; exact hp14), (by rw [List.length_append, List.length_singleton]; omega), (by omega), ?_, ?_, ?_, ?_, ?_, ?_, ?_, ?_, ?_, ?_, ?_, ?_, ?_, ?_, ?_⟩; ((simp only [List.length_cons] at *; omega)); all_goals first | (simp (disch := omega) only [push_cast, simprocAttr, hS4, natNe, zI, zG, TyD.isAgg, zJ, isEmpty_map, zV, zW, zC, zM, zY, zX, zE, zD, Nat.zero_add, hk4, hg4, hx4, hlook, hq] <;> first | rfl | omega) | omega)
  have hk4 := drop_nil hp04
  simp only [List.filter_nil, List.append_nil] at hp14
  rw [hp14] at hS4
  have hif : (if r.s.stops.isEmpty = true then 0 else r.s.stops.length) ≤ r.s.stops.length := by split <;> omega
  obtain ⟨LO, hLO⟩ : ∃ z, (if r.s.stops.isEmpty = true then 0 else r.s.stops.length) = z := ⟨_, rfl⟩
  rw [hLO] at hS4 hif
  repeat' first
    | apply AW.seq | apply AW.region | apply AW.ret | apply AW.block | apply AW.skip | apply AW.exit | apply AW.scope | apply AW.label | apply AWL.nil
    | ((first | (apply W.step cx_ok; decide) | apply W.store cx_ok | apply AW.cond | apply W.mapUpdate cx_ok); (simp (disch := (first | omega | (simp only [zE, zF, zD, zC, zA, zB]; omega))) only [push_cast, simprocAttr, takeM, dropM, zK, zA, zB, zN, zQ, zR, zO, zP, zT, zS, zU, leT, zH, pureL, pureA, hS4, natNe, zI, zG, TyD.isAgg, zJ, isEmpty_map, zV, zW, zC, zM, hk4, hif] <;> rfl); all_goals try ((with_reducible intro hI); try first | (cases hI; done) | (simp only [INTS, zL] at hI; try first | (exfalso; omega) | (have hT : True := hI; clear hT hI))))
    | (refine W.makeMap cx_ok (by simp only [push_cast, simprocAttr] <;> rfl) (by decide) ?_)
    | (apply W.append cx_ok; decide; rfl; rfl; rfl; decide; (iterate 3 (simp (disch := (first | omega | (simp only [zE, zF, zD, zC, zA, zB]; omega))) only [push_cast, simprocAttr, takeM, dropM, zK, zA, zB, zN, zQ, zR, zO, zP, zT, zS, zU, leT, zH, pureL, pureA, hS4, natNe, zI, zG, TyD.isAgg, zJ, isEmpty_map, zV, zW, zC, zM, hk4, hif] <;> rfl)); (first | (focus (simp; done)) | (intro c hc; obtain ⟨x, _, rfl⟩ := List.mem_map.1 hc; rfl)); ((first | rfl | simp (disch := omega) only [push_cast])); ((try dsimp only); (try simp only [zF, zE, zD, zC, zA, zB]); omega); ((try dsimp only); (try simp only [zF, zE, zD, zC, zA, zB]); omega))
    | ((first | apply W.retM | apply W.endM'); (iterate 2 (try (simp (disch := (first | omega | (simp only [zE, zF, zD, zC, zA, zB]; omega))) only [push_cast, simprocAttr, takeM, dropM, zK, zA, zB, zN, zQ, zR, zO, zP, zT, zS, zU, leT, zH, pureL, pureA, hS4, natNe, zI, zG, TyD.isAgg, zJ, isEmpty_map, zV, zW, zC, zM, hk4, hif] <;> rfl))))

  all_goals (show _ = _; rfl)
end Go.Proofs.Ks

namespace Go.Proofs.Ks
open Go Go.Pg Go.Proofs
def lkAt (L : List Lk) (k : Int) : Lk := L.getD k.toNat ⟨0, 0, 0⟩
def walkF (L : List Lk) : List Int → Int → Int → Int × Int × Bool
  | [], f, n => (f, n, true)
  | k :: r, f, n => if (0 ≤ k ∧ k < (L.length : Int)) ∧ ((lkAt L k).a : Int) = f then walkF L r (lkAt L k).b (n + (lkAt L k).m) else (0, 0, false)
theorem lkAt_get {L : List Lk} {k : Int} (h : 0 ≤ k ∧ k < (L.length : Int)) : (L.map eLink)[k.toNat]? = some (eLink (lkAt L k)) ∧ (L.map eLink).getD k.toNat [] = eLink (lkAt L k) ∧ lkAt L k ∈ L := by
  have hl : k.toNat < L.length := by omega
  have e : L[k.toNat]? = some (lkAt L k) := by unfold lkAt; rw [List.getD_eq_getElem?_getD, List.getElem?_eq_getElem hl]; rfl
  have e2 : (L.map eLink)[k.toNat]? = some (eLink (lkAt L k)) := by rw [List.getElem?_map, e]; rfl
  exact ⟨e2, by rw [List.getD_eq_getElem?_getD, e2]; rfl, List.mem_of_getElem? e⟩
theorem walk_ok (nd : List Node) (L : List Lk) (l : List Int) (f0 : Int) (hL : L.length ≤ 10000) (hl : l.length ≤ 1000) (hm : ∀ l ∈ L, -1073741823 ≤ l.m ∧ l.m ≤ 1073741823) :
    OKv cx 90 [gSys nd L, ai f0, lInt l] (.tup [ai (walkF L l f0 0).1, ai (walkF L l f0 0).2.1, ab (walkF L l f0 0).2.2]) := by
  obtain ⟨RES, hRES⟩ : ∃ z, walkF L l f0 0 = z := ⟨_, rfl⟩
  rw [hRES]
  refine OKat.of_body (rs := [6, 7, 8]) Try.func90 rfl (by decide +kernel) rfl (by simp [Try.ntmps90]) ?_
  simp only [Try.ntmps90]
  repeat' first
    | apply AW.seq | apply AW.region | apply AW.ret | apply AW.block | apply AW.skip | apply AW.exit | apply AW.scope | apply AW.label | apply AWL.nil
    | ((first | (apply W.step cx_ok; decide) | (apply W.gS; rfl; decide) | apply AW.cond); (simp (disch := omega) only [push_cast, simprocAttr] <;> rfl); all_goals try ((with_reducible intro hI); try first | (cases hI; done) | (simp only [INTS, zL] at hI; try first | (exfalso; omega) | (have hT : True := hI; clear hT hI))))
    | ((first | apply W.ret3 | apply W.end3); (iterate 2 (try (simp (disch := omega) only [push_cast, simprocAttr] <;> rfl))))

  refine AW.loop (fun n s => ∃ (k : Nat) (f u : Int) (rest : List Int), n = rest.length ∧ (l.drop k = rest) ∧ (walkF L rest f u = RES) ∧ (-1073741823 * (k : Int) ≤ u ∧ u ≤ 1073741823 * (k : Int)) ∧ (k ≤ l.length) ∧ s.tm 0 = gSys nd L ∧ s.tm 1 = ai f ∧ s.tm 9 = ai u ∧ s.tm 12 = lInt l ∧ s.tm 13 = ai l.length ∧ s.tm 14 = ai k) (l.length) ⟨0, f0, 0, l, rfl, rfl, hRES, (by omega), (Nat.zero_le _), ?_, ?_, ?_, ?_, ?_, ?_⟩ ?_
  iterate 6 (first | (simp (disch := omega) only [push_cast, simprocAttr] <;> first | rfl | omega) | omega)
  rintro n s ⟨k, f, u, rest, hn, hp0, hp1, hp2, hp3, hS⟩
  rcases rest with _ | ⟨x, rest⟩
  · have hk := drop_nil hp0
    unfold walkF at hp1
    subst hp1
    repeat' first
      | apply AW.seq | apply AW.region | apply AW.ret | apply AW.block | apply AW.skip | apply AW.exit | apply AW.scope | apply AW.label | apply AWL.nil
      | ((first | (apply W.step cx_ok; decide) | (apply W.gS; rfl; decide) | apply AW.cond); (simp (disch := omega) only [push_cast, simprocAttr, hS, hk] <;> rfl); all_goals try ((with_reducible intro hI); try first | (cases hI; done) | (simp only [INTS, zL] at hI; try first | (exfalso; omega) | (have hT : True := hI; clear hT hI))))
      | ((first | apply W.ret3 | apply W.end3); (iterate 2 (try (simp (disch := omega) only [push_cast, simprocAttr, hS, hk] <;> rfl))))

    all_goals (show _ = _; rfl)
  · obtain ⟨hk, hg, hd', hl', hmx, hx⟩ := drop_cons hp0 eInt []
    unfold walkF at hp1
    by_cases h0 : 0 ≤ x ∧ x < (L.length : Int)
    · obtain ⟨g1, g2, g3⟩ := lkAt_get h0
      obtain ⟨m1, m2⟩ := hm _ g3
      obtain ⟨Y, hY⟩ : ∃ z, lkAt L x = z := ⟨_, rfl⟩
      rw [hY] at g1 g2 g3 m1 m2 hp1
      obtain ⟨x0, x1⟩ := h0
      by_cases ha : (Y.a : Int) = f
      · have haT : ((Y.a : Int) = f) = True := eq_true ha
        rw [if_pos ⟨⟨x0, x1⟩, ha⟩] at hp1
        repeat' first
          | apply AW.seq | apply AW.region | apply AW.ret | apply AW.block | apply AW.skip | apply AW.exit | apply AW.scope | apply AW.label | apply AWL.nil
          | ((first | (apply W.step cx_ok; decide) | (apply W.gS; rfl; decide) | apply AW.cond); (simp (disch := omega) only [push_cast, simprocAttr, hS, hk, hg, hx, x0, x1, g1, g2, haT] <;> rfl); all_goals try ((with_reducible intro hI); try first | (cases hI; done) | (simp only [INTS, zL] at hI; try first | (exfalso; omega) | (have hT : True := hI; clear hT hI))))
          | ((first | apply W.ret3 | apply W.end3); (iterate 2 (try (simp (disch := omega) only [push_cast, simprocAttr, hS, hk, hg, hx, x0, x1, g1, g2, haT] <;> rfl))))

        all_goals (refine ⟨rest.length, ?_, k + 1, Y.b, u + Y.m, rest, rfl, hd', hp1, (by omega), (by omega), ?_, ?_, ?_, ?_, ?_, ?_⟩; ((simp only [List.length_cons] at *; omega)); all_goals first | (simp (disch := omega) only [push_cast, simprocAttr, hS, hk, hg, hx, x0, x1, g1, g2, haT] <;> first | rfl | omega) | omega)
      · have haF : ((Y.a : Int) = f) = False := eq_false ha
        rw [if_neg (fun h => ha h.2)] at hp1
        subst hp1
        repeat' first
          | apply AW.seq | apply AW.region | apply AW.ret | apply AW.block | apply AW.skip | apply AW.exit | apply AW.scope | apply AW.label | apply AWL.nil
          | ((first | (apply W.step cx_ok; decide) | (apply W.gS; rfl; decide) | apply AW.cond); (simp (disch := omega) only [push_cast, simprocAttr, hS, hk, hg, hx, x0, x1, g1, g2, haF] <;> rfl); all_goals try ((with_reducible intro hI); try first | (cases hI; done) | (simp only [INTS, zL] at hI; try first | (exfalso; omega) | (have hT : True := hI; clear hT hI))))
          | ((first | apply W.ret3 | apply W.end3); (iterate 2 (try (simp (disch := omega) only [push_cast, simprocAttr, hS, hk, hg, hx, x0, x1, g1, g2, haF] <;> rfl))))

        all_goals (show _ = _; rfl)
    · rw [if_neg (fun h => h0 h.1)] at hp1
      subst hp1
      by_cases x0 : 0 ≤ x
      · have x1 : (L.length : Int) ≤ x := by omega
        repeat' first
          | apply AW.seq | apply AW.region | apply AW.ret | apply AW.block | apply AW.skip | apply AW.exit | apply AW.scope | apply AW.label | apply AWL.nil
          | ((first | (apply W.step cx_ok; decide) | (apply W.gS; rfl; decide) | apply AW.cond); (simp (disch := omega) only [push_cast, simprocAttr, hS, hk, hg, hx, x0, x1] <;> rfl); all_goals try ((with_reducible intro hI); try first | (cases hI; done) | (simp only [INTS, zL] at hI; try first | (exfalso; omega) | (have hT : True := hI; clear hT hI))))
          | ((first | apply W.ret3 | apply W.end3); (iterate 2 (try (simp (disch := omega) only [push_cast, simprocAttr, hS, hk, hg, hx, x0, x1] <;> rfl))))

        all_goals (show _ = _; rfl)
      · have x1 : x < 0 := by omega
        repeat' first
          | apply AW.seq | apply AW.region | apply AW.ret | apply AW.block | apply AW.skip | apply AW.exit | apply AW.scope | apply AW.label | apply AWL.nil
          | ((first | (apply W.step cx_ok; decide) | (apply W.gS; rfl; decide) | apply AW.cond); (simp (disch := omega) only [push_cast, simprocAttr, hS, hk, hg, hx, x1] <;> rfl); all_goals try ((with_reducible intro hI); try first | (cases hI; done) | (simp only [INTS, zL] at hI; try first | (exfalso; omega) | (have hT : True := hI; clear hT hI))))
          | ((first | apply W.ret3 | apply W.end3); (iterate 2 (try (simp (disch := omega) only [push_cast, simprocAttr, hS, hk, hg, hx, x1] <;> rfl))))

        all_goals (show _ = _; rfl)
def cycleB (L : List Lk) (l : List Int) : Bool :=
  match l with
  | [] => false
  | c :: _ => decide (0 ≤ c ∧ c < (L.length : Int)) && ((walkF L l (lkAt L c).a 0).2.2 && (decide ((walkF L l (lkAt L c).a 0).1 = ((lkAt L c).a : Int)) && decide ((walkF L l (lkAt L c).a 0).2.1 < 0)))
theorem cycleB_cons (L : List Lk) (c : Int) (l : List Int) : cycleB L (c :: l) = (decide (0 ≤ c ∧ c < (L.length : Int)) && ((walkF L (c :: l) (lkAt L c).a 0).2.2 && (decide ((walkF L (c :: l) (lkAt L c).a 0).1 = ((lkAt L c).a : Int)) && decide ((walkF L (c :: l) (lkAt L c).a 0).2.1 < 0)))) := rfl
def checkClashE (r : Rec) (l : List Int) : Int := if checkE r = 0 then (if 60 < l.length then 2 else if cycleB (linksR r []) l = true then 0 else 8) else checkE r
theorem CheckClash_ok (r : Rec) (l : List Int) (hll : l.length ≤ 1099511627776) : OKv cx 28 [.agg (eRec r), lInt l] (ai (checkClashE r l)) := by
  unfold checkClashE
  by_cases hc : checkE r = 0
  · rw [if_pos hc]
    have hv := checkE_V hc
    obtain ⟨h1, h2, h3, h4, h5⟩ := links_facts (more := []) hv (by decide) nomore
    have hb : OKv cx 87 [.agg (eRec r), .lst []] (gSys (nodesR r []) (linksR r [])) := build_ok r [] hv (by decide) nomore
    by_cases hl : 60 < l.length
    · have hlI : (60 : Int) < (l.length : Int) := by omega
      rw [if_pos hl]
      refine OKat.of_body (rs := [4]) Try.func28 rfl (by decide +kernel) rfl (by simp [Try.ntmps28]) ?_
      simp only [Try.ntmps28]
      repeat' first
        | apply AW.seq | apply AW.region | apply AW.ret | apply AW.block | apply AW.skip | apply AW.exit | apply AW.scope | apply AW.label | apply AWL.nil | apply D.nil
        | refine W.draw cx_mixed (by decide +kernel) ?_
        | ((first | (apply W.step cx_ok; decide) | (apply D.step cx_ok; decide; decide) | (apply W.gS; rfl; decide) | (apply D.gS; rfl; decide; decide) | apply AW.cond); (simp (disch := omega) only [push_cast, simprocAttr, hc, hlI] <;> rfl); all_goals try ((with_reducible intro hI); try first | (cases hI; done) | (simp only [INTS, zL] at hI; try first | (exfalso; omega) | (have hT : True := hI; clear hT hI))))
        | ((first | (apply W.callv cx_ok; decide) | (apply D.callv cx_ok; decide; decide)); (iterate 2 (simp (disch := omega) only [push_cast, simprocAttr, hc, hlI] <;> rfl)); (with_reducible first | exact Check_ok r | exact hb); try first | rfl | (simp (disch := omega) only [push_cast, simprocAttr, hc, hlI] <;> rfl))
        | ((first | apply W.ret1 | apply W.end1); (iterate 2 (try (simp (disch := omega) only [push_cast, simprocAttr, hc, hlI] <;> rfl))))

      all_goals (show _ = _; rfl)
    · have hlI : ¬ (60 : Int) < (l.length : Int) := by omega
      rw [if_neg hl]
      rcases l with _ | ⟨c, l⟩
      · rw [if_neg (by simp [cycleB])]
        refine OKat.of_body (rs := [4]) Try.func28 rfl (by decide +kernel) rfl (by simp [Try.ntmps28]) ?_
        simp only [Try.ntmps28]
        repeat' first
          | apply AW.seq | apply AW.region | apply AW.ret | apply AW.block | apply AW.skip | apply AW.exit | apply AW.scope | apply AW.label | apply AWL.nil | apply D.nil
          | refine W.draw cx_mixed (by decide +kernel) ?_
          | ((first | (apply W.step cx_ok; decide) | (apply D.step cx_ok; decide; decide) | (apply W.gS; rfl; decide) | (apply D.gS; rfl; decide; decide) | apply AW.cond); (simp (disch := omega) only [push_cast, simprocAttr, hc, zW, zC] <;> rfl); all_goals try ((with_reducible intro hI); try first | (cases hI; done) | (simp only [INTS, zL] at hI; try first | (exfalso; omega) | (have hT : True := hI; clear hT hI))))
          | ((first | (apply W.callv cx_ok; decide) | (apply D.callv cx_ok; decide; decide)); (iterate 2 (simp (disch := omega) only [push_cast, simprocAttr, hc, zW, zC] <;> rfl)); (with_reducible first | exact Check_ok r | exact hb); try first | rfl | (simp (disch := omega) only [push_cast, simprocAttr, hc, zW, zC] <;> rfl))
          | ((first | apply W.ret1 | apply W.end1); (iterate 2 (try (simp (disch := omega) only [push_cast, simprocAttr, hc, zW, zC] <;> rfl))))

        all_goals (show _ = _; rfl)
      · have hlp : (((c :: l).length : Nat) : Int) ≠ 0 := by simp only [List.length_cons]; omega
        have hlp2 : (0 : Int) < (((c :: l).length : Nat) : Int) := by simp only [List.length_cons]; omega
        have hwk := fun f0 => walk_ok (nodesR r []) (linksR r []) (c :: l) f0 h2 (by omega) h4
        have hcy := cycleB_cons (linksR r []) c l
        by_cases h0 : 0 ≤ c ∧ c < ((linksR r []).length : Int)
        · obtain ⟨g1, g2, g3⟩ := lkAt_get h0
          obtain ⟨LK, hLK⟩ : ∃ z, linksR r [] = z := ⟨_, rfl⟩
          rw [hLK] at g1 g2 hcy h0 hwk hb ⊢
          obtain ⟨Y, hY⟩ : ∃ z, lkAt LK c = z := ⟨_, rfl⟩
          rw [hY] at g1 g2 hcy
          have hw := hwk (Y.a : Int)
          obtain ⟨x0, x1⟩ := h0
          obtain ⟨⟨e1, e2, e3⟩, hE⟩ : ∃ z, walkF LK (c :: l) (Y.a : Int) 0 = z := ⟨_, rfl⟩
          rw [hE] at hw
          have hcy2 : cycleB LK (c :: l) = (decide (0 ≤ c ∧ c < (LK.length : Int)) && (e3 && (decide (e1 = (Y.a : Int)) && decide (e2 < 0)))) := by rw [hcy, hE]
          have e0 : decide (0 ≤ c ∧ c < (LK.length : Int)) = true := decide_eq_true ⟨x0, x1⟩
          rw [e0, Bool.true_and] at hcy2
          rw [hcy2]
          dsimp only at hw
          clear hwk hcy hE
          have gl0 : ((c :: l).map eInt)[0]? = some (eInt c) := rfl
          have gd0 : ((c :: l).map eInt).getD 0 [] = eInt c := rfl
          clear hcy2
          obtain ⟨CL, hCL⟩ : ∃ z, c :: l = z := ⟨_, rfl⟩
          rw [hCL] at hlI hlp hlp2 hw gl0 gd0 ⊢
          rcases e3 with _ | _
          · rw [if_neg (by simp)]
            refine OKat.of_body (rs := [4]) Try.func28 rfl (by decide +kernel) rfl (by simp [Try.ntmps28]) ?_
            simp only [Try.ntmps28]
            repeat' first
              | apply AW.seq | apply AW.region | apply AW.ret | apply AW.block | apply AW.skip | apply AW.exit | apply AW.scope | apply AW.label | apply AWL.nil | apply D.nil
              | refine W.draw cx_mixed (by decide +kernel) ?_
              | ((first | (apply W.step cx_ok; decide) | (apply D.step cx_ok; decide; decide) | (apply W.gS; rfl; decide) | (apply D.gS; rfl; decide; decide) | apply AW.cond); (simp (disch := omega) only [push_cast, simprocAttr, hc, hlI, hlp, hlp2, gl0, gd0, x0, x1, g1, g2] <;> rfl); all_goals try ((with_reducible intro hI); try first | (cases hI; done) | (simp only [INTS, zL] at hI; try first | (exfalso; omega) | (have hT : True := hI; clear hT hI))))
              | ((first | (apply W.callv cx_ok; decide) | (apply D.callv cx_ok; decide; decide)); (iterate 2 (simp (disch := omega) only [push_cast, simprocAttr, hc, hlI, hlp, hlp2, gl0, gd0, x0, x1, g1, g2] <;> rfl)); (with_reducible first | exact Check_ok r | exact hb | exact hw); try first | rfl | (simp (disch := omega) only [push_cast, simprocAttr, hc, hlI, hlp, hlp2, gl0, gd0, x0, x1, g1, g2] <;> rfl))
              | ((first | apply W.ret1 | apply W.end1); (iterate 2 (try (simp (disch := omega) only [push_cast, simprocAttr, hc, hlI, hlp, hlp2, gl0, gd0, x0, x1, g1, g2] <;> rfl))))

            all_goals (show _ = _; rfl)
          · by_cases q1 : e1 = (Y.a : Int)
            · have q1T : (e1 = (Y.a : Int)) = True := eq_true q1
              by_cases q2 : e2 < 0
              · rw [if_pos (by simp [q1, q2])]
                refine OKat.of_body (rs := [4]) Try.func28 rfl (by decide +kernel) rfl (by simp [Try.ntmps28]) ?_
                simp only [Try.ntmps28]
                repeat' first
                  | apply AW.seq | apply AW.region | apply AW.ret | apply AW.block | apply AW.skip | apply AW.exit | apply AW.scope | apply AW.label | apply AWL.nil | apply D.nil
                  | refine W.draw cx_mixed (by decide +kernel) ?_
                  | ((first | (apply W.step cx_ok; decide) | (apply D.step cx_ok; decide; decide) | (apply W.gS; rfl; decide) | (apply D.gS; rfl; decide; decide) | apply AW.cond); (simp (disch := omega) only [push_cast, simprocAttr, hc, hlI, hlp, hlp2, gl0, gd0, x0, x1, g1, g2, q1T, q2] <;> rfl); all_goals try ((with_reducible intro hI); try first | (cases hI; done) | (simp only [INTS, zL] at hI; try first | (exfalso; omega) | (have hT : True := hI; clear hT hI))))
                  | ((first | (apply W.callv cx_ok; decide) | (apply D.callv cx_ok; decide; decide)); (iterate 2 (simp (disch := omega) only [push_cast, simprocAttr, hc, hlI, hlp, hlp2, gl0, gd0, x0, x1, g1, g2, q1T, q2] <;> rfl)); (with_reducible first | exact Check_ok r | exact hb | exact hw); try first | rfl | (simp (disch := omega) only [push_cast, simprocAttr, hc, hlI, hlp, hlp2, gl0, gd0, x0, x1, g1, g2, q1T, q2] <;> rfl))
                  | ((first | apply W.ret1 | apply W.end1); (iterate 2 (try (simp (disch := omega) only [push_cast, simprocAttr, hc, hlI, hlp, hlp2, gl0, gd0, x0, x1, g1, g2, q1T, q2] <;> rfl))))

                all_goals (show _ = _; rfl)
              · rw [if_neg (by simp [q1, q2])]
                have q2' : 0 ≤ e2 := by omega
                refine OKat.of_body (rs := [4]) Try.func28 rfl (by decide +kernel) rfl (by simp [Try.ntmps28]) ?_
                simp only [Try.ntmps28]
                repeat' first
                  | apply AW.seq | apply AW.region | apply AW.ret | apply AW.block | apply AW.skip | apply AW.exit | apply AW.scope | apply AW.label | apply AWL.nil | apply D.nil
                  | refine W.draw cx_mixed (by decide +kernel) ?_
                  | ((first | (apply W.step cx_ok; decide) | (apply D.step cx_ok; decide; decide) | (apply W.gS; rfl; decide) | (apply D.gS; rfl; decide; decide) | apply AW.cond); (simp (disch := omega) only [push_cast, simprocAttr, hc, hlI, hlp, hlp2, gl0, gd0, x0, x1, g1, g2, q1T, q2'] <;> rfl); all_goals try ((with_reducible intro hI); try first | (cases hI; done) | (simp only [INTS, zL] at hI; try first | (exfalso; omega) | (have hT : True := hI; clear hT hI))))
                  | ((first | (apply W.callv cx_ok; decide) | (apply D.callv cx_ok; decide; decide)); (iterate 2 (simp (disch := omega) only [push_cast, simprocAttr, hc, hlI, hlp, hlp2, gl0, gd0, x0, x1, g1, g2, q1T, q2'] <;> rfl)); (with_reducible first | exact Check_ok r | exact hb | exact hw); try first | rfl | (simp (disch := omega) only [push_cast, simprocAttr, hc, hlI, hlp, hlp2, gl0, gd0, x0, x1, g1, g2, q1T, q2'] <;> rfl))
                  | ((first | apply W.ret1 | apply W.end1); (iterate 2 (try (simp (disch := omega) only [push_cast, simprocAttr, hc, hlI, hlp, hlp2, gl0, gd0, x0, x1, g1, g2, q1T, q2'] <;> rfl))))

                all_goals (show _ = _; rfl)
            · have q1F : (e1 = (Y.a : Int)) = False := eq_false q1
              rw [if_neg (by simp [q1])]
              refine OKat.of_body (rs := [4]) Try.func28 rfl (by decide +kernel) rfl (by simp [Try.ntmps28]) ?_
              simp only [Try.ntmps28]
              repeat' first
                | apply AW.seq | apply AW.region | apply AW.ret | apply AW.block | apply AW.skip | apply AW.exit | apply AW.scope | apply AW.label | apply AWL.nil | apply D.nil
                | refine W.draw cx_mixed (by decide +kernel) ?_
                | ((first | (apply W.step cx_ok; decide) | (apply D.step cx_ok; decide; decide) | (apply W.gS; rfl; decide) | (apply D.gS; rfl; decide; decide) | apply AW.cond); (simp (disch := omega) only [push_cast, simprocAttr, hc, hlI, hlp, hlp2, gl0, gd0, x0, x1, g1, g2, q1F] <;> rfl); all_goals try ((with_reducible intro hI); try first | (cases hI; done) | (simp only [INTS, zL] at hI; try first | (exfalso; omega) | (have hT : True := hI; clear hT hI))))
                | ((first | (apply W.callv cx_ok; decide) | (apply D.callv cx_ok; decide; decide)); (iterate 2 (simp (disch := omega) only [push_cast, simprocAttr, hc, hlI, hlp, hlp2, gl0, gd0, x0, x1, g1, g2, q1F] <;> rfl)); (with_reducible first | exact Check_ok r | exact hb | exact hw); try first | rfl | (simp (disch := omega) only [push_cast, simprocAttr, hc, hlI, hlp, hlp2, gl0, gd0, x0, x1, g1, g2, q1F] <;> rfl))
                | ((first | apply W.ret1 | apply W.end1); (iterate 2 (try (simp (disch := omega) only [push_cast, simprocAttr, hc, hlI, hlp, hlp2, gl0, gd0, x0, x1, g1, g2, q1F] <;> rfl))))

              all_goals (show _ = _; rfl)
        · have e0 : decide (0 ≤ c ∧ c < ((linksR r []).length : Int)) = false := decide_eq_false h0
          rw [hcy, e0, Bool.false_and, if_neg (by decide)]
          have gl0 : ((c :: l).map eInt)[0]? = some (eInt c) := rfl
          have gd0 : ((c :: l).map eInt).getD 0 [] = eInt c := rfl
          clear hcy hwk
          obtain ⟨CL, hCL⟩ : ∃ z, c :: l = z := ⟨_, rfl⟩
          rw [hCL] at hlI hlp hlp2 gl0 gd0 ⊢
          by_cases x0 : 0 ≤ c
          · have x1 : ((linksR r []).length : Int) ≤ c := by omega
            refine OKat.of_body (rs := [4]) Try.func28 rfl (by decide +kernel) rfl (by simp [Try.ntmps28]) ?_
            simp only [Try.ntmps28]
            repeat' first
              | apply AW.seq | apply AW.region | apply AW.ret | apply AW.block | apply AW.skip | apply AW.exit | apply AW.scope | apply AW.label | apply AWL.nil | apply D.nil
              | refine W.draw cx_mixed (by decide +kernel) ?_
              | ((first | (apply W.step cx_ok; decide) | (apply D.step cx_ok; decide; decide) | (apply W.gS; rfl; decide) | (apply D.gS; rfl; decide; decide) | apply AW.cond); (simp (disch := omega) only [push_cast, simprocAttr, hc, hlI, hlp, hlp2, gl0, gd0, x0, x1] <;> rfl); all_goals try ((with_reducible intro hI); try first | (cases hI; done) | (simp only [INTS, zL] at hI; try first | (exfalso; omega) | (have hT : True := hI; clear hT hI))))
              | ((first | (apply W.callv cx_ok; decide) | (apply D.callv cx_ok; decide; decide)); (iterate 2 (simp (disch := omega) only [push_cast, simprocAttr, hc, hlI, hlp, hlp2, gl0, gd0, x0, x1] <;> rfl)); (with_reducible first | exact Check_ok r | exact hb); try first | rfl | (simp (disch := omega) only [push_cast, simprocAttr, hc, hlI, hlp, hlp2, gl0, gd0, x0, x1] <;> rfl))
              | ((first | apply W.ret1 | apply W.end1); (iterate 2 (try (simp (disch := omega) only [push_cast, simprocAttr, hc, hlI, hlp, hlp2, gl0, gd0, x0, x1] <;> rfl))))

            all_goals (show _ = _; rfl)
          · have x1 : c < 0 := by omega
            refine OKat.of_body (rs := [4]) Try.func28 rfl (by decide +kernel) rfl (by simp [Try.ntmps28]) ?_
            simp only [Try.ntmps28]
            repeat' first
              | apply AW.seq | apply AW.region | apply AW.ret | apply AW.block | apply AW.skip | apply AW.exit | apply AW.scope | apply AW.label | apply AWL.nil | apply D.nil
              | refine W.draw cx_mixed (by decide +kernel) ?_
              | ((first | (apply W.step cx_ok; decide) | (apply D.step cx_ok; decide; decide) | (apply W.gS; rfl; decide) | (apply D.gS; rfl; decide; decide) | apply AW.cond); (simp (disch := omega) only [push_cast, simprocAttr, hc, hlI, hlp, hlp2, gl0, gd0, x1] <;> rfl); all_goals try ((with_reducible intro hI); try first | (cases hI; done) | (simp only [INTS, zL] at hI; try first | (exfalso; omega) | (have hT : True := hI; clear hT hI))))
              | ((first | (apply W.callv cx_ok; decide) | (apply D.callv cx_ok; decide; decide)); (iterate 2 (simp (disch := omega) only [push_cast, simprocAttr, hc, hlI, hlp, hlp2, gl0, gd0, x1] <;> rfl)); (with_reducible first | exact Check_ok r | exact hb); try first | rfl | (simp (disch := omega) only [push_cast, simprocAttr, hc, hlI, hlp, hlp2, gl0, gd0, x1] <;> rfl))
              | ((first | apply W.ret1 | apply W.end1); (iterate 2 (try (simp (disch := omega) only [push_cast, simprocAttr, hc, hlI, hlp, hlp2, gl0, gd0, x1] <;> rfl))))

            all_goals (show _ = _; rfl)
  · rw [if_neg hc]
    have hcF : (checkE r = 0) = False := eq_false hc
    refine OKat.of_body (rs := [4]) Try.func28 rfl (by decide +kernel) rfl (by simp [Try.ntmps28]) ?_
    simp only [Try.ntmps28]
    repeat' first
      | apply AW.seq | apply AW.region | apply AW.ret | apply AW.block | apply AW.skip | apply AW.exit | apply AW.scope | apply AW.label | apply AWL.nil | apply D.nil
      | refine W.draw cx_mixed (by decide +kernel) ?_
      | ((first | (apply W.step cx_ok; decide) | (apply D.step cx_ok; decide; decide) | (apply W.gS; rfl; decide) | (apply D.gS; rfl; decide; decide) | apply AW.cond); (simp (disch := omega) only [push_cast, simprocAttr, hcF] <;> rfl); all_goals try ((with_reducible intro hI); try first | (cases hI; done) | (simp only [INTS, zL] at hI; try first | (exfalso; omega) | (have hT : True := hI; clear hT hI))))
      | ((first | (apply W.callv cx_ok; decide) | (apply D.callv cx_ok; decide; decide)); (iterate 2 (simp (disch := omega) only [push_cast, simprocAttr, hcF] <;> rfl)); (with_reducible first | exact Check_ok r); try first | rfl | (simp (disch := omega) only [push_cast, simprocAttr, hcF] <;> rfl))
      | ((first | apply W.ret1 | apply W.end1); (iterate 2 (try (simp (disch := omega) only [push_cast, simprocAttr, hcF] <;> rfl))))

    all_goals (show _ = _; rfl)
end Go.Proofs.Ks

namespace Go.Proofs.Ks
open Go Go.Pg Go.Proofs
theorem reverse89 : ReverseC cx.P 89 := fun blk off cap zs w h1 h2 => Try.slices_Reverse_int blk off cap zs w h1 h2
theorem sort99_0 : SortC0 cx.P 99 := fun p cap w => Try.slices_Sort_int_none p cap w
def okB (L : List Lk) (B : List Int) (b : Int) : Bool := decide (0 ≤ b) && (decide (b < (B.length : Int)) && (decide (0 ≤ B.getD b.toNat 0) && decide (B.getD b.toNat 0 < (L.length : Int))))
def backN (L : List Lk) (B : List Int) : Nat → Int → Option Int
  | 0, b => some b
  | k + 1, b => if okB L B b = true then backN L B k (lkAt L (B.getD b.toNat 0)).a else none
def cycF (L : List Lk) (B : List Int) (b0 : Int) : Nat → Int → List Int → Option (List Int)
  | 0, _, _ => none
  | k + 1, u, o => if okB L B u = true then (if ((lkAt L (B.getD u.toNat 0)).a : Int) = b0 then some (o ++ [B.getD u.toNat 0]) else cycF L B b0 k (lkAt L (B.getD u.toNat 0)).a (o ++ [B.getD u.toNat 0])) else none
def clashO (n : Nat) (L : List Lk) : Option (List Int) :=
  match backN L (lengthsF n L (-1)).2.1 n (lengthsF n L (-1)).2.2 with
  | some b => (cycF L (lengthsF n L (-1)).2.1 b 1000 b []).map List.reverse
  | none => none
theorem okB_get {L : List Lk} {B : List Int} {b : Int} (h : okB L B b = true) : 0 ≤ b ∧ b < (B.length : Int) ∧ 0 ≤ B.getD b.toNat 0 ∧ B.getD b.toNat 0 < (L.length : Int) ∧ (B.map eInt)[b.toNat]? = some (eInt (B.getD b.toNat 0)) ∧ (B.map eInt).getD b.toNat [] = eInt (B.getD b.toNat 0) := by
  unfold okB at h
  simp only [Bool.and_eq_true, decide_eq_true_eq] at h
  obtain ⟨h1, h2, h3, h4⟩ := h
  have hl : b.toNat < B.length := by omega
  have e : B[b.toNat]? = some (B.getD b.toNat 0) := by rw [List.getD_eq_getElem?_getD, List.getElem?_eq_getElem hl]; rfl
  have e2 : (B.map eInt)[b.toNat]? = some (eInt (B.getD b.toNat 0)) := by rw [List.getElem?_map, e]; rfl
  exact ⟨h1, h2, h3, h4, e2, by rw [List.getD_eq_getElem?_getD, e2]; rfl⟩
theorem cycF_ne {L : List Lk} {B : List Int} {b0 : Int} {OUT : List Int} : ∀ {k : Nat} {u : Int} {o : List Int}, cycF L B b0 k u o = some OUT → OUT ≠ [] ∧ OUT.length ≤ o.length + k
  | 0, _, _, h => by simp [cycF] at h
  | k + 1, u, o, h => by
    unfold cycF at h
    split at h
    · split at h
      · injection h with h; subst h; exact ⟨by simp, by simp only [List.length_append, List.length_cons, List.length_nil]; omega⟩
      · obtain ⟨h1, h2⟩ := cycF_ne h
        simp at h2
        exact ⟨h1, by omega⟩
    · cases h
theorem Clash_some (r : Rec) (hc : checkE r = 0) (hq : consP r [] = false) {OUT : List Int} (ho : clashO (nodesR r []).length (linksR r []) = some OUT) : OKv cx 27 [.agg (eRec r)] (.tup [lInt OUT, ab true, ai 0]) := by
  have hv := checkE_V hc
  obtain ⟨h1, h2, h3, h4, h5⟩ := links_facts (more := []) hv (by decide) nomore
  have hb : OKv cx 87 [.agg (eRec r), .lst []] (gSys (nodesR r []) (linksR r [])) := build_ok r [] hv (by decide) nomore
  have hln := lengths_ok (nodesR r []) (linksR r []) (-1) h1 h2 h3 h4
  have hneg : ¬ (lengthsF (nodesR r []).length (linksR r []) (-1)).2.2 < 0 := by unfold consP at hq; exact of_decide_eq_false hq
  unfold clashO at ho
  obtain ⟨LK, hLK⟩ : ∃ z, linksR r [] = z := ⟨_, rfl⟩
  rw [hLK] at ho hln hneg hb h2
  obtain ⟨⟨DS, PB, bad⟩, hB⟩ : ∃ z, lengthsF (nodesR r []).length LK (-1) = z := ⟨_, rfl⟩
  rw [hB] at hln hneg ho
  dsimp only at hln hneg ho
  have hneg' : 0 ≤ bad := by omega
  split at ho
  · rename_i B0 hB0
    rw [Option.map_eq_some_iff] at ho
    obtain ⟨OUT, ho, rfl⟩ := ho
    obtain ⟨hne, hol⟩ := cycF_ne ho
    simp only [List.length_nil, Nat.zero_add] at hol
    have hrv : ∀ {args : List AV} {H : Nat → Option AO} {m id lo : Nat}, args = [.ref id 0 OUT.length] → Pg.rowAt H id = some { k := 1, es := OUT.map eInt, ty := 3, lo := lo } →
        OKm cx 89 args H m (fun v H' nx' => v = .tup [] ∧ H' = updH H id (.row { k := 1, es := OUT.reverse.map eInt, ty := 3, lo := lo }) ∧ nx' = m) := by
      rintro _ H m id lo rfl h
      exact OKm.reverses ⟨_, Try.func89, by decide +kernel, rfl⟩ reverse89 hne (by omega) h
    refine OKat.of_body (rs := [2, 3, 4]) Try.func27 rfl (by decide +kernel) rfl (by simp [Try.ntmps27]) ?_
    simp only [Try.ntmps27]
    repeat' first
      | apply AW.seq | apply AW.region | apply AW.ret | apply AW.block | apply AW.skip | apply AW.exit | apply AW.scope | apply AW.label | apply AWL.nil | apply D.nil
      | refine W.draw cx_mixed (by decide +kernel) ?_
      | ((first | (apply W.step cx_ok; decide) | (apply D.step cx_ok; decide; decide) | apply AW.cond); (simp (disch := (first | omega | (simp only [zE, zF, zD, zC, zA, zB]; omega))) only [push_cast, simprocAttr, takeM, dropM, zK, zA, zB, zN, zQ, zR, zO, zP, zT, zS, zU, leT, zH, pureL, pureA, hc, hneg'] <;> rfl); all_goals try ((with_reducible intro hI); try first | (cases hI; done) | (simp only [INTS, zL] at hI; try first | (exfalso; omega) | (have hT : True := hI; clear hT hI))))
      | (apply W.append cx_ok; decide; rfl; rfl; rfl; decide; (iterate 3 (simp (disch := (first | omega | (simp only [zE, zF, zD, zC, zA, zB]; omega))) only [push_cast, simprocAttr, takeM, dropM, zK, zA, zB, zN, zQ, zR, zO, zP, zT, zS, zU, leT, zH, pureL, pureA, hc, hneg'] <;> rfl)); (first | (focus (simp; done)) | (intro c hc; obtain ⟨x, _, rfl⟩ := List.mem_map.1 hc; rfl)); ((first | rfl | simp (disch := omega) only [push_cast])); ((try dsimp only); (try simp only [zF, zE, zD, zC, zA, zB]); omega); ((try dsimp only); (try simp only [zF, zE, zD, zC, zA, zB]); omega))
      | ((first | (apply W.callv cx_ok; decide) | (apply D.callv cx_ok; decide; decide)); (iterate 2 (simp (disch := (first | omega | (simp only [zE, zF, zD, zC, zA, zB]; omega))) only [push_cast, simprocAttr, takeM, dropM, zK, zA, zB, zN, zQ, zR, zO, zP, zT, zS, zU, leT, zH, pureL, pureA, hc, hneg'] <;> rfl)); (with_reducible first | exact Check_ok r | exact hb | exact hln); try first | rfl | (simp (disch := (first | omega | (simp only [zE, zF, zD, zC, zA, zB]; omega))) only [push_cast, simprocAttr, takeM, dropM, zK, zA, zB, zN, zQ, zR, zO, zP, zT, zS, zU, leT, zH, pureL, pureA, hc, hneg'] <;> rfl))
      | ((first | apply W.ret3 | apply W.end3); (iterate 2 (try (simp (disch := (first | omega | (simp only [zE, zF, zD, zC, zA, zB]; omega))) only [push_cast, simprocAttr, takeM, dropM, zK, zA, zB, zN, zQ, zR, zO, zP, zT, zS, zU, leT, zH, pureL, pureA, hc, hneg'] <;> rfl))))

    refine AW.loop (fun n s => ∃ (k : Nat) (b : Int), n = (nodesR r []).length - k ∧ (k ≤ (nodesR r []).length) ∧ (backN LK PB ((nodesR r []).length - k) b = some B0) ∧ s.tm 6 = gSys (nodesR r []) LK ∧ s.tm 8 = lInt PB ∧ s.tm 9 = ai b ∧ s.tm 31 = ai (nodesR r []).length ∧ s.tm 32 = ai k) ((nodesR r []).length) ⟨0, bad, rfl, (Nat.zero_le _), hB0, ?_, ?_, ?_, ?_, ?_⟩ ?_
    iterate 5 (first | (simp (disch := omega) only [push_cast, simprocAttr, hc, hneg'] <;> first | rfl | omega) | omega)
    rintro n0 s0 ⟨k0, b0, hn0, hp00, hp10, hS0⟩
    by_cases hk : k0 < (nodesR r []).length
    · have hkI : (k0 : Int) < ((nodesR r []).length : Int) := by omega
      rw [show (nodesR r []).length - k0 = (nodesR r []).length - (k0 + 1) + 1 by omega, backN] at hp10
      split at hp10
      · rename_i hok
        obtain ⟨q1, q2, q3, q4, q5, q6⟩ := okB_get hok
        obtain ⟨g1, g2, g3⟩ := lkAt_get ⟨q3, q4⟩
        obtain ⟨Z, hZ⟩ : ∃ z, PB.getD b0.toNat 0 = z := ⟨_, rfl⟩
        rw [hZ] at q3 q4 q5 q6 g1 g2 hp10
        repeat' first
          | apply AW.seq | apply AW.region | apply AW.ret | apply AW.block | apply AW.skip | apply AW.exit | apply AW.scope | apply AW.label | apply AWL.nil | apply D.nil
          | refine W.draw cx_mixed (by decide +kernel) ?_
          | ((first | (apply W.step cx_ok; decide) | (apply D.step cx_ok; decide; decide) | apply AW.cond); (simp (disch := omega) only [push_cast, simprocAttr, hS0, hkI, q1, q2, q3, q4, q5, q6, g1, g2] <;> rfl); all_goals try ((with_reducible intro hI); try first | (cases hI; done) | (simp only [INTS, zL] at hI; try first | (exfalso; omega) | (have hT : True := hI; clear hT hI))))
          | ((first | apply W.ret3 | apply W.end3); (iterate 2 (try (simp (disch := omega) only [push_cast, simprocAttr, hS0, hkI, q1, q2, q3, q4, q5, q6, g1, g2] <;> rfl))))

        all_goals (refine ⟨(nodesR r []).length - (k0 + 1), ?_, k0 + 1, (lkAt LK Z).a, rfl, (by omega), hp10, ?_, ?_, ?_, ?_, ?_⟩; (omega); all_goals first | (simp (disch := omega) only [push_cast, simprocAttr, hS0, hkI, q1, q2, q3, q4, q5, q6, g1, g2] <;> first | rfl | omega) | omega)
      · cases hp10
    have hkI : ¬ (k0 : Int) < ((nodesR r []).length : Int) := by omega
    rw [show (nodesR r []).length - k0 = 0 by omega, backN] at hp10
    injection hp10 with hp10
    subst hp10
    repeat' first
      | apply AW.seq | apply AW.region | apply AW.ret | apply AW.block | apply AW.skip | apply AW.exit | apply AW.scope | apply AW.label | apply AWL.nil | apply D.nil
      | refine W.draw cx_mixed (by decide +kernel) ?_
      | ((first | (apply W.step cx_ok; decide) | (apply D.step cx_ok; decide; decide) | apply AW.cond); (simp (disch := (first | omega | (simp only [zE, zF, zD, zC, zA, zB]; omega))) only [push_cast, simprocAttr, takeM, dropM, zK, zA, zB, zN, zQ, zR, zO, zP, zT, zS, zU, leT, zH, pureL, pureA, hS0, hkI] <;> rfl); all_goals try ((with_reducible intro hI); try first | (cases hI; done) | (simp only [INTS, zL] at hI; try first | (exfalso; omega) | (have hT : True := hI; clear hT hI))))
      | (apply W.append cx_ok; decide; rfl; rfl; rfl; decide; (iterate 3 (simp (disch := (first | omega | (simp only [zE, zF, zD, zC, zA, zB]; omega))) only [push_cast, simprocAttr, takeM, dropM, zK, zA, zB, zN, zQ, zR, zO, zP, zT, zS, zU, leT, zH, pureL, pureA, hS0, hkI] <;> rfl)); (first | (focus (simp; done)) | (intro c hc; obtain ⟨x, _, rfl⟩ := List.mem_map.1 hc; rfl)); ((first | rfl | simp (disch := omega) only [push_cast])); ((try dsimp only); (try simp only [zF, zE, zD, zC, zA, zB]); omega); ((try dsimp only); (try simp only [zF, zE, zD, zC, zA, zB]); omega))
      | ((first | apply W.ret3 | apply W.end3); (iterate 2 (try (simp (disch := (first | omega | (simp only [zE, zF, zD, zC, zA, zB]; omega))) only [push_cast, simprocAttr, takeM, dropM, zK, zA, zB, zN, zQ, zR, zO, zP, zT, zS, zU, leT, zH, pureL, pureA, hS0, hkI] <;> rfl))))

    refine AW.adopt 10 1 3 ?_ ?_
    · (simp (disch := omega) only [push_cast, simprocAttr, hS0, hkI])
    refine AW.loop (fun n s => ∃ (i : Nat) (u : Int) (o : List Int), n = i ∧ (cycF LK PB b0 i u o = some OUT) ∧ (o.length + i = 1000) ∧ s0.nx + 1 ≤ s.nx ∧ s.tm 6 = gSys (nodesR r []) LK ∧ s.tm 8 = lInt PB ∧ s.tm 9 = ai b0 ∧ s.tm 10 = .ref s0.nx 0 o.length ∧ s.tm 11 = ai u ∧ Pg.rowAt s.H s0.nx = some { k := 1, es := o.map eInt, ty := 3, lo := o.length }) (1000) ⟨1000, b0, [], rfl, ho, rfl, ?_, ?_, ?_, ?_, ?_, ?_, ?_⟩ ?_
    iterate 7 (first | (simp (disch := omega) only [push_cast, simprocAttr, hS0, hkI, zW, zC] <;> first | rfl | omega) | omega)
    rintro n2 s2 ⟨i2, u2, o2, hn2, hp02, hp12, hnl2, hS2⟩
    rcases i2 with _ | i2
    · simp [cycF] at hp02
    · unfold cycF at hp02
      split at hp02
      · rename_i hok
        obtain ⟨q1, q2, q3, q4, q5, q6⟩ := okB_get hok
        obtain ⟨g1, g2, g3⟩ := lkAt_get ⟨q3, q4⟩
        obtain ⟨Z, hZ⟩ : ∃ z, PB.getD u2.toNat 0 = z := ⟨_, rfl⟩
        rw [hZ] at q3 q4 q5 q6 g1 g2 hp02
        by_cases hst : ((lkAt LK Z).a : Int) = b0
        · have hstT : (((lkAt LK Z).a : Int) = b0) = True := eq_true hst
          rw [if_pos hst] at hp02
          injection hp02 with hp02
          subst hp02
          repeat' first
            | apply AW.seq | apply AW.region | apply AW.ret | apply AW.block | apply AW.skip | apply AW.exit | apply AW.scope | apply AW.label | apply AWL.nil | apply D.nil
            | refine W.draw cx_mixed (by decide +kernel) ?_
            | ((first | (apply W.step cx_ok; decide) | (apply D.step cx_ok; decide; decide) | apply AW.cond); (simp (disch := (first | omega | (simp only [zE, zF, zD, zC, zA, zB, zC]; omega))) only [push_cast, simprocAttr, takeM, dropM, zK, zA, zB, zN, zQ, zR, zO, zP, zT, zS, zU, leT, zH, pureL, pureA, hS2, hstT, hZ, q1, q2, q3, q4, q5, q6, g1, g2, natNe, zI, zG, TyD.isAgg, zJ, zY, zX, zW, zE, zD, zC, isEmpty_map, zV, zM] <;> rfl); all_goals try ((with_reducible intro hI); try first | (cases hI; done) | (simp only [INTS, zL] at hI; try first | (exfalso; omega) | (have hT : True := hI; clear hT hI))))
            | (apply W.append cx_ok; decide; rfl; rfl; rfl; decide; (iterate 3 (simp (disch := (first | omega | (simp only [zE, zF, zD, zC, zA, zB, zC]; omega))) only [push_cast, simprocAttr, takeM, dropM, zK, zA, zB, zN, zQ, zR, zO, zP, zT, zS, zU, leT, zH, pureL, pureA, hS2, hstT, hZ, q1, q2, q3, q4, q5, q6, g1, g2, natNe, zI, zG, TyD.isAgg, zJ, zY, zX, zW, zE, zD, zC, isEmpty_map, zV, zM] <;> rfl)); (first | (focus (simp; done)) | (intro c hc; obtain ⟨x, _, rfl⟩ := List.mem_map.1 hc; rfl)); ((first | rfl | simp (disch := omega) only [push_cast])); ((try dsimp only); (try simp only [zF, zE, zD, zC, zA, zB, zC]); omega); ((try dsimp only); (try simp only [zF, zE, zD, zC, zA, zB, zC]); omega))
            | ((first | apply W.ret3 | apply W.end3); (iterate 2 (try (simp (disch := (first | omega | (simp only [zE, zF, zD, zC, zA, zB, zC]; omega))) only [push_cast, simprocAttr, takeM, dropM, zK, zA, zB, zN, zQ, zR, zO, zP, zT, zS, zU, leT, zH, pureL, pureA, hS2, hstT, hZ, q1, q2, q3, q4, q5, q6, g1, g2, natNe, zI, zG, TyD.isAgg, zJ, zY, zX, zW, zE, zD, zC, isEmpty_map, zV, zM] <;> rfl))))

          refine W.callm cx_ok (by decide) (f := 89) (caps := []) (by simp (disch := omega) only [push_cast, simprocAttr, hS2, hstT, hZ, q1, q2, q3, q4, q5, q6, g1, g2, natNe, zI, zG, TyD.isAgg, zJ, zY, zX, zW, zE, zD, zC, isEmpty_map, zV, zM] <;> rfl) (hrv (id := s0.nx) (by simp (disch := omega) only [push_cast, simprocAttr, hS2, hstT, hZ, q1, q2, q3, q4, q5, q6, g1, g2, natNe, zI, zG, TyD.isAgg, zJ, zY, zX, zW, zE, zD, zC, isEmpty_map, zV, zM] <;> rfl) (by simp (disch := omega) only [push_cast, simprocAttr, hS2, hstT, hZ, q1, q2, q3, q4, q5, q6, g1, g2, natNe, zI, zG, TyD.isAgg, zJ, zY, zX, zW, zE, zD, zC, isEmpty_map, zV, zM] <;> rfl)) ?_
          rintro _ _ _ ⟨rfl, rfl, rfl⟩
          repeat' first
            | apply AW.seq | apply AW.region | apply AW.ret | apply AW.block | apply AW.skip | apply AW.exit | apply AW.scope | apply AW.label | apply AWL.nil | apply D.nil
            | refine W.draw cx_mixed (by decide +kernel) ?_
            | ((first | (apply W.step cx_ok; decide) | (apply D.step cx_ok; decide; decide) | apply AW.cond); (simp (disch := (first | omega | (simp only [zE, zF, zD, zC, zA, zB]; omega))) only [push_cast, simprocAttr, takeM, dropM, zK, zA, zB, zN, zQ, zR, zO, zP, zT, zS, zU, leT, zH, pureL, pureA, hS2, hstT, hZ, q1, q2, q3, q4, q5, q6, g1, g2, natNe, zI, zG, TyD.isAgg, zJ, zY, zX, zW, zE, zD, zC, isEmpty_map, zV, zM, List.length_reverse] <;> rfl); all_goals try ((with_reducible intro hI); try first | (cases hI; done) | (simp only [INTS, zL] at hI; try first | (exfalso; omega) | (have hT : True := hI; clear hT hI))))
            | (apply W.append cx_ok; decide; rfl; rfl; rfl; decide; (iterate 3 (simp (disch := (first | omega | (simp only [zE, zF, zD, zC, zA, zB]; omega))) only [push_cast, simprocAttr, takeM, dropM, zK, zA, zB, zN, zQ, zR, zO, zP, zT, zS, zU, leT, zH, pureL, pureA, hS2, hstT, hZ, q1, q2, q3, q4, q5, q6, g1, g2, natNe, zI, zG, TyD.isAgg, zJ, zY, zX, zW, zE, zD, zC, isEmpty_map, zV, zM, List.length_reverse] <;> rfl)); (first | (focus (simp; done)) | (intro c hc; obtain ⟨x, _, rfl⟩ := List.mem_map.1 hc; rfl)); ((first | rfl | simp (disch := omega) only [push_cast])); ((try dsimp only); (try simp only [zF, zE, zD, zC, zA, zB]); omega); ((try dsimp only); (try simp only [zF, zE, zD, zC, zA, zB]); omega))
            | ((first | apply W.ret3 | apply W.end3); (iterate 2 (try (simp (disch := (first | omega | (simp only [zE, zF, zD, zC, zA, zB]; omega))) only [push_cast, simprocAttr, takeM, dropM, zK, zA, zB, zN, zQ, zR, zO, zP, zT, zS, zU, leT, zH, pureL, pureA, hS2, hstT, hZ, q1, q2, q3, q4, q5, q6, g1, g2, natNe, zI, zG, TyD.isAgg, zJ, zY, zX, zW, zE, zD, zC, isEmpty_map, zV, zM, List.length_reverse] <;> rfl))))

          all_goals (show _ = _; rw [List.take_of_length_le (by simp)])
        · have hstF : (((lkAt LK Z).a : Int) = b0) = False := eq_false hst
          rw [if_neg hst] at hp02
          repeat' first
            | apply AW.seq | apply AW.region | apply AW.ret | apply AW.block | apply AW.skip | apply AW.exit | apply AW.scope | apply AW.label | apply AWL.nil | apply D.nil
            | refine W.draw cx_mixed (by decide +kernel) ?_
            | ((first | (apply W.step cx_ok; decide) | (apply D.step cx_ok; decide; decide) | apply AW.cond); (simp (disch := (first | omega | (simp only [zE, zF, zD, zC, zA, zB, zC]; omega))) only [push_cast, simprocAttr, takeM, dropM, zK, zA, zB, zN, zQ, zR, zO, zP, zT, zS, zU, leT, zH, pureL, pureA, hS2, hstF, hZ, q1, q2, q3, q4, q5, q6, g1, g2, natNe, zI, zG, TyD.isAgg, zJ, zY, zX, zW, zE, zD, zC, isEmpty_map, zV, zM] <;> rfl); all_goals try ((with_reducible intro hI); try first | (cases hI; done) | (simp only [INTS, zL] at hI; try first | (exfalso; omega) | (have hT : True := hI; clear hT hI))))
            | (apply W.append cx_ok; decide; rfl; rfl; rfl; decide; (iterate 3 (simp (disch := (first | omega | (simp only [zE, zF, zD, zC, zA, zB, zC]; omega))) only [push_cast, simprocAttr, takeM, dropM, zK, zA, zB, zN, zQ, zR, zO, zP, zT, zS, zU, leT, zH, pureL, pureA, hS2, hstF, hZ, q1, q2, q3, q4, q5, q6, g1, g2, natNe, zI, zG, TyD.isAgg, zJ, zY, zX, zW, zE, zD, zC, isEmpty_map, zV, zM] <;> rfl)); (first | (focus (simp; done)) | (intro c hc; obtain ⟨x, _, rfl⟩ := List.mem_map.1 hc; rfl)); ((first | rfl | simp (disch := omega) only [push_cast])); ((try dsimp only); (try simp only [zF, zE, zD, zC, zA, zB, zC]); omega); ((try dsimp only); (try simp only [zF, zE, zD, zC, zA, zB, zC]); omega))
            | ((first | apply W.ret3 | apply W.end3); (iterate 2 (try (simp (disch := (first | omega | (simp only [zE, zF, zD, zC, zA, zB, zC]; omega))) only [push_cast, simprocAttr, takeM, dropM, zK, zA, zB, zN, zQ, zR, zO, zP, zT, zS, zU, leT, zH, pureL, pureA, hS2, hstF, hZ, q1, q2, q3, q4, q5, q6, g1, g2, natNe, zI, zG, TyD.isAgg, zJ, zY, zX, zW, zE, zD, zC, isEmpty_map, zV, zM] <;> rfl))))

          all_goals (refine ⟨i2, ?_, i2, (lkAt LK Z).a, (o2 ++ [Z]), rfl, hp02, (by simp only [List.length_append, List.length_cons, List.length_nil]; omega), ?_, ?_, ?_, ?_, ?_, ?_, ?_⟩; (omega); all_goals first | (simp (disch := omega) only [push_cast, simprocAttr, hS2, hstF, hZ, q1, q2, q3, q4, q5, q6, g1, g2, natNe, zI, zG, TyD.isAgg, zJ, zY, zX, zW, zE, zD, zC, isEmpty_map, zV, zM] <;> first | rfl | omega) | omega)
      · cases hp02
  · cases ho
end Go.Proofs.Ks

namespace Go.Proofs.Ks
open Go Go.Pg Go.Proofs
theorem rowAt_afterH (H : Nat → Option AO) (ids : List Nat) (r : AV) (j : Nat) : Pg.rowAt (afterH H ids r) j = if flatA r = true then Pg.rowAt H j else if j ∈ ids then (Pg.rowAt H j).map (fun r => { r with fro := true }) else Pg.rowAt H j := by
  unfold afterH
  split
  · rfl
  · have := rowAt_frzG H ids j
    unfold frz' at this
    exact this
def stF (r : Rec) (k : Nat) : List Int := ((r.strikes.take k).filter fun x => consP (withoutR r [x.id]) []).map (·.id)
def sgF (r : Rec) (k : Nat) : List Int := ((List.range k).filter fun i => consP (unseenR r i) []).map fun (i : Nat) => (i : Int)
theorem stF_succ {r : Rec} {k : Nat} {x : Strike} {rest : List Strike} (h : r.strikes.drop k = x :: rest) : stF r (k + 1) = stF r k ++ (if consP (withoutR r [x.id]) [] = true then [x.id] else []) := by
  unfold stF
  rw [take_snoc h, List.filter_append, List.map_append]
  congr 1
  cases hq : consP (withoutR r [x.id]) [] <;> simp [hq]
theorem sgF_succ (r : Rec) (k : Nat) : sgF r (k + 1) = sgF r k ++ (if consP (unseenR r k) [] = true then [(k : Int)] else []) := by
  unfold sgF
  rw [List.range_succ, List.filter_append, List.map_append]
  congr 1
  cases hq : consP (unseenR r k) [] <;> simp [hq]
def suspP (r : Rec) : List Int × List Int := ((stF r r.strikes.length).mergeSort fun x y => decide (x ≤ y), sgF r r.sights.length)
theorem conP_ok (r : Rec) (hc : checkE r = 0) : OKv cx 87 [.agg (eRec r), .lst []] (gSys (nodesR r []) (linksR r [])) ∧ OKv cx 98 [gSys (nodesR r []) (linksR r [])] (ab (consP r [])) := by
  have hv := checkE_V hc
  obtain ⟨h1, h2, h3, h4, h5⟩ := links_facts (more := []) hv (by decide) nomore
  exact ⟨build_ok r [] hv (by decide) nomore, consistent_ok _ _ h1 h2 h3 h4⟩
theorem Suspects_some (r : Rec) (hc : checkE r = 0) (hq : consP r [] = false) : OKv cx 48 [.agg (eRec r)] (.tup [lInt (suspP r).1, lInt (suspP r).2, ai 0]) := by
  obtain ⟨hb, hco⟩ := conP_ok r hc
  rw [hq] at hco
  have hv := checkE_V hc
  have hn1 := hv.nstrikes
  have hn2 := hv.nsights
  have hn3 := hv.nstops
  unfold suspP
  refine OKat.of_body (rs := [2, 3, 4]) Try.func48 rfl (by decide +kernel) rfl (by simp [Try.ntmps48]) ?_
  simp only [Try.ntmps48]
  repeat' first
    | apply AW.seq | apply AW.region | apply AW.ret | apply AW.block | apply AW.skip | apply AW.exit | apply AW.scope | apply AW.label | apply AWL.nil
    | ((first | (apply W.step cx_ok; decide) | apply W.store cx_ok | apply AW.cond); (simp (disch := (first | omega | (simp only [zE, zF, zD, zC, zA, zB]; omega))) only [push_cast, simprocAttr, takeM, dropM, zK, zA, zB, zN, zQ, zR, zO, zP, zT, zS, zU, leT, zH, pureL, pureA, hc] <;> rfl); all_goals try ((with_reducible intro hI); try first | (cases hI; done) | (simp only [INTS, zL] at hI; try first | (exfalso; omega) | (have hT : True := hI; clear hT hI))))
    | (apply W.append cx_ok; decide; rfl; rfl; rfl; decide; (iterate 3 (simp (disch := (first | omega | (simp only [zE, zF, zD, zC, zA, zB]; omega))) only [push_cast, simprocAttr, takeM, dropM, zK, zA, zB, zN, zQ, zR, zO, zP, zT, zS, zU, leT, zH, pureL, pureA, hc] <;> rfl)); (first | (focus (simp; done)) | (intro c hc; obtain ⟨x, _, rfl⟩ := List.mem_map.1 hc; rfl)); ((first | rfl | simp (disch := omega) only [push_cast])); ((try dsimp only); (try simp only [zF, zE, zD, zC, zA, zB]); omega); ((try dsimp only); (try simp only [zF, zE, zD, zC, zA, zB]); omega))
    | ((apply W.callv cx_ok; decide); (iterate 2 (simp (disch := (first | omega | (simp only [zE, zF, zD, zC, zA, zB]; omega))) only [push_cast, simprocAttr, takeM, dropM, zK, zA, zB, zN, zQ, zR, zO, zP, zT, zS, zU, leT, zH, pureL, pureA, hc] <;> rfl)); (with_reducible first | exact Check_ok r | exact hb | exact hco); try first | rfl | (simp (disch := (first | omega | (simp only [zE, zF, zD, zC, zA, zB]; omega))) only [push_cast, simprocAttr, takeM, dropM, zK, zA, zB, zN, zQ, zR, zO, zP, zT, zS, zU, leT, zH, pureL, pureA, hc] <;> rfl))
    | ((first | apply W.ret3 | apply W.end3); (iterate 2 (try (simp (disch := (first | omega | (simp only [zE, zF, zD, zC, zA, zB]; omega))) only [push_cast, simprocAttr, takeM, dropM, zK, zA, zB, zN, zQ, zR, zO, zP, zT, zS, zU, leT, zH, pureL, pureA, hc] <;> rfl))))

  refine AW.adopt 6 1 3 ?_ ?_
  · (simp (disch := omega) only [push_cast, simprocAttr, hc])
  refine AW.adopt 7 1 3 ?_ ?_
  · (simp (disch := omega) only [push_cast, simprocAttr, hc])
  refine AW.loop (fun n s => ∃ (k : Nat) (rest : List Strike), n = rest.length ∧ (r.strikes.drop k = rest) ∧ (k ≤ r.strikes.length) ∧ ((stF r k).length ≤ k) ∧ 3 ≤ s.nx ∧ s.tm 1 = .ptr 0 0 0 1 ∧ s.tm 6 = .ref 1 0 (stF r k).length ∧ s.tm 7 = .ref 2 0 0 ∧ s.tm 20 = lStrike r.strikes ∧ s.tm 21 = ai r.strikes.length ∧ s.tm 22 = ai k ∧ Pg.rowAt s.H (0) = some ({ k := 14, es := [eRec r], ty := 30 }) ∧ Pg.rowAt s.H (1) = some ({ k := 1, es := (stF r k).map eInt, ty := 3, lo := (stF r k).length }) ∧ Pg.rowAt s.H (2) = some ({ k := 1, es := [], ty := 3 })) (r.strikes.length) ⟨0, r.strikes, rfl, rfl, (Nat.zero_le _), (Nat.le_refl _), ?_, ?_, ?_, ?_, ?_, ?_, ?_, ?_, ?_, ?_⟩ ?_
  iterate 10 (first | (simp (disch := omega) only [push_cast, simprocAttr, natNe, zI, zG, TyD.isAgg, zJ, isEmpty_map, zV, zW, zC, zM, zY, zX, zE, zD, stF, List.take_zero, List.filter_nil] <;> first | rfl | omega) | omega)
  rintro n0 s0 ⟨k0, rest0, hn0, hp00, hp10, hp20, hnl0, hS0⟩
  have hZ0 : (0 : Nat) ≠ s0.nx ∧ s0.nx ≠ (0 : Nat) ∧ (1 : Nat) ≠ s0.nx ∧ s0.nx ≠ (1 : Nat) ∧ (2 : Nat) ≠ s0.nx ∧ s0.nx ≠ (2 : Nat) := by omega
  rcases rest0 with _ | ⟨x, rest0⟩
  rotate_left
  · obtain ⟨hk, hg, hd', hl', hm', hx⟩ := drop_cons hp00 eStrike []
    have hwo : OKv cx 95 [.agg (eRec r), .lst [[ai x.id]]] (.agg (eRec (withoutR r [x.id]))) := without_ok r [x.id] (by simp) (by omega) (by omega) (by omega)
    obtain ⟨hbd, hcd⟩ := conP_ok (withoutR r [x.id]) (without_zero hc [x.id])
    have hsu := stF_succ hp00
    obtain ⟨R2, hR2⟩ : ∃ z, withoutR r [x.id] = z := ⟨_, rfl⟩
    rw [hR2] at hwo hbd hcd hsu
    have hfl : flatA (.agg (eRec R2)) = false := rfl
    cases hb2 : consP R2 [] with
    | true =>
      rw [hb2] at hcd
      rw [hb2, if_pos rfl] at hsu
      repeat' first
        | apply AW.seq | apply AW.region | apply AW.ret | apply AW.block | apply AW.skip | apply AW.exit | apply AW.scope | apply AW.label | apply AWL.nil
        | ((first | (apply W.step cx_ok; decide) | apply W.store cx_ok | apply AW.cond); (simp (disch := (first | omega | (simp only [zE, zF, zD, zC, zA, zB, zC]; omega))) only [push_cast, simprocAttr, takeM, dropM, zK, zA, zB, zN, zQ, zR, zO, zP, zT, zS, zU, leT, zH, pureL, pureA, hS0, hZ0, hk, hg, hx, natNe, zI, zG, TyD.isAgg, zJ, isEmpty_map, zV, zW, zC, zM, zY, zX, zE, zD, hfl, rowAt_afterH, St.back, idsL, idsA, idsLL, yB, yA] <;> rfl); all_goals try ((with_reducible intro hI); try first | (cases hI; done) | (simp only [INTS, zL] at hI; try first | (exfalso; omega) | (have hT : True := hI; clear hT hI))))
        | (apply W.append cx_ok; decide; rfl; rfl; rfl; decide; (iterate 3 (simp (disch := (first | omega | (simp only [zE, zF, zD, zC, zA, zB, zC]; omega))) only [push_cast, simprocAttr, takeM, dropM, zK, zA, zB, zN, zQ, zR, zO, zP, zT, zS, zU, leT, zH, pureL, pureA, hS0, hZ0, hk, hg, hx, natNe, zI, zG, TyD.isAgg, zJ, isEmpty_map, zV, zW, zC, zM, zY, zX, zE, zD, hfl, rowAt_afterH, St.back, idsL, idsA, idsLL, yB, yA] <;> rfl)); (first | (focus (simp; done)) | (intro c hc; obtain ⟨x, _, rfl⟩ := List.mem_map.1 hc; rfl)); ((first | rfl | simp (disch := omega) only [push_cast])); ((try dsimp only); (try simp only [zF, zE, zD, zC, zA, zB, zC]); omega); ((try dsimp only); (try simp only [zF, zE, zD, zC, zA, zB, zC]); omega))
        | ((apply W.callv cx_ok; decide); (iterate 2 (simp (disch := (first | omega | (simp only [zE, zF, zD, zC, zA, zB, zC]; omega))) only [push_cast, simprocAttr, takeM, dropM, zK, zA, zB, zN, zQ, zR, zO, zP, zT, zS, zU, leT, zH, pureL, pureA, hS0, hZ0, hk, hg, hx, natNe, zI, zG, TyD.isAgg, zJ, isEmpty_map, zV, zW, zC, zM, zY, zX, zE, zD, hfl, rowAt_afterH, St.back, idsL, idsA, idsLL, yB, yA] <;> rfl)); (with_reducible first | exact hwo | exact hbd | exact hcd); try first | rfl | (simp (disch := (first | omega | (simp only [zE, zF, zD, zC, zA, zB, zC]; omega))) only [push_cast, simprocAttr, takeM, dropM, zK, zA, zB, zN, zQ, zR, zO, zP, zT, zS, zU, leT, zH, pureL, pureA, hS0, hZ0, hk, hg, hx, natNe, zI, zG, TyD.isAgg, zJ, isEmpty_map, zV, zW, zC, zM, zY, zX, zE, zD, hfl, rowAt_afterH, St.back, idsL, idsA, idsLL, yB, yA] <;> rfl))
        | ((first | apply W.ret3 | apply W.end3); (iterate 2 (try (simp (disch := (first | omega | (simp only [zE, zF, zD, zC, zA, zB, zC]; omega))) only [push_cast, simprocAttr, takeM, dropM, zK, zA, zB, zN, zQ, zR, zO, zP, zT, zS, zU, leT, zH, pureL, pureA, hS0, hZ0, hk, hg, hx, natNe, zI, zG, TyD.isAgg, zJ, isEmpty_map, zV, zW, zC, zM, zY, zX, zE, zD, hfl, rowAt_afterH, St.back, idsL, idsA, idsLL, yB, yA] <;> rfl))))

      all_goals (refine ⟨rest0.length, ?_, k0 + 1, rest0, rfl, hd', (by omega), (by rw [hsu, List.length_append, List.length_singleton]; omega), ?_, ?_, ?_, ?_, ?_, ?_, ?_, ?_, ?_, ?_⟩; ((simp only [List.length_cons] at *; omega)); all_goals first | (simp (disch := omega) only [push_cast, simprocAttr, hS0, hZ0, hk, hg, hx, hsu, natNe, zI, zG, TyD.isAgg, zJ, isEmpty_map, zV, zW, zC, zM, zY, zX, zE, zD, hfl, rowAt_afterH, St.back, idsL, idsA, idsLL, yB, yA] <;> first | rfl | omega) | omega)
    | false =>
      rw [hb2] at hcd
      rw [hb2, if_neg (by decide), List.append_nil] at hsu
      repeat' first
        | apply AW.seq | apply AW.region | apply AW.ret | apply AW.block | apply AW.skip | apply AW.exit | apply AW.scope | apply AW.label | apply AWL.nil
        | ((first | (apply W.step cx_ok; decide) | apply W.store cx_ok | apply AW.cond); (simp (disch := (first | omega | (simp only [zE, zF, zD, zC, zA, zB, zC]; omega))) only [push_cast, simprocAttr, takeM, dropM, zK, zA, zB, zN, zQ, zR, zO, zP, zT, zS, zU, leT, zH, pureL, pureA, hS0, hZ0, hk, hg, hx, natNe, zI, zG, TyD.isAgg, zJ, isEmpty_map, zV, zW, zC, zM, zY, zX, zE, zD, hfl, rowAt_afterH, St.back, idsL, idsA, idsLL, yB, yA] <;> rfl); all_goals try ((with_reducible intro hI); try first | (cases hI; done) | (simp only [INTS, zL] at hI; try first | (exfalso; omega) | (have hT : True := hI; clear hT hI))))
        | (apply W.append cx_ok; decide; rfl; rfl; rfl; decide; (iterate 3 (simp (disch := (first | omega | (simp only [zE, zF, zD, zC, zA, zB, zC]; omega))) only [push_cast, simprocAttr, takeM, dropM, zK, zA, zB, zN, zQ, zR, zO, zP, zT, zS, zU, leT, zH, pureL, pureA, hS0, hZ0, hk, hg, hx, natNe, zI, zG, TyD.isAgg, zJ, isEmpty_map, zV, zW, zC, zM, zY, zX, zE, zD, hfl, rowAt_afterH, St.back, idsL, idsA, idsLL, yB, yA] <;> rfl)); (first | (focus (simp; done)) | (intro c hc; obtain ⟨x, _, rfl⟩ := List.mem_map.1 hc; rfl)); ((first | rfl | simp (disch := omega) only [push_cast])); ((try dsimp only); (try simp only [zF, zE, zD, zC, zA, zB, zC]); omega); ((try dsimp only); (try simp only [zF, zE, zD, zC, zA, zB, zC]); omega))
        | ((apply W.callv cx_ok; decide); (iterate 2 (simp (disch := (first | omega | (simp only [zE, zF, zD, zC, zA, zB, zC]; omega))) only [push_cast, simprocAttr, takeM, dropM, zK, zA, zB, zN, zQ, zR, zO, zP, zT, zS, zU, leT, zH, pureL, pureA, hS0, hZ0, hk, hg, hx, natNe, zI, zG, TyD.isAgg, zJ, isEmpty_map, zV, zW, zC, zM, zY, zX, zE, zD, hfl, rowAt_afterH, St.back, idsL, idsA, idsLL, yB, yA] <;> rfl)); (with_reducible first | exact hwo | exact hbd | exact hcd); try first | rfl | (simp (disch := (first | omega | (simp only [zE, zF, zD, zC, zA, zB, zC]; omega))) only [push_cast, simprocAttr, takeM, dropM, zK, zA, zB, zN, zQ, zR, zO, zP, zT, zS, zU, leT, zH, pureL, pureA, hS0, hZ0, hk, hg, hx, natNe, zI, zG, TyD.isAgg, zJ, isEmpty_map, zV, zW, zC, zM, zY, zX, zE, zD, hfl, rowAt_afterH, St.back, idsL, idsA, idsLL, yB, yA] <;> rfl))
        | ((first | apply W.ret3 | apply W.end3); (iterate 2 (try (simp (disch := (first | omega | (simp only [zE, zF, zD, zC, zA, zB, zC]; omega))) only [push_cast, simprocAttr, takeM, dropM, zK, zA, zB, zN, zQ, zR, zO, zP, zT, zS, zU, leT, zH, pureL, pureA, hS0, hZ0, hk, hg, hx, natNe, zI, zG, TyD.isAgg, zJ, isEmpty_map, zV, zW, zC, zM, zY, zX, zE, zD, hfl, rowAt_afterH, St.back, idsL, idsA, idsLL, yB, yA] <;> rfl))))

      all_goals (refine ⟨rest0.length, ?_, k0 + 1, rest0, rfl, hd', (by omega), (by rw [hsu]; omega), ?_, ?_, ?_, ?_, ?_, ?_, ?_, ?_, ?_, ?_⟩; ((simp only [List.length_cons] at *; omega)); all_goals first | (simp (disch := omega) only [push_cast, simprocAttr, hS0, hZ0, hk, hg, hx, hsu, natNe, zI, zG, TyD.isAgg, zJ, isEmpty_map, zV, zW, zC, zM, zY, zX, zE, zD, hfl, rowAt_afterH, St.back, idsL, idsA, idsLL, yB, yA] <;> first | rfl | omega) | omega)
  have hk := drop_nil hp00
  have hkS : k0 = r.strikes.length := by have := List.drop_eq_nil_iff.1 hp00; omega
  subst hkS
  obtain ⟨ST, hST⟩ : ∃ z, stF r r.strikes.length = z := ⟨_, rfl⟩
  rw [hST] at hS0 hp20 ⊢
  have hsl : (ST.mergeSort fun x y => decide (x ≤ y)).length = ST.length := List.length_mergeSort _
  have hs1 : ∀ {args : List AV} {H : Nat → Option AO} {m : Nat}, args = [.ref 1 0 ST.length] → Pg.rowAt H 1 = some { k := 1, es := ST.map eInt, ty := 3, lo := ST.length } →
      OKm cx 99 args H m (fun v H' nx' => v = .tup [] ∧ (∀ j, j ≠ 1 → H' j = H j) ∧ Pg.rowAt H' 1 = some { k := 1, es := (ST.mergeSort fun x y => decide (x ≤ y)).map eInt, ty := 3, lo := ST.length } ∧ nx' = m) := by
    rintro _ H m rfl h
    rcases ST with _ | ⟨y, ST⟩
    · refine OKm.mono (OKm.sorts0 ⟨_, Try.func99, by decide +kernel, rfl⟩ sort99_0) ?_
      rintro v H' nx' ⟨rfl, rfl, rfl⟩
      exact ⟨rfl, fun _ _ => rfl, by simpa using h, rfl⟩
    · refine OKm.mono (OKm.sorts ⟨_, Try.func99, by decide +kernel, rfl⟩ sort99 (by simp) (by omega) h) ?_
      rintro v H' nx' ⟨rfl, rfl, rfl⟩
      exact ⟨rfl, fun j hj => by simp only [updH]; rw [if_neg hj], by simp [Pg.rowAt, updH], rfl⟩
  obtain ⟨SL, hSL⟩ : ∃ z, ST.mergeSort (fun x y => decide (x ≤ y)) = z := ⟨_, rfl⟩
  rw [hSL] at hsl hs1 ⊢
  repeat' first
    | apply AW.seq | apply AW.region | apply AW.ret | apply AW.block | apply AW.skip | apply AW.exit | apply AW.scope | apply AW.label | apply AWL.nil
    | ((first | (apply W.step cx_ok; decide) | apply W.store cx_ok | apply AW.cond); (simp (disch := (first | omega | (simp only [zE, zF, zD, zC, zA, zB]; omega))) only [push_cast, simprocAttr, takeM, dropM, zK, zA, zB, zN, zQ, zR, zO, zP, zT, zS, zU, leT, zH, pureL, pureA, hS0, hZ0, hk, natNe, zI, zG, TyD.isAgg, zJ, isEmpty_map, zV, zW, zC, zM, zY, zX, zE, zD] <;> rfl); all_goals try ((with_reducible intro hI); try first | (cases hI; done) | (simp only [INTS, zL] at hI; try first | (exfalso; omega) | (have hT : True := hI; clear hT hI))))
    | (apply W.append cx_ok; decide; rfl; rfl; rfl; decide; (iterate 3 (simp (disch := (first | omega | (simp only [zE, zF, zD, zC, zA, zB]; omega))) only [push_cast, simprocAttr, takeM, dropM, zK, zA, zB, zN, zQ, zR, zO, zP, zT, zS, zU, leT, zH, pureL, pureA, hS0, hZ0, hk, natNe, zI, zG, TyD.isAgg, zJ, isEmpty_map, zV, zW, zC, zM, zY, zX, zE, zD] <;> rfl)); (first | (focus (simp; done)) | (intro c hc; obtain ⟨x, _, rfl⟩ := List.mem_map.1 hc; rfl)); ((first | rfl | simp (disch := omega) only [push_cast])); ((try dsimp only); (try simp only [zF, zE, zD, zC, zA, zB]); omega); ((try dsimp only); (try simp only [zF, zE, zD, zC, zA, zB]); omega))
    | ((first | apply W.ret3 | apply W.end3); (iterate 2 (try (simp (disch := (first | omega | (simp only [zE, zF, zD, zC, zA, zB]; omega))) only [push_cast, simprocAttr, takeM, dropM, zK, zA, zB, zN, zQ, zR, zO, zP, zT, zS, zU, leT, zH, pureL, pureA, hS0, hZ0, hk, natNe, zI, zG, TyD.isAgg, zJ, isEmpty_map, zV, zW, zC, zM, zY, zX, zE, zD] <;> rfl))))

  refine W.callm cx_ok (by decide) (f := 99) (caps := []) (by simp (disch := omega) only [push_cast, simprocAttr, hS0, hZ0, hk, natNe, zI, zG, TyD.isAgg, zJ, isEmpty_map, zV, zW, zC, zM, zY, zX, zE, zD] <;> rfl) (hs1 (by simp (disch := omega) only [push_cast, simprocAttr, hS0, hZ0, hk, natNe, zI, zG, TyD.isAgg, zJ, isEmpty_map, zV, zW, zC, zM, zY, zX, zE, zD] <;> rfl) (by simp (disch := omega) only [push_cast, simprocAttr, hS0, hZ0, hk, natNe, zI, zG, TyD.isAgg, zJ, isEmpty_map, zV, zW, zC, zM, zY, zX, zE, zD] <;> rfl)) ?_
  rintro _ H3 nx3 ⟨rfl, hf3, hr3, hn3'⟩
  replace hn3' : nx3 = s0.nx := hn3'
  replace hf3 : ∀ j, j ≠ 1 → H3 j = s0.H j := hf3
  have q0 : Pg.rowAt H3 0 = some { k := 14, es := [eRec r], ty := 30 } := (rowAt_eqH (hf3 0 (by decide))).trans (by simp (disch := omega) only [push_cast, simprocAttr, hS0, hZ0])
  have q2 : Pg.rowAt H3 2 = some { k := 1, es := [], ty := 3 } := (rowAt_eqH (hf3 2 (by decide))).trans (by simp (disch := omega) only [push_cast, simprocAttr, hS0, hZ0])
  obtain ⟨SN, hSN⟩ : ∃ z, ST.length = z := ⟨_, rfl⟩
  rw [hSN] at hsl hr3
  have hSL2 : SL.length = SN := hsl
  repeat' first
    | apply AW.seq | apply AW.region | apply AW.ret | apply AW.block | apply AW.skip | apply AW.exit | apply AW.scope | apply AW.label | apply AWL.nil
    | ((first | (apply W.step cx_ok; decide) | apply W.store cx_ok | apply AW.cond); (simp (disch := (first | omega | (simp only [zE, zF, zD, zC, zA, zB]; omega))) only [push_cast, simprocAttr, takeM, dropM, zK, zA, zB, zN, zQ, zR, zO, zP, zT, zS, zU, leT, zH, pureL, pureA, hS0, hk, q0, q2, hr3, natNe, zI, zG, TyD.isAgg, zJ, isEmpty_map, zV, zW, zC, zM, zY, zX, zE, zD] <;> rfl); all_goals try ((with_reducible intro hI); try first | (cases hI; done) | (simp only [INTS, zL] at hI; try first | (exfalso; omega) | (have hT : True := hI; clear hT hI))))
    | (apply W.append cx_ok; decide; rfl; rfl; rfl; decide; (iterate 3 (simp (disch := (first | omega | (simp only [zE, zF, zD, zC, zA, zB]; omega))) only [push_cast, simprocAttr, takeM, dropM, zK, zA, zB, zN, zQ, zR, zO, zP, zT, zS, zU, leT, zH, pureL, pureA, hS0, hk, q0, q2, hr3, natNe, zI, zG, TyD.isAgg, zJ, isEmpty_map, zV, zW, zC, zM, zY, zX, zE, zD] <;> rfl)); (first | (focus (simp; done)) | (intro c hc; obtain ⟨x, _, rfl⟩ := List.mem_map.1 hc; rfl)); ((first | rfl | simp (disch := omega) only [push_cast])); ((try dsimp only); (try simp only [zF, zE, zD, zC, zA, zB]); omega); ((try dsimp only); (try simp only [zF, zE, zD, zC, zA, zB]); omega))
    | ((first | apply W.ret3 | apply W.end3); (iterate 2 (try (simp (disch := (first | omega | (simp only [zE, zF, zD, zC, zA, zB]; omega))) only [push_cast, simprocAttr, takeM, dropM, zK, zA, zB, zN, zQ, zR, zO, zP, zT, zS, zU, leT, zH, pureL, pureA, hS0, hk, q0, q2, hr3, natNe, zI, zG, TyD.isAgg, zJ, isEmpty_map, zV, zW, zC, zM, zY, zX, zE, zD] <;> rfl))))

  refine AW.loop (fun n s => ∃ (k : Nat), n = r.sights.length - k ∧ (k ≤ r.sights.length) ∧ ((sgF r k).length ≤ k) ∧ 3 ≤ s.nx ∧ s.tm 1 = .ptr 0 0 0 1 ∧ s.tm 6 = .ref 1 0 SL.length ∧ s.tm 7 = .ref 2 0 (sgF r k).length ∧ s.tm 43 = ai r.sights.length ∧ s.tm 44 = ai k ∧ Pg.rowAt s.H (0) = some ({ k := 14, es := [eRec r], ty := 30 }) ∧ Pg.rowAt s.H (1) = some ({ k := 1, es := SL.map eInt, ty := 3, lo := SN }) ∧ Pg.rowAt s.H (2) = some ({ k := 1, es := (sgF r k).map eInt, ty := 3, lo := (sgF r k).length })) (r.sights.length) ⟨0, rfl, (Nat.zero_le _), (Nat.le_refl _), ?_, ?_, ?_, ?_, ?_, ?_, ?_, ?_, ?_⟩ ?_
  iterate 9 (first | (simp (disch := omega) only [push_cast, simprocAttr, hS0, hk, q0, q2, hr3, hSN, hSL2, sgF, List.range_zero, List.filter_nil, natNe, zI, zG, TyD.isAgg, zJ, isEmpty_map, zV, zW, zC, zM, zY, zX, zE, zD] <;> first | rfl | omega) | omega)
  rintro n2 s2 ⟨k2, hn2, hp02, hp12, hnl2, hS2⟩
  have hZ2 : (0 : Nat) ≠ s2.nx ∧ s2.nx ≠ (0 : Nat) ∧ (1 : Nat) ≠ s2.nx ∧ s2.nx ≠ (1 : Nat) ∧ (2 : Nat) ≠ s2.nx ∧ s2.nx ≠ (2 : Nat) := by omega
  by_cases hk2 : k2 < r.sights.length
  · have hkI : (k2 : Int) < (r.sights.length : Int) := by omega
    have hun := unseen_ok r k2 hk2 (by omega)
    obtain ⟨hbd, hcd⟩ := conP_ok (unseenR r k2) (unseen_zero hc k2)
    have hsu := sgF_succ r k2
    obtain ⟨R2, hR2⟩ : ∃ z, unseenR r k2 = z := ⟨_, rfl⟩
    rw [hR2] at hun hbd hcd hsu
    cases hb2 : consP R2 [] with
    | true =>
      rw [hb2] at hcd
      rw [hb2, if_pos rfl] at hsu
      repeat' first
        | apply AW.seq | apply AW.region | apply AW.ret | apply AW.block | apply AW.skip | apply AW.exit | apply AW.scope | apply AW.label | apply AWL.nil
        | ((first | (apply W.step cx_ok; decide) | apply W.store cx_ok | apply AW.cond); (simp (disch := (first | omega | (simp only [zE, zF, zD, zC, zA, zB, zC]; omega))) only [push_cast, simprocAttr, takeM, dropM, zK, zA, zB, zN, zQ, zR, zO, zP, zT, zS, zU, leT, zH, pureL, pureA, hS2, hZ2, hkI, natNe, zI, zG, TyD.isAgg, zJ, isEmpty_map, zV, zW, zC, zM, zY, zX, zE, zD] <;> rfl); all_goals try ((with_reducible intro hI); try first | (cases hI; done) | (simp only [INTS, zL] at hI; try first | (exfalso; omega) | (have hT : True := hI; clear hT hI))))
        | (apply W.append cx_ok; decide; rfl; rfl; rfl; decide; (iterate 3 (simp (disch := (first | omega | (simp only [zE, zF, zD, zC, zA, zB, zC]; omega))) only [push_cast, simprocAttr, takeM, dropM, zK, zA, zB, zN, zQ, zR, zO, zP, zT, zS, zU, leT, zH, pureL, pureA, hS2, hZ2, hkI, natNe, zI, zG, TyD.isAgg, zJ, isEmpty_map, zV, zW, zC, zM, zY, zX, zE, zD] <;> rfl)); (first | (focus (simp; done)) | (intro c hc; obtain ⟨x, _, rfl⟩ := List.mem_map.1 hc; rfl)); ((first | rfl | simp (disch := omega) only [push_cast])); ((try dsimp only); (try simp only [zF, zE, zD, zC, zA, zB, zC]); omega); ((try dsimp only); (try simp only [zF, zE, zD, zC, zA, zB, zC]); omega))
        | ((apply W.callv cx_ok; decide); (iterate 2 (simp (disch := (first | omega | (simp only [zE, zF, zD, zC, zA, zB, zC]; omega))) only [push_cast, simprocAttr, takeM, dropM, zK, zA, zB, zN, zQ, zR, zO, zP, zT, zS, zU, leT, zH, pureL, pureA, hS2, hZ2, hkI, natNe, zI, zG, TyD.isAgg, zJ, isEmpty_map, zV, zW, zC, zM, zY, zX, zE, zD] <;> rfl)); (with_reducible first | exact hun | exact hbd | exact hcd); try first | rfl | (simp (disch := (first | omega | (simp only [zE, zF, zD, zC, zA, zB, zC]; omega))) only [push_cast, simprocAttr, takeM, dropM, zK, zA, zB, zN, zQ, zR, zO, zP, zT, zS, zU, leT, zH, pureL, pureA, hS2, hZ2, hkI, natNe, zI, zG, TyD.isAgg, zJ, isEmpty_map, zV, zW, zC, zM, zY, zX, zE, zD] <;> rfl))
        | ((first | apply W.ret3 | apply W.end3); (iterate 2 (try (simp (disch := (first | omega | (simp only [zE, zF, zD, zC, zA, zB, zC]; omega))) only [push_cast, simprocAttr, takeM, dropM, zK, zA, zB, zN, zQ, zR, zO, zP, zT, zS, zU, leT, zH, pureL, pureA, hS2, hZ2, hkI, natNe, zI, zG, TyD.isAgg, zJ, isEmpty_map, zV, zW, zC, zM, zY, zX, zE, zD] <;> rfl))))

      all_goals (refine ⟨r.sights.length - (k2 + 1), ?_, k2 + 1, rfl, (by omega), (by rw [hsu, List.length_append, List.length_singleton]; omega), ?_, ?_, ?_, ?_, ?_, ?_, ?_, ?_, ?_⟩; (omega); all_goals first | (simp (disch := omega) only [push_cast, simprocAttr, hS2, hZ2, hkI, hsu, natNe, zI, zG, TyD.isAgg, zJ, isEmpty_map, zV, zW, zC, zM, zY, zX, zE, zD] <;> first | rfl | omega) | omega)
    | false =>
      rw [hb2] at hcd
      rw [hb2, if_neg (by decide), List.append_nil] at hsu
      repeat' first
        | apply AW.seq | apply AW.region | apply AW.ret | apply AW.block | apply AW.skip | apply AW.exit | apply AW.scope | apply AW.label | apply AWL.nil
        | ((first | (apply W.step cx_ok; decide) | apply W.store cx_ok | apply AW.cond); (simp (disch := (first | omega | (simp only [zE, zF, zD, zC, zA, zB, zC]; omega))) only [push_cast, simprocAttr, takeM, dropM, zK, zA, zB, zN, zQ, zR, zO, zP, zT, zS, zU, leT, zH, pureL, pureA, hS2, hZ2, hkI, natNe, zI, zG, TyD.isAgg, zJ, isEmpty_map, zV, zW, zC, zM, zY, zX, zE, zD] <;> rfl); all_goals try ((with_reducible intro hI); try first | (cases hI; done) | (simp only [INTS, zL] at hI; try first | (exfalso; omega) | (have hT : True := hI; clear hT hI))))
        | (apply W.append cx_ok; decide; rfl; rfl; rfl; decide; (iterate 3 (simp (disch := (first | omega | (simp only [zE, zF, zD, zC, zA, zB, zC]; omega))) only [push_cast, simprocAttr, takeM, dropM, zK, zA, zB, zN, zQ, zR, zO, zP, zT, zS, zU, leT, zH, pureL, pureA, hS2, hZ2, hkI, natNe, zI, zG, TyD.isAgg, zJ, isEmpty_map, zV, zW, zC, zM, zY, zX, zE, zD] <;> rfl)); (first | (focus (simp; done)) | (intro c hc; obtain ⟨x, _, rfl⟩ := List.mem_map.1 hc; rfl)); ((first | rfl | simp (disch := omega) only [push_cast])); ((try dsimp only); (try simp only [zF, zE, zD, zC, zA, zB, zC]); omega); ((try dsimp only); (try simp only [zF, zE, zD, zC, zA, zB, zC]); omega))
        | ((apply W.callv cx_ok; decide); (iterate 2 (simp (disch := (first | omega | (simp only [zE, zF, zD, zC, zA, zB, zC]; omega))) only [push_cast, simprocAttr, takeM, dropM, zK, zA, zB, zN, zQ, zR, zO, zP, zT, zS, zU, leT, zH, pureL, pureA, hS2, hZ2, hkI, natNe, zI, zG, TyD.isAgg, zJ, isEmpty_map, zV, zW, zC, zM, zY, zX, zE, zD] <;> rfl)); (with_reducible first | exact hun | exact hbd | exact hcd); try first | rfl | (simp (disch := (first | omega | (simp only [zE, zF, zD, zC, zA, zB, zC]; omega))) only [push_cast, simprocAttr, takeM, dropM, zK, zA, zB, zN, zQ, zR, zO, zP, zT, zS, zU, leT, zH, pureL, pureA, hS2, hZ2, hkI, natNe, zI, zG, TyD.isAgg, zJ, isEmpty_map, zV, zW, zC, zM, zY, zX, zE, zD] <;> rfl))
        | ((first | apply W.ret3 | apply W.end3); (iterate 2 (try (simp (disch := (first | omega | (simp only [zE, zF, zD, zC, zA, zB, zC]; omega))) only [push_cast, simprocAttr, takeM, dropM, zK, zA, zB, zN, zQ, zR, zO, zP, zT, zS, zU, leT, zH, pureL, pureA, hS2, hZ2, hkI, natNe, zI, zG, TyD.isAgg, zJ, isEmpty_map, zV, zW, zC, zM, zY, zX, zE, zD] <;> rfl))))

      all_goals (refine ⟨r.sights.length - (k2 + 1), ?_, k2 + 1, rfl, (by omega), (by rw [hsu]; omega), ?_, ?_, ?_, ?_, ?_, ?_, ?_, ?_, ?_⟩; (omega); all_goals first | (simp (disch := omega) only [push_cast, simprocAttr, hS2, hZ2, hkI, hsu, natNe, zI, zG, TyD.isAgg, zJ, isEmpty_map, zV, zW, zC, zM, zY, zX, zE, zD] <;> first | rfl | omega) | omega)
  have hkI : ¬ (k2 : Int) < (r.sights.length : Int) := by omega
  have hkS : k2 = r.sights.length := by omega
  subst hkS
  have hSN2 : SN ≤ SL.length := by omega
  repeat' first
    | apply AW.seq | apply AW.region | apply AW.ret | apply AW.block | apply AW.skip | apply AW.exit | apply AW.scope | apply AW.label | apply AWL.nil
    | ((first | (apply W.step cx_ok; decide) | apply W.store cx_ok | apply AW.cond); (simp (disch := (first | omega | (simp only [zE, zF, zD, zC, zA, zB, zC]; omega))) only [push_cast, simprocAttr, takeM, dropM, zK, zA, zB, zN, zQ, zR, zO, zP, zT, zS, zU, leT, zH, pureL, pureA, hS2, hZ2, hkI, hSN2, natNe, zI, zG, TyD.isAgg, zJ, isEmpty_map, zV, zW, zC, zM, zY, zX, zE, zD] <;> rfl); all_goals try ((with_reducible intro hI); try first | (cases hI; done) | (simp only [INTS, zL] at hI; try first | (exfalso; omega) | (have hT : True := hI; clear hT hI))))
    | (apply W.append cx_ok; decide; rfl; rfl; rfl; decide; (iterate 3 (simp (disch := (first | omega | (simp only [zE, zF, zD, zC, zA, zB, zC]; omega))) only [push_cast, simprocAttr, takeM, dropM, zK, zA, zB, zN, zQ, zR, zO, zP, zT, zS, zU, leT, zH, pureL, pureA, hS2, hZ2, hkI, hSN2, natNe, zI, zG, TyD.isAgg, zJ, isEmpty_map, zV, zW, zC, zM, zY, zX, zE, zD] <;> rfl)); (first | (focus (simp; done)) | (intro c hc; obtain ⟨x, _, rfl⟩ := List.mem_map.1 hc; rfl)); ((first | rfl | simp (disch := omega) only [push_cast])); ((try dsimp only); (try simp only [zF, zE, zD, zC, zA, zB, zC]); omega); ((try dsimp only); (try simp only [zF, zE, zD, zC, zA, zB, zC]); omega))
    | ((first | apply W.ret3 | apply W.end3); (iterate 2 (try (simp (disch := (first | omega | (simp only [zE, zF, zD, zC, zA, zB, zC]; omega))) only [push_cast, simprocAttr, takeM, dropM, zK, zA, zB, zN, zQ, zR, zO, zP, zT, zS, zU, leT, zH, pureL, pureA, hS2, hZ2, hkI, hSN2, natNe, zI, zG, TyD.isAgg, zJ, isEmpty_map, zV, zW, zC, zM, zY, zX, zE, zD] <;> rfl))))

  all_goals (show _ = _; rfl)
end Go.Proofs.Ks

namespace Go.Proofs.Ks
open Go Go.Pg Go.Proofs
def betweenP (r : Rec) (a b : Int) : Span × Int :=
  if checkE r = 0 then (if (0 ≤ a ∧ a < (r.strikes.length : Int)) ∧ (0 ≤ b ∧ b < (r.strikes.length : Int)) then (if consP r [] = true then (spanF (nodesR r []) (linksR r []) (3 + a.toNat) (3 + b.toNat), 0) else (⟨0, 0⟩, 9)) else (⟨0, 0⟩, 1)) else (⟨0, 0⟩, checkE r)
theorem strikeB_ok (r : Rec) (n : Int) (hl : r.strikes.length ≤ 1099511627776) (b : Bool) (h : b = true ↔ (0 ≤ n ∧ n < (r.strikes.length : Int))) : OKv cx 80 [.agg (eRec r), ai n] (ab b) := by
  have e : b = (decide (0 ≤ n) && decide (n < (r.strikes.length : Int))) := by
    cases b with
    | true => have := h.1 rfl; simp [this.1, this.2]
    | false =>
      cases hq : (decide (0 ≤ n) && decide (n < (r.strikes.length : Int))) with
      | false => rfl
      | true => simp only [Bool.and_eq_true, decide_eq_true_eq] at hq; exact absurd (h.2 hq) (by decide)
  rw [e]; exact strikeN_ok r n hl
theorem Between_ok (r : Rec) (a b : Int) : OKv cx 23 [.agg (eRec r), ai a, ai b] (.tup [.agg (eSpan (betweenP r a b).1), ai (betweenP r a b).2]) := by
  unfold betweenP
  by_cases hc : checkE r = 0
  · rw [if_pos hc]
    have hv := checkE_V hc
    have hns := hv.nstrikes
    by_cases ha : 0 ≤ a ∧ a < (r.strikes.length : Int)
    · have sa := strikeB_ok r a (by omega) true ⟨fun _ => ha, fun _ => rfl⟩
      by_cases hb : 0 ≤ b ∧ b < (r.strikes.length : Int)
      · have sb := strikeB_ok r b (by omega) true ⟨fun _ => hb, fun _ => rfl⟩
        rw [if_pos ⟨ha, hb⟩]
        rcases solved0 r with ⟨hc', hs⟩ | ⟨_, hq, hs⟩ | ⟨_, hq, hs⟩
        · exact absurd hc hc'
        · rw [if_neg (by rw [hq]; decide)]
          refine OKat.of_bodyM cx_ok (rs := [.cell 6 23, .tmp 7]) Try.func23 rfl (by decide +kernel) rfl (by simp [Try.ntmps23]) ?_
          simp only [Try.ntmps23]
          repeat' first
            | apply AW.seq | apply AW.region | apply AW.ret | apply AW.block | apply AW.skip | apply AW.exit | apply AW.scope | apply AW.label | apply AWL.nil
            | ((first | (apply W.step cx_ok; decide) | apply W.store cx_ok | (apply W.gS; rfl; decide) | apply AW.cond); (simp (disch := omega) only [push_cast, simprocAttr, hc] <;> rfl); all_goals try ((with_reducible intro hI); try first | (cases hI; done) | (simp only [INTS, zL] at hI; try first | (exfalso; omega) | (have hT : True := hI; clear hT hI))))
            | ((apply W.callv cx_ok; decide); (iterate 2 (simp (disch := omega) only [push_cast, simprocAttr, hc] <;> rfl)); (with_reducible first | exact Check_ok r | exact sa | exact sb | exact hs); try first | rfl | (simp (disch := omega) only [push_cast, simprocAttr, hc] <;> rfl))
            | ((first | apply W.retM | apply W.endM'); (iterate 2 (try (simp (disch := omega) only [push_cast, simprocAttr, hc] <;> rfl))))

          all_goals (show _ = _; rfl)
        · rw [if_pos hq]
          obtain ⟨i, rfl⟩ := Int.eq_ofNat_of_zero_le ha.1
          obtain ⟨j, rfl⟩ := Int.eq_ofNat_of_zero_le hb.1
          have hl := nodesR_len r []
          have ti : OKv cx 83 [gSys (nodesR r []) (linksR r []), ai 3, ai i] (ai (3 + (i : Int))) := by rw [← atP_strike (r := r) (more := []) (i := i) (by omega)]; exact at_ok (nodesR r []) (linksR r []) 3 i
          have tj : OKv cx 83 [gSys (nodesR r []) (linksR r []), ai 3, ai j] (ai (3 + (j : Int))) := by rw [← atP_strike (r := r) (more := []) (i := j) (by omega)]; exact at_ok (nodesR r []) (linksR r []) 3 j
          have hsp : OKv cx 82 [gSys (nodesR r []) (linksR r []), ai (3 + (i : Int)), ai (3 + (j : Int))] (.agg (eSpan (spanF (nodesR r []) (linksR r []) (3 + (i : Int).toNat) (3 + (j : Int).toNat)))) := by
            have := spanI_ok (more := []) hv (by decide) nomore (f := 3 + (i : Int)) (t := 3 + (j : Int)) (by omega) (by omega)
            rwa [show (3 + (i : Int)).toNat = 3 + (i : Int).toNat by omega, show (3 + (j : Int)).toNat = 3 + (j : Int).toNat by omega] at this
          obtain ⟨S, hS0⟩ : ∃ z, spanF (nodesR r []) (linksR r []) (3 + (i : Int).toNat) (3 + (j : Int).toNat) = z := ⟨_, rfl⟩
          rw [hS0] at hsp ⊢
          refine OKat.of_bodyM cx_ok (rs := [.cell 6 23, .tmp 7]) Try.func23 rfl (by decide +kernel) rfl (by simp [Try.ntmps23]) ?_
          simp only [Try.ntmps23]
          repeat' first
            | apply AW.seq | apply AW.region | apply AW.ret | apply AW.block | apply AW.skip | apply AW.exit | apply AW.scope | apply AW.label | apply AWL.nil
            | ((first | (apply W.step cx_ok; decide) | apply W.store cx_ok | (apply W.gS; rfl; decide) | apply AW.cond); (simp (disch := omega) only [push_cast, simprocAttr, hc] <;> rfl); all_goals try ((with_reducible intro hI); try first | (cases hI; done) | (simp only [INTS, zL] at hI; try first | (exfalso; omega) | (have hT : True := hI; clear hT hI))))
            | ((apply W.callv cx_ok; decide); (iterate 2 (simp (disch := omega) only [push_cast, simprocAttr, hc] <;> rfl)); (with_reducible first | exact Check_ok r | exact sa | exact sb | exact hs | exact ti | exact tj | exact hsp); try first | rfl | (simp (disch := omega) only [push_cast, simprocAttr, hc] <;> rfl))
            | ((first | apply W.retM | apply W.endM'); (iterate 2 (try (simp (disch := omega) only [push_cast, simprocAttr, hc] <;> rfl))))

          all_goals (show _ = _; rfl)
      · have sb := strikeB_ok r b (by omega) false ⟨fun h => (by cases h), fun h => absurd h hb⟩
        rw [if_neg (fun h => hb h.2)]
        refine OKat.of_bodyM cx_ok (rs := [.cell 6 23, .tmp 7]) Try.func23 rfl (by decide +kernel) rfl (by simp [Try.ntmps23]) ?_
        simp only [Try.ntmps23]
        repeat' first
          | apply AW.seq | apply AW.region | apply AW.ret | apply AW.block | apply AW.skip | apply AW.exit | apply AW.scope | apply AW.label | apply AWL.nil
          | ((first | (apply W.step cx_ok; decide) | apply W.store cx_ok | (apply W.gS; rfl; decide) | apply AW.cond); (simp (disch := omega) only [push_cast, simprocAttr, hc] <;> rfl); all_goals try ((with_reducible intro hI); try first | (cases hI; done) | (simp only [INTS, zL] at hI; try first | (exfalso; omega) | (have hT : True := hI; clear hT hI))))
          | ((apply W.callv cx_ok; decide); (iterate 2 (simp (disch := omega) only [push_cast, simprocAttr, hc] <;> rfl)); (with_reducible first | exact Check_ok r | exact sa | exact sb); try first | rfl | (simp (disch := omega) only [push_cast, simprocAttr, hc] <;> rfl))
          | ((first | apply W.retM | apply W.endM'); (iterate 2 (try (simp (disch := omega) only [push_cast, simprocAttr, hc] <;> rfl))))

        all_goals (show _ = _; rfl)
    · have sa := strikeB_ok r a (by omega) false ⟨fun h => (by cases h), fun h => absurd h ha⟩
      rw [if_neg (fun h => ha h.1)]
      refine OKat.of_bodyM cx_ok (rs := [.cell 6 23, .tmp 7]) Try.func23 rfl (by decide +kernel) rfl (by simp [Try.ntmps23]) ?_
      simp only [Try.ntmps23]
      repeat' first
        | apply AW.seq | apply AW.region | apply AW.ret | apply AW.block | apply AW.skip | apply AW.exit | apply AW.scope | apply AW.label | apply AWL.nil
        | ((first | (apply W.step cx_ok; decide) | apply W.store cx_ok | (apply W.gS; rfl; decide) | apply AW.cond); (simp (disch := omega) only [push_cast, simprocAttr, hc] <;> rfl); all_goals try ((with_reducible intro hI); try first | (cases hI; done) | (simp only [INTS, zL] at hI; try first | (exfalso; omega) | (have hT : True := hI; clear hT hI))))
        | ((apply W.callv cx_ok; decide); (iterate 2 (simp (disch := omega) only [push_cast, simprocAttr, hc] <;> rfl)); (with_reducible first | exact Check_ok r | exact sa); try first | rfl | (simp (disch := omega) only [push_cast, simprocAttr, hc] <;> rfl))
        | ((first | apply W.retM | apply W.endM'); (iterate 2 (try (simp (disch := omega) only [push_cast, simprocAttr, hc] <;> rfl))))

      all_goals (show _ = _; rfl)
  · rw [if_neg hc]
    have hcF : (checkE r = 0) = False := eq_false hc
    refine OKat.of_bodyM cx_ok (rs := [.cell 6 23, .tmp 7]) Try.func23 rfl (by decide +kernel) rfl (by simp [Try.ntmps23]) ?_
    simp only [Try.ntmps23]
    repeat' first
      | apply AW.seq | apply AW.region | apply AW.ret | apply AW.block | apply AW.skip | apply AW.exit | apply AW.scope | apply AW.label | apply AWL.nil
      | ((first | (apply W.step cx_ok; decide) | apply W.store cx_ok | (apply W.gS; rfl; decide) | apply AW.cond); (simp (disch := omega) only [push_cast, simprocAttr, hcF] <;> rfl); all_goals try ((with_reducible intro hI); try first | (cases hI; done) | (simp only [INTS, zL] at hI; try first | (exfalso; omega) | (have hT : True := hI; clear hT hI))))
      | ((apply W.callv cx_ok; decide); (iterate 2 (simp (disch := omega) only [push_cast, simprocAttr, hcF] <;> rfl)); (with_reducible first | exact Check_ok r); try first | rfl | (simp (disch := omega) only [push_cast, simprocAttr, hcF] <;> rfl))
      | ((first | apply W.retM | apply W.endM'); (iterate 2 (try (simp (disch := omega) only [push_cast, simprocAttr, hcF] <;> rfl))))

    all_goals (show _ = _; rfl)
def whenP (r : Rec) (p : Int) : Span × Int :=
  if checkE r = 0 then (if r.s.zero.lo ≤ p ∧ p ≤ r.s.fin.hi + 1 then (if consP r [p] = true then (spanF (nodesR r [p]) (linksR r [p]) 0 (atP 4 p (nodesR r [p])).toNat, 0) else (⟨0, 0⟩, 9)) else (⟨0, 0⟩, 3)) else (⟨0, 0⟩, checkE r)
theorem When_ok (r : Rec) (p : Int) : OKv cx 24 [.agg (eRec r), ai p] (.tup [.agg (eSpan (whenP r p).1), ai (whenP r p).2]) := by
  unfold whenP
  by_cases hc : checkE r = 0
  · rw [if_pos hc]
    have hv := checkE_V hc
    obtain ⟨z1, z2, z3⟩ := hv.z
    obtain ⟨f1, f2, f3⟩ := hv.f
    by_cases hp : r.s.zero.lo ≤ p ∧ p ≤ r.s.fin.hi + 1
    · rw [if_pos hp]
      obtain ⟨p1, p2⟩ := hp
      have hmb : ∀ a ∈ [p], 0 ≤ a ∧ a ≤ 43200 := fun a h => by rw [List.mem_singleton.1 h]; omega
      cases hq : consP r [p] with
      | false =>
        have hs : OKv cx 81 [.agg (eRec r), .lst [[ai p]]] (.tup [.v (.pointer none), ai 9]) := solved_clash r [p] hc (by simp) hmb hq
        rw [if_neg (by decide)]
        refine OKat.of_bodyM cx_ok (rs := [.cell 4 23, .tmp 5]) Try.func24 rfl (by decide +kernel) rfl (by simp [Try.ntmps24]) ?_
        simp only [Try.ntmps24]
        repeat' first
          | apply AW.seq | apply AW.region | apply AW.ret | apply AW.block | apply AW.skip | apply AW.exit | apply AW.scope | apply AW.label | apply AWL.nil
          | ((first | (apply W.step cx_ok; decide) | apply W.store cx_ok | (apply W.gS; rfl; decide) | apply AW.cond); (simp (disch := omega) only [push_cast, simprocAttr, hc, p1, p2] <;> rfl); all_goals try ((with_reducible intro hI); try first | (cases hI; done) | (simp only [INTS, zL] at hI; try first | (exfalso; omega) | (have hT : True := hI; clear hT hI))))
          | ((apply W.callv cx_ok; decide); (iterate 2 (simp (disch := omega) only [push_cast, simprocAttr, hc, p1, p2] <;> rfl)); (with_reducible first | exact Check_ok r | exact hs); try first | rfl | (simp (disch := omega) only [push_cast, simprocAttr, hc, p1, p2] <;> rfl))
          | ((first | apply W.retM | apply W.endM'); (iterate 2 (try (simp (disch := omega) only [push_cast, simprocAttr, hc, p1, p2] <;> rfl))))

        all_goals (show _ = _; rfl)
      | true =>
        have hs : OKv cx 81 [.agg (eRec r), .lst [[ai p]]] (.tup [gSys (nodesR r [p]) (linksR r [p]), ai 0]) := solved_good r [p] hc (by simp) hmb hq
        rw [if_pos rfl]
        have hm : p ∈ marksR r [p] := marksR_mem.2 (.inr (.inr (by simp)))
        obtain ⟨m1, m2⟩ := at_mark hm
        rw [← atP_mark hm] at m1 m2
        have ha := at_ok (nodesR r [p]) (linksR r [p]) 4 p
        have hsp : OKv cx 82 [gSys (nodesR r [p]) (linksR r [p]), ai 0, ai (atP 4 p (nodesR r [p]))] (.agg (eSpan (spanF (nodesR r [p]) (linksR r [p]) 0 (atP 4 p (nodesR r [p])).toNat))) := spanI_ok hv (by simp) hmb (f := 0) (by omega) ⟨m1, m2⟩
        obtain ⟨K, hK⟩ : ∃ z, atP 4 p (nodesR r [p]) = z := ⟨_, rfl⟩
        rw [hK] at ha hsp ⊢
        obtain ⟨S, hS0⟩ : ∃ z, spanF (nodesR r [p]) (linksR r [p]) 0 K.toNat = z := ⟨_, rfl⟩
        rw [hS0] at hsp ⊢
        refine OKat.of_bodyM cx_ok (rs := [.cell 4 23, .tmp 5]) Try.func24 rfl (by decide +kernel) rfl (by simp [Try.ntmps24]) ?_
        simp only [Try.ntmps24]
        repeat' first
          | apply AW.seq | apply AW.region | apply AW.ret | apply AW.block | apply AW.skip | apply AW.exit | apply AW.scope | apply AW.label | apply AWL.nil
          | ((first | (apply W.step cx_ok; decide) | apply W.store cx_ok | (apply W.gS; rfl; decide) | apply AW.cond); (simp (disch := omega) only [push_cast, simprocAttr, hc, p1, p2] <;> rfl); all_goals try ((with_reducible intro hI); try first | (cases hI; done) | (simp only [INTS, zL] at hI; try first | (exfalso; omega) | (have hT : True := hI; clear hT hI))))
          | ((apply W.callv cx_ok; decide); (iterate 2 (simp (disch := omega) only [push_cast, simprocAttr, hc, p1, p2] <;> rfl)); (with_reducible first | exact Check_ok r | exact hs | exact ha | exact hsp); try first | rfl | (simp (disch := omega) only [push_cast, simprocAttr, hc, p1, p2] <;> rfl))
          | ((first | apply W.retM | apply W.endM'); (iterate 2 (try (simp (disch := omega) only [push_cast, simprocAttr, hc, p1, p2] <;> rfl))))

        all_goals (show _ = _; rfl)
    · rw [if_neg hp]
      by_cases p1 : r.s.zero.lo ≤ p
      · have p2 : r.s.fin.hi + 1 < p := by omega
        refine OKat.of_bodyM cx_ok (rs := [.cell 4 23, .tmp 5]) Try.func24 rfl (by decide +kernel) rfl (by simp [Try.ntmps24]) ?_
        simp only [Try.ntmps24]
        repeat' first
          | apply AW.seq | apply AW.region | apply AW.ret | apply AW.block | apply AW.skip | apply AW.exit | apply AW.scope | apply AW.label | apply AWL.nil
          | ((first | (apply W.step cx_ok; decide) | apply W.store cx_ok | (apply W.gS; rfl; decide) | apply AW.cond); (simp (disch := omega) only [push_cast, simprocAttr, hc, p1, p2] <;> rfl); all_goals try ((with_reducible intro hI); try first | (cases hI; done) | (simp only [INTS, zL] at hI; try first | (exfalso; omega) | (have hT : True := hI; clear hT hI))))
          | ((apply W.callv cx_ok; decide); (iterate 2 (simp (disch := omega) only [push_cast, simprocAttr, hc, p1, p2] <;> rfl)); (with_reducible first | exact Check_ok r); try first | rfl | (simp (disch := omega) only [push_cast, simprocAttr, hc, p1, p2] <;> rfl))
          | ((first | apply W.retM | apply W.endM'); (iterate 2 (try (simp (disch := omega) only [push_cast, simprocAttr, hc, p1, p2] <;> rfl))))

        all_goals (show _ = _; rfl)
      · have p2 : p < r.s.zero.lo := by omega
        refine OKat.of_bodyM cx_ok (rs := [.cell 4 23, .tmp 5]) Try.func24 rfl (by decide +kernel) rfl (by simp [Try.ntmps24]) ?_
        simp only [Try.ntmps24]
        repeat' first
          | apply AW.seq | apply AW.region | apply AW.ret | apply AW.block | apply AW.skip | apply AW.exit | apply AW.scope | apply AW.label | apply AWL.nil
          | ((first | (apply W.step cx_ok; decide) | apply W.store cx_ok | (apply W.gS; rfl; decide) | apply AW.cond); (simp (disch := omega) only [push_cast, simprocAttr, hc, p2] <;> rfl); all_goals try ((with_reducible intro hI); try first | (cases hI; done) | (simp only [INTS, zL] at hI; try first | (exfalso; omega) | (have hT : True := hI; clear hT hI))))
          | ((apply W.callv cx_ok; decide); (iterate 2 (simp (disch := omega) only [push_cast, simprocAttr, hc, p2] <;> rfl)); (with_reducible first | exact Check_ok r); try first | rfl | (simp (disch := omega) only [push_cast, simprocAttr, hc, p2] <;> rfl))
          | ((first | apply W.retM | apply W.endM'); (iterate 2 (try (simp (disch := omega) only [push_cast, simprocAttr, hc, p2] <;> rfl))))

        all_goals (show _ = _; rfl)
  · rw [if_neg hc]
    have hcF : (checkE r = 0) = False := eq_false hc
    refine OKat.of_bodyM cx_ok (rs := [.cell 4 23, .tmp 5]) Try.func24 rfl (by decide +kernel) rfl (by simp [Try.ntmps24]) ?_
    simp only [Try.ntmps24]
    repeat' first
      | apply AW.seq | apply AW.region | apply AW.ret | apply AW.block | apply AW.skip | apply AW.exit | apply AW.scope | apply AW.label | apply AWL.nil
      | ((first | (apply W.step cx_ok; decide) | apply W.store cx_ok | (apply W.gS; rfl; decide) | apply AW.cond); (simp (disch := omega) only [push_cast, simprocAttr, hcF] <;> rfl); all_goals try ((with_reducible intro hI); try first | (cases hI; done) | (simp only [INTS, zL] at hI; try first | (exfalso; omega) | (have hT : True := hI; clear hT hI))))
      | ((apply W.callv cx_ok; decide); (iterate 2 (simp (disch := omega) only [push_cast, simprocAttr, hcF] <;> rfl)); (with_reducible first | exact Check_ok r); try first | rfl | (simp (disch := omega) only [push_cast, simprocAttr, hcF] <;> rfl))
      | ((first | apply W.retM | apply W.endM'); (iterate 2 (try (simp (disch := omega) only [push_cast, simprocAttr, hcF] <;> rfl))))

    all_goals (show _ = _; rfl)
end Go.Proofs.Ks

namespace Go.Proofs.Ks
open Go Go.Pg Go.Proofs
theorem Links_good (r : Rec) (hc : checkE r = 0) : OKv cx 40 [.agg (eRec r)] (.tup [lLink (linksR r []), ai 0]) := by
  have hv := checkE_V hc
  have hb : OKv cx 87 [.agg (eRec r), .lst []] (gSys (nodesR r []) (linksR r [])) := build_ok r [] hv (by decide) nomore
  refine OKat.of_body (rs := [2, 3]) Try.func40 rfl (by decide +kernel) rfl (by simp [Try.ntmps40]) ?_
  simp only [Try.ntmps40]
  repeat' first
    | apply AW.seq | apply AW.region | apply AW.ret | apply AW.block | apply AW.skip | apply AW.exit | apply AW.scope | apply AW.label | apply AWL.nil
    | ((first | (apply W.step cx_ok; decide) | apply AW.cond); (simp (disch := omega) only [push_cast, simprocAttr, hc] <;> rfl); all_goals try ((with_reducible intro hI); try first | (cases hI; done) | (simp only [INTS, zL] at hI; try first | (exfalso; omega) | (have hT : True := hI; clear hT hI))))
    | ((apply W.callv cx_ok; decide); (iterate 2 (simp (disch := omega) only [push_cast, simprocAttr, hc] <;> rfl)); (with_reducible first | exact Check_ok r | exact hb); try first | rfl | (simp (disch := omega) only [push_cast, simprocAttr, hc] <;> rfl))
    | ((first | apply W.ret2 | apply W.end2); (iterate 2 (try (simp (disch := omega) only [push_cast, simprocAttr, hc] <;> rfl))))

  all_goals (show _ = _; rfl)
end Go.Proofs.Ks

namespace Go.Proofs.Ks
open Go Go.Pg Go.Proofs
def spansP (r : Rec) : List Span := (List.range r.strikes.length).map fun i => spanF (nodesR r []) (linksR r []) 0 (3 + i)
theorem Spans_err (r : Rec) (e : Int) (he : e ≠ 0) (hs : OKv cx 81 [.agg (eRec r), .lst []] (.tup [.v (.pointer none), ai e])) : OKv cx 34 [.agg (eRec r)] (.tup [.lst [], ai e]) := by
  have heF : (e = 0) = False := eq_false he
  refine OKat.of_body (rs := [2, 3]) Try.func34 rfl (by decide +kernel) rfl (by simp [Try.ntmps34]) ?_
  simp only [Try.ntmps34]
  repeat' first
    | apply AW.seq | apply AW.region | apply AW.ret | apply AW.block | apply AW.skip | apply AW.exit | apply AW.scope | apply AW.label | apply AWL.nil
    | ((first | (apply W.step cx_ok; decide) | apply AW.cond); (simp (disch := omega) only [push_cast, simprocAttr, heF] <;> rfl); all_goals try ((with_reducible intro hI); try first | (cases hI; done) | (simp only [INTS, zL] at hI; try first | (exfalso; omega) | (have hT : True := hI; clear hT hI))))
    | ((apply W.callv cx_ok; decide); (iterate 2 (simp (disch := omega) only [push_cast, simprocAttr, heF] <;> rfl)); (with_reducible first | exact hs); try first | rfl | (simp (disch := omega) only [push_cast, simprocAttr, heF] <;> rfl))
    | ((first | apply W.ret2 | apply W.end2); (iterate 2 (try (simp (disch := omega) only [push_cast, simprocAttr, heF] <;> rfl))))

  all_goals (show _ = _; rfl)
theorem Spans_good (r : Rec) (hc : checkE r = 0) (hq : consP r [] = true) : OKv cx 34 [.agg (eRec r)] (.tup [lSpan (spansP r), ai 0]) := by
  have hv := checkE_V hc
  have hns := hv.nstrikes
  have hl := nodesR_len r []
  have hs : OKv cx 81 [.agg (eRec r), .lst []] (.tup [gSys (nodesR r []) (linksR r []), ai 0]) := solved_good r [] hc (by decide) nomore hq
  have hat : ∀ k : Nat, k < r.strikes.length → OKv cx 83 [gSys (nodesR r []) (linksR r []), ai 3, ai k] (ai (3 + (k : Int))) := fun k hk => by rw [← atP_strike (r := r) (more := []) (i := k) hk]; exact at_ok (nodesR r []) (linksR r []) 3 k
  have hsp : ∀ k : Nat, k < r.strikes.length → OKv cx 82 [gSys (nodesR r []) (linksR r []), ai 0, ai (3 + (k : Int))] (.agg (eSpan (spanF (nodesR r []) (linksR r []) 0 (3 + k)))) := fun k hk => by
    have := spanI_ok (more := []) hv (by decide) nomore (f := 0) (t := 3 + (k : Int)) (by omega) (by omega)
    rwa [show (3 + (k : Int)).toNat = 3 + k by omega] at this
  unfold spansP
  obtain ⟨SPK, hSPK⟩ : ∃ f, (fun i => spanF (nodesR r []) (linksR r []) 0 (3 + i)) = f := ⟨_, rfl⟩
  have hsp : ∀ k : Nat, k < r.strikes.length → OKv cx 82 [gSys (nodesR r []) (linksR r []), ai 0, ai (3 + (k : Int))] (.agg (eSpan (SPK k))) := fun k hk => by rw [← hSPK]; exact hsp k hk
  rw [hSPK]
  refine OKat.of_body (rs := [2, 3]) Try.func34 rfl (by decide +kernel) rfl (by simp [Try.ntmps34]) ?_
  simp only [Try.ntmps34]
  repeat' first
    | apply AW.seq | apply AW.region | apply AW.ret | apply AW.block | apply AW.skip | apply AW.exit | apply AW.scope | apply AW.label | apply AWL.nil
    | ((first | (apply W.step cx_ok; decide) | apply AW.cond); (simp (disch := (first | omega | (simp only [zE, zF, zD, zC, zA, zB]; omega))) only [push_cast, simprocAttr, takeM, dropM, zK, zA, zB, zN, zQ, zR, zO, zP, zT, zS, zU, leT, zH, pureL, pureA] <;> rfl); all_goals try ((with_reducible intro hI); try first | (cases hI; done) | (simp only [INTS, zL] at hI; try first | (exfalso; omega) | (have hT : True := hI; clear hT hI))))
    | (apply W.append cx_ok; decide; rfl; rfl; rfl; decide; (iterate 3 (simp (disch := (first | omega | (simp only [zE, zF, zD, zC, zA, zB]; omega))) only [push_cast, simprocAttr, takeM, dropM, zK, zA, zB, zN, zQ, zR, zO, zP, zT, zS, zU, leT, zH, pureL, pureA] <;> rfl)); (first | (focus (simp; done)) | (intro c hc; obtain ⟨x, _, rfl⟩ := List.mem_map.1 hc; rfl)); ((first | rfl | simp (disch := omega) only [push_cast])); ((try dsimp only); (try simp only [zF, zE, zD, zC, zA, zB]); omega); ((try dsimp only); (try simp only [zF, zE, zD, zC, zA, zB]); omega))
    | ((apply W.callv cx_ok; decide); (iterate 2 (simp (disch := (first | omega | (simp only [zE, zF, zD, zC, zA, zB]; omega))) only [push_cast, simprocAttr, takeM, dropM, zK, zA, zB, zN, zQ, zR, zO, zP, zT, zS, zU, leT, zH, pureL, pureA] <;> rfl)); (with_reducible first | exact hs); try first | rfl | (simp (disch := (first | omega | (simp only [zE, zF, zD, zC, zA, zB]; omega))) only [push_cast, simprocAttr, takeM, dropM, zK, zA, zB, zN, zQ, zR, zO, zP, zT, zS, zU, leT, zH, pureL, pureA] <;> rfl))
    | ((first | apply W.ret2 | apply W.end2); (iterate 2 (try (simp (disch := (first | omega | (simp only [zE, zF, zD, zC, zA, zB]; omega))) only [push_cast, simprocAttr, takeM, dropM, zK, zA, zB, zN, zQ, zR, zO, zP, zT, zS, zU, leT, zH, pureL, pureA] <;> rfl))))

  refine AW.adopt 6 2 23 ?_ ?_
  · (simp (disch := omega) only [push_cast, simprocAttr])
  refine AW.loop (fun n s => ∃ (k : Nat), n = r.strikes.length - k ∧ (k ≤ r.strikes.length) ∧ 2 ≤ s.nx ∧ s.tm 1 = .ptr 0 0 0 1 ∧ s.tm 4 = gSys (nodesR r []) (linksR r []) ∧ s.tm 6 = .ref 1 0 k ∧ s.tm 18 = ai r.strikes.length ∧ s.tm 19 = ai k ∧ Pg.rowAt s.H (1) = some ({ k := 2, es := ((List.range k).map SPK).map eSpan, ty := 23, lo := k })) (r.strikes.length) ⟨0, rfl, (Nat.zero_le _), ?_, ?_, ?_, ?_, ?_, ?_, ?_⟩ ?_
  iterate 7 (first | (simp (disch := omega) only [push_cast, simprocAttr, List.range_zero, zW] <;> first | rfl | omega) | omega)
  rintro n s ⟨k, hn, hp0, hnl, hS⟩
  have hZ : (1 : Nat) ≠ s.nx ∧ s.nx ≠ (1 : Nat) := by omega
  by_cases hk : k < r.strikes.length
  · have hkI : (k : Int) < (r.strikes.length : Int) := by omega
    have c1 := hat k hk
    have c2 := hsp k hk
    have hsu : (List.range (k + 1)).map SPK = (List.range k).map SPK ++ [SPK k] := by rw [List.range_succ, List.map_append]; rfl
    repeat' first
      | apply AW.seq | apply AW.region | apply AW.ret | apply AW.block | apply AW.skip | apply AW.exit | apply AW.scope | apply AW.label | apply AWL.nil
      | ((first | (apply W.step cx_ok; decide) | apply AW.cond); (simp (disch := (first | omega | (simp only [zE, zF, zD, zC, zA, zB, List.length_range]; omega))) only [push_cast, simprocAttr, takeM, dropM, zK, zA, zB, zN, zQ, zR, zO, zP, zT, zS, zU, leT, zH, pureL, pureA, hS, hZ, hkI, zY, zX, zW, zE, zD, zC, List.length_range, isEmpty_map, zV, zM] <;> rfl); all_goals try ((with_reducible intro hI); try first | (cases hI; done) | (simp only [INTS, zL] at hI; try first | (exfalso; omega) | (have hT : True := hI; clear hT hI))))
      | (apply W.append cx_ok; decide; rfl; rfl; rfl; decide; (iterate 3 (simp (disch := (first | omega | (simp only [zE, zF, zD, zC, zA, zB, List.length_range]; omega))) only [push_cast, simprocAttr, takeM, dropM, zK, zA, zB, zN, zQ, zR, zO, zP, zT, zS, zU, leT, zH, pureL, pureA, hS, hZ, hkI, zY, zX, zW, zE, zD, zC, List.length_range, isEmpty_map, zV, zM] <;> rfl)); (first | (focus (simp; done)) | (intro c hc; obtain ⟨x, _, rfl⟩ := List.mem_map.1 hc; rfl)); ((first | rfl | simp (disch := omega) only [push_cast])); ((try dsimp only); (try simp only [zF, zE, zD, zC, zA, zB, List.length_range]); omega); ((try dsimp only); (try simp only [zF, zE, zD, zC, zA, zB, List.length_range]); omega))
      | ((apply W.callv cx_ok; decide); (iterate 2 (simp (disch := (first | omega | (simp only [zE, zF, zD, zC, zA, zB, List.length_range]; omega))) only [push_cast, simprocAttr, takeM, dropM, zK, zA, zB, zN, zQ, zR, zO, zP, zT, zS, zU, leT, zH, pureL, pureA, hS, hZ, hkI, zY, zX, zW, zE, zD, zC, List.length_range, isEmpty_map, zV, zM] <;> rfl)); (with_reducible first | exact c1 | exact c2); try first | rfl | (simp (disch := (first | omega | (simp only [zE, zF, zD, zC, zA, zB, List.length_range]; omega))) only [push_cast, simprocAttr, takeM, dropM, zK, zA, zB, zN, zQ, zR, zO, zP, zT, zS, zU, leT, zH, pureL, pureA, hS, hZ, hkI, zY, zX, zW, zE, zD, zC, List.length_range, isEmpty_map, zV, zM] <;> rfl))
      | ((first | apply W.ret2 | apply W.end2); (iterate 2 (try (simp (disch := (first | omega | (simp only [zE, zF, zD, zC, zA, zB, List.length_range]; omega))) only [push_cast, simprocAttr, takeM, dropM, zK, zA, zB, zN, zQ, zR, zO, zP, zT, zS, zU, leT, zH, pureL, pureA, hS, hZ, hkI, zY, zX, zW, zE, zD, zC, List.length_range, isEmpty_map, zV, zM] <;> rfl))))

    all_goals (refine ⟨r.strikes.length - (k + 1), ?_, k + 1, rfl, (by omega), ?_, ?_, ?_, ?_, ?_, ?_, ?_⟩; (omega); all_goals first | (simp (disch := omega) only [push_cast, simprocAttr, hS, hZ, hkI, hsu, zY, zX, zW, zE, zD, zC, List.length_range, isEmpty_map, zV, zM] <;> first | rfl | omega) | omega)
  have hkI : ¬ (k : Int) < (r.strikes.length : Int) := by omega
  have hkS : k = r.strikes.length := by omega
  subst hkS
  repeat' first
    | apply AW.seq | apply AW.region | apply AW.ret | apply AW.block | apply AW.skip | apply AW.exit | apply AW.scope | apply AW.label | apply AWL.nil
    | ((first | (apply W.step cx_ok; decide) | apply AW.cond); (simp (disch := (first | omega | (simp only [zE, zF, zD, zC, zA, zB, List.length_range]; omega))) only [push_cast, simprocAttr, takeM, dropM, zK, zA, zB, zN, zQ, zR, zO, zP, zT, zS, zU, leT, zH, pureL, pureA, hS, hZ, hkI, zY, zX, zW, zE, zD, zC, List.length_range, isEmpty_map, zV, zM] <;> rfl); all_goals try ((with_reducible intro hI); try first | (cases hI; done) | (simp only [INTS, zL] at hI; try first | (exfalso; omega) | (have hT : True := hI; clear hT hI))))
    | (apply W.append cx_ok; decide; rfl; rfl; rfl; decide; (iterate 3 (simp (disch := (first | omega | (simp only [zE, zF, zD, zC, zA, zB, List.length_range]; omega))) only [push_cast, simprocAttr, takeM, dropM, zK, zA, zB, zN, zQ, zR, zO, zP, zT, zS, zU, leT, zH, pureL, pureA, hS, hZ, hkI, zY, zX, zW, zE, zD, zC, List.length_range, isEmpty_map, zV, zM] <;> rfl)); (first | (focus (simp; done)) | (intro c hc; obtain ⟨x, _, rfl⟩ := List.mem_map.1 hc; rfl)); ((first | rfl | simp (disch := omega) only [push_cast])); ((try dsimp only); (try simp only [zF, zE, zD, zC, zA, zB, List.length_range]); omega); ((try dsimp only); (try simp only [zF, zE, zD, zC, zA, zB, List.length_range]); omega))
    | ((first | apply W.ret2 | apply W.end2); (iterate 2 (try (simp (disch := (first | omega | (simp only [zE, zF, zD, zC, zA, zB, List.length_range]; omega))) only [push_cast, simprocAttr, takeM, dropM, zK, zA, zB, zN, zQ, zR, zO, zP, zT, zS, zU, leT, zH, pureL, pureA, hS, hZ, hkI, zY, zX, zW, zE, zD, zC, List.length_range, isEmpty_map, zV, zM] <;> rfl))))

  all_goals (show _ = _; rfl)
end Go.Proofs.Ks

namespace Go.Proofs.Ks
open Go Go.Pg Go.Proofs
theorem SameInts_ok (a b : List Int) (ha : a.length ≤ 1099511627776) (hb : b.length ≤ 1099511627776) : OKv cx 51 [lInt a, lInt b] (ab (decide (a = b))) := by
  by_cases hl : a.length = b.length
  · have hlI : ((a.length : Int) = (b.length : Int)) = True := eq_true (by omega)
    refine OKat.of_body (rs := [4]) Try.func51 rfl (by decide +kernel) rfl (by simp [Try.ntmps51]) ?_
    simp only [Try.ntmps51]
    repeat' first
      | apply AW.seq | apply AW.region | apply AW.ret | apply AW.block | apply AW.skip | apply AW.exit | apply AW.scope | apply AW.label | apply AWL.nil | apply D.nil
      | refine W.draw cx_mixed (by decide +kernel) ?_
      | ((first | (apply W.step cx_ok; decide) | (apply D.step cx_ok; decide; decide) | apply AW.cond); (simp (disch := omega) only [push_cast, simprocAttr, hlI] <;> rfl); all_goals try ((with_reducible intro hI); try first | (cases hI; done) | (simp only [INTS, zL] at hI; try first | (exfalso; omega) | (have hT : True := hI; clear hT hI))))
      | ((first | apply W.ret1 | apply W.end1); (iterate 2 (try (simp (disch := omega) only [push_cast, simprocAttr, hlI] <;> rfl))))

    refine AW.loop (fun n s => ∃ (k : Nat), n = a.length - k ∧ (k ≤ a.length) ∧ (a.take k = b.take k) ∧ s.tm 0 = lInt a ∧ s.tm 1 = lInt b ∧ s.tm 5 = ai k) (a.length) ⟨0, rfl, (Nat.zero_le _), rfl, ?_, ?_, ?_⟩ ?_
    iterate 3 (first | (simp (disch := omega) only [push_cast, simprocAttr] <;> first | rfl | omega) | omega)
    rintro n s ⟨k, hn, hp0, hp1, hS⟩
    by_cases hk : k < a.length
    · have hkI : (k : Int) < (a.length : Int) := by omega
      have hkB : (k : Int) < (b.length : Int) := by omega
      have hkb : k < b.length := by omega
      obtain ⟨x, hx⟩ : ∃ x, a[k]? = some x := ⟨_, List.getElem?_eq_getElem hk⟩
      obtain ⟨y, hy⟩ : ∃ y, b[k]? = some y := ⟨_, List.getElem?_eq_getElem hkb⟩
      have gx : (a.map eInt)[k]? = some (eInt x) := by rw [List.getElem?_map, hx]; rfl
      have gy : (b.map eInt)[k]? = some (eInt y) := by rw [List.getElem?_map, hy]; rfl
      have dx : (a.map eInt).getD k [] = eInt x := by rw [List.getD_eq_getElem?_getD, gx]; rfl
      have dy : (b.map eInt).getD k [] = eInt y := by rw [List.getD_eq_getElem?_getD, gy]; rfl
      by_cases hxy : x = y
      · have hxT : (x = y) = True := eq_true hxy
        repeat' first
          | apply AW.seq | apply AW.region | apply AW.ret | apply AW.block | apply AW.skip | apply AW.exit | apply AW.scope | apply AW.label | apply AWL.nil | apply D.nil
          | refine W.draw cx_mixed (by decide +kernel) ?_
          | ((first | (apply W.step cx_ok; decide) | (apply D.step cx_ok; decide; decide) | apply AW.cond); (simp (disch := omega) only [push_cast, simprocAttr, hS, hlI, hkI, hkB, gx, gy, dx, dy, hk, hkb, hxT] <;> rfl); all_goals try ((with_reducible intro hI); try first | (cases hI; done) | (simp only [INTS, zL] at hI; try first | (exfalso; omega) | (have hT : True := hI; clear hT hI))))
          | ((first | apply W.ret1 | apply W.end1); (iterate 2 (try (simp (disch := omega) only [push_cast, simprocAttr, hS, hlI, hkI, hkB, gx, gy, dx, dy, hk, hkb, hxT] <;> rfl))))

        all_goals (refine ⟨a.length - (k + 1), ?_, k + 1, rfl, (by omega), (by rw [List.take_add_one, List.take_add_one, hp1, hx, hy]; rw [hxy]), ?_, ?_, ?_⟩; (omega); all_goals first | (simp (disch := omega) only [push_cast, simprocAttr, hS, hlI, hkI, hkB, gx, gy, dx, dy, hk, hkb, hxT] <;> first | rfl | omega) | omega)
      · have hne : decide (a = b) = false := decide_eq_false fun e => by subst e; rw [hx] at hy; injection hy with hy; exact hxy hy
        rw [hne]
        have hxF : (x = y) = False := eq_false hxy
        repeat' first
          | apply AW.seq | apply AW.region | apply AW.ret | apply AW.block | apply AW.skip | apply AW.exit | apply AW.scope | apply AW.label | apply AWL.nil | apply D.nil
          | refine W.draw cx_mixed (by decide +kernel) ?_
          | ((first | (apply W.step cx_ok; decide) | (apply D.step cx_ok; decide; decide) | apply AW.cond); (simp (disch := omega) only [push_cast, simprocAttr, hS, hlI, hkI, hkB, gx, gy, dx, dy, hk, hkb, hxF] <;> rfl); all_goals try ((with_reducible intro hI); try first | (cases hI; done) | (simp only [INTS, zL] at hI; try first | (exfalso; omega) | (have hT : True := hI; clear hT hI))))
          | ((first | apply W.ret1 | apply W.end1); (iterate 2 (try (simp (disch := omega) only [push_cast, simprocAttr, hS, hlI, hkI, hkB, gx, gy, dx, dy, hk, hkb, hxF] <;> rfl))))

        all_goals (show _ = _; rfl)
    · have hkI : ¬ (k : Int) < (a.length : Int) := by omega
      have he : decide (a = b) = true := decide_eq_true (by rw [List.take_of_length_le (by omega), List.take_of_length_le (by omega)] at hp1; exact hp1)
      rw [he]
      repeat' first
        | apply AW.seq | apply AW.region | apply AW.ret | apply AW.block | apply AW.skip | apply AW.exit | apply AW.scope | apply AW.label | apply AWL.nil | apply D.nil
        | refine W.draw cx_mixed (by decide +kernel) ?_
        | ((first | (apply W.step cx_ok; decide) | (apply D.step cx_ok; decide; decide) | apply AW.cond); (simp (disch := omega) only [push_cast, simprocAttr, hS, hlI, hkI] <;> rfl); all_goals try ((with_reducible intro hI); try first | (cases hI; done) | (simp only [INTS, zL] at hI; try first | (exfalso; omega) | (have hT : True := hI; clear hT hI))))
        | ((first | apply W.ret1 | apply W.end1); (iterate 2 (try (simp (disch := omega) only [push_cast, simprocAttr, hS, hlI, hkI] <;> rfl))))

      all_goals (show _ = _; rfl)
  · have hlF : ((a.length : Int) = (b.length : Int)) = False := eq_false (by omega)
    have hne : decide (a = b) = false := decide_eq_false fun e => hl (by rw [e])
    rw [hne]
    refine OKat.of_body (rs := [4]) Try.func51 rfl (by decide +kernel) rfl (by simp [Try.ntmps51]) ?_
    simp only [Try.ntmps51]
    repeat' first
      | apply AW.seq | apply AW.region | apply AW.ret | apply AW.block | apply AW.skip | apply AW.exit | apply AW.scope | apply AW.label | apply AWL.nil | apply D.nil
      | refine W.draw cx_mixed (by decide +kernel) ?_
      | ((first | (apply W.step cx_ok; decide) | (apply D.step cx_ok; decide; decide) | apply AW.cond); (simp (disch := omega) only [push_cast, simprocAttr, hlF] <;> rfl); all_goals try ((with_reducible intro hI); try first | (cases hI; done) | (simp only [INTS, zL] at hI; try first | (exfalso; omega) | (have hT : True := hI; clear hT hI))))
      | ((first | apply W.ret1 | apply W.end1); (iterate 2 (try (simp (disch := omega) only [push_cast, simprocAttr, hlF] <;> rfl))))

    all_goals (show _ = _; rfl)
theorem SameSpans_ok (a b : List Span) (ha : a.length ≤ 1099511627776) (hb : b.length ≤ 1099511627776) : OKv cx 37 [lSpan a, lSpan b] (ab (decide (a = b))) := by
  by_cases hl : a.length = b.length
  · have hlI : ((a.length : Int) = (b.length : Int)) = True := eq_true (by omega)
    refine OKat.of_body (rs := [4]) Try.func37 rfl (by decide +kernel) rfl (by simp [Try.ntmps37]) ?_
    simp only [Try.ntmps37]
    repeat' first
      | apply AW.seq | apply AW.region | apply AW.ret | apply AW.block | apply AW.skip | apply AW.exit | apply AW.scope | apply AW.label | apply AWL.nil | apply D.nil
      | refine W.draw cx_mixed (by decide +kernel) ?_
      | ((first | (apply W.step cx_ok; decide) | (apply D.step cx_ok; decide; decide) | apply AW.cond); (simp (disch := omega) only [push_cast, simprocAttr, hlI] <;> rfl); all_goals try ((with_reducible intro hI); try first | (cases hI; done) | (simp only [INTS, zL] at hI; try first | (exfalso; omega) | (have hT : True := hI; clear hT hI))))
      | ((first | apply W.ret1 | apply W.end1); (iterate 2 (try (simp (disch := omega) only [push_cast, simprocAttr, hlI] <;> rfl))))

    refine AW.loop (fun n s => ∃ (k : Nat), n = a.length - k ∧ (k ≤ a.length) ∧ (a.take k = b.take k) ∧ s.tm 0 = lSpan a ∧ s.tm 1 = lSpan b ∧ s.tm 5 = ai k) (a.length) ⟨0, rfl, (Nat.zero_le _), rfl, ?_, ?_, ?_⟩ ?_
    iterate 3 (first | (simp (disch := omega) only [push_cast, simprocAttr] <;> first | rfl | omega) | omega)
    rintro n s ⟨k, hn, hp0, hp1, hS⟩
    by_cases hk : k < a.length
    · have hkI : (k : Int) < (a.length : Int) := by omega
      have hkB : (k : Int) < (b.length : Int) := by omega
      have hkb : k < b.length := by omega
      obtain ⟨x, hx⟩ : ∃ x, a[k]? = some x := ⟨_, List.getElem?_eq_getElem hk⟩
      obtain ⟨y, hy⟩ : ∃ y, b[k]? = some y := ⟨_, List.getElem?_eq_getElem hkb⟩
      have gx : (a.map eSpan)[k]? = some (eSpan x) := by rw [List.getElem?_map, hx]; rfl
      have gy : (b.map eSpan)[k]? = some (eSpan y) := by rw [List.getElem?_map, hy]; rfl
      have dx : (a.map eSpan).getD k [] = eSpan x := by rw [List.getD_eq_getElem?_getD, gx]; rfl
      have dy : (b.map eSpan).getD k [] = eSpan y := by rw [List.getD_eq_getElem?_getD, gy]; rfl
      by_cases hxy : x.lo = y.lo ∧ x.hi = y.hi
      · have hxT : (x.lo = y.lo) = True := eq_true hxy.1
        have hxU : (x.hi = y.hi) = True := eq_true hxy.2
        repeat' first
          | apply AW.seq | apply AW.region | apply AW.ret | apply AW.block | apply AW.skip | apply AW.exit | apply AW.scope | apply AW.label | apply AWL.nil | apply D.nil
          | refine W.draw cx_mixed (by decide +kernel) ?_
          | ((first | (apply W.step cx_ok; decide) | (apply D.step cx_ok; decide; decide) | apply AW.cond); (simp (disch := omega) only [push_cast, simprocAttr, hS, hlI, hkI, hkB, gx, gy, dx, dy, hk, hkb, hxT, hxU] <;> rfl); all_goals try ((with_reducible intro hI); try first | (cases hI; done) | (simp only [INTS, zL] at hI; try first | (exfalso; omega) | (have hT : True := hI; clear hT hI))))
          | ((first | apply W.ret1 | apply W.end1); (iterate 2 (try (simp (disch := omega) only [push_cast, simprocAttr, hS, hlI, hkI, hkB, gx, gy, dx, dy, hk, hkb, hxT, hxU] <;> rfl))))

        all_goals (refine ⟨a.length - (k + 1), ?_, k + 1, rfl, (by omega), (by rw [List.take_add_one, List.take_add_one, hp1, hx, hy]; rw [show x = y by cases x; cases y; simp only [Span.mk.injEq]; exact hxy]), ?_, ?_, ?_⟩; (omega); all_goals first | (simp (disch := omega) only [push_cast, simprocAttr, hS, hlI, hkI, hkB, gx, gy, dx, dy, hk, hkb, hxT] <;> first | rfl | omega) | omega)
      · have hne : decide (a = b) = false := decide_eq_false fun e => by subst e; rw [hx] at hy; injection hy with hy; subst hy; exact hxy ⟨rfl, rfl⟩
        rw [hne]
        by_cases hlo : x.lo = y.lo
        · have hxT : (x.lo = y.lo) = True := eq_true hlo
          have hxF : (x.hi = y.hi) = False := eq_false fun h => hxy ⟨hlo, h⟩
          repeat' first
            | apply AW.seq | apply AW.region | apply AW.ret | apply AW.block | apply AW.skip | apply AW.exit | apply AW.scope | apply AW.label | apply AWL.nil | apply D.nil
            | refine W.draw cx_mixed (by decide +kernel) ?_
            | ((first | (apply W.step cx_ok; decide) | (apply D.step cx_ok; decide; decide) | apply AW.cond); (simp (disch := omega) only [push_cast, simprocAttr, hS, hlI, hkI, hkB, gx, gy, dx, dy, hk, hkb, hxT, hxF] <;> rfl); all_goals try ((with_reducible intro hI); try first | (cases hI; done) | (simp only [INTS, zL] at hI; try first | (exfalso; omega) | (have hT : True := hI; clear hT hI))))
            | ((first | apply W.ret1 | apply W.end1); (iterate 2 (try (simp (disch := omega) only [push_cast, simprocAttr, hS, hlI, hkI, hkB, gx, gy, dx, dy, hk, hkb, hxT, hxF] <;> rfl))))

          all_goals (show _ = _; rfl)
        · have hxF : (x.lo = y.lo) = False := eq_false hlo
          repeat' first
            | apply AW.seq | apply AW.region | apply AW.ret | apply AW.block | apply AW.skip | apply AW.exit | apply AW.scope | apply AW.label | apply AWL.nil | apply D.nil
            | refine W.draw cx_mixed (by decide +kernel) ?_
            | ((first | (apply W.step cx_ok; decide) | (apply D.step cx_ok; decide; decide) | apply AW.cond); (simp (disch := omega) only [push_cast, simprocAttr, hS, hlI, hkI, hkB, gx, gy, dx, dy, hk, hkb, hxF] <;> rfl); all_goals try ((with_reducible intro hI); try first | (cases hI; done) | (simp only [INTS, zL] at hI; try first | (exfalso; omega) | (have hT : True := hI; clear hT hI))))
            | ((first | apply W.ret1 | apply W.end1); (iterate 2 (try (simp (disch := omega) only [push_cast, simprocAttr, hS, hlI, hkI, hkB, gx, gy, dx, dy, hk, hkb, hxF] <;> rfl))))

          all_goals (show _ = _; rfl)
    · have hkI : ¬ (k : Int) < (a.length : Int) := by omega
      have he : decide (a = b) = true := decide_eq_true (by rw [List.take_of_length_le (by omega), List.take_of_length_le (by omega)] at hp1; exact hp1)
      rw [he]
      repeat' first
        | apply AW.seq | apply AW.region | apply AW.ret | apply AW.block | apply AW.skip | apply AW.exit | apply AW.scope | apply AW.label | apply AWL.nil | apply D.nil
        | refine W.draw cx_mixed (by decide +kernel) ?_
        | ((first | (apply W.step cx_ok; decide) | (apply D.step cx_ok; decide; decide) | apply AW.cond); (simp (disch := omega) only [push_cast, simprocAttr, hS, hlI, hkI] <;> rfl); all_goals try ((with_reducible intro hI); try first | (cases hI; done) | (simp only [INTS, zL] at hI; try first | (exfalso; omega) | (have hT : True := hI; clear hT hI))))
        | ((first | apply W.ret1 | apply W.end1); (iterate 2 (try (simp (disch := omega) only [push_cast, simprocAttr, hS, hlI, hkI] <;> rfl))))

      all_goals (show _ = _; rfl)
  · have hlF : ((a.length : Int) = (b.length : Int)) = False := eq_false (by omega)
    have hne : decide (a = b) = false := decide_eq_false fun e => hl (by rw [e])
    rw [hne]
    refine OKat.of_body (rs := [4]) Try.func37 rfl (by decide +kernel) rfl (by simp [Try.ntmps37]) ?_
    simp only [Try.ntmps37]
    repeat' first
      | apply AW.seq | apply AW.region | apply AW.ret | apply AW.block | apply AW.skip | apply AW.exit | apply AW.scope | apply AW.label | apply AWL.nil | apply D.nil
      | refine W.draw cx_mixed (by decide +kernel) ?_
      | ((first | (apply W.step cx_ok; decide) | (apply D.step cx_ok; decide; decide) | apply AW.cond); (simp (disch := omega) only [push_cast, simprocAttr, hlF] <;> rfl); all_goals try ((with_reducible intro hI); try first | (cases hI; done) | (simp only [INTS, zL] at hI; try first | (exfalso; omega) | (have hT : True := hI; clear hT hI))))
      | ((first | apply W.ret1 | apply W.end1); (iterate 2 (try (simp (disch := omega) only [push_cast, simprocAttr, hlF] <;> rfl))))

    all_goals (show _ = _; rfl)
end Go.Proofs.Ks

namespace Go.Proofs.Ks
open Go Go.Pg Go.Proofs
def legB (l : Leg) : Bool := decide (1 ≤ l.secs) && decide (l.secs ≤ 36000) && (decide (l.rate = 0) || (decide (900000 ≤ l.rate) && decide (l.rate ≤ 1100000)))
def runT : List Leg → Int → Int → Int
  | [], T, P => if 1073741823 < T ∨ 43200000000 ≤ P then 1 else 0
  | l :: r, T, P => if legB l = true then runT r (T + l.secs) (P + l.secs * l.rate) else 1
def runE (x : Run) : Int := if 40 < x.legs.length then 2 else if x.start < 0 ∨ 1073741823 < x.start ∨ x.micro < 0 ∨ 43200000000 ≤ x.micro then 1 else runT x.legs x.start x.micro
def sumT : List Leg → Int
  | [] => 0
  | l :: r => l.secs + sumT r
def sumP : List Leg → Int
  | [] => 0
  | l :: r => l.secs * l.rate + sumP r
theorem legB_iff {l : Leg} : legB l = true ↔ 1 ≤ l.secs ∧ l.secs ≤ 36000 ∧ (l.rate = 0 ∨ (900000 ≤ l.rate ∧ l.rate ≤ 1100000)) := by
  unfold legB; simp only [Bool.and_eq_true, Bool.or_eq_true, decide_eq_true_eq, and_assoc]
theorem mul_bd {a b A B : Int} (ha : 0 ≤ a) (ha2 : a ≤ A) (hb : 0 ≤ b) (hb2 : b ≤ B) : 0 ≤ a * b ∧ a * b ≤ A * B := by
  refine ⟨Int.mul_nonneg ha hb, ?_⟩
  exact Int.le_trans (Int.mul_le_mul_of_nonneg_right ha2 hb) (Int.mul_le_mul_of_nonneg_left hb2 (by omega))
theorem leg_bd {l : Leg} (h : legB l = true) : 1 ≤ l.secs ∧ l.secs ≤ 36000 ∧ 0 ≤ l.rate ∧ l.rate ≤ 1100000 ∧ 0 ≤ l.secs * l.rate ∧ l.secs * l.rate ≤ 39600000000 := by
  obtain ⟨h1, h2, h3⟩ := legB_iff.1 h
  have h4 : 0 ≤ l.rate ∧ l.rate ≤ 1100000 := by omega
  have := mul_bd (a := l.secs) (b := l.rate) (A := 36000) (B := 1100000) (by omega) h2 h4.1 h4.2
  omega
theorem runT_zero : ∀ {l : List Leg} {T P : Int}, runT l T P = 0 → (∀ y ∈ l, legB y = true) ∧ T + sumT l ≤ 1073741823 ∧ P + sumP l < 43200000000
  | [], T, P, h => by
    unfold runT at h
    split at h
    · cases h
    · simp only [sumT, sumP]; exact ⟨fun y hy => (by cases hy), by omega, by omega⟩
  | l :: r, T, P, h => by
    unfold runT at h
    split at h
    · rename_i hl
      obtain ⟨h1, h2, h3⟩ := runT_zero h
      simp only [sumT, sumP]
      refine ⟨fun y hy => ?_, by omega, by omega⟩
      rcases List.mem_cons.1 hy with rfl | hy
      · exact hl
      · exact h1 y hy
    · cases h
structure RunV (x : Run) : Prop where
  n : x.legs.length ≤ 40
  start : 0 ≤ x.start ∧ x.start ≤ 1073741823
  micro : 0 ≤ x.micro ∧ x.micro < 43200000000
  legs : ∀ y ∈ x.legs, legB y = true
  time : x.start + sumT x.legs ≤ 1073741823
  place : x.micro + sumP x.legs < 43200000000
theorem runE_V {x : Run} (h : runE x = 0) : RunV x := by
  unfold runE at h
  split at h
  · cases h
  · split at h
    · cases h
    · obtain ⟨h1, h2, h3⟩ := runT_zero h
      exact ⟨by omega, by omega, by omega, h1, h2, h3⟩
theorem CheckRun_ok (x : Run) (hlen : x.legs.length ≤ 1099511627776) : OKv cx 68 [.agg (eRun x)] (ai (runE x)) := by
  by_cases hn : 40 < x.legs.length
  · have e : runE x = 2 := by unfold runE; rw [if_pos hn]
    have hnI : (40 : Int) < (x.legs.length : Int) := by omega
    rw [e]
    refine OKat.of_body (rs := [2]) Try.func68 rfl (by decide +kernel) rfl (by simp [Try.ntmps68]) ?_
    simp only [Try.ntmps68]
    repeat' first
      | apply AW.seq | apply AW.region | apply AW.ret | apply AW.block | apply AW.skip | apply AW.exit | apply AW.scope | apply AW.label | apply AWL.nil | apply D.nil
      | refine W.draw cx_mixed (by decide +kernel) ?_
      | ((first | (apply W.step cx_ok; decide) | (apply D.step cx_ok; decide; decide) | apply W.store cx_ok | (apply W.gS; rfl; decide) | (apply D.gS; rfl; decide; decide) | apply AW.cond); (simp (disch := omega) only [push_cast, simprocAttr, hnI] <;> rfl); all_goals try ((with_reducible intro hI); try first | (cases hI; done) | (simp only [INTS, zL] at hI; try first | (exfalso; omega) | (have hT : True := hI; clear hT hI))))
      | ((first | (apply W.gU; rfl; decide) | (apply D.gU; rfl; decide; decide)); (simp (disch := omega) only [push_cast, simprocAttr, hnI] <;> rfl))
      | ((first | apply W.ret1 | apply W.end1); (iterate 2 (try (simp (disch := omega) only [push_cast, simprocAttr, hnI] <;> rfl))))

    all_goals (show _ = _; rfl)
  · have hnI : ¬ (40 : Int) < (x.legs.length : Int) := by omega
    by_cases hb : x.start < 0 ∨ 1073741823 < x.start ∨ x.micro < 0 ∨ 43200000000 ≤ x.micro
    · have e : runE x = 1 := by unfold runE; rw [if_neg hn, if_pos hb]
      rw [e]
      refine OKat.of_body (rs := [2]) Try.func68 rfl (by decide +kernel) rfl (by simp [Try.ntmps68]) ?_
      simp only [Try.ntmps68]
      repeat' first
        | apply AW.seq | apply AW.region | apply AW.ret | apply AW.block | apply AW.skip | apply AW.exit | apply AW.scope | apply AW.label | apply AWL.nil | apply D.nil
        | refine W.draw cx_mixed (by decide +kernel) ?_
        | ((first | (apply W.step cx_ok; decide) | (apply D.step cx_ok; decide; decide) | apply W.store cx_ok | (apply W.gS; rfl; decide) | (apply D.gS; rfl; decide; decide) | apply AW.cond); (simp (disch := omega) only [push_cast, simprocAttr, hnI] <;> rfl); all_goals try ((with_reducible intro hI); try first | (cases hI; done) | (simp only [INTS, zL] at hI; try first | (exfalso; omega) | (have hT : True := hI; clear hT hI))))
        | ((first | (apply W.gU; rfl; decide) | (apply D.gU; rfl; decide; decide)); (simp (disch := omega) only [push_cast, simprocAttr, hnI] <;> rfl))
        | ((first | apply W.ret1 | apply W.end1); (iterate 2 (try (simp (disch := omega) only [push_cast, simprocAttr, hnI] <;> rfl))))

      all_goals first
        | (show _ = _; rfl)
        | (exfalso; omega)
    · have e : runE x = runT x.legs x.start x.micro := by unfold runE; rw [if_neg hn, if_neg hb]
      obtain ⟨RES, hRES⟩ : ∃ z, runT x.legs x.start x.micro = z := ⟨_, rfl⟩
      rw [e, hRES]
      simp only [not_or, Int.not_lt, Int.not_le] at hb
      obtain ⟨b1, b2, b3, b4⟩ := hb
      refine OKat.of_body (rs := [2]) Try.func68 rfl (by decide +kernel) rfl (by simp [Try.ntmps68]) ?_
      simp only [Try.ntmps68]
      repeat' first
        | apply AW.seq | apply AW.region | apply AW.ret | apply AW.block | apply AW.skip | apply AW.exit | apply AW.scope | apply AW.label | apply AWL.nil | apply D.nil
        | refine W.draw cx_mixed (by decide +kernel) ?_
        | ((first | (apply W.step cx_ok; decide) | (apply D.step cx_ok; decide; decide) | apply W.store cx_ok | (apply W.gS; rfl; decide) | (apply D.gS; rfl; decide; decide) | apply AW.cond); (simp (disch := omega) only [push_cast, simprocAttr, hnI, b1, b2, b3, b4] <;> rfl); all_goals try ((with_reducible intro hI); try first | (cases hI; done) | (simp only [INTS, zL] at hI; try first | (exfalso; omega) | (have hT : True := hI; clear hT hI))))
        | ((first | (apply W.gU; rfl; decide) | (apply D.gU; rfl; decide; decide)); (simp (disch := omega) only [push_cast, simprocAttr, hnI, b1, b2, b3, b4] <;> rfl))
        | ((first | apply W.ret1 | apply W.end1); (iterate 2 (try (simp (disch := omega) only [push_cast, simprocAttr, hnI, b1, b2, b3, b4] <;> rfl))))

      refine AW.loop (fun n s => ∃ (k : Nat) (T P : Int) (rest : List Leg), n = rest.length ∧ (x.legs.drop k = rest) ∧ (runT rest T P = RES) ∧ (0 ≤ T ∧ T ≤ 1073741823 + 36000 * (k : Int)) ∧ (0 ≤ P ∧ P ≤ 43200000000 + 39600000000 * (k : Int)) ∧ 1 ≤ s.nx ∧ s.tm 3 = ai 43200000000 ∧ s.tm 4 = ai T ∧ s.tm 5 = ai P ∧ s.tm 36 = lLeg x.legs ∧ s.tm 37 = ai x.legs.length ∧ s.tm 38 = ai k) (x.legs.length) ⟨0, x.start, x.micro, x.legs, rfl, rfl, hRES, ⟨b1, (by omega)⟩, ⟨b3, (by omega)⟩, ?_, ?_, ?_, ?_, ?_, ?_, ?_⟩ ?_
      iterate 7 (first | (simp (disch := omega) only [push_cast, simprocAttr, hnI, b1, b2, b3, b4] <;> first | rfl | omega) | omega)
      rintro n s ⟨k, T, P, rest, hn, hp0, hp1, hp2, hp3, hnl, hS⟩
      rcases rest with _ | ⟨y, rest⟩
      · have hk := drop_nil hp0
        unfold runT at hp1
        repeat' first
          | apply AW.seq | apply AW.region | apply AW.ret | apply AW.block | apply AW.skip | apply AW.exit | apply AW.scope | apply AW.label | apply AWL.nil | apply D.nil
          | refine W.draw cx_mixed (by decide +kernel) ?_
          | ((first | (apply W.step cx_ok; decide) | (apply D.step cx_ok; decide; decide) | apply W.store cx_ok | (apply W.gS; rfl; decide) | (apply D.gS; rfl; decide; decide) | apply AW.cond); (simp (disch := omega) only [push_cast, simprocAttr, hS, hk] <;> rfl); all_goals try ((with_reducible intro hI); try first | (cases hI; done) | (simp only [INTS, zL] at hI; try first | (exfalso; omega) | (have hT : True := hI; clear hT hI))))
          | ((first | (apply W.gU; rfl; decide) | (apply D.gU; rfl; decide; decide)); (simp (disch := omega) only [push_cast, simprocAttr, hS, hk] <;> rfl))
          | ((first | apply W.ret1 | apply W.end1); (iterate 2 (try (simp (disch := omega) only [push_cast, simprocAttr, hS, hk] <;> rfl))))

        all_goals (show _ = _; rw [← hp1]; split <;> first | rfl | (exfalso; omega))
      · obtain ⟨hk, hg, hd', hl', hm, hx⟩ := drop_cons hp0 eLeg []
        have hk40 : (k : Int) ≤ 40 := by omega
        unfold runT at hp1
        by_cases hlg : legB y = true
        · obtain ⟨q1, q2, q3, q4, q5, q6⟩ := leg_bd hlg
          have q7 := legB_iff.1 hlg
          rw [if_pos hlg] at hp1
          repeat' first
            | apply AW.seq | apply AW.region | apply AW.ret | apply AW.block | apply AW.skip | apply AW.exit | apply AW.scope | apply AW.label | apply AWL.nil | apply D.nil
            | refine W.draw cx_mixed (by decide +kernel) ?_
            | ((first | (apply W.step cx_ok; decide) | (apply D.step cx_ok; decide; decide) | apply W.store cx_ok | (apply W.gS; rfl; decide) | (apply D.gS; rfl; decide; decide) | apply AW.cond); (simp (disch := omega) only [push_cast, simprocAttr, hS, hk, hg, hx] <;> rfl); all_goals try ((with_reducible intro hI); try first | (cases hI; done) | (simp only [INTS, zL] at hI; try first | (exfalso; omega) | (have hT : True := hI; clear hT hI))))
            | ((first | (apply W.gU; rfl; decide) | (apply D.gU; rfl; decide; decide)); (simp (disch := omega) only [push_cast, simprocAttr, hS, hk, hg, hx] <;> rfl))
            | ((first | apply W.ret1 | apply W.end1); (iterate 2 (try (simp (disch := omega) only [push_cast, simprocAttr, hS, hk, hg, hx] <;> rfl))))

          all_goals first
            | (exfalso; omega)
            | (refine ⟨rest.length, ?_, k + 1, T + y.secs, P + y.secs * y.rate, rest, rfl, hd', hp1, (by omega), (by omega), ?_, ?_, ?_, ?_, ?_, ?_, ?_⟩; ((simp only [List.length_cons] at *; omega)); all_goals first | (simp (disch := omega) only [push_cast, simprocAttr, hS, hk, hg, hx] <;> first | rfl | omega) | omega)
        · have q7 : ¬ (1 ≤ y.secs ∧ y.secs ≤ 36000 ∧ (y.rate = 0 ∨ (900000 ≤ y.rate ∧ y.rate ≤ 1100000))) := fun h => hlg (legB_iff.2 h)
          rw [if_neg hlg] at hp1
          repeat' first
            | apply AW.seq | apply AW.region | apply AW.ret | apply AW.block | apply AW.skip | apply AW.exit | apply AW.scope | apply AW.label | apply AWL.nil | apply D.nil
            | refine W.draw cx_mixed (by decide +kernel) ?_
            | ((first | (apply W.step cx_ok; decide) | (apply D.step cx_ok; decide; decide) | apply W.store cx_ok | (apply W.gS; rfl; decide) | (apply D.gS; rfl; decide; decide) | apply AW.cond); (simp (disch := omega) only [push_cast, simprocAttr, hS, hk, hg, hx] <;> rfl); all_goals try ((with_reducible intro hI); try first | (cases hI; done) | (simp only [INTS, zL] at hI; try first | (exfalso; omega) | (have hT : True := hI; clear hT hI))))
            | ((first | (apply W.gU; rfl; decide) | (apply D.gU; rfl; decide; decide)); (simp (disch := omega) only [push_cast, simprocAttr, hS, hk, hg, hx] <;> rfl))
            | ((first | apply W.ret1 | apply W.end1); (iterate 2 (try (simp (disch := omega) only [push_cast, simprocAttr, hS, hk, hg, hx] <;> rfl))))

          all_goals first
            | (exfalso; omega)
            | (show _ = _; rw [← hp1])
theorem end_ok (x : Run) (hv : RunV x) : OKv cx 105 [.agg (eRun x)] (.tup [ai (x.start + sumT x.legs), ai (x.micro + sumP x.legs)]) := by
  have hn := hv.n
  obtain ⟨b1, b2⟩ := hv.start
  obtain ⟨b3, b4⟩ := hv.micro
  obtain ⟨TT, hT⟩ : ∃ z, x.start + sumT x.legs = z := ⟨_, rfl⟩
  obtain ⟨PP, hP⟩ : ∃ z, x.micro + sumP x.legs = z := ⟨_, rfl⟩
  rw [hT, hP]
  refine OKat.of_body (rs := [2, 3]) Try.func105 rfl (by decide +kernel) rfl (by simp [Try.ntmps105]) ?_
  simp only [Try.ntmps105]
  repeat' first
    | apply AW.seq | apply AW.region | apply AW.ret | apply AW.block | apply AW.skip | apply AW.exit | apply AW.scope | apply AW.label | apply AWL.nil | apply D.nil
    | refine W.draw cx_mixed (by decide +kernel) ?_
    | ((first | (apply W.step cx_ok; decide) | (apply D.step cx_ok; decide; decide) | apply W.store cx_ok | apply AW.cond); (simp (disch := omega) only [push_cast, simprocAttr, b1, b2, b3, b4] <;> rfl); all_goals try ((with_reducible intro hI); try first | (cases hI; done) | (simp only [INTS, zL] at hI; try first | (exfalso; omega) | (have hT : True := hI; clear hT hI))))
    | ((first | apply W.ret2 | apply W.end2); (iterate 2 (try (simp (disch := omega) only [push_cast, simprocAttr, b1, b2, b3, b4] <;> rfl))))

  refine AW.loop (fun n s => ∃ (k : Nat) (T P : Int) (rest : List Leg), n = rest.length ∧ (x.legs.drop k = rest) ∧ (T + sumT rest = TT ∧ P + sumP rest = PP) ∧ (0 ≤ T ∧ T ≤ 1073741823 + 36000 * (k : Int)) ∧ (0 ≤ P ∧ P ≤ 43200000000 + 39600000000 * (k : Int)) ∧ 1 ≤ s.nx ∧ s.tm 4 = ai T ∧ s.tm 5 = ai P ∧ s.tm 13 = lLeg x.legs ∧ s.tm 14 = ai x.legs.length ∧ s.tm 15 = ai k) (x.legs.length) ⟨0, x.start, x.micro, x.legs, rfl, rfl, ⟨hT, hP⟩, ⟨b1, (by omega)⟩, ⟨b3, (by omega)⟩, ?_, ?_, ?_, ?_, ?_, ?_⟩ ?_
  iterate 6 (first | (simp (disch := omega) only [push_cast, simprocAttr, b1, b2, b3, b4] <;> first | rfl | omega) | omega)
  rintro n s ⟨k, T, P, rest, hn, hp0, hp1, hp2, hp3, hnl, hS⟩
  obtain ⟨e1, e2⟩ := hp1
  rcases rest with _ | ⟨y, rest⟩
  · have hk := drop_nil hp0
    simp only [sumT, sumP, Int.add_zero] at e1 e2
    subst e1; subst e2
    repeat' first
      | apply AW.seq | apply AW.region | apply AW.ret | apply AW.block | apply AW.skip | apply AW.exit | apply AW.scope | apply AW.label | apply AWL.nil | apply D.nil
      | refine W.draw cx_mixed (by decide +kernel) ?_
      | ((first | (apply W.step cx_ok; decide) | (apply D.step cx_ok; decide; decide) | apply W.store cx_ok | apply AW.cond); (simp (disch := omega) only [push_cast, simprocAttr, hS, hk] <;> rfl); all_goals try ((with_reducible intro hI); try first | (cases hI; done) | (simp only [INTS, zL] at hI; try first | (exfalso; omega) | (have hT : True := hI; clear hT hI))))
      | ((first | apply W.ret2 | apply W.end2); (iterate 2 (try (simp (disch := omega) only [push_cast, simprocAttr, hS, hk] <;> rfl))))

    all_goals (show _ = _; rfl)
  · obtain ⟨hk, hg, hd', hl', hm, hx⟩ := drop_cons hp0 eLeg []
    obtain ⟨q1, q2, q3, q4, q5, q6⟩ := leg_bd (hv.legs y hm)
    have hk40 : (k : Int) ≤ 40 := by omega
    simp only [sumT, sumP] at e1 e2
    repeat' first
      | apply AW.seq | apply AW.region | apply AW.ret | apply AW.block | apply AW.skip | apply AW.exit | apply AW.scope | apply AW.label | apply AWL.nil | apply D.nil
      | refine W.draw cx_mixed (by decide +kernel) ?_
      | ((first | (apply W.step cx_ok; decide) | (apply D.step cx_ok; decide; decide) | apply W.store cx_ok | apply AW.cond); (simp (disch := omega) only [push_cast, simprocAttr, hS, hk, hg, hx] <;> rfl); all_goals try ((with_reducible intro hI); try first | (cases hI; done) | (simp only [INTS, zL] at hI; try first | (exfalso; omega) | (have hT : True := hI; clear hT hI))))
      | ((first | apply W.ret2 | apply W.end2); (iterate 2 (try (simp (disch := omega) only [push_cast, simprocAttr, hS, hk, hg, hx] <;> rfl))))

    all_goals (refine ⟨rest.length, ?_, k + 1, T + y.secs, P + y.secs * y.rate, rest, rfl, hd', ⟨(by omega), (by omega)⟩, (by omega), (by omega), ?_, ?_, ?_, ?_, ?_, ?_⟩; ((simp only [List.length_cons] at *; omega)); all_goals first | (simp (disch := omega) only [push_cast, simprocAttr, hS, hk, hg, hx] <;> first | rfl | omega) | omega)
def needF : List Leg → Int → Int → Int
  | [], _, P => P
  | l :: r, F, P => needF r (F - min F l.secs) (P + min F l.secs * l.rate)
def needleP (x : Run) (t : Int) : Int × Int := if runE x = 0 then (if t < x.start ∨ x.start + sumT x.legs < t then (0, 3) else (needF x.legs (t - x.start) x.micro / 1000000, 0)) else (0, runE x)
theorem Needle_ok (x : Run) (t : Int) (hlen : x.legs.length ≤ 1099511627776) : OKv cx 66 [.agg (eRun x), ai t] (.tup [ai (needleP x t).1, ai (needleP x t).2]) := by
  unfold needleP
  have hch := CheckRun_ok x hlen
  by_cases hc : runE x = 0
  · have hv := runE_V hc
    have hend := end_ok x hv
    obtain ⟨b1, b2⟩ := hv.start
    obtain ⟨b3, b4⟩ := hv.micro
    have hn := hv.n
    have hti := hv.time
    obtain ⟨TT, hT⟩ : ∃ z, x.start + sumT x.legs = z := ⟨_, rfl⟩
    obtain ⟨PP, hP⟩ : ∃ z, x.micro + sumP x.legs = z := ⟨_, rfl⟩
    rw [hT, hP] at hend
    rw [hT] at hti ⊢
    rw [if_pos hc]
    by_cases ht : t < x.start ∨ TT < t
    · rw [if_pos ht]
      refine OKat.of_body (rs := [4, 5]) Try.func66 rfl (by decide +kernel) rfl (by simp [Try.ntmps66]) ?_
      simp only [Try.ntmps66]
      repeat' first
        | apply AW.seq | apply AW.region | apply AW.ret | apply AW.block | apply AW.skip | apply AW.exit | apply AW.scope | apply AW.label | apply AWL.nil | apply D.nil
        | refine W.draw cx_mixed (by decide +kernel) ?_
        | ((first | (apply W.step cx_ok; decide) | (apply D.step cx_ok; decide; decide) | apply W.store cx_ok | (apply W.gS; rfl; decide) | (apply D.gS; rfl; decide; decide) | apply AW.cond); (simp (disch := omega) only [push_cast, simprocAttr, hc] <;> rfl); all_goals try ((with_reducible intro hI); try first | (cases hI; done) | (simp only [INTS, zL] at hI; try first | (exfalso; omega) | (have hT : True := hI; clear hT hI))))
        | ((first | (apply W.callv cx_ok; decide) | (apply D.callv cx_ok; decide; decide)); (iterate 2 (simp (disch := omega) only [push_cast, simprocAttr, hc] <;> rfl)); (with_reducible first | exact hch | exact hend); try first | rfl | (simp (disch := omega) only [push_cast, simprocAttr, hc] <;> rfl))
        | ((first | apply W.ret2 | apply W.end2); (iterate 2 (try (simp (disch := omega) only [push_cast, simprocAttr, hc] <;> rfl))))

      all_goals first
        | (exfalso; omega)
        | (show _ = _; rfl)
    · rw [if_neg ht]
      simp only [not_or, Int.not_lt] at ht
      obtain ⟨t1, t2⟩ := ht
      obtain ⟨RES, hRES⟩ : ∃ z, needF x.legs (t - x.start) x.micro = z := ⟨_, rfl⟩
      rw [hRES]
      refine OKat.of_body (rs := [4, 5]) Try.func66 rfl (by decide +kernel) rfl (by simp [Try.ntmps66]) ?_
      simp only [Try.ntmps66]
      repeat' first
        | apply AW.seq | apply AW.region | apply AW.ret | apply AW.block | apply AW.skip | apply AW.exit | apply AW.scope | apply AW.label | apply AWL.nil | apply D.nil
        | refine W.draw cx_mixed (by decide +kernel) ?_
        | ((first | (apply W.step cx_ok; decide) | (apply D.step cx_ok; decide; decide) | apply W.store cx_ok | (apply W.gS; rfl; decide) | (apply D.gS; rfl; decide; decide) | apply AW.cond); (simp (disch := omega) only [push_cast, simprocAttr, hc, t1, t2] <;> rfl); all_goals try ((with_reducible intro hI); try first | (cases hI; done) | (simp only [INTS, zL] at hI; try first | (exfalso; omega) | (have hT : True := hI; clear hT hI))))
        | ((first | (apply W.callv cx_ok; decide) | (apply D.callv cx_ok; decide; decide)); (iterate 2 (simp (disch := omega) only [push_cast, simprocAttr, hc, t1, t2] <;> rfl)); (with_reducible first | exact hch | exact hend); try first | rfl | (simp (disch := omega) only [push_cast, simprocAttr, hc, t1, t2] <;> rfl))
        | ((first | apply W.ret2 | apply W.end2); (iterate 2 (try (simp (disch := omega) only [push_cast, simprocAttr, hc, t1, t2] <;> rfl))))

      refine AW.loop (fun n s => ∃ (k : Nat) (F P : Int) (rest : List Leg), n = rest.length ∧ (x.legs.drop k = rest) ∧ (needF rest F P = RES) ∧ (0 ≤ F ∧ F ≤ 1073741823) ∧ (0 ≤ P ∧ P ≤ 43200000000 + 39600000000 * (k : Int)) ∧ (k ≤ x.legs.length) ∧ 1 ≤ s.nx ∧ s.tm 9 = ai F ∧ s.tm 10 = ai P ∧ s.tm 40 = lLeg x.legs ∧ s.tm 41 = ai x.legs.length ∧ s.tm 42 = ai k) (x.legs.length) ⟨0, (t - x.start), x.micro, x.legs, rfl, rfl, hRES, (by omega), ⟨b3, (by omega)⟩, (Nat.zero_le _), ?_, ?_, ?_, ?_, ?_, ?_⟩ ?_
      iterate 6 (first | (simp (disch := omega) only [push_cast, simprocAttr, hc, t1, t2] <;> first | rfl | omega) | omega)
      rintro n s ⟨k, F, P, rest, hn, hp0, hp1, hp2, hp3, hp4, hnl, hS⟩
      rcases rest with _ | ⟨y, rest⟩
      · have hk := drop_nil hp0
        unfold needF at hp1
        subst hp1
        repeat' first
          | apply AW.seq | apply AW.region | apply AW.ret | apply AW.block | apply AW.skip | apply AW.exit | apply AW.scope | apply AW.label | apply AWL.nil | apply D.nil
          | refine W.draw cx_mixed (by decide +kernel) ?_
          | ((first | (apply W.step cx_ok; decide) | (apply D.step cx_ok; decide; decide) | apply W.store cx_ok | (apply W.gS; rfl; decide) | (apply D.gS; rfl; decide; decide) | apply AW.cond); (simp (disch := omega) only [push_cast, simprocAttr, hS, hk] <;> rfl); all_goals try ((with_reducible intro hI); try first | (cases hI; done) | (simp only [INTS, zL] at hI; try first | (exfalso; omega) | (have hT : True := hI; clear hT hI))))
          | ((first | apply W.ret2 | apply W.end2); (iterate 2 (try (simp (disch := omega) only [push_cast, simprocAttr, hS, hk] <;> rfl))))

        all_goals (show _ = _; rfl)
      · obtain ⟨hk, hg, hd', hl', hm, hx⟩ := drop_cons hp0 eLeg []
        obtain ⟨q1, q2, q3, q4, q5, q6⟩ := leg_bd (hv.legs y hm)
        have hk40 : (k : Int) ≤ 40 := by omega
        unfold needF at hp1
        obtain ⟨m1, m2⟩ := mul_bd (a := min F y.secs) (b := y.rate) (A := 36000) (B := 1100000) (by omega) (by omega) q3 q4
        obtain ⟨MN, hMN⟩ : ∃ z, min F y.secs = z := ⟨_, rfl⟩
        rw [hMN] at hp1 m1 m2
        repeat' first
          | apply AW.seq | apply AW.region | apply AW.ret | apply AW.block | apply AW.skip | apply AW.exit | apply AW.scope | apply AW.label | apply AWL.nil | apply D.nil
          | refine W.draw cx_mixed (by decide +kernel) ?_
          | ((first | (apply W.step cx_ok; decide) | (apply D.step cx_ok; decide; decide) | apply W.store cx_ok | (apply W.gS; rfl; decide) | (apply D.gS; rfl; decide; decide) | apply AW.cond); (simp (disch := omega) only [push_cast, simprocAttr, hS, hk, hg, hx, hMN] <;> rfl); all_goals try ((with_reducible intro hI); try first | (cases hI; done) | (simp only [INTS, zL] at hI; try first | (exfalso; omega) | (have hT : True := hI; clear hT hI))))
          | ((first | apply W.ret2 | apply W.end2); (iterate 2 (try (simp (disch := omega) only [push_cast, simprocAttr, hS, hk, hg, hx, hMN] <;> rfl))))

        all_goals (refine ⟨rest.length, ?_, k + 1, F - MN, P + MN * y.rate, rest, rfl, hd', hp1, (by omega), (by omega), (by omega), ?_, ?_, ?_, ?_, ?_, ?_⟩; ((simp only [List.length_cons] at *; omega)); all_goals first | (simp (disch := omega) only [push_cast, simprocAttr, hS, hk, hg, hx, hMN] <;> first | rfl | omega) | omega)
  · rw [if_neg hc]
    have hcF : (runE x = 0) = False := eq_false hc
    refine OKat.of_body (rs := [4, 5]) Try.func66 rfl (by decide +kernel) rfl (by simp [Try.ntmps66]) ?_
    simp only [Try.ntmps66]
    repeat' first
      | apply AW.seq | apply AW.region | apply AW.ret | apply AW.block | apply AW.skip | apply AW.exit | apply AW.scope | apply AW.label | apply AWL.nil | apply D.nil
      | refine W.draw cx_mixed (by decide +kernel) ?_
      | ((first | (apply W.step cx_ok; decide) | (apply D.step cx_ok; decide; decide) | apply W.store cx_ok | (apply W.gS; rfl; decide) | (apply D.gS; rfl; decide; decide) | apply AW.cond); (simp (disch := omega) only [push_cast, simprocAttr, hcF] <;> rfl); all_goals try ((with_reducible intro hI); try first | (cases hI; done) | (simp only [INTS, zL] at hI; try first | (exfalso; omega) | (have hT : True := hI; clear hT hI))))
      | ((first | (apply W.callv cx_ok; decide) | (apply D.callv cx_ok; decide; decide)); (iterate 2 (simp (disch := omega) only [push_cast, simprocAttr, hcF] <;> rfl)); (with_reducible first | exact hch); try first | rfl | (simp (disch := omega) only [push_cast, simprocAttr, hcF] <;> rfl))
      | ((first | apply W.ret2 | apply W.end2); (iterate 2 (try (simp (disch := omega) only [push_cast, simprocAttr, hcF] <;> rfl))))

    all_goals (show _ = _; rfl)
end Go.Proofs.Ks

set_option maxRecDepth 100000
namespace Go.Proofs.Ks
open Go Go.Pg Go.Proofs
def exS : Session := { id := 1, inn := ⟨1000, 1010⟩, out := ⟨5000, 6000⟩, zero := ⟨0, 9⟩, fin := ⟨4000, 4020⟩, rate := ⟨1000000, 1000000⟩, stops := [] }
def exR : Rec := { s := exS, strikes := [⟨1, ⟨1000, 1000⟩⟩, ⟨2, ⟨2000, 2005⟩⟩], sights := [] }
def exR2 : Rec := { exR with sights := [⟨1, ⟨2100, 2200⟩⟩] }
theorem ex_check : checkE exR = 0 := by decide +kernel
theorem ex_links : (linksR exR []).length = 71 := by decide +kernel
theorem ex_cons : consP exR [] = true := by decide +kernel
theorem ex_spans : spansP exR = [⟨1990, 2011⟩, ⟨2990, 3016⟩] := by decide +kernel
theorem ex_between : betweenP exR 0 1 = (⟨999, 1006⟩, 0) := by decide +kernel
theorem ex_removed : eventP exR 2 = (⟨5000, 5031⟩, 0) := by decide +kernel
theorem ex_when : whenP exR 500 = (⟨1490, 1510⟩, 0) := by decide +kernel
theorem ex_yes : fitsP exR [2000, 3000] = (true, 0) := by decide +kernel
theorem ex_no : fitsP exR [2000, 3007] = (false, 0) := by decide +kernel
theorem ex_check2 : checkE exR2 = 0 := by decide +kernel
theorem ex_cons2 : consP exR2 [] = false := by decide +kernel
theorem ex_clash : clashO (nodesR exR2 []).length (linksR exR2 []) = some [9, 21, 12, 5, 0] := by decide +kernel
theorem ex_cc : checkClashE exR2 [9, 21, 12, 5, 0] = 0 := by decide +kernel
theorem ex_st : stF exR2 exR2.strikes.length = [1] := by decide +kernel
theorem ex_sg : sgF exR2 exR2.sights.length = [0] := by decide +kernel
theorem ex_susp : suspP exR2 = ([1], [0]) := by unfold suspP; rw [ex_st, ex_sg, List.mergeSort_singleton]
def exRun : Run := { start := 1000, micro := 500000, legs := [⟨100, 1000000⟩] }
theorem ex_needle : needleP exRun 1007 = (7, 0) := by decide +kernel
end Go.Proofs.Ks

namespace Go.Proofs.Ks
open Go Go.Pg Go.Proofs
theorem example_ok : OKv cx 76 [] (.agg (eRec exR)) := by
  refine OKat.of_bodyM cx_ok (rs := [.cell 0 30]) Try.func76 rfl (by decide +kernel) rfl (by simp [Try.ntmps76]) ?_
  simp only [Try.ntmps76]
  repeat' first
    | apply AW.seq | apply AW.region | apply AW.ret | apply AW.block | apply AW.skip | apply AW.exit | apply AW.scope | apply AW.label | apply AWL.nil
    | ((first | (apply W.step cx_ok; decide) | apply W.store cx_ok | apply AW.cond); (simp (disch := omega) only [push_cast, simprocAttr] <;> rfl); all_goals try ((with_reducible intro hI); try first | (cases hI; done) | (simp only [INTS, zL] at hI; try first | (exfalso; omega) | (have hT : True := hI; clear hT hI))))
    | ((first | apply W.retM | apply W.endM'); (iterate 2 (try (simp (disch := omega) only [push_cast, simprocAttr] <;> rfl))))

  all_goals (show _ = _; rfl)
theorem sanity_ok : OKv cx 20 [] (ab true) := by
  have c76 := example_ok
  have c40 := Links_good exR ex_check
  have c34 := Spans_good exR ex_check ex_cons
  rw [ex_spans] at c34
  replace c34 : OKv cx 34 [.agg (eRec exR)] (.tup [.lst [[ai 1990, ai 2011], [ai 2990, ai 3016]], ai 0]) := c34
  have c23 := Between_ok exR 0 1
  rw [ex_between] at c23
  replace c23 : OKv cx 23 [.agg (eRec exR), ai 0, ai 1] (.tup [.agg [ai 999, ai 1006], ai 0]) := c23
  have c60 := Removed_ok exR
  rw [ex_removed] at c60
  replace c60 : OKv cx 60 [.agg (eRec exR)] (.tup [.agg [ai 5000, ai 5031], ai 0]) := c60
  have c24 := When_ok exR 500
  rw [ex_when] at c24
  replace c24 : OKv cx 24 [.agg (eRec exR), ai 500] (.tup [.agg [ai 1490, ai 1510], ai 0]) := c24
  have c53 := Fits_ok exR [2000, 3000] (by simp)
  rw [ex_yes] at c53
  replace c53 : OKv cx 53 [.agg (eRec exR), .lst [[ai 2000], [ai 3000]]] (.tup [ab true, ai 0]) := c53
  have d53 := Fits_ok exR [2000, 3007] (by simp)
  rw [ex_no] at d53
  replace d53 : OKv cx 53 [.agg (eRec exR), .lst [[ai 2000], [ai 3007]]] (.tup [ab false, ai 0]) := d53
  have c37 : OKv cx 37 [.lst [[ai 1990, ai 2011], [ai 2990, ai 3016]], .lst [[ai 1990, ai 2011], [ai 2990, ai 3016]]] (ab true) := by
    have := SameSpans_ok [⟨1990, 2011⟩, ⟨2990, 3016⟩] [⟨1990, 2011⟩, ⟨2990, 3016⟩] (by simp) (by simp)
    rw [decide_eq_true rfl] at this
    exact this
  have i1 : OKv cx 51 [.lst [[ai 1]], .lst [[ai 1]]] (ab true) := by
    have := SameInts_ok [1] [1] (by simp) (by simp)
    rw [decide_eq_true rfl] at this
    exact this
  have i0 : OKv cx 51 [.lst [[ai 0]], .lst [[ai 0]]] (ab true) := by
    have := SameInts_ok [0] [0] (by simp) (by simp)
    rw [decide_eq_true rfl] at this
    exact this
  have c27 := Clash_some exR2 ex_check2 ex_cons2 ex_clash
  replace c27 : OKv cx 27 [.agg (eRec exR2)] (.tup [.lst [[ai 9], [ai 21], [ai 12], [ai 5], [ai 0]], ab true, ai 0]) := c27
  have c48 := Suspects_some exR2 ex_check2 ex_cons2
  rw [ex_susp] at c48
  replace c48 : OKv cx 48 [.agg (eRec exR2)] (.tup [.lst [[ai 1]], .lst [[ai 0]], ai 0]) := c48
  have c28 := CheckClash_ok exR2 [9, 21, 12, 5, 0] (by simp)
  rw [ex_cc] at c28
  replace c28 : OKv cx 28 [.agg (eRec exR2), .lst [[ai 9], [ai 21], [ai 12], [ai 5], [ai 0]]] (ai 0) := c28
  have c66 := Needle_ok exRun 1007 (by simp [exRun])
  rw [ex_needle] at c66
  replace c66 : OKv cx 66 [.agg [ai 1000, ai 500000, .lst [[ai 100, ai 1000000]]], ai 1007] (.tup [ai 7, ai 0]) := c66
  have hex : exR2 = { exR with sights := [⟨1, ⟨2100, 2200⟩⟩] } := rfl
  rw [hex] at c27 c48 c28
  have hlen := ex_links
  have hsg : exR.sights = [] := rfl
  obtain ⟨R, hR⟩ : ∃ z, exR = z := ⟨_, rfl⟩
  rw [hR] at c76 c40 c34 c23 c60 c24 c53 d53 c27 c48 c28 hlen hsg
  replace c27 : OKv cx 27 [.agg [ai R.s.id, ai R.s.inn.lo, ai R.s.inn.hi, ai R.s.out.lo, ai R.s.out.hi, ai R.s.zero.lo, ai R.s.zero.hi, ai R.s.fin.lo, ai R.s.fin.hi, ai R.s.rate.lo, ai R.s.rate.hi, lStop R.s.stops, lStrike R.strikes, .lst [[ai 1, ai 2100, ai 2200]]]] (.tup [.lst [[ai 9], [ai 21], [ai 12], [ai 5], [ai 0]], ab true, ai 0]) := c27
  replace c48 : OKv cx 48 [.agg [ai R.s.id, ai R.s.inn.lo, ai R.s.inn.hi, ai R.s.out.lo, ai R.s.out.hi, ai R.s.zero.lo, ai R.s.zero.hi, ai R.s.fin.lo, ai R.s.fin.hi, ai R.s.rate.lo, ai R.s.rate.hi, lStop R.s.stops, lStrike R.strikes, .lst [[ai 1, ai 2100, ai 2200]]]] (.tup [.lst [[ai 1]], .lst [[ai 0]], ai 0]) := c48
  replace c28 : OKv cx 28 [.agg [ai R.s.id, ai R.s.inn.lo, ai R.s.inn.hi, ai R.s.out.lo, ai R.s.out.hi, ai R.s.zero.lo, ai R.s.zero.hi, ai R.s.fin.lo, ai R.s.fin.hi, ai R.s.rate.lo, ai R.s.rate.hi, lStop R.s.stops, lStrike R.strikes, .lst [[ai 1, ai 2100, ai 2200]]], .lst [[ai 9], [ai 21], [ai 12], [ai 5], [ai 0]]] (ai 0) := c28
  obtain ⟨LK, hLK⟩ : ∃ z, linksR R [] = z := ⟨_, rfl⟩
  rw [hLK] at c40 hlen
  have hlen' : (LK.length : Int) = 71 := by omega
  have hf1 : flatA (.tup [.lst [[ai 9], [ai 21], [ai 12], [ai 5], [ai 0]], ab true, ai 0]) = false := rfl
  have hf2 : flatA (.tup [.lst [[ai 1]], .lst [[ai 0]], ai 0]) = false := rfl
  have hf3 : flatA (.tup [ai 7, ai 0]) = true := rfl
  have hf4 : ∀ x, flatA (.v x) = true := fun _ => rfl
  refine OKat.of_body (rs := [0]) Try.func20 rfl (by decide +kernel) rfl (by simp [Try.ntmps20]) ?_
  simp only [Try.ntmps20]
  repeat' first
    | apply AW.seq | apply AW.region | apply AW.ret | apply AW.block | apply AW.skip | apply AW.exit | apply AW.scope | apply AW.label | apply AWL.nil
    | ((first | (apply W.step cx_ok; decide) | apply W.store cx_ok | (apply W.gS; rfl; decide) | apply AW.cond | apply W.mapUpdate cx_ok); (simp (disch := omega) only [push_cast, simprocAttr, natNe, zI, zG, TyD.isAgg, zJ, rowAt_afterH, St.back, idsL, idsA, idsLL, yB, yA, zM, hlen', hf1, hf2, hf3, hf4, Option.map_some] <;> rfl); all_goals try ((with_reducible intro hI); try first | (cases hI; done) | (simp only [INTS, zL] at hI; try first | (exfalso; omega) | (have hT : True := hI; clear hT hI))))
    | (refine W.makeMap cx_ok (by simp only [push_cast, simprocAttr] <;> rfl) (by decide) ?_)
    | ((apply W.callv cx_ok; decide); (iterate 2 (simp (disch := omega) only [push_cast, simprocAttr, natNe, zI, zG, TyD.isAgg, zJ, rowAt_afterH, St.back, idsL, idsA, idsLL, yB, yA, zM, hlen', hf1, hf2, hf3, hf4, Option.map_some] <;> rfl)); (with_reducible first | exact c76 | exact c40 | exact c34 | exact c23 | exact c60 | exact c24 | exact c53 | exact d53 | exact c37 | exact i1 | exact i0 | exact c27 | exact c48 | exact c28 | exact c66); try first | rfl | (simp (disch := omega) only [push_cast, simprocAttr, natNe, zI, zG, TyD.isAgg, zJ, rowAt_afterH, St.back, idsL, idsA, idsLL, yB, yA, zM, hlen', hf1, hf2, hf3, hf4, Option.map_some] <;> rfl))
    | ((first | apply W.ret1 | apply W.end1); (iterate 2 (try (simp (disch := omega) only [push_cast, simprocAttr, natNe, zI, zG, TyD.isAgg, zJ, rowAt_afterH, St.back, idsL, idsA, idsLL, yB, yA, zM, hlen', hf1, hf2, hf3, hf4, Option.map_some] <;> rfl))))

  all_goals (show _ = _; rfl)
end Go.Proofs.Ks

namespace Go.Proofs.Ks
open Go Go.Pg Go.Proofs
theorem Wk.sub {L M : List Lk} (h : ∀ l ∈ L, l ∈ M) : ∀ {p : List Lk} {i k : Nat}, Wk L i p k → Wk M i p k
  | [], _, _, hw => hw
  | _ :: _, _, _, ⟨h1, h2, h3⟩ => ⟨h _ h1, h2, Wk.sub h h3⟩
theorem NoNeg.sub {L M : List Lk} (h : ∀ l ∈ L, l ∈ M) (hn : NoNeg M) : NoNeg L := fun i p hw => hn i p (hw.sub h)
theorem Dist.same {L M : List Lk} (h : ∀ l, l ∈ L ↔ l ∈ M) {n : Nat} {Src : Nat → Prop} {inf : Int} {d : Nat → Int} (hd : Dist L n Src inf d) : Dist M n Src inf d :=
  ⟨hd.le, fun k hk hi => by obtain ⟨s, p, h1, h2, h3⟩ := hd.real k hk hi; exact ⟨s, p, h1, h2.sub fun l hl => (h l).1 hl, h3⟩, fun s p k hs hw => hd.low s p k hs (hw.sub fun l hl => (h l).2 hl)⟩
theorem lengths_same {L M : List Lk} {n : Nat} {B : Int} (hL : ∀ l ∈ L, l.a < n ∧ l.b < n) (hB0 : 0 ≤ B) (hB : ∀ l ∈ L, -B ≤ l.m ∧ l.m ≤ B) (hfar : B * (n : Int) < far) (h : ∀ l, l ∈ L ↔ l ∈ M) :
    ((lengthsF n L (-1)).2.2 < 0 ↔ (lengthsF n M (-1)).2.2 < 0) ∧ ((lengthsF n L (-1)).2.2 < 0 → ∀ (f : Int) (k : Nat), k < n → (lengthsF n L f).1.getD k 0 = (lengthsF n M f).1.getD k 0) := by
  have hM : ∀ l ∈ M, l.a < n ∧ l.b < n := fun l hl => hL l ((h l).2 hl)
  have hBM : ∀ l ∈ M, -B ≤ l.m ∧ l.m ≤ B := fun l hl => hB l ((h l).2 hl)
  have e1 := lengths_noNeg hL hB0 hB hfar
  have e2 := lengths_noNeg hM hB0 hBM hfar
  refine ⟨e1.trans ((Iff.intro (fun h1 => h1.sub fun l hl => (h l).2 hl) (fun h1 => h1.sub fun l hl => (h l).1 hl)).trans e2.symm), fun h1 f k hk => ?_⟩
  have h2 := e1.1 h1
  exact Dist.unique ((lengths_dist hL hB0 hB hfar h2 f).same h) (lengths_dist hM hB0 hBM hfar (h2.sub fun l hl => (h l).2 hl) f) k hk
def spansQ (r : Rec) : List Span × Int := if checkE r = 0 then (if consP r [] = true then (spansP r, 0) else ([], 9)) else ([], checkE r)
theorem Spans_ok (r : Rec) : OKv cx 34 [.agg (eRec r)] (.tup [lSpan (spansQ r).1, ai (spansQ r).2]) := by
  unfold spansQ
  rcases solved0 r with ⟨h1, h2⟩ | ⟨h1, h2, h3⟩ | ⟨h1, h2, h3⟩
  · rw [if_neg h1]
    exact Spans_err r _ h1 h2
  · rw [if_pos h1, h2, if_neg (by decide)]
    exact Spans_err r 9 (by decide) h3
  · rw [if_pos h1, h2, if_pos rfl]
    exact Spans_good r h1 h2
theorem spansQ_len (r : Rec) : (spansQ r).1.length ≤ r.strikes.length := by
  unfold spansQ
  split
  · split
    · unfold spansP; simp
    · exact Nat.zero_le _
  · exact Nat.zero_le _
def rotR (r : Rec) (t : Nat) : Rec := { r with sights := (List.range r.sights.length).map fun i => r.sights.getD ((i + t) % r.sights.length) default }
theorem rot_mem (r : Rec) (t : Nat) (x : Sight) : x ∈ (rotR r t).sights ↔ x ∈ r.sights := by
  show x ∈ (List.range r.sights.length).map (fun i => r.sights.getD ((i + t) % r.sights.length) default) ↔ _
  constructor
  · intro h
    obtain ⟨i, hi, rfl⟩ := List.mem_map.1 h
    rw [List.mem_range] at hi
    have hl : (i + t) % r.sights.length < r.sights.length := Nat.mod_lt _ (by omega)
    rw [List.getD_eq_getElem?_getD, List.getElem?_eq_getElem hl]
    exact List.getElem_mem hl
  · intro h
    obtain ⟨j, hj, rfl⟩ := List.getElem_of_mem h
    refine List.mem_map.2 ⟨(j + (r.sights.length - t % r.sights.length)) % r.sights.length, List.mem_range.2 (Nat.mod_lt _ (by omega)), ?_⟩
    have hm : t % r.sights.length < r.sights.length := Nat.mod_lt _ (by omega)
    have e : ((j + (r.sights.length - t % r.sights.length)) % r.sights.length + t) % r.sights.length = j := by
      rw [Nat.mod_add_mod]
      have ht : t % r.sights.length + r.sights.length * (t / r.sights.length) = t := Nat.mod_add_div t _
      rw [show j + (r.sights.length - t % r.sights.length) + t = j + r.sights.length + r.sights.length * (t / r.sights.length) by omega, Nat.add_mul_mod_self_left, Nat.add_mod_right, Nat.mod_eq_of_lt hj]
    rw [e, List.getD_eq_getElem?_getD, List.getElem?_eq_getElem hj]
    rfl
theorem sgL_mem {r : Rec} {l : Lk} : ∀ {S : List Sight}, l ∈ sgL r S ↔ ∃ x ∈ S, l ∈ bothL (3 + strikeI x.strike 0 r.strikes).toNat x.seen
  | [] => by simp [sgL]
  | x :: S => by simp only [sgL, List.mem_append, sgL_mem (S := S), List.mem_cons, exists_eq_or_imp]
theorem sgL_strikes {r r' : Rec} (h : r'.strikes = r.strikes) : ∀ S : List Sight, sgL r' S = sgL r S
  | [] => rfl
  | x :: S => by simp only [sgL, h, sgL_strikes h S]
theorem links_same {r x : Rec} (h1 : x.s = r.s) (h2 : x.strikes = r.strikes) (h3 : ∀ y, y ∈ x.sights ↔ y ∈ r.sights) (more : List Int) : nodesR x more = nodesR r more ∧ ∀ l, l ∈ linksR r more ↔ l ∈ linksR x more := by
  obtain ⟨s, S, T⟩ := r
  obtain ⟨s', S', T'⟩ := x
  obtain rfl : s' = s := h1
  obtain rfl : S' = S := h2
  have e : nodesR ⟨s', S', T'⟩ more = nodesR ⟨s', S', T⟩ more := rfl
  refine ⟨e, fun l => ?_⟩
  unfold linksR
  rw [e]
  simp only [List.mem_append]
  have hs : l ∈ sgL ⟨s', S', T⟩ T ↔ l ∈ sgL ⟨s', S', T'⟩ T' := by
    rw [sgL_strikes (r := ⟨s', S', T⟩) (r' := ⟨s', S', T'⟩) rfl T', sgL_mem, sgL_mem]
    exact ⟨fun ⟨y, hy, hl⟩ => ⟨y, (h3 y).2 hy, hl⟩, fun ⟨y, hy, hl⟩ => ⟨y, (h3 y).1 hy, hl⟩⟩
  rw [hs]
  rfl
theorem spanF_same {nd : List Node} {L M : List Lk} {B : Int} (hL : ∀ l ∈ L, l.a < nd.length ∧ l.b < nd.length) (hB0 : 0 ≤ B) (hB : ∀ l ∈ L, -B ≤ l.m ∧ l.m ≤ B) (hfar : B * (nd.length : Int) < far) (h : ∀ l, l ∈ L ↔ l ∈ M) (hc : (lengthsF nd.length L (-1)).2.2 < 0)
    {f t : Nat} (hf : f < nd.length) (ht : t < nd.length) : spanF nd M f t = spanF nd L f t := by
  have h1 := (lengths_same hL hB0 hB hfar h).2 hc
  unfold spanF
  rw [h1 (t : Int) f hf, h1 (f : Int) t ht]
theorem same_bounds {r x : Rec} (hc : checkE r = 0) (hx : checkE x = 0) (h1 : x.s = r.s) (h2 : x.strikes = r.strikes) (h3 : ∀ y, y ∈ x.sights ↔ y ∈ r.sights) : spansQ x = spansQ r ∧ eventP x 1 = eventP r 1 := by
  have hv := checkE_V hc
  obtain ⟨f1, f2, f3, f4, f5⟩ := links_facts (more := []) hv (by decide) nomore
  obtain ⟨e1, e2⟩ := links_same h1 h2 h3 []
  have hnl := nodesR_len r []
  obtain ⟨g1, g2⟩ := lengths_same f3 (by decide) f4 (facts_far f1) e2
  have hcn : consP x [] = consP r [] := by
    unfold consP
    rw [e1]
    exact decide_eq_decide.2 g1.symm
  unfold spansQ eventP
  rw [if_pos hc, if_pos hx, if_pos hc, if_pos hx, hcn]
  cases hq : consP r [] with
  | false => exact ⟨rfl, rfl⟩
  | true =>
    have hq' : (lengthsF (nodesR r []).length (linksR r []) (-1)).2.2 < 0 := of_decide_eq_true hq
    have key := fun f t => spanF_same f3 (by decide) f4 (facts_far f1) e2 hq' (f := f) (t := t)
    rw [if_pos rfl, if_pos rfl, if_pos rfl, if_pos rfl]
    constructor
    · refine Prod.ext ?_ rfl
      show spansP x = spansP r
      unfold spansP
      rw [h2, e1]
      refine List.map_congr_left fun i hi => ?_
      rw [List.mem_range] at hi
      exact key 0 (3 + i) (by omega) (by omega)
    · refine Prod.ext ?_ rfl
      show spanF (nodesR x []) (linksR x []) 0 1 = _
      rw [e1]
      exact key 0 1 (by omega) (by omega)
theorem rot_zero {r : Rec} (h : checkE r = 0) (t : Nat) : checkE (rotR r t) = 0 := by
  obtain ⟨h1, h2, h3, h4, h5⟩ := checkE_parts h
  refine checkE_of h1 h2 ?_ h4 (sightsE_iff.2 fun x hx => sightsE_iff.1 h5 x ((rot_mem r t x).1 hx))
  show ((List.range r.sights.length).map _).length ≤ 12
  rw [List.length_map, List.length_range]; exact h3
theorem rot_bounds {r : Rec} (h : checkE r = 0) (t : Nat) : spansQ (rotR r t) = spansQ r ∧ eventP (rotR r t) 1 = eventP r 1 :=
  same_bounds h (rot_zero h t) rfl rfl (rot_mem r t)
end Go.Proofs.Ks

namespace Go.Proofs.Ks
open Go Go.Pg Go.Proofs
theorem law6_ok (r : Rec) (t : Nat) (ht : t < 256) : OKv cx 6 [.agg (eRec r), .v (.int .u8 (t : Int))] (ab true) := by
  have csm := small_ok r
  have c20 := sanity_ok
  have c33 := Check_ok r
  cases hsm : smallB r with
  | false =>
    rw [hsm] at csm
    refine OKat.of_body (rs := [4]) Try.func6 rfl (by decide +kernel) rfl (by simp [Try.ntmps6]) ?_
    simp only [Try.ntmps6]
    repeat' first
      | apply AW.seq | apply AW.region | apply AW.ret | apply AW.block | apply AW.skip | apply AW.exit | apply AW.scope | apply AW.label | apply AWL.nil | apply D.nil
      | refine W.draw cx_mixed (by decide +kernel) ?_
      | ((first | (apply W.step cx_ok; decide) | (apply D.step cx_ok; decide; decide) | apply W.store cx_ok | (apply W.gS; rfl; decide) | (apply D.gS; rfl; decide; decide) | apply AW.cond); (simp (disch := omega) only [push_cast, simprocAttr] <;> rfl); all_goals try ((with_reducible intro hI); try first | (cases hI; done) | (simp only [INTS, zL] at hI; try first | (exfalso; omega) | (have hT : True := hI; clear hT hI))))
      | ((first | (apply W.callv cx_ok; decide) | (apply D.callv cx_ok; decide; decide)); (iterate 2 (simp (disch := omega) only [push_cast, simprocAttr] <;> rfl)); (with_reducible first | exact csm | exact c20); try first | rfl | (simp (disch := omega) only [push_cast, simprocAttr] <;> rfl))
      | ((first | apply W.ret1 | apply W.end1); (iterate 2 (try (simp (disch := omega) only [push_cast, simprocAttr] <;> rfl))))

    all_goals (show _ = _; rfl)
  | true =>
    rw [hsm] at csm
    obtain ⟨q1, q2, q3⟩ : r.s.stops.length ≤ 12 ∧ r.strikes.length ≤ 20 ∧ r.sights.length ≤ 20 := by
      unfold smallB at hsm
      simp only [Bool.and_eq_true, decide_eq_true_eq] at hsm
      omega
    by_cases hn : r.sights.length = 0
    · have hnT : ((r.sights.length : Int) = 0) = True := eq_true (by omega)
      refine OKat.of_body (rs := [4]) Try.func6 rfl (by decide +kernel) rfl (by simp [Try.ntmps6]) ?_
      simp only [Try.ntmps6]
      repeat' first
        | apply AW.seq | apply AW.region | apply AW.ret | apply AW.block | apply AW.skip | apply AW.exit | apply AW.scope | apply AW.label | apply AWL.nil | apply D.nil
        | refine W.draw cx_mixed (by decide +kernel) ?_
        | ((first | (apply W.step cx_ok; decide) | (apply D.step cx_ok; decide; decide) | apply W.store cx_ok | (apply W.gS; rfl; decide) | (apply D.gS; rfl; decide; decide) | apply AW.cond); (simp (disch := omega) only [push_cast, simprocAttr, hnT] <;> rfl); all_goals try ((with_reducible intro hI); try first | (cases hI; done) | (simp only [INTS, zL] at hI; try first | (exfalso; omega) | (have hT : True := hI; clear hT hI))))
        | ((first | (apply W.callv cx_ok; decide) | (apply D.callv cx_ok; decide; decide)); (iterate 2 (simp (disch := omega) only [push_cast, simprocAttr, hnT] <;> rfl)); (with_reducible first | exact csm | exact c20); try first | rfl | (simp (disch := omega) only [push_cast, simprocAttr, hnT] <;> rfl))
        | ((first | apply W.ret1 | apply W.end1); (iterate 2 (try (simp (disch := omega) only [push_cast, simprocAttr, hnT] <;> rfl))))

      all_goals (show _ = _; rfl)
    · have hnF : ((r.sights.length : Int) = 0) = False := eq_false (by omega)
      have hnP : 0 < r.sights.length := by omega
      obtain ⟨SG, hSG⟩ : ∃ f, (fun i => r.sights.getD ((i + t) % r.sights.length) default) = f := ⟨_, rfl⟩
      have hX : eRec (rotR r t) = [ai r.s.id, ai r.s.inn.lo, ai r.s.inn.hi, ai r.s.out.lo, ai r.s.out.hi, ai r.s.zero.lo, ai r.s.zero.hi, ai r.s.fin.lo, ai r.s.fin.hi, ai r.s.rate.lo, ai r.s.rate.hi, lStop r.s.stops, lStrike r.strikes, lSight ((List.range r.sights.length).map SG)] := by rw [← hSG]; rfl
      refine OKat.of_body (rs := [4]) Try.func6 rfl (by decide +kernel) rfl (by simp [Try.ntmps6]) ?_
      simp only [Try.ntmps6]
      repeat' first
        | apply AW.seq | apply AW.region | apply AW.ret | apply AW.block | apply AW.skip | apply AW.exit | apply AW.scope | apply AW.label | apply AWL.nil | apply D.nil
        | refine W.draw cx_mixed (by decide +kernel) ?_
        | ((first | (apply W.step cx_ok; decide) | (apply D.step cx_ok; decide; decide) | apply W.store cx_ok | (apply W.gS; rfl; decide) | (apply D.gS; rfl; decide; decide) | apply AW.cond); (simp (disch := omega) only [push_cast, simprocAttr, hnF] <;> rfl); all_goals try ((with_reducible intro hI); try first | (cases hI; done) | (simp only [INTS, zL] at hI; try first | (exfalso; omega) | (have hT : True := hI; clear hT hI))))
        | ((first | (apply W.callv cx_ok; decide) | (apply D.callv cx_ok; decide; decide)); (iterate 2 (simp (disch := omega) only [push_cast, simprocAttr, hnF] <;> rfl)); (with_reducible first | exact csm | exact c20); try first | rfl | (simp (disch := omega) only [push_cast, simprocAttr, hnF] <;> rfl))
        | ((first | apply W.ret1 | apply W.end1); (iterate 2 (try (simp (disch := omega) only [push_cast, simprocAttr, hnF] <;> rfl))))

      refine AW.adoptCell 1 0 13 3 53 (r := { k := 14, es := [[ai r.s.id, ai r.s.inn.lo, ai r.s.inn.hi, ai r.s.out.lo, ai r.s.out.hi, ai r.s.zero.lo, ai r.s.zero.hi, ai r.s.fin.lo, ai r.s.fin.hi, ai r.s.rate.lo, ai r.s.rate.hi, lStop r.s.stops, lStrike r.strikes, .v (.slice none 0 0)]], ty := 30 }) (by simp (disch := omega) only [push_cast, simprocAttr, natNe, zI, zG, TyD.isAgg, zJ] <;> rfl) rfl ?_
      refine AW.loop (fun n s => ∃ (k : Nat), n = r.sights.length - k ∧ (k ≤ r.sights.length) ∧ 3 ≤ s.nx ∧ s.tm 1 = .v (.int .u8 (t : Int)) ∧ s.tm 2 = .ptr 0 0 0 1 ∧ s.tm 5 = .ptr 1 0 0 1 ∧ s.tm 6 = ai k ∧ Pg.rowAt s.H 0 = some { k := 14, es := [eRec r], ty := 30 } ∧ Pg.rowAt s.H 1 = some { k := 14, es := [[ai r.s.id, ai r.s.inn.lo, ai r.s.inn.hi, ai r.s.out.lo, ai r.s.out.hi, ai r.s.zero.lo, ai r.s.zero.hi, ai r.s.fin.lo, ai r.s.fin.hi, ai r.s.rate.lo, ai r.s.rate.hi, lStop r.s.stops, lStrike r.strikes, .ref 2 0 k]], ty := 30 } ∧ Pg.rowAt s.H 2 = some { k := 3, es := ((List.range k).map SG).map eSight, ty := 53, lo := k }) (r.sights.length) ⟨0, rfl, (Nat.zero_le _), ?_, ?_, ?_, ?_, ?_, ?_, ?_, ?_⟩ ?_
      iterate 8 (first | (simp (disch := omega) only [push_cast, simprocAttr, natNe, zI, zG, TyD.isAgg, zJ, zM, zY, zX, zW, zE, zD, zC, List.length_range, Nat.zero_add, List.range_zero] <;> first | rfl | omega) | omega)
      rintro n0 s0 ⟨k0, hn0, hp00, hnl0, hS0⟩
      by_cases hk : k0 < r.sights.length
      · have hkI : (k0 : Int) < (r.sights.length : Int) := by omega
        have hml : (k0 + t) % r.sights.length < r.sights.length := Nat.mod_lt _ hnP
        obtain ⟨m, hm⟩ : ∃ z, (k0 + t) % r.sights.length = z := ⟨_, rfl⟩
        have hmE : ((k0 : Int) + (t : Int)) % (r.sights.length : Int) = (m : Int) := by rw [← hm, Int.natCast_emod, Int.natCast_add]
        rw [hm] at hml
        have hmI : (m : Int) < (r.sights.length : Int) := by omega
        have hgx : (r.sights.map eSight)[m]? = some (eSight (SG k0)) := by rw [List.getElem?_map, List.getElem?_eq_getElem hml, ← hSG]; dsimp only; rw [hm, List.getD_eq_getElem?_getD, List.getElem?_eq_getElem hml]; rfl
        have hgd : (r.sights.map eSight).getD m [] = eSight (SG k0) := by rw [List.getD_eq_getElem?_getD, hgx]; rfl
        have hsu : (List.range (k0 + 1)).map SG = (List.range k0).map SG ++ [SG k0] := by rw [List.range_succ, List.map_append]; rfl
        repeat' first
          | ((apply D.buildL cx_ok; decide; decide); (iterate 3 (simp (maxSteps := 1000000) (disch := (first | omega | (simp only [List.length_append, List.length_map, List.length_cons, List.length_nil, List.length_take, List.length_drop, List.length_range]; omega))) only [push_cast, simprocAttr, takeM, dropM, List.take_length, List.length_take, List.length_drop, List.all_append, List.all_cons, List.all_nil, Bool.and_true, Bool.and_self, and_self, and_true, true_and, leT, List.take_of_length_le, pureL, pureA, natNe, List.mem_cons, List.not_mem_nil, TyD.isAgg, Nat.add_assoc, hS0, hkI, hnF, hmE, hmI, hgx, hgd, Bool.false_eq_true, List.map_append, List.map_cons, List.map_nil, List.length_append, List.length_cons, List.length_nil, List.length_range, Nat.zero_add, pur, pureA, pureL, ite_true, Bool.and_self] <;> rfl)); exact Nat.zero_le _)
          | apply AW.seq | apply AW.region | apply AW.ret | apply AW.block | apply AW.skip | apply AW.exit | apply AW.scope | apply AW.label | apply AWL.nil | apply D.nil
          | refine AW.draw (id := 8) cx_mixed [15, 17] [14, 16] [2, 1] 0 (by decide +kernel) ?_
          | refine W.draw cx_mixed (by decide +kernel) ?_
          | ((first | (apply W.step cx_ok; decide) | (apply D.step cx_ok; decide; decide) | apply W.store cx_ok | (apply W.gS; rfl; decide) | (apply D.gS; rfl; decide; decide) | apply AW.cond); (simp (maxSteps := 1000000) (disch := (first | omega | (simp only [List.length_append, List.length_map, List.length_cons, List.length_nil, List.length_take, List.length_drop, List.length_range]; omega))) only [push_cast, simprocAttr, takeM, dropM, List.take_length, List.length_take, List.length_drop, List.all_append, List.all_cons, List.all_nil, Bool.and_true, Bool.and_self, and_self, and_true, true_and, leT, List.take_of_length_le, pureL, pureA, natNe, List.mem_cons, List.not_mem_nil, TyD.isAgg, Nat.add_assoc, hS0, hkI, hnF, hmE, hmI, hgx, hgd, Bool.false_eq_true, List.map_append, List.map_cons, List.map_nil, List.length_append, List.length_cons, List.length_nil, List.length_range, Nat.zero_add] <;> rfl); all_goals try ((with_reducible intro hI); try first | (cases hI; done) | (simp only [INTS, zL] at hI; try first | (exfalso; omega) | (have hT : True := hI; clear hT hI))))
          | ((first | (apply D.store cx_ok; decide) | (apply D.stept cx_ok; decide; decide) | (apply D.stepm cx_ok; decide; decide)); (simp (maxSteps := 1000000) (disch := (first | omega | (simp only [List.length_append, List.length_map, List.length_cons, List.length_nil, List.length_take, List.length_drop, List.length_range]; omega))) only [push_cast, simprocAttr, takeM, dropM, List.take_length, List.length_take, List.length_drop, List.all_append, List.all_cons, List.all_nil, Bool.and_true, Bool.and_self, and_self, and_true, true_and, leT, List.take_of_length_le, pureL, pureA, natNe, List.mem_cons, List.not_mem_nil, TyD.isAgg, Nat.add_assoc, hS0, hkI, hnF, hmE, hmI, hgx, hgd, Bool.false_eq_true, List.map_append, List.map_cons, List.map_nil, List.length_append, List.length_cons, List.length_nil, List.length_range, Nat.zero_add] <;> rfl); try first | exact .inl rfl | exact .inr (by simp))
          | ((apply D.alloct cx_ok; decide; decide); (simp (maxSteps := 1000000) (disch := (first | omega | (simp only [List.length_append, List.length_map, List.length_cons, List.length_nil, List.length_take, List.length_drop, List.length_range]; omega))) only [push_cast, simprocAttr, takeM, dropM, List.take_length, List.length_take, List.length_drop, List.all_append, List.all_cons, List.all_nil, Bool.and_true, Bool.and_self, and_self, and_true, true_and, leT, List.take_of_length_le, pureL, pureA, natNe, List.mem_cons, List.not_mem_nil, TyD.isAgg, Nat.add_assoc, hS0, hkI, hnF, hmE, hmI, hgx, hgd, Bool.false_eq_true, List.map_append, List.map_cons, List.map_nil, List.length_append, List.length_cons, List.length_nil, List.length_range, Nat.zero_add] <;> rfl); first | exact .inl rfl | exact .inr (by simp))
          | (apply W.append cx_ok; decide; rfl; rfl; rfl; decide; (iterate 3 (simp (maxSteps := 1000000) (disch := (first | omega | (simp only [List.length_append, List.length_map, List.length_cons, List.length_nil, List.length_take, List.length_drop, List.length_range]; omega))) only [push_cast, simprocAttr, takeM, dropM, List.take_length, List.length_take, List.length_drop, List.all_append, List.all_cons, List.all_nil, Bool.and_true, Bool.and_self, and_self, and_true, true_and, leT, List.take_of_length_le, pureL, pureA, natNe, List.mem_cons, List.not_mem_nil, TyD.isAgg, Nat.add_assoc, hS0, hkI, hnF, hmE, hmI, hgx, hgd, Bool.false_eq_true, List.map_append, List.map_cons, List.map_nil, List.length_append, List.length_cons, List.length_nil, List.length_range, Nat.zero_add] <;> rfl)); (first | (focus (simp; done)) | (intro c hc; obtain ⟨x, _, rfl⟩ := List.mem_map.1 hc; rfl)); ((first | rfl | simp (maxSteps := 1000000) (disch := omega) only [push_cast])); ((try dsimp only); (try simp only [zF, zE, zD, zC, zA, zB, List.length_range]); omega); ((try dsimp only); (try simp only [zF, zE, zD, zC, zA, zB, List.length_range]); omega))
          | (apply D.append cx_ok; decide; decide; rfl; rfl; rfl; decide; (iterate 3 (simp (maxSteps := 1000000) (disch := (first | omega | (simp only [List.length_append, List.length_map, List.length_cons, List.length_nil, List.length_take, List.length_drop, List.length_range]; omega))) only [push_cast, simprocAttr, takeM, dropM, List.take_length, List.length_take, List.length_drop, List.all_append, List.all_cons, List.all_nil, Bool.and_true, Bool.and_self, and_self, and_true, true_and, leT, List.take_of_length_le, pureL, pureA, natNe, List.mem_cons, List.not_mem_nil, TyD.isAgg, Nat.add_assoc, hS0, hkI, hnF, hmE, hmI, hgx, hgd, Bool.false_eq_true, List.map_append, List.map_cons, List.map_nil, List.length_append, List.length_cons, List.length_nil, List.length_range, Nat.zero_add] <;> rfl)); (first | (focus (simp; done)) | (intro c hc; obtain ⟨x, _, rfl⟩ := List.mem_map.1 hc; rfl)); ((first | rfl | exact idsLL_sight _ | (simp (maxSteps := 1000000) (disch := omega) only [push_cast]; done))); ((try dsimp only); (try simp only [zF, zE, zD, zC, zA, zB, List.length_range]); omega); ((try dsimp only); (try simp only [zF, zE, zD, zC, zA, zB, List.length_range]); omega); first | exact .inl rfl | exact .inr (by simp))

        all_goals (refine ⟨r.sights.length - (k0 + 1), ?_, k0 + 1, rfl, (by omega), ?_, ?_, ?_, ?_, ?_, ?_, ?_, ?_⟩; (omega); all_goals first | (simp (disch := omega) only [push_cast, simprocAttr, hS0, natNe, zI, zG, TyD.isAgg, zJ, zM, zY, zX, zW, zE, zD, zC, List.length_range, Nat.zero_add, hkI, hnF, hmE, hmI, hgx, hgd, hsu] <;> first | rfl | omega) | omega)
      have hk1 : k0 = r.sights.length := by omega
      subst hk1
      have hkI : ¬ (r.sights.length : Int) < (r.sights.length : Int) := by omega
      have hrn := idsLL_sight
      obtain ⟨OO, hOO⟩ : ∃ z, (List.range r.sights.length).map SG = z := ⟨_, rfl⟩
      have hOl : OO.length = r.sights.length := by rw [← hOO]; simp
      rw [hOO] at hS0 hX
      have hle : (r.sights.length ≤ OO.length) = True := eq_true (by omega)
      have htk : (OO.map eSight).take r.sights.length = OO.map eSight := List.take_of_length_le (by rw [List.length_map]; omega)
      by_cases hc : checkE r = 0
      · have c34 := Spans_ok r
        have c34x := Spans_ok (rotR r t)
        have c36 := Inserted_ok r
        have c36x := Inserted_ok (rotR r t)
        obtain ⟨b1, b2⟩ := rot_bounds hc t
        have hSl := spansQ_len r
        rw [b1, hX] at c34x
        rw [b2, hX] at c36x
        clear b1 b2
        obtain ⟨⟨SP, E1⟩, hE1⟩ : ∃ z, spansQ r = z := ⟨_, rfl⟩
        obtain ⟨⟨SI, E2⟩, hE2⟩ : ∃ z, eventP r 1 = z := ⟨_, rfl⟩
        rw [hE1] at c34 c34x hSl
        rw [hE2] at c36 c36x
        dsimp only at c34 c34x c36 c36x hSl
        have c37 := SameSpans_ok SP SP (by omega) (by omega)
        rw [decide_eq_true rfl] at c37
        have hfl1 : flatA (.tup [lSpan SP, ai E1]) = false := rfl
        have hfl2 : flatA (.tup [.agg (eSpan SI), ai E2]) = true := rfl
        have hfl3 : flatA (ai (checkE r)) = true := rfl
        repeat' first
          | apply AW.seq | apply AW.region | apply AW.ret | apply AW.block | apply AW.skip | apply AW.exit | apply AW.scope | apply AW.label | apply AWL.nil | apply D.nil
          | refine W.draw cx_mixed (by decide +kernel) ?_
          | ((first | (apply W.step cx_ok; decide) | (apply D.step cx_ok; decide; decide) | apply W.store cx_ok | (apply W.gS; rfl; decide) | (apply D.gS; rfl; decide; decide) | apply AW.cond); (simp (disch := omega) only [push_cast, simprocAttr, hS0, hc, hle, htk, hfl1, hfl2, hfl3, rowAt_afterH, St.back, idsL, idsA, idsLL, yB, yA, natNe, zI, zG, TyD.isAgg, zJ, zM, Bool.true_and, zO, beq_self_eq_true, zP, hrn] <;> rfl); all_goals try ((with_reducible intro hI); try first | (cases hI; done) | (simp only [INTS, zL] at hI; try first | (exfalso; omega) | (have hT : True := hI; clear hT hI))))
          | ((first | (apply W.callv cx_ok; decide) | (apply D.callv cx_ok; decide; decide)); (iterate 2 (simp (disch := omega) only [push_cast, simprocAttr, hS0, hc, hle, htk, hfl1, hfl2, hfl3, rowAt_afterH, St.back, idsL, idsA, idsLL, yB, yA, natNe, zI, zG, TyD.isAgg, zJ, zM, Bool.true_and, zO, beq_self_eq_true, zP, hrn] <;> rfl)); (with_reducible first | exact c33 | exact c34 | exact c34x | exact c36 | exact c36x | exact c37 | exact c20); try first | rfl | (simp (disch := omega) only [push_cast, simprocAttr, hS0, hc, hle, htk, hfl1, hfl2, hfl3, rowAt_afterH, St.back, idsL, idsA, idsLL, yB, yA, natNe, zI, zG, TyD.isAgg, zJ, zM, Bool.true_and, zO, beq_self_eq_true, zP, hrn] <;> rfl))
          | ((first | apply W.ret1 | apply W.end1); (iterate 2 (try (simp (disch := omega) only [push_cast, simprocAttr, hS0, hc, hle, htk, hfl1, hfl2, hfl3, rowAt_afterH, St.back, idsL, idsA, idsLL, yB, yA, natNe, zI, zG, TyD.isAgg, zJ, zM, Bool.true_and, zO, beq_self_eq_true, zP, hrn] <;> rfl))))

        all_goals (show _ = _; rfl)
      · have hcF : (checkE r = 0) = False := eq_false hc
        repeat' first
          | apply AW.seq | apply AW.region | apply AW.ret | apply AW.block | apply AW.skip | apply AW.exit | apply AW.scope | apply AW.label | apply AWL.nil | apply D.nil
          | refine W.draw cx_mixed (by decide +kernel) ?_
          | ((first | (apply W.step cx_ok; decide) | (apply D.step cx_ok; decide; decide) | apply W.store cx_ok | (apply W.gS; rfl; decide) | (apply D.gS; rfl; decide; decide) | apply AW.cond); (simp (disch := omega) only [push_cast, simprocAttr, hS0, hcF] <;> rfl); all_goals try ((with_reducible intro hI); try first | (cases hI; done) | (simp only [INTS, zL] at hI; try first | (exfalso; omega) | (have hT : True := hI; clear hT hI))))
          | ((first | (apply W.callv cx_ok; decide) | (apply D.callv cx_ok; decide; decide)); (iterate 2 (simp (disch := omega) only [push_cast, simprocAttr, hS0, hcF] <;> rfl)); (with_reducible first | exact c33 | exact c20); try first | rfl | (simp (disch := omega) only [push_cast, simprocAttr, hS0, hcF] <;> rfl))
          | ((first | apply W.ret1 | apply W.end1); (iterate 2 (try (simp (disch := omega) only [push_cast, simprocAttr, hS0, hcF] <;> rfl))))

        all_goals (show _ = _; rfl)
end Go.Proofs.Ks
