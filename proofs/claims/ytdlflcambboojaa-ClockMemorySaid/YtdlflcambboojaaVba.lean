/-
  Contracts of functions, proved by going through their code. No conditions.
-/
import Derived.Test.YtdlflcambboojaaVaa
import Derived.Test.YtdlflcambboojaaVax
import Derived.Test.YtdlflcambboojaaVaz
set_option linter.unusedVariables false
set_option linter.unusedSimpArgs false
set_option maxHeartbeats 8000000
set_option maxRecDepth 10000
namespace Go.Proofs.Ks
open Go Go.Pg Go.Proofs
theorem OKm.nilArg {C : Cx} {f : FuncId} {x : AV} {H : Nat → Option AO} {nx : Nat} {Q : AV → (Nat → Option AO) → Nat → Prop} (h : OKm C f [x, .lst []] H nx Q) : OKm C f [x, .v (.slice none 0 0)] H nx Q :=
  ⟨h.1, fun S0 w0 w σ vals hE hi hnx hb hs hr => h.2 S0 w0 w σ vals hE hi hnx hb hs (by
    simp only [RepL] at hr ⊢
    obtain ⟨a, ⟨u, hu, hru⟩, _⟩ := hr
    refine ⟨a, ⟨u, hu, ?_⟩, trivial⟩
    simp only [Rep] at hru ⊢
    exact ⟨none, 0, 0, hru, Nat.le_refl _, Nat.zero_le _, fun e he => (by cases he), fun h => absurd rfl h⟩)⟩
theorem linksR_len9 {r : Rec} (hv : r.V) {more : List Int} (hml : more.length ≤ 8) (hmb : ∀ a ∈ more, 0 ≤ a ∧ a ≤ 43200) : (linksR r more).length ≤ 9000 := by
  have hnl := nodesR_len r more
  have hmk := marksR_len r more
  have hns := hv.nstrikes
  have hng := hv.nsights
  have h3 : 3 + r.strikes.length ≤ (nodesR r more).length := by omega
  obtain ⟨_, s2⟩ := sgL_ok hv h3 r.sights (fun _ h => h)
  obtain ⟨_, w2⟩ := rwL_ok h3 (r.strikes.length + 1) 0 (by omega)
  obtain ⟨_, n2⟩ := ndL_ok (r := r) (more := more) r.strikes 0 (by omega) (fun _ h => h)
  obtain ⟨_, p2⟩ := pairsL_ok hv.r (n := (nodesR r more).length) (marksR r more) (3 + r.strikes.length) (by omega) (marksR_sorted r more) (fun y h => marksR_bound hv hmb h)
  have hp : 2 * (marksR r more).length * (marksR r more).length ≤ 2 * 36 * 36 := Nat.mul_le_mul (by omega) (by omega)
  unfold linksR
  simp only [zE, bothL_len, needleL_len, s2, w2, n2]
  omega
def okT (t : Int) : Bool := decide (0 ≤ t) && decide (t ≤ 1073741823)
def fitL : Nat → List Int → List Lk
  | _, [] => []
  | i, t :: l => ⟨0, 3 + i, t⟩ :: ⟨3 + i, 0, -t⟩ :: fitL (i + 1) l
theorem fitL_snoc (t : Int) : ∀ (l : List Int) (i : Nat), fitL i (l ++ [t]) = fitL i l ++ [⟨0, 3 + (i + l.length), t⟩, ⟨3 + (i + l.length), 0, -t⟩]
  | [], i => rfl
  | x :: l, i => by
    simp only [yB, fitL, fitL_snoc t l (i + 1), zD]
    rw [show i + 1 + l.length = i + (l.length + 1) by omega]
theorem fitL_len : ∀ (l : List Int) (i : Nat), (fitL i l).length = 2 * l.length
  | [], _ => rfl
  | x :: l, i => by simp only [fitL, zD, fitL_len l (i + 1)]; omega
theorem fitL_ok {n : Nat} : ∀ (l : List Int) (i : Nat), 3 + i + l.length ≤ n → (∀ t ∈ l, 0 ≤ t ∧ t ≤ 1073741823) → ∀ x ∈ fitL i l, (x.a < n ∧ x.b < n) ∧ (-1073741823 ≤ x.m ∧ x.m ≤ 1073741823)
  | [], _, _, _, x, hx => by simp [fitL] at hx
  | t :: l, i, hn, hl, x, hx => by
    simp only [zD] at hn
    have ht := hl t (by simp)
    unfold fitL at hx
    rcases List.mem_cons.1 hx with rfl | hx
    · dsimp only; omega
    · rcases List.mem_cons.1 hx with rfl | hx
      · dsimp only; omega
      · exact fitL_ok l (i + 1) (by omega) (fun t ht => hl t (by simp [ht])) x hx
def fitsP (r : Rec) (ts : List Int) : Bool × Int :=
  if checkE r = 0 then (if ts.length = r.strikes.length then (if ts.all okT = true then (decide ((lengthsF (nodesR r []).length (linksR r [] ++ fitL 0 ts) (-1)).2.2 < 0), 0) else (false, 1)) else (false, 1)) else (false, checkE r)
theorem Fits_ok (r : Rec) (ts : List Int) (hlt : ts.length ≤ 1099511627776) : OKv cx 53 [.agg (eRec r), lInt ts] (.tup [ab (fitsP r ts).1, ai (fitsP r ts).2]) := by
  unfold fitsP
  by_cases hc : checkE r = 0
  · rw [if_pos hc]
    have hv := checkE_V hc
    have hns := hv.nstrikes
    by_cases hl : ts.length = r.strikes.length
    · have hlI : ((ts.length : Int) = (r.strikes.length : Int)) = True := eq_true (by omega)
      rw [if_pos hl]
      cases hall : ts.all okT with
      | false =>
        rw [if_neg (by decide)]
        refine OKat.of_body (rs := [4, 5]) Try.func53 rfl (by decide +kernel) rfl (by simp [Try.ntmps53]) ?_
        simp only [Try.ntmps53]
        repeat' first
          | apply jA | apply jB | apply jC | apply jD | apply jE | apply jF | apply jG | apply jH | apply jI
          | ((first | (apply jK cx_ok; decide) | apply jM cx_ok | (apply jN; rfl; decide) | apply jR); (simp (disch := omega) only [push_cast, simprocAttr, hc, hlI] <;> rfl); all_goals try ((with_reducible intro hI); try first | (cases hI; done) | (simp only [INTS, zL] at hI; try first | (exfalso; omega) | (have hT : True := hI; clear hT hI))))
          | ((apply jV cx_ok; decide); (iterate 2 (simp (disch := omega) only [push_cast, simprocAttr, hc, hlI] <;> rfl)); (with_reducible first | exact Check_ok r); try first | rfl | (simp (disch := omega) only [push_cast, simprocAttr, hc, hlI] <;> rfl))
          | ((first | apply jh | apply ji); (iterate 2 (try (simp (disch := omega) only [push_cast, simprocAttr, hc, hlI] <;> rfl))))

        refine AW.loop (fun n s => ∃ (k : Nat) (rest : List Int), n = rest.length ∧ (ts.drop k = rest) ∧ (rest.all okT = ts.all okT) ∧ 1 ≤ s.nx ∧ s.tm 1 = lInt ts ∧ s.tm 2 = .ptr 0 0 0 1 ∧ s.tm 24 = lInt ts ∧ s.tm 25 = ai ts.length ∧ s.tm 26 = ai k ∧ Pg.rowAt s.H 0 = some { k := 14, es := [eRec r], ty := 30 }) (ts.length) ⟨0, ts, rfl, rfl, rfl, ?_, ?_, ?_, ?_, ?_, ?_, ?_⟩ ?_
        iterate 7 (first | (simp (disch := omega) only [push_cast, simprocAttr, hc, hlI] <;> first | rfl | omega) | omega)
        rintro n0 s0 ⟨k0, rest0, hn0, hp00, hp10, hnl0, hS0⟩
        rcases rest0 with _ | ⟨x, rest0⟩
        · rw [hall] at hp10; cases hp10
        · obtain ⟨hk, hg, hd', hl', hm', hx⟩ := drop_cons hp00 eInt []
          rw [List.all_cons] at hp10
          cases hx0 : okT x with
          | true =>
            have hx1 := hx0
            unfold okT at hx1
            simp only [Bool.and_eq_true, decide_eq_true_eq] at hx1
            obtain ⟨x1, x2⟩ := hx1
            rw [hx0, Bool.true_and] at hp10
            repeat' first
              | apply jA | apply jB | apply jC | apply jD | apply jE | apply jF | apply jG | apply jH | apply jI
              | ((first | (apply jK cx_ok; decide) | apply jM cx_ok | (apply jN; rfl; decide) | apply jR); (simp (disch := omega) only [push_cast, simprocAttr, hS0, hk, hg, hx, x1, x2] <;> rfl); all_goals try ((with_reducible intro hI); try first | (cases hI; done) | (simp only [INTS, zL] at hI; try first | (exfalso; omega) | (have hT : True := hI; clear hT hI))))
              | ((first | apply jh | apply ji); (iterate 2 (try (simp (disch := omega) only [push_cast, simprocAttr, hS0, hk, hg, hx, x1, x2] <;> rfl))))

            all_goals (refine ⟨rest0.length, ?_, k0 + 1, rest0, rfl, hd', hp10, ?_, ?_, ?_, ?_, ?_, ?_, ?_⟩; ((simp only [zD] at *; omega)); all_goals first | (simp (disch := omega) only [push_cast, simprocAttr, hS0, hk, hg, hx, x1, x2] <;> first | rfl | omega) | omega)
          | false =>
            have hx1 : ¬ (0 ≤ x ∧ x ≤ 1073741823) := fun h => by unfold okT at hx0; simp [h.1, h.2] at hx0
            repeat' first
              | apply jA | apply jB | apply jC | apply jD | apply jE | apply jF | apply jG | apply jH | apply jI
              | ((first | (apply jK cx_ok; decide) | apply jM cx_ok | (apply jN; rfl; decide) | apply jR); (simp (disch := omega) only [push_cast, simprocAttr, hS0, hk, hg, hx] <;> rfl); all_goals try ((with_reducible intro hI); try first | (cases hI; done) | (simp only [INTS, zL] at hI; try first | (exfalso; omega) | (have hT : True := hI; clear hT hI))))
              | ((first | apply jh | apply ji); (iterate 2 (try (simp (disch := omega) only [push_cast, simprocAttr, hS0, hk, hg, hx] <;> rfl))))

            all_goals first
              | (exfalso; omega)
              | (show _ = _; rfl)
      | true =>
        rw [if_pos rfl]
        have hokT : ∀ t ∈ ts, 0 ≤ t ∧ t ≤ 1073741823 := fun t ht => by
          have := List.all_eq_true.1 hall t ht
          unfold okT at this
          simpa using this
        obtain ⟨h1, h2, h3, h4, h5⟩ := links_facts (more := []) hv (by decide) nomore
        have hnl := nodesR_len r []
        have hfl := fitL_len ts 0
        have hco := consistent_ok (nodesR r []) (linksR r [] ++ fitL 0 ts) h1 (by rw [List.length_append, hfl]; have := linksR_len9 (more := []) hv (by decide) nomore; omega)
          (fun l hm => (List.mem_append.1 hm).elim (h3 l) fun hm => (fitL_ok ts 0 (by omega) hokT l hm).1) (fun l hm => (List.mem_append.1 hm).elim (h4 l) fun hm => (fitL_ok (n := (nodesR r []).length) ts 0 (by omega) hokT l hm).2)
        refine OKat.of_body (rs := [4, 5]) Try.func53 rfl (by decide +kernel) rfl (by simp [Try.ntmps53]) ?_
        simp only [Try.ntmps53]
        repeat' first
          | apply jA | apply jB | apply jC | apply jD | apply jE | apply jF | apply jG | apply jH | apply jI
          | ((first | (apply jK cx_ok; decide) | apply jM cx_ok | (apply jN; rfl; decide) | apply jR); (simp (disch := omega) only [push_cast, simprocAttr, hc, hlI] <;> rfl); all_goals try ((with_reducible intro hI); try first | (cases hI; done) | (simp only [INTS, zL] at hI; try first | (exfalso; omega) | (have hT : True := hI; clear hT hI))))
          | ((apply jV cx_ok; decide); (iterate 2 (simp (disch := omega) only [push_cast, simprocAttr, hc, hlI] <;> rfl)); (with_reducible first | exact Check_ok r); try first | rfl | (simp (disch := omega) only [push_cast, simprocAttr, hc, hlI] <;> rfl))
          | ((first | apply jh | apply ji); (iterate 2 (try (simp (disch := omega) only [push_cast, simprocAttr, hc, hlI] <;> rfl))))

        refine AW.loop (fun n s => ∃ (k : Nat) (rest : List Int), n = rest.length ∧ (ts.drop k = rest) ∧ (rest.all okT = ts.all okT) ∧ 1 ≤ s.nx ∧ s.tm 1 = lInt ts ∧ s.tm 2 = .ptr 0 0 0 1 ∧ s.tm 24 = lInt ts ∧ s.tm 25 = ai ts.length ∧ s.tm 26 = ai k ∧ Pg.rowAt s.H 0 = some { k := 14, es := [eRec r], ty := 30 }) (ts.length) ⟨0, ts, rfl, rfl, rfl, ?_, ?_, ?_, ?_, ?_, ?_, ?_⟩ ?_
        iterate 7 (first | (simp (disch := omega) only [push_cast, simprocAttr, hc, hlI] <;> first | rfl | omega) | omega)
        rintro n0 s0 ⟨k0, rest0, hn0, hp00, hp10, hnl0, hS0⟩
        rcases rest0 with _ | ⟨x, rest0⟩
        rotate_left
        · obtain ⟨hk, hg, hd', hl', hm', hx⟩ := drop_cons hp00 eInt []
          obtain ⟨x1, x2⟩ := hokT x hm'
          rw [List.all_cons, List.all_eq_true.1 hall x hm', Bool.true_and] at hp10
          repeat' first
            | apply jA | apply jB | apply jC | apply jD | apply jE | apply jF | apply jG | apply jH | apply jI
            | ((first | (apply jK cx_ok; decide) | apply jM cx_ok | (apply jN; rfl; decide) | apply jR); (simp (disch := omega) only [push_cast, simprocAttr, hS0, hk, hg, hx, x1, x2] <;> rfl); all_goals try ((with_reducible intro hI); try first | (cases hI; done) | (simp only [INTS, zL] at hI; try first | (exfalso; omega) | (have hT : True := hI; clear hT hI))))
            | ((first | apply jh | apply ji); (iterate 2 (try (simp (disch := omega) only [push_cast, simprocAttr, hS0, hk, hg, hx, x1, x2] <;> rfl))))

          all_goals (refine ⟨rest0.length, ?_, k0 + 1, rest0, rfl, hd', hp10, ?_, ?_, ?_, ?_, ?_, ?_, ?_⟩; ((simp only [zD] at *; omega)); all_goals first | (simp (disch := omega) only [push_cast, simprocAttr, hS0, hk, hg, hx, x1, x2] <;> first | rfl | omega) | omega)
        have hk := drop_nil hp00
        repeat' first
          | apply jA | apply jB | apply jC | apply jD | apply jE | apply jF | apply jG | apply jH | apply jI
          | ((first | (apply jK cx_ok; decide) | apply jM cx_ok | (apply jN; rfl; decide) | apply jR); (simp (disch := omega) only [push_cast, simprocAttr, hS0, hk] <;> rfl); all_goals try ((with_reducible intro hI); try first | (cases hI; done) | (simp only [INTS, zL] at hI; try first | (exfalso; omega) | (have hT : True := hI; clear hT hI))))
          | ((first | apply jh | apply ji); (iterate 2 (try (simp (disch := omega) only [push_cast, simprocAttr, hS0, hk] <;> rfl))))

        refine W.callm cx_ok (by decide) (f := 87) (caps := []) (by simp (disch := omega) only [push_cast, simprocAttr, natNe, zI, zG, zJ, hS0, hk] <;> rfl) (OKm.nilArg (by simp (disch := omega) only [push_cast, simprocAttr, natNe, zI, zG, zJ, hS0, hk] <;> exact build_m r [] hv (by decide) nomore)) ?_
        rintro _ H1 nx1 ⟨rfl, hM, hn1, hf1⟩
        replace hM : SysM H1 (s0.nx + 2) (s0.nx + 4) (s0.nx + 1) (s0.nx + 5) (nodesR r []) (linksR r []) := hM
        replace hn1 : s0.nx + 6 ≤ nx1 := hn1
        repeat' first
          | apply jA | apply jB | apply jC | apply jD | apply jE | apply jF | apply jG | apply jH | apply jI
          | ((first | (apply jK cx_ok; decide) | apply jM cx_ok | (apply jN; rfl; decide) | apply jR); (simp (disch := omega) only [push_cast, simprocAttr, hS0, hk] <;> rfl); all_goals try ((with_reducible intro hI); try first | (cases hI; done) | (simp only [INTS, zL] at hI; try first | (exfalso; omega) | (have hT : True := hI; clear hT hI))))
          | ((first | apply jh | apply ji); (iterate 2 (try (simp (disch := omega) only [push_cast, simprocAttr, hS0, hk] <;> rfl))))

        refine AW.loop (fun n s => ∃ (k : Nat) (rest : List Int), n = rest.length ∧ (ts.drop k = rest) ∧ (k ≤ ts.length) ∧ (SysM s.H (s0.nx + 2) (s0.nx + 4) (s0.nx + 1) (s0.nx + 5) (nodesR r []) (linksR r [] ++ fitL 0 (ts.take k))) ∧ s0.nx + 6 ≤ s.nx ∧ s.tm 1 = lInt ts ∧ s.tm 9 = .ptr (s0.nx + 2) 0 0 1 ∧ s.tm 39 = lInt ts ∧ s.tm 40 = ai ts.length ∧ s.tm 41 = ai k) (ts.length) ⟨0, ts, rfl, rfl, (Nat.zero_le _), (by rw [List.take_zero, fitL, List.append_nil]; exact hM), ?_, ?_, ?_, ?_, ?_, ?_⟩ ?_
        iterate 6 (first | (simp (disch := omega) only [push_cast, simprocAttr, hS0, hk] <;> first | rfl | omega) | omega)
        rintro n2 s2 ⟨k2, rest2, hn2, hp02, hp12, hp22, hnl2, hS2⟩
        obtain ⟨m1, m2, m3, lw, m4, m5⟩ := hp22
        rcases rest2 with _ | ⟨x, rest2⟩
        rotate_left
        · obtain ⟨hk2, hg2, hd2, hl2, hm2, hx2⟩ := drop_cons hp02 eInt []
          obtain ⟨x1, x2⟩ := hokT x hm2
          have hmin : min k2 ts.length = k2 := Nat.min_eq_left hp12
          have hat : atP 3 (k2 : Int) (nodesR r []) = 3 + (k2 : Int) := atP_strike (by omega)
          have hft : fitL 0 (ts.take (k2 + 1)) = fitL 0 (ts.take k2) ++ [⟨0, 3 + k2, x⟩, ⟨3 + k2, 0, -x⟩] := by rw [take_snoc hp02, fitL_snoc, List.length_take, hmin, Nat.zero_add]
          have hfl2 := fitL_len (ts.take k2) 0
          rw [List.length_take, hmin] at hfl2
          have hLl := linksR_len9 (more := []) hv (by decide) nomore
          obtain ⟨LK, hLK⟩ : ∃ z, linksR r [] ++ fitL 0 (ts.take k2) = z := ⟨_, rfl⟩
          have hLn : LK.length ≤ 10000 := by rw [← hLK, List.length_append]; omega
          rw [hLK] at m1 m4 m5
          repeat' first
            | ((first | (apply W.callr cx_ok; decide) | (apply D.callr cx_ok; decide; decide)); (iterate 2 (simp (disch := (first | omega | (simp only [vC, vD]; omega))) only [push_cast, simprocAttr, takeM, dropM, zK, zA, zB, zN, zQ, zR, zO, zP, zT, zS, zU, leT, zH, natNe, zI, zG, zJ, hS2, hk2, hg2, hx2, m1, m3, m5, m4, hat, yD, isEmpty_map, zV, zM, zE, zD, zC, zY, zX, zW] <;> rfl)); (exact at_r (nodesR r []) _ _ (by simp (disch := (first | omega | (simp only [vC, vD]; omega))) only [push_cast, simprocAttr, takeM, dropM, zK, zA, zB, zN, zQ, zR, zO, zP, zT, zS, zU, leT, zH, natNe, zI, zG, zJ, hS2, hk2, hg2, hx2, m1, m3, m5, m4, hat, yD, isEmpty_map, zV, zM, zE, zD, zC, zY, zX, zW] <;> rfl) (by simp (disch := (first | omega | (simp only [vC, vD]; omega))) only [push_cast, simprocAttr, takeM, dropM, zK, zA, zB, zN, zQ, zR, zO, zP, zT, zS, zU, leT, zH, natNe, zI, zG, zJ, hS2, hk2, hg2, hx2, m1, m3, m5, m4, hat, yD, isEmpty_map, zV, zM, zE, zD, zC, zY, zX, zW] <;> rfl)))
            | apply jA | apply jB | apply jC | apply jD | apply jE | apply jF | apply jG | apply jH | apply jI
            | ((first | (apply jK cx_ok; decide) | apply jM cx_ok | (apply jN; rfl; decide) | apply jR | apply jS cx_ok); (simp (disch := (first | omega | (simp only [vC, vD]; omega))) only [push_cast, simprocAttr, takeM, dropM, zK, zA, zB, zN, zQ, zR, zO, zP, zT, zS, zU, leT, zH, natNe, zI, zG, zJ, hS2, hk2, hg2, hx2, m1, m3, m5, m4, hat, yD, isEmpty_map, zV, zM, zE, zD, zC, zY, zX, zW] <;> rfl); all_goals try ((with_reducible intro hI); try first | (cases hI; done) | (simp only [INTS, zL] at hI; try first | (exfalso; omega) | (have hT : True := hI; clear hT hI))))
            | (refine W.makeMap cx_ok (by simp only [push_cast, simprocAttr] <;> rfl) (by decide) ?_)
            | (apply jT cx_ok; decide; rfl; rfl; rfl; decide; (iterate 3 (simp (disch := (first | omega | (simp only [vC, vD]; omega))) only [push_cast, simprocAttr, takeM, dropM, zK, zA, zB, zN, zQ, zR, zO, zP, zT, zS, zU, leT, zH, natNe, zI, zG, zJ, hS2, hk2, hg2, hx2, m1, m3, m5, m4, hat, yD, isEmpty_map, zV, zM, zE, zD, zC, zY, zX, zW] <;> rfl)); (first | (focus (simp; done)) | (intro c hc; obtain ⟨x, _, rfl⟩ := List.mem_map.1 hc; rfl)); ((first | rfl | simp (disch := omega) only [push_cast])); ((try dsimp only); (try simp only [vC, vD]); omega); ((try dsimp only); (try simp only [vC, vD]); omega))

          all_goals (refine ⟨rest2.length, ?_, k2 + 1, rest2, rfl, hd2, (by omega), (by rw [hft, ← List.append_assoc, hLK]; refine ⟨?_, ?_, ?_, LK.length + 2, by simp, ?_⟩ <;> (simp (disch := omega) only [push_cast, simprocAttr, natNe, zI, zG, zJ, hS2, m1, m2, m3, m5, yB, yA, isEmpty_map, zV, zM, zE, zD, zC, zY, zX, zW] <;> rfl)), ?_, ?_, ?_, ?_, ?_, ?_⟩; ((simp only [zD] at *; omega)); all_goals first | (simp (disch := omega) only [push_cast, simprocAttr, hS2, hk2, hg2, hx2, m1, m3, m5, m4, hat, natNe, zI, zG, zJ, isEmpty_map, zV, zM, zE, zD, zC, zY, zX, zW] <;> first | rfl | omega) | omega)
        have hk2 := drop_nil hp02
        have hM2 : SysM s2.H (s0.nx + 2) (s0.nx + 4) (s0.nx + 1) (s0.nx + 5) (nodesR r []) (linksR r [] ++ fitL 0 ts) := by
          rw [List.take_of_length_le (List.drop_eq_nil_iff.1 hp02)] at m1 m4 m5
          exact ⟨m1, m2, m3, lw, m4, m5⟩
        obtain ⟨LK, hLK⟩ : ∃ z, linksR r [] ++ fitL 0 ts = z := ⟨_, rfl⟩
        rw [hLK] at hM2 hco ⊢
        repeat' first
          | apply jA | apply jB | apply jC | apply jD | apply jE | apply jF | apply jG | apply jH | apply jI
          | ((first | (apply jK cx_ok; decide) | apply jM cx_ok | (apply jN; rfl; decide) | apply jR); (simp (disch := omega) only [push_cast, simprocAttr, hS2, hk2] <;> rfl); all_goals try ((with_reducible intro hI); try first | (cases hI; done) | (simp only [INTS, zL] at hI; try first | (exfalso; omega) | (have hT : True := hI; clear hT hI))))
          | ((first | apply jh | apply ji); (iterate 2 (try (simp (disch := omega) only [push_cast, simprocAttr, hS2, hk2] <;> rfl))))

        refine settleM (g := s0.nx + 2) (nd := s0.nx + 4) (m := s0.nx + 1) (lk := s0.nx + 5) (N := nodesR r []) (L := LK) hM2 (by omega) (by omega) (by omega) (by omega) (by omega) fun H4 hg4 _ => ?_
        repeat' first
          | apply jA | apply jB | apply jC | apply jD | apply jE | apply jF | apply jG | apply jH | apply jI
          | ((first | (apply jK cx_ok; decide) | apply jM cx_ok | (apply jN; rfl; decide) | apply jR); (simp (disch := omega) only [push_cast, simprocAttr, hS2, hk2, hg4] <;> rfl); all_goals try ((with_reducible intro hI); try first | (cases hI; done) | (simp only [INTS, zL] at hI; try first | (exfalso; omega) | (have hT : True := hI; clear hT hI))))
          | ((apply jV cx_ok; decide); (iterate 2 (simp (disch := omega) only [push_cast, simprocAttr, hS2, hk2, hg4] <;> rfl)); (with_reducible first | exact hco); try first | rfl | (simp (disch := omega) only [push_cast, simprocAttr, hS2, hk2, hg4] <;> rfl))
          | ((first | apply jh | apply ji); (iterate 2 (try (simp (disch := omega) only [push_cast, simprocAttr, hS2, hk2, hg4] <;> rfl))))

        all_goals (show _ = _; rfl)
    · have hlI : ((ts.length : Int) = (r.strikes.length : Int)) = False := eq_false (by omega)
      rw [if_neg hl]
      refine OKat.of_body (rs := [4, 5]) Try.func53 rfl (by decide +kernel) rfl (by simp [Try.ntmps53]) ?_
      simp only [Try.ntmps53]
      repeat' first
        | apply jA | apply jB | apply jC | apply jD | apply jE | apply jF | apply jG | apply jH | apply jI
        | ((first | (apply jK cx_ok; decide) | apply jM cx_ok | (apply jN; rfl; decide) | apply jR); (simp (disch := omega) only [push_cast, simprocAttr, hc, hlI] <;> rfl); all_goals try ((with_reducible intro hI); try first | (cases hI; done) | (simp only [INTS, zL] at hI; try first | (exfalso; omega) | (have hT : True := hI; clear hT hI))))
        | ((apply jV cx_ok; decide); (iterate 2 (simp (disch := omega) only [push_cast, simprocAttr, hc, hlI] <;> rfl)); (with_reducible first | exact Check_ok r); try first | rfl | (simp (disch := omega) only [push_cast, simprocAttr, hc, hlI] <;> rfl))
        | ((first | apply jh | apply ji); (iterate 2 (try (simp (disch := omega) only [push_cast, simprocAttr, hc, hlI] <;> rfl))))

      all_goals (show _ = _; rfl)
  · rw [if_neg hc]
    have hcF : (checkE r = 0) = False := eq_false hc
    refine OKat.of_body (rs := [4, 5]) Try.func53 rfl (by decide +kernel) rfl (by simp [Try.ntmps53]) ?_
    simp only [Try.ntmps53]
    repeat' first
      | apply jA | apply jB | apply jC | apply jD | apply jE | apply jF | apply jG | apply jH | apply jI
      | ((first | (apply jK cx_ok; decide) | apply jM cx_ok | (apply jN; rfl; decide) | apply jR); (simp (disch := omega) only [push_cast, simprocAttr, hcF] <;> rfl); all_goals try ((with_reducible intro hI); try first | (cases hI; done) | (simp only [INTS, zL] at hI; try first | (exfalso; omega) | (have hT : True := hI; clear hT hI))))
      | ((apply jV cx_ok; decide); (iterate 2 (simp (disch := omega) only [push_cast, simprocAttr, hcF] <;> rfl)); (with_reducible first | exact Check_ok r); try first | rfl | (simp (disch := omega) only [push_cast, simprocAttr, hcF] <;> rfl))
      | ((first | apply jh | apply ji); (iterate 2 (try (simp (disch := omega) only [push_cast, simprocAttr, hcF] <;> rfl))))

    all_goals (show _ = _; rfl)
end Go.Proofs.Ks

namespace Go.Pg
open Go Go.RowKit Go.Sort
def ReverseC (P : Program) (f : FuncId) : Prop :=
  ∀ (blk off cap : Nat) (zs : List Int) (w : World), Holds (Value.int .i64) w blk off zs.toArray → zs.length ≤ 9223372036854775807 →
    Calls P f #[.slice (some ⟨blk, off, none⟩) zs.length cap] w fun e w' => e = .returned (.tuple #[]) ∧ ∃ n, w' = putRow (Value.int .i64) (Sort.ahead w n) blk off zs.reverse.toArray
def SortC0 (P : Program) (f : FuncId) : Prop := ∀ (p : Option Addr) (cap : Nat) (w : World), Calls P f #[.slice p 0 cap] w fun e w' => e = .returned (.tuple #[]) ∧ w' = w
theorem OKm.reverses {C : Cx} {f : FuncId} (hent : Enters C.P f) (hc : ReverseC C.P f) {l : List Int} (hl : l ≠ []) (hmax : l.length ≤ 9223372036854775807) {id : Nat} {H : Nat → Option AO} {nx lo : Nat} {ty : TypeId}
    (h : rowAt H id = some { k := 1, es := l.map fun n => [.v (.int .i64 n)], ty := ty, lo := lo }) :
    OKm C f [.ref id 0 l.length] H nx (fun v H' nx' => v = .tup [] ∧ H' = updH H id (.row { k := 1, es := l.reverse.map fun n => [.v (.int .i64 n)], ty := ty, lo := lo }) ∧ nx' = nx) := by
  refine ⟨hent, fun S0 w0 w σ vals hE hi hnx hb hs hr => ?_⟩
  obtain ⟨b, hcur, rfl, hlt⟩ := refs_arg hi hl h (by simpa using hs) hr
  refine (hc b 0 (σ.cap b) l w (hi.holdsI h hcur) hmax).mono ?_
  rintro e w' ⟨rfl, n, rfl⟩
  obtain ⟨hle, hinv, hbel⟩ := hi.putInts h hcur (d := l.reverse) (by simp) n #[]
  rw [grow_empty] at hle hinv hbel
  exact ⟨_, .tup [], _, _, nx, rfl, ⟨rfl, rfl, rfl⟩, hb.trans hbel, hinv, updH_nx hnx (by rw [rowAt_eq h]; simp), hle, by simp [Rep, RepL]⟩
theorem OKm.sorts0 {C : Cx} {f : FuncId} (hent : Enters C.P f) (hc : SortC0 C.P f) {id : Nat} {H : Nat → Option AO} {nx : Nat} : OKm C f [.ref id 0 0] H nx (fun v H' nx' => v = .tup [] ∧ H' = H ∧ nx' = nx) := by
  refine ⟨hent, fun S0 w0 w σ vals hE hi hnx hb hs hr => ?_⟩
  simp only [RepL] at hr
  obtain ⟨⟨u, hu, hru⟩, _⟩ := hr
  simp only [Rep] at hru
  obtain ⟨hal, A, cap, rfl, h1, h2, h3, h4⟩ := hru
  have hv : vals = #[.slice A 0 cap] := by
    apply Array.ext
    · simpa using hs
    · intro i hi1 hi2
      have : i = 0 := by simp at hi2; omega
      subst this
      rw [Array.getElem?_eq_getElem hi1] at hu
      injection hu
  subst hv
  refine (hc A cap w).mono ?_
  rintro e w' ⟨rfl, rfl⟩
  exact ⟨_, .tup [], σ, H, nx, rfl, ⟨rfl, rfl, rfl⟩, hb, hi, hnx, Le.refl _ _ fun _ _ ho => hi.al_of_own ho, by simp [Rep, RepL]⟩
end Go.Pg

namespace Go.Pg
open Go Go.RowKit
section
variable {C : Cx} {N : Nat} {Q : Exit → St → Prop} {s : St} {ops : Array Oper} {rest : List Oper} {ty : TypeId} {ps : String} {af : Array Edge} {d : Nat}
theorem run_equalIn_slice {P : Program} (w : World) (n : Nat) (t e : TypeId) (A : Option Addr) (k cap : Nat) (h : P.underlying t = some (.slice e)) : (Op.equalIn (n + 1) t (.slice A k cap) (.slice none 0 0)).run P w = .ok A.isNone w := by
  cases A <;> simp only [Op.equalIn, Sem.run_bind, run_underlying h, Result.andThen_ok, Sem.run_pure, Option.isNone]
theorem W.eqNil (hC : C.OK) (hN : d < N) {t t2 e : TypeId} {x y : Operand} {T : Ty} (hT : C.T t = some T) (hd : T.d = .slice e) {es : List (List AV)} (hx : s.ev x = .lst es) (hy : s.ev y = .v (.slice none 0 0))
    (k : ∀ b : Bool, (b = true → es = []) → AWL C N ops Q rest (s.put d (.v (.bool b)) none)) : AWL C N ops Q (⟨some d, .binOp .eql t x y t2, ty, ps, af, none⟩ :: rest) s := by
  rintro S0 w0 a w hE ⟨σ, hσ⟩
  have h1 := hσ.ev x
  have h2 := hσ.ev y
  rw [hx] at h1
  rw [hy] at h2
  simp only [Rep] at h1 h2
  obtain ⟨A, cap, kk, hu, g1, g2, g3, g4⟩ := h1
  have hun := (hC.T t _ hT).slice hd
  have hrun : (execOp a.eval ⟨some d, .binOp .eql t x y t2, ty, ps, af, none⟩).run C.P w = .ok (.value (.bool A.isNone)) w := by
    simp only [execOp, hu, h2, Sem.run_bind, run_eqGuard_v .eql t x y (.slice A es.length cap) (.slice none 0 0) (by simp) (by simp), Result.andThen_ok]
    have hq := run_equalIn_slice (P := C.P) w 9999 t e A es.length cap hun
    simp only [binOp, Op.equal, Op.maxDepth, Sem.run_bind, hq, Result.andThen_ok, Sem.run_pure]
  refine wpListIn_plain rfl fun K hK => Oper.wpIn_of_wp C.hF (fun c e => by cases e) ?_
  simp only [Oper.wp, Oper.upon, hrun]
  have hnil : A.isNone = true → es = [] := fun hA => by
    by_cases he : es = []
    · exact he
    · obtain ⟨b, o, hb, _⟩ := g4 he
      rw [hb] at hA; cases hA
  have hs' := hσ.put hN (s' := s.put d (.v (.bool A.isNone)) none) (r := .v (.bool A.isNone)) (v := .bool A.isNone) hσ.inv hσ.nx (Le.refl _ _ fun _ _ ho => hσ.inv.al_of_own ho) (Below.refl _ _) rfl rfl
  exact hK _ _ (k _ hnil S0 w0 _ w hE ⟨σ, hs'⟩)
end
end Go.Pg

namespace Go.Pg
open Go Go.RowKit
section
variable {C : Cx} {N : Nat} {Q : Exit → St → Prop} {s : St} {ops : Array Oper} {rest : List Oper} {o : Oper}
def NewR (row : Row) (r : AV) (H : Nat → Option AO) (nx : Nat) : Prop :=
  NewRow (· = row) r H nx ∨ (row.es = [] ∧ row.lo = 0 ∧ row.fro = false ∧ (r = .v (.slice none 0 0) ∨ ∃ i, r = .ref i 0 0 ∧ rowAt H i = some row))
theorem AWL.callw (hC : C.OK) (hg : o.guard = none) {d : Nat} (hd : o.dst = some d) (hN : d < N) {fo : Operand} {args : Array Operand} {tys : Array TypeId} (ho : o.op = .call { callee := .value fo, args := args, argTypes := tys })
    {f : FuncId} {vs : List AV} (hf : s.ev fo = .clo f []) (hv : viewL s.H (evsA args.toList s.ev) = some vs) (hids : idsL (evsA args.toList s.ev) = []) {row : Row} (hok : OKm C f vs (fun _ => none) 0 (NewR row))
    (k : AWL C N ops Q rest { tm := upd s.tm d (.ref s.nx 0 row.es.length), H := updH s.H s.nx (.row row), nx := s.nx + 1 }) : AWL C N ops Q (o :: rest) s := by
  rintro S0 w0 a w hE ⟨σ, hσ⟩
  obtain ⟨⟨fn, hfn, hname, hbody⟩, hcall⟩ := hok
  have hfo := hσ.ev fo
  rw [hf] at hfo
  simp only [Rep] at hfo
  obtain ⟨ca, hca, hcs, hcr⟩ := hfo
  have hce : ca = #[] := by simpa using hcs
  subst hce
  have hargs : RepL σ w (evsA args.toList s.ev) (fun i => (args.map a.eval)[i]?) := repL_evs (σ := σ) (w := w) (fun x => hσ.ev x) args
  obtain ⟨g1, _, g3⟩ := viewL_sound hσ.inv (S' := σ.S) (fun b h => h) _ _ vs hv (fun id hid b hb => by rw [hids] at hid; cases hid) hargs
  have hEw : C.E w := hC.E _ _ hσ.below hE
  have hi0 : Inv w.heap.size (Fr.of σ.S) w (fun _ => none) (pureSg σ.S) :=
    ⟨fun id => by simp [pureSg], fun id _ => ⟨rfl, fun b h => by simp [pureSg] at h⟩, fun b h => ⟨(hσ.inv.S_lt b h).1, .inl h⟩, fun b id h => by simp [pureSg] at h, fun id r h => by simp at h, fun id kt et es h => by simp at h, trivial⟩
  have hsz : (args.map a.eval).size = vs.length := by rw [← g1]; simp [evsA_map]
  have hc := hcall (Fr.of σ.S) w w (pureSg σ.S) (args.map a.eval) hEw hi0 (fun _ _ => rfl) (Below.refl _ _) hsz g3
  refine wpListIn_plain hg fun K hK => Oper.wpIn_of_wp C.hF (fun c e => by rw [ho] at e; cases e) ?_
  have hexec : (execOp a.eval o).run C.P w = .ok (.enter f (args.map a.eval)) w := by
    have hb : (fn.name == "runtime.NumGoroutine") ≠ true := by simp [hname]
    simp only [execOp, ho, resolve, hca, Deferred.ofValue, Sem.run_bind, Sem.run_pure, Result.andThen_ok, invoke, callFunc, run_program, hfn, if_neg hb, hbody, Bool.false_eq_true, if_false]
    simp
  simp only [Oper.wp, hexec, Oper.upon]
  refine hc.mono ?_
  rintro e w' ⟨v, r, σ', H', nx', rfl, hnew, hb, hi', hnx', hle', hrep⟩
  dsimp only
  rw [hd]
  have hnone : s.H s.nx = none := hσ.nx _ (Nat.le_refl _)
  have hbel : Below w0.heap.size w w' := hb.mono hσ.size
  have hnxx : ∀ id, s.nx + 1 ≤ id → updH s.H s.nx (.row row) id = none := fun id hid => by
    simp only [updH]; rw [if_neg (by omega)]; exact hσ.nx id (by omega)
  have takes : ∀ i, H' i = some (.row row) → ∀ bb, σ'.cur i = some bb → row.fro = false → flatE row.es → r = .ref i 0 row.es.length → K (a.put (some d) v) w' := fun i hH bb hcur hfro hflat hr => by
    have hri := hi'.row i row hH
    obtain ⟨a1, a2, a3, a4, arr, a5, a6⟩ := hri.cur bb hcur
    have hbb := hi'.own_lt bb i a1
    have hinv := hσ.inv.take hnone hσ.size hb hbb.1 hbb.2 row (σ'.cap bb) arr a5 a3 a4 a6 hfro hri.lo hri.each hflat (hri.con bb hcur)
    have hlet := hσ.inv.le_take (n := row.es.length) (k := row.k) (cap := σ'.cap bb) hnone hb hbb.1
    refine hK _ _ (k S0 w0 _ w' hE ⟨_, hσ.put hN (s' := { tm := upd s.tm d (.ref s.nx 0 row.es.length), H := updH s.H s.nx (.row row), nx := s.nx + 1 }) hinv hnxx hlet hbel ?_ rfl⟩)
    subst hr
    simp only [Rep] at hrep ⊢
    obtain ⟨_, A, cap, hvv, h1, h2, h3, h4⟩ := hrep
    obtain ⟨b2, q1, q2, q3⟩ : ∃ b, σ'.cur i = some b ∧ A = some ⟨b, 0, none⟩ ∧ cap = σ'.cap b := by
      rcases h4 trivial hri.len.symm with h | h
      · rw [hcur] at h; cases h.1
      · exact h
    rw [hcur] at q1
    injection q1 with q1
    subst q1
    exact ⟨.inl rfl, A, cap, hvv, h1, h2, fun _ => ⟨bb, by rw [q2]; simp, by simp [Sg.push], by simp [Sg.push]⟩, fun _ _ => .inr ⟨bb, by simp [Sg.push], q2, by rw [q3]; simp [Sg.push]⟩⟩
  have nils : row.es = [] → row.lo = 0 → row.fro = false → v = .slice none 0 0 → K (a.put (some d) v) w' := fun he hl hfro hv0 => by
    have hi1 := hσ.inv.heap_eq hb.size (fun b hb' => hb.block b hb')
    have hl1 := hσ.inv.le_heap (fun b hb' => hb.block b hb')
    obtain ⟨hle2, hinv2⟩ := hi1.adopt hnone row he hfro hl
    refine hK _ _ (k S0 w0 _ w' hE ⟨_, hσ.put hN (s' := { tm := upd s.tm d (.ref s.nx 0 row.es.length), H := updH s.H s.nx (.row row), nx := s.nx + 1 }) hinv2 hnxx (hl1.trans hle2) hbel ?_ rfl⟩)
    subst hv0
    simp only [Rep, he, List.length_nil]
    exact ⟨.inl rfl, none, 0, rfl, Nat.le_refl _, Nat.zero_le _, fun h => absurd rfl h, fun _ _ => .inl ⟨by simp [Sg.adopt], trivial, rfl, rfl⟩⟩
  have rowOf : ∀ {H : Nat → Option AO} {i : Nat} {r : Row}, rowAt H i = some r → H i = some (.row r) := fun h => rowAt_eq h
  rcases hnew with ⟨i, row1, rfl, hrow, hfro, hflat, hne, hq⟩ | ⟨he, hl, hfro, rfl | ⟨i, rfl, hrow⟩⟩
  · subst hq
    have hH := rowOf hrow
    have hri := hi'.row i _ hH
    cases hcq : σ'.cur i with
    | none => exact absurd (hri.empty hcq) hne
    | some b => exact takes i hH b hcq hfro hflat rfl
  · simp only [Rep] at hrep
    exact nils he hl hfro hrep
  · have hH := rowOf hrow
    have hri := hi'.row i _ hH
    cases hcq : σ'.cur i with
    | none =>
      refine nils he hl hfro ?_
      simp only [Rep] at hrep
      obtain ⟨_, A, cap, hvv, h1, h2, h3, h4⟩ := hrep
      rcases h4 trivial (by rw [hri.len, he]; rfl) with h | ⟨b, hb', _⟩
      · rw [hvv, h.2.2.1, h.2.2.2]
      · rw [hcq] at hb'; cases hb'
    | some b => exact takes i hH b hcq hfro (by rw [he]; intro e he'; cases he') (by rw [he]; rfl)
end
section
variable {C : Cx} {N : Nat} {Q : Exit → St → Prop} {s : St} {ops : Array Oper} {rest : List Oper} {ty : TypeId} {ps : String} {af : Array Edge} {d : Nat}
variable {H0 : Nat → Option AO} {b : Nat} {tg mk av : List Nat} {Fin : St → Prop} {i : Nat}
theorem W.callw (hC : C.OK) (hN : d < N) {fo : Operand} {args : Array Operand} {tys : Array TypeId} {f : FuncId} {vs : List AV} (hf : s.ev fo = .clo f []) (hv : viewL s.H (evsA args.toList s.ev) = some vs) (hids : idsL (evsA args.toList s.ev) = [])
    {row : Row} (hok : OKm C f vs (fun _ => none) 0 (NewR row)) (k : AWL C N ops Q rest { tm := upd s.tm d (.ref s.nx 0 row.es.length), H := updH s.H s.nx (.row row), nx := s.nx + 1 }) :
    AWL C N ops Q (⟨some d, .call { callee := .value fo, args := args, argTypes := tys }, ty, ps, af, none⟩ :: rest) s :=
  AWL.callw hC rfl rfl hN rfl hf hv hids hok k
theorem D.callw (hC : C.OK) (hN : d < N) (hi : i ∈ tg) {fo : Operand} {args : Array Operand} {tys : Array TypeId} {f : FuncId} {vs : List AV} (hf : s.ev fo = .clo f []) (hv : viewL s.H (evsA args.toList s.ev) = some vs) (hids : idsL (evsA args.toList s.ev) = [])
    {row : Row} (hok : OKm C f vs (fun _ => none) 0 (NewR row)) (hav : mk = [] ∨ s.nx ∈ av)
    (k : DW C N ops H0 b tg mk av Fin (i + 1) rest { tm := upd s.tm d (.ref s.nx 0 row.es.length), H := updH s.H s.nx (.row row), nx := s.nx + 1 }) :
    DW C N ops H0 b tg mk av Fin i (⟨some d, .call { callee := .value fo, args := args, argTypes := tys }, ty, ps, af, none⟩ :: rest) s := by
  refine ⟨.ref s.nx 0 row.es.length, { tm := upd s.tm d (.ref s.nx 0 row.es.length), H := updH s.H s.nx (.row row), nx := s.nx + 1 }, rfl, ?_, k⟩
  rw [if_pos hi]
  refine ⟨fun s' h1 h2 hl => ?_, ?_⟩
  · have hev := ev_congr hl
    have e1 : s'.ev fo = .clo f [] := by rw [hev fo (by simp [Op.operands, Call.operands])]; exact hf
    have e2 : evsA args.toList s'.ev = evsA args.toList s.ev := evsA_congr (fun x hx => hev x (by simp only [Op.operands, Call.operands, Array.mem_append]; exact .inr (by simpa using hx)))
    refine one_of_AWL (W.callw (row := row) hC hN e1 (by rw [e2, h1]; exact hv) (by rw [e2]; exact hids) hok (AWL.nil ⟨rfl, ?_⟩))
    rw [h1, h2]; rfl
  · rcases hav with h | h
    · exact .inl h
    · refine .inr fun id' x hid' hx => ?_
      show updH s.H s.nx _ id' = some x
      simp only [updH]
      rw [if_neg (fun e => by rw [e] at hid'; exact hid' h)]; exact hx
end
end Go.Pg

namespace Go.Proofs.Ks
open Go Go.Pg Go.Proofs
theorem clone114_ok (l : List Stop) (hlen : l.length ≤ 1000000) : OKm cx 114 [lStop l] (fun _ => none) 0 (NewR { k := 3, es := l.map eStop, ty := 68, lo := if l.isEmpty = true then 0 else l.length }) := by
  refine OKm.of_body cx_ok (rs := [.tmp 2]) Try.func114 rfl (by decide +kernel) rfl (by simp [Try.ntmps114]) ?_
  simp only [Try.ntmps114]
  repeat' first
    | apply jA | apply jB | apply jC | apply jD | apply jE | apply jF | apply jG | apply jH | apply jI
    | ((first | (apply jK cx_ok; decide) | apply jR); (simp (disch := (first | omega | (simp only [vC]; omega))) only [push_cast, simprocAttr, takeM, dropM, zK, zA, zB, zN, zQ, zR, zO, zP, zT, zS, zU, leT, zH, natNe, zI, zG, zJ, isEmpty_map, zV, zW, zC, zZ, yA, zM] <;> rfl); all_goals try ((with_reducible intro hI); try first | (cases hI; done) | (simp only [INTS, zL] at hI; try first | (exfalso; omega) | (have hT : True := hI; clear hT hI))))
    | (apply jT cx_ok; decide; rfl; rfl; rfl; decide; (iterate 3 (simp (disch := (first | omega | (simp only [vC]; omega))) only [push_cast, simprocAttr, takeM, dropM, zK, zA, zB, zN, zQ, zR, zO, zP, zT, zS, zU, leT, zH, natNe, zI, zG, zJ, isEmpty_map, zV, zW, zC, zZ, yA, zM] <;> rfl)); (first | (focus (simp; done)) | (intro c hc; obtain ⟨x, _, rfl⟩ := List.mem_map.1 hc; rfl)); ((first | rfl | simp (disch := omega) only [push_cast])); ((try dsimp only); (try simp only [vC]); omega); ((try dsimp only); (try simp only [vC]); omega))

  refine W.eqNil cx_ok (by decide) (t := 24) rfl rfl (es := l.map eStop) (by simp (disch := omega) only [push_cast, simprocAttr, natNe, zI, zG, zJ, isEmpty_map, zV, zW, zC, zZ, yA, zM] <;> rfl) (by simp (disch := omega) only [push_cast, simprocAttr, natNe, zI, zG, zJ, isEmpty_map, zV, zW, zC, zZ, yA, zM] <;> rfl) fun b hb => ?_
  have hb' : b = true → l = [] := fun h => by simpa using hb h
  clear hb
  have hrr : (.ref 0 0 l.length : AV) = .ref 0 0 (l.map eStop).length := by rw [List.length_map]
  rcases b with _ | _
  · repeat' first
      | apply jA | apply jB | apply jC | apply jD | apply jE | apply jF | apply jG | apply jH | apply jI
      | ((first | (apply jK cx_ok; decide) | apply jR); (simp (disch := (first | omega | (simp only [vC]; omega))) only [push_cast, simprocAttr, takeM, dropM, zK, zA, zB, zN, zQ, zR, zO, zP, zT, zS, zU, leT, zH, natNe, zI, zG, zJ, isEmpty_map, zV, zW, zC, zZ, yA, zM] <;> rfl); all_goals try ((with_reducible intro hI); try first | (cases hI; done) | (simp only [INTS, zL] at hI; try first | (exfalso; omega) | (have hT : True := hI; clear hT hI))))
      | (apply jT cx_ok; decide; rfl; rfl; rfl; decide; (iterate 3 (simp (disch := (first | omega | (simp only [vC]; omega))) only [push_cast, simprocAttr, takeM, dropM, zK, zA, zB, zN, zQ, zR, zO, zP, zT, zS, zU, leT, zH, natNe, zI, zG, zJ, isEmpty_map, zV, zW, zC, zZ, yA, zM] <;> rfl)); (first | (focus (simp; done)) | (intro c hc; obtain ⟨x, _, rfl⟩ := List.mem_map.1 hc; rfl)); ((first | rfl | simp (disch := omega) only [push_cast])); ((try dsimp only); (try simp only [vC]); omega); ((try dsimp only); (try simp only [vC]); omega))

    all_goals
      (apply W.retX (vs := [.ref 0 0 l.length])
       · (simp (disch := omega) only [push_cast, simprocAttr, natNe, zI, zG, zJ, isEmpty_map, zV, zW, zC, zZ, yA, zM] <;> rfl)
       · show NewR _ (.ref 0 0 l.length) _ _
         rcases l with _ | ⟨y, l⟩
         · exact .inr ⟨rfl, rfl, rfl, .inr ⟨0, rfl, by (simp (disch := omega) only [push_cast, simprocAttr, natNe, zI, zG, zJ, isEmpty_map, zV, zW, zC, zZ, yA, zM] <;> rfl)⟩⟩
         · rw [hrr]
           exact .inl (newRow_of (i := 0) (by (simp (disch := omega) only [push_cast, simprocAttr, natNe, zI, zG, zJ, isEmpty_map, zV, zW, zC, zZ, yA, zM] <;> rfl)) (by simp) rfl (fun e he c hc => by obtain ⟨z, _, rfl⟩ := List.mem_map.1 he; simp at hc; rcases hc with rfl | rfl | rfl <;> exact ⟨_, rfl⟩) (by simp)))
  · have hl := hb' rfl
    subst hl
    repeat' first
      | apply jA | apply jB | apply jC | apply jD | apply jE | apply jF | apply jG | apply jH | apply jI
      | ((first | (apply jK cx_ok; decide) | apply jR); (simp (disch := (first | omega | (simp only [vC]; omega))) only [push_cast, simprocAttr, takeM, dropM, zK, zA, zB, zN, zQ, zR, zO, zP, zT, zS, zU, leT, zH, natNe, zI, zG, zJ, isEmpty_map, zV, zW, zC, zZ, yA, zM] <;> rfl); all_goals try ((with_reducible intro hI); try first | (cases hI; done) | (simp only [INTS, zL] at hI; try first | (exfalso; omega) | (have hT : True := hI; clear hT hI))))
      | (apply jT cx_ok; decide; rfl; rfl; rfl; decide; (iterate 3 (simp (disch := (first | omega | (simp only [vC]; omega))) only [push_cast, simprocAttr, takeM, dropM, zK, zA, zB, zN, zQ, zR, zO, zP, zT, zS, zU, leT, zH, natNe, zI, zG, zJ, isEmpty_map, zV, zW, zC, zZ, yA, zM] <;> rfl)); (first | (focus (simp; done)) | (intro c hc; obtain ⟨x, _, rfl⟩ := List.mem_map.1 hc; rfl)); ((first | rfl | simp (disch := omega) only [push_cast])); ((try dsimp only); (try simp only [vC]); omega); ((try dsimp only); (try simp only [vC]); omega))

    all_goals
      (apply W.retX (vs := [.v (.slice none 0 0)])
       · (simp (disch := omega) only [push_cast, simprocAttr, natNe, zI, zG, zJ, isEmpty_map, zV, zW, zC, zZ, yA, zM] <;> rfl)
       · exact .inr ⟨rfl, rfl, rfl, .inl rfl⟩)
theorem clone119_ok (l : List Sight) (hlen : l.length ≤ 1000000) : OKm cx 119 [lSight l] (fun _ => none) 0 (NewR { k := 3, es := l.map eSight, ty := 53, lo := if l.isEmpty = true then 0 else l.length }) := by
  refine OKm.of_body cx_ok (rs := [.tmp 2]) Try.func119 rfl (by decide +kernel) rfl (by simp [Try.ntmps119]) ?_
  simp only [Try.ntmps119]
  repeat' first
    | apply jA | apply jB | apply jC | apply jD | apply jE | apply jF | apply jG | apply jH | apply jI
    | ((first | (apply jK cx_ok; decide) | apply jR); (simp (disch := (first | omega | (simp only [vC]; omega))) only [push_cast, simprocAttr, takeM, dropM, zK, zA, zB, zN, zQ, zR, zO, zP, zT, zS, zU, leT, zH, natNe, zI, zG, zJ, isEmpty_map, zV, zW, zC, zZ, yA, zM] <;> rfl); all_goals try ((with_reducible intro hI); try first | (cases hI; done) | (simp only [INTS, zL] at hI; try first | (exfalso; omega) | (have hT : True := hI; clear hT hI))))
    | (apply jT cx_ok; decide; rfl; rfl; rfl; decide; (iterate 3 (simp (disch := (first | omega | (simp only [vC]; omega))) only [push_cast, simprocAttr, takeM, dropM, zK, zA, zB, zN, zQ, zR, zO, zP, zT, zS, zU, leT, zH, natNe, zI, zG, zJ, isEmpty_map, zV, zW, zC, zZ, yA, zM] <;> rfl)); (first | (focus (simp; done)) | (intro c hc; obtain ⟨x, _, rfl⟩ := List.mem_map.1 hc; rfl)); ((first | rfl | simp (disch := omega) only [push_cast])); ((try dsimp only); (try simp only [vC]); omega); ((try dsimp only); (try simp only [vC]); omega))

  refine W.eqNil cx_ok (by decide) (t := 28) rfl rfl (es := l.map eSight) (by simp (disch := omega) only [push_cast, simprocAttr, natNe, zI, zG, zJ, isEmpty_map, zV, zW, zC, zZ, yA, zM] <;> rfl) (by simp (disch := omega) only [push_cast, simprocAttr, natNe, zI, zG, zJ, isEmpty_map, zV, zW, zC, zZ, yA, zM] <;> rfl) fun b hb => ?_
  have hb' : b = true → l = [] := fun h => by simpa using hb h
  clear hb
  have hrr : (.ref 0 0 l.length : AV) = .ref 0 0 (l.map eSight).length := by rw [List.length_map]
  rcases b with _ | _
  · repeat' first
      | apply jA | apply jB | apply jC | apply jD | apply jE | apply jF | apply jG | apply jH | apply jI
      | ((first | (apply jK cx_ok; decide) | apply jR); (simp (disch := (first | omega | (simp only [vC]; omega))) only [push_cast, simprocAttr, takeM, dropM, zK, zA, zB, zN, zQ, zR, zO, zP, zT, zS, zU, leT, zH, natNe, zI, zG, zJ, isEmpty_map, zV, zW, zC, zZ, yA, zM] <;> rfl); all_goals try ((with_reducible intro hI); try first | (cases hI; done) | (simp only [INTS, zL] at hI; try first | (exfalso; omega) | (have hT : True := hI; clear hT hI))))
      | (apply jT cx_ok; decide; rfl; rfl; rfl; decide; (iterate 3 (simp (disch := (first | omega | (simp only [vC]; omega))) only [push_cast, simprocAttr, takeM, dropM, zK, zA, zB, zN, zQ, zR, zO, zP, zT, zS, zU, leT, zH, natNe, zI, zG, zJ, isEmpty_map, zV, zW, zC, zZ, yA, zM] <;> rfl)); (first | (focus (simp; done)) | (intro c hc; obtain ⟨x, _, rfl⟩ := List.mem_map.1 hc; rfl)); ((first | rfl | simp (disch := omega) only [push_cast])); ((try dsimp only); (try simp only [vC]); omega); ((try dsimp only); (try simp only [vC]); omega))

    all_goals
      (apply W.retX (vs := [.ref 0 0 l.length])
       · (simp (disch := omega) only [push_cast, simprocAttr, natNe, zI, zG, zJ, isEmpty_map, zV, zW, zC, zZ, yA, zM] <;> rfl)
       · show NewR _ (.ref 0 0 l.length) _ _
         rcases l with _ | ⟨y, l⟩
         · exact .inr ⟨rfl, rfl, rfl, .inr ⟨0, rfl, by (simp (disch := omega) only [push_cast, simprocAttr, natNe, zI, zG, zJ, isEmpty_map, zV, zW, zC, zZ, yA, zM] <;> rfl)⟩⟩
         · rw [hrr]
           exact .inl (newRow_of (i := 0) (by (simp (disch := omega) only [push_cast, simprocAttr, natNe, zI, zG, zJ, isEmpty_map, zV, zW, zC, zZ, yA, zM] <;> rfl)) (by simp) rfl (fun e he c hc => by obtain ⟨z, _, rfl⟩ := List.mem_map.1 he; simp at hc; rcases hc with rfl | rfl | rfl <;> exact ⟨_, rfl⟩) (by simp)))
  · have hl := hb' rfl
    subst hl
    repeat' first
      | apply jA | apply jB | apply jC | apply jD | apply jE | apply jF | apply jG | apply jH | apply jI
      | ((first | (apply jK cx_ok; decide) | apply jR); (simp (disch := (first | omega | (simp only [vC]; omega))) only [push_cast, simprocAttr, takeM, dropM, zK, zA, zB, zN, zQ, zR, zO, zP, zT, zS, zU, leT, zH, natNe, zI, zG, zJ, isEmpty_map, zV, zW, zC, zZ, yA, zM] <;> rfl); all_goals try ((with_reducible intro hI); try first | (cases hI; done) | (simp only [INTS, zL] at hI; try first | (exfalso; omega) | (have hT : True := hI; clear hT hI))))
      | (apply jT cx_ok; decide; rfl; rfl; rfl; decide; (iterate 3 (simp (disch := (first | omega | (simp only [vC]; omega))) only [push_cast, simprocAttr, takeM, dropM, zK, zA, zB, zN, zQ, zR, zO, zP, zT, zS, zU, leT, zH, natNe, zI, zG, zJ, isEmpty_map, zV, zW, zC, zZ, yA, zM] <;> rfl)); (first | (focus (simp; done)) | (intro c hc; obtain ⟨x, _, rfl⟩ := List.mem_map.1 hc; rfl)); ((first | rfl | simp (disch := omega) only [push_cast])); ((try dsimp only); (try simp only [vC]); omega); ((try dsimp only); (try simp only [vC]); omega))

    all_goals
      (apply W.retX (vs := [.v (.slice none 0 0)])
       · (simp (disch := omega) only [push_cast, simprocAttr, natNe, zI, zG, zJ, isEmpty_map, zV, zW, zC, zZ, yA, zM] <;> rfl)
       · exact .inr ⟨rfl, rfl, rfl, .inl rfl⟩)
end Go.Proofs.Ks
