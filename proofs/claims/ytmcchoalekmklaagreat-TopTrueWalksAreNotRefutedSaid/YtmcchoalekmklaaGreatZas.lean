/-
  Contracts of functions, proved by going through their code. No conditions.
-/
import Derived.Test.YtmcchoalekmklaaGreatZar
set_option linter.unusedVariables false
set_option linter.unusedSimpArgs false
set_option maxHeartbeats 8000000
set_option maxRecDepth 10000
namespace Go.Proofs.Ks
open Go Go.Pg Go.Proofs Go.Proofs.Yt
attribute [local push_cast] List.mem_cons List.not_mem_nil Nat.add_assoc TyD.isAgg natNe
theorem build_a {H0 : Nat → Option AO} {nx : Nat} (r : Rec) (more : List Int) (hv : r.V) (hml : more.length ≤ 8) (hmb : ∀ a ∈ more, 0 ≤ a ∧ a ≤ 43200) {Q : AV → (Nat → Option AO) → Nat → Prop}
    (hK : ∀ (D dn : Nat) (s : St), s.tm 5 = .ptr (nx + 3) 0 0 1 → SysM s.H (nx + 2) (nx + 4) (nx + 1) (nx + 5) (nodesR r more) (linksR r more) → Pg.rowAt s.H (nx + 3) = some { k := 1, es := [[.ptr (nx + 2) 0 0 1]], ty := 106 } → (∀ j, j < nx → s.H j = H0 j) → s.H dn = some (.mp (.dfr D (some [])) 0 []) → nx + 6 ≤ dn → nx + 6 ≤ s.nx →
      AW cx 66 tail87 (fun e s' => s'.H dn = some (.mp (.dfr D (some [])) 0 []) ∧ endXt cx [.tmp 4] Q e s') s) :
    OKm cx 47 [.agg (eRec r), lInt more] H0 nx Q := by
  have hns := hv.nstrikes
  obtain ⟨_, _, hnl⟩ := linksR_ok hv hml hmb
  have hndl := nodesR_len r more
  have hso := marksR_sorted r more
  have hmk := marked_ok r more hv hml
  obtain ⟨PL, hPL⟩ : ∃ z, marksR r more = z := ⟨_, rfl⟩
  rw [hPL] at hso hmk hndl
  have hpl : PL.length ≤ 100 := by omega
  have hal : ∀ {args : List AV} {H : Nat → Option AO} {m : Nat}, args = [.ptr (nx + 2) 0 0 1, .agg (eRec r), lInt PL] → OKm cx 70 args H m _ := fun {args H m} h => h ▸ all_m r PL (g := nx + 2) (H := H) (nx := m)
  refine OKm.of_bodyXt kO (rs := [.tmp 4]) Tryz.func47 rfl (by decide +kernel) rfl (by simp [Tryz.ntmps47]) ?_
  simp only [Tryz.ntmps47]
  refine AWx.seqS ?_
  repeat' first
    | apply jB | apply jI
    | ((apply jK kO; decide); (simp (disch := omega) only [push_cast, simprocAttr] <;> rfl))

  refine Pg.Stop.mk ?_
  refine AWx.seqS ?_
  repeat' first
    | apply jB | apply jI
    | ((first | (apply jK kO; decide) | apply jM kO); (simp (disch := omega) only [push_cast, simprocAttr] <;> rfl))
    | (refine W.makeMap kO (by simp only [push_cast, simprocAttr] <;> rfl) (by decide) ?_)

  refine Pg.Stop.mk ?_
  refine AWx.seqS ?_
  refine AW.adoptCell (nx + 2) 0 0 2 147 (r := { k := 3, es := [[.v (.slice none 0 0), .map (nx + 1), .v (.slice none 0 0)]], ty := 145 }) (by simp (disch := omega) only [push_cast, simprocAttr] <;> rfl) rfl ?_
  refine AW.adoptCell (nx + 2) 0 2 3 171 (r := { k := 3, es := [[.ref (nx + 4) 0 0, .map (nx + 1), .v (.slice none 0 0)]], ty := 145 }) (by simp (disch := omega) only [push_cast, simprocAttr] <;> rfl) rfl ?_
  repeat' first
    | apply jB | apply jI
    | ((apply jK kO; decide); (simp (disch := omega) only [push_cast, simprocAttr] <;> rfl))

  refine Pg.Stop.mk ?_
  refine AWx.seqS ?_
  repeat' first
    | apply jB
    | ((apply jK kO; decide); (simp (disch := omega) only [push_cast, simprocAttr] <;> rfl))

  refine W.callm kO (by decide) (f := 68) (caps := [.ptr (nx + 3) 0 0 1]) (by simp (disch := omega) only [push_cast, simprocAttr] <;> rfl) (addB (H0 := H0) (r := r) (N := []) ⟨0, 0⟩ (by simp (disch := omega) only [push_cast, simprocAttr] <;> rfl) (by refine ⟨⟨?_, ?_, ?_, ?_⟩, ?_, ?_, fun j hj => ?_⟩ <;> (simp (disch := omega) only [push_cast, simprocAttr] <;> rfl)) (by simp) (by decide) (by dsimp only [St.put, nxA]; omega)) ?_
  rintro _ H1 nx1 ⟨hB1, hn1⟩
  replace hn1 : nx + 6 ≤ nx1 := hn1
  repeat' first
    | apply jI

  refine Pg.Stop.mk ?_
  refine AWx.seqS ?_
  repeat' first
    | apply jB
    | ((apply jK kO; decide); (simp (disch := omega) only [push_cast, simprocAttr] <;> rfl))

  refine W.callm kO (by decide) (f := 68) (caps := [.ptr (nx + 3) 0 0 1]) (by simp (disch := omega) only [push_cast, simprocAttr] <;> rfl) (addB ⟨1, 0⟩ (by simp (disch := omega) only [push_cast, simprocAttr] <;> rfl) hB1 (by decide) (by decide) (by dsimp only [St.put, nxA]; omega)) ?_
  rintro _ H2 nx2 ⟨hB2, hn2⟩
  replace hn2 : nx1 ≤ nx2 := hn2
  repeat' first
    | apply jI

  refine Pg.Stop.mk ?_
  refine AWx.seqS ?_
  repeat' first
    | apply jB
    | ((apply jK kO; decide); (simp (disch := omega) only [push_cast, simprocAttr] <;> rfl))

  refine W.callm kO (by decide) (f := 68) (caps := [.ptr (nx + 3) 0 0 1]) (by simp (disch := omega) only [push_cast, simprocAttr] <;> rfl) (addB ⟨2, 0⟩ (by simp (disch := omega) only [push_cast, simprocAttr] <;> rfl) hB2 (by decide) (by decide) (by dsimp only [St.put, nxA]; omega)) ?_
  rintro _ H3 nx3 ⟨hB3, hn3⟩
  replace hn3 : nx2 ≤ nx3 := hn3
  repeat' first
    | apply jI

  refine Pg.Stop.mk ?_
  refine AWx.seqS ?_
  replace hB3 : Bd H0 nx r (nd0 ++ ndS 0) H3 := hB3
  have hn3' : nx + 6 ≤ nx3 := by omega
  have hr3 := hB3.rc
  repeat' first
    | apply jA | apply jB | apply jD | apply jI
    | ((apply jK kO; decide); (simp (disch := omega) only [push_cast, simprocAttr, hr3] <;> rfl))

  refine AW.loop (fun n s => ∃ (k : Nat), n = r.strikes.length - k ∧ (k ≤ r.strikes.length) ∧ (Bd H0 nx r (nd0 ++ ndS k) s.H) ∧ nx + 6 ≤ s.nx ∧ s.tm 1 = lInt more ∧ s.tm 2 = .ptr nx 0 0 1 ∧ s.tm 5 = .ptr (nx + 3) 0 0 1 ∧ s.tm 6 = .clo 68 [.ptr (nx + 3) 0 0 1] ∧ s.tm 27 = ai r.strikes.length ∧ s.tm 28 = ai k) (r.strikes.length) ⟨0, rfl, (Nat.zero_le _), hB3, ?_, ?_, ?_, ?_, ?_, ?_, ?_⟩ ?_
  iterate 7 (first | (simp (disch := omega) only [push_cast, simprocAttr, hr3] <;> first | rfl | omega) | omega)
  rintro n s ⟨k, hn, hp0, hp1, hnl, hS⟩
  have hr := hp1.rc
  by_cases hk : k < r.strikes.length
  · have hkI : (k : Int) < (r.strikes.length : Int) := by omega
    repeat' first
      | apply jA | apply jB | apply jD | apply jE | apply jI
      | ((first | (apply jK kO; decide) | apply jR); (simp (disch := omega) only [push_cast, simprocAttr, hS, hkI] <;> rfl); all_goals try ((with_reducible intro hI); try first | (cases hI; done) | (simp only [INTS, zL] at hI; try first | (exfalso; omega) | (have hT : True := hI; clear hT hI))))

    refine W.callm kO (by decide) (f := 68) (caps := [.ptr (nx + 3) 0 0 1]) (by simp (disch := omega) only [push_cast, simprocAttr, hS, hkI] <;> rfl) (addB ⟨3, (k : Int)⟩ (by simp (disch := omega) only [push_cast, simprocAttr, hS, hkI] <;> rfl) hp1 (new_strike k) (by rw [List.length_append, ndS_len, nd0_len]; omega) (by dsimp only [St.put, nxA]; omega)) ?_
    rintro _ H4 nx4 ⟨hB4, hn4⟩
    replace hn4 : s.nx ≤ nx4 := hn4
    repeat' first
      | apply jB | apply jI
      | ((apply jK kO; decide); (simp (disch := omega) only [push_cast, simprocAttr, hS, hkI] <;> rfl))

    all_goals (refine ⟨r.strikes.length - (k + 1), ?_, k + 1, rfl, (by omega), (by rw [ndS_succ, ← List.append_assoc]; exact hB4), ?_, ?_, ?_, ?_, ?_, ?_, ?_⟩; (omega); all_goals first | (simp (disch := omega) only [push_cast, simprocAttr, hS, hkI] <;> first | rfl | omega) | omega)
  have hkI : ¬ (k : Int) < (r.strikes.length : Int) := by omega
  have hkS : k = r.strikes.length := by omega
  rw [hkS] at hp1
  repeat' first
    | apply jA | apply jB | apply jF | apply jI
    | ((first | (apply jK kO; decide) | apply jR); (simp (disch := omega) only [push_cast, simprocAttr, hS, hkI] <;> rfl); all_goals try ((with_reducible intro hI); try first | (cases hI; done) | (simp only [INTS, zL] at hI; try first | (exfalso; omega) | (have hT : True := hI; clear hT hI))))

  refine Pg.Stop.mk ?_
  refine AWx.seqS ?_
  have hr := hp1.rc
  repeat' first
    | apply jB | apply jI
    | ((apply jK kO; decide); (simp (disch := omega) only [push_cast, simprocAttr, hS, hr] <;> rfl))
    | ((apply jV kO; decide); (iterate 2 (simp (disch := omega) only [push_cast, simprocAttr, hS, hr] <;> rfl)); (with_reducible exact hmk); try first | rfl | (simp (disch := omega) only [push_cast, simprocAttr, hS, hr] <;> rfl))

  refine Pg.Stop.mk ?_
  refine AWx.seqS ?_
  repeat' first
    | apply jA | apply jB | apply jD | apply jI
    | ((apply jK kO; decide); (simp (disch := omega) only [push_cast, simprocAttr, hS, hr] <;> rfl))

  refine AW.loop (fun n s => ∃ (k : Nat) (rest : List Int), n = rest.length ∧ (PL.drop k = rest) ∧ (Bd H0 nx r (nd0 ++ ndS r.strikes.length ++ ndM (PL.take k)) s.H) ∧ nx + 6 ≤ s.nx ∧ s.tm 2 = .ptr nx 0 0 1 ∧ s.tm 5 = .ptr (nx + 3) 0 0 1 ∧ s.tm 6 = .clo 68 [.ptr (nx + 3) 0 0 1] ∧ s.tm 8 = lInt PL ∧ s.tm 39 = lInt PL ∧ s.tm 40 = ai PL.length ∧ s.tm 41 = ai k) (PL.length) ⟨0, PL, rfl, rfl, (by rw [List.take_zero, ndM, List.map_nil, List.append_nil]; exact hp1), ?_, ?_, ?_, ?_, ?_, ?_, ?_, ?_⟩ ?_
  iterate 8 (first | (simp (disch := omega) only [push_cast, simprocAttr, hS, hr] <;> first | rfl | omega) | omega)
  rintro n1 s1 ⟨k1, rest1, hn1, hp01, hp11, hnl1, hS1⟩
  rcases rest1 with _ | ⟨x, rest1⟩
  rotate_left
  · obtain ⟨hk1, hg1, hd1, hl1, hm1, hx1⟩ := drop_cons hp01 eInt []
    have hnm := new_mark (S := r.strikes.length) hso hp01
    repeat' first
      | apply jA | apply jB | apply jD | apply jE | apply jI
      | ((first | (apply jK kO; decide) | apply jR); (simp (disch := omega) only [push_cast, simprocAttr, hS1, hk1, hg1, hx1] <;> rfl); all_goals try ((with_reducible intro hI); try first | (cases hI; done) | (simp only [INTS, zL] at hI; try first | (exfalso; omega) | (have hT : True := hI; clear hT hI))))

    refine W.callm kO (by decide) (f := 68) (caps := [.ptr (nx + 3) 0 0 1]) (by simp (disch := omega) only [push_cast, simprocAttr, hS1, hk1, hg1, hx1] <;> rfl) (addB ⟨4, x⟩ (by simp (disch := omega) only [push_cast, simprocAttr, hS1, hk1, hg1, hx1] <;> rfl) hp11 hnm (by simp only [List.length_append, ndS_len, nd0_len, ndM, List.length_map, List.length_take]; omega) (by dsimp only [St.put, nxA]; omega)) ?_
    rintro _ H5 nx5 ⟨hB5, hn5⟩
    replace hn5 : s1.nx ≤ nx5 := hn5
    repeat' first
      | apply jB | apply jI
      | ((apply jK kO; decide); (simp (disch := omega) only [push_cast, simprocAttr, hS1, hk1, hg1, hx1] <;> rfl))

    all_goals (refine ⟨rest1.length, ?_, k1 + 1, rest1, rfl, hd1, (by rw [take_snoc hp01, ndM_snoc, ← List.append_assoc]; exact hB5), ?_, ?_, ?_, ?_, ?_, ?_, ?_, ?_⟩; ((simp only [List.length_cons] at *; omega)); all_goals first | (simp (disch := omega) only [push_cast, simprocAttr, hS1, hk1, hg1, hx1] <;> first | rfl | omega) | omega)
  have hk1 := drop_nil hp01
  have hN : nd0 ++ ndS r.strikes.length ++ ndM (PL.take k1) = nodesR r more := by rw [List.take_of_length_le (List.drop_eq_nil_iff.1 hp01), ← hPL]; rfl
  rw [hN] at hp11
  have hr1 := hp11.rc
  have hc1 := hp11.sys.c
  repeat' first
    | apply jA | apply jB | apply jF | apply jI
    | ((first | (apply jK kO; decide) | apply jR); (simp (disch := omega) only [push_cast, simprocAttr, hS1, hk1] <;> rfl); all_goals try ((with_reducible intro hI); try first | (cases hI; done) | (simp only [INTS, zL] at hI; try first | (exfalso; omega) | (have hT : True := hI; clear hT hI))))

  refine Pg.Stop.mk ?_
  refine AWx.ofk (AWk.seqS ?_)
  repeat' first
    | apply jB
    | ((apply jK kO; decide); (simp (disch := omega) only [push_cast, simprocAttr, hS1, hk1, hr1, hc1] <;> rfl))

  refine W.callm kO (by decide) (f := 70) (caps := []) (by simp (disch := omega) only [push_cast, simprocAttr, hS1, hk1, hr1, hc1] <;> rfl) (hal (by simp (disch := omega) only [push_cast, simprocAttr, hS1, hk1, hr1, hc1] <;> rfl)) ?_
  rintro _ H6 nx6 ⟨rfl, a1, a2, a3, hn6, hf6⟩
  replace hn6 : nx6 = s1.nx + 3 := hn6
  replace a1 : Pg.rowAt H6 s1.nx = _ := a1
  replace a2 : Pg.rowAt H6 (s1.nx + 1) = _ := a2
  replace a3 : Pg.rowAt H6 (s1.nx + 2) = _ := a3
  replace hf6 : ∀ j, j < s1.nx → H6 j = s1.H j := hf6
  repeat' first
    | apply jI

  refine Pg.Stop.mk ?_
  refine awk_gen (fun t => t.tm 5 = .ptr (nx + 3) 0 0 1 ∧ t.tm 53 = .clo 82 [.ptr (s1.nx + 1) 0 0 1, .ptr s1.nx 0 0 1, .ptr (s1.nx + 2) 0 0 1] ∧ t.nx = s1.nx + 3 ∧ t.H = H6) ⟨?_, ?_, ?_, ?_⟩ ?_
  iterate 2 (simp (disch := omega) only [push_cast, simprocAttr, hS1, hk1, hr1, hc1] <;> rfl)
  · exact hn6
  · rfl
  rintro t ⟨ht5, ht53, htnx, htH⟩
  refine AWk.range (f := 82) (caps := [.ptr (s1.nx + 1) 0 0 1, .ptr s1.nx 0 0 1, .ptr (s1.nx + 2) 0 0 1]) ht53 fun Dn l fn => ?_
  rw [htnx, htH]
  refine all1_ok hv hml hmb (l := l) (n0 := s1.nx + 5) (rb := s1.nx + 1) (gb := s1.nx) (pb := s1.nx + 2) (g := nx + 2) (m := nx + 1) (J := JB H0 nx s1.nx r (marksR r more) (nodesR r more) l Dn ?L t.tm) ?hJ (by omega) (by omega) (by omega) (by omega) (by omega) (Nat.le_refl _) ?hJ0 ?post
  case hJ0 =>
    have u : ∀ j, j < s1.nx + 3 → ∀ x y, updH (updH H6 (s1.nx + 3) x) (s1.nx + 3 + 1) y j = H6 j := fun j hj x y => by simp only [updH]; rw [if_neg (by omega), if_neg (by omega)]
    have v : ∀ j, j < s1.nx → ∀ x y, updH (updH H6 (s1.nx + 3) x) (s1.nx + 3 + 1) y j = s1.H j := fun j hj x y => (u j (by omega) x y).trans (hf6 j hj)
    rw [hPL]
    refine ⟨⟨(rowAt_eqH (u (s1.nx + 1) (by omega) _ _)).trans a2, (rowAt_eqH (u s1.nx (by omega) _ _)).trans a1, (rowAt_eqH (u (s1.nx + 2) (by omega) _ _)).trans a3, ⟨_, _, (rowAt_eqH (v (nx + 2) (by omega) _ _)).trans hp11.sys.g⟩, (v (nx + 1) (by omega) _ _).trans hp11.sys.m⟩,
      ⟨(rowAt_eqH (v (nx + 2) (by omega) _ _)).trans hp11.sys.g, (rowAt_eqH (v (nx + 4) (by omega) _ _)).trans hp11.sys.nd, (v (nx + 1) (by omega) _ _).trans hp11.sys.m, 0, Nat.le_refl _, (rowAt_eqH (v (nx + 5) (by omega) _ _)).trans hp11.lk⟩,
      (rowAt_eqH (v (nx + 3) (by omega) _ _)).trans hp11.sys.c, fun j hj => (v j (by omega) _ _).trans (hp11.fr j hj), ?_, ?_⟩
    · show updH (updH H6 (s1.nx + 3) _) (s1.nx + 3 + 1) _ (s1.nx + 3) = _
      unfold updH; rw [if_neg (by omega), if_pos rfl]
    · exact (if_pos rfl : (if (s1.nx + 4) = s1.nx + 3 + 1 then _ else _) = _)
  case hJ =>
    refine ⟨fun p G id o hp hid => JB.frame (by omega) p G id o hp hid, fun p G hp => hp.sy, fun p G mm x hJ hm hlen => ?_⟩
    obtain ⟨⟨y1, y2, y3, ⟨ga, gl, y4⟩, y5⟩, ⟨g1, g2, g3, lw, g4, g5⟩, hc, hfr0, hdf, hrc⟩ := hJ
    refine YOK.of_body (id := s1.nx + 4) (args := [.agg (eLink x)]) hrc rfl rfl (by intro p hp; have : p = 54 := (by simpa using hp); subst this; decide) ?_
    show AW (cx.rnd l) 66 _ _ { tm := upd (cutT 66 t.tm) 54 (.agg (eLink x)), H := G, nx := mm }
    have hc5 : cutT 66 t.tm 5 = .ptr (nx + 3) 0 0 1 := by simp [cutT, ht5]
    refine AW.fresh fun hfrG0 => ?_
    have hfrG : ∀ id, mm ≤ id → G id = none := hfrG0
    repeat' first
      | apply jB | apply jI
      | ((first | (apply jK (rnd_ok l); decide) | apply jM (rnd_ok l)); (simp (disch := (first | omega | (simp only [vC, rwI_len, rowT_len, spanT_len, bothL_len]; omega))) only [push_cast, simprocAttr, takeM, dropM, zK, zA, zB, zN, zQ, zR, zO, zP, zT, zS, zU, leT, zH, pureL, pureA, Cx.rnd, hc5, hc, g1, g5, hrc, hdf, hfrG, zV, isEmpty_map, zE, zD, zC, zY, zX, zW] <;> rfl))

    refine ⟨?_, ?_⟩
    · (simp (disch := omega) only [push_cast, simprocAttr, Cx.rnd, hc5, hc, g1, g5, hrc, hdf, hfrG, zV, isEmpty_map, zE, zD, zC, zY, zX, zW])
    repeat' first
      | apply jD | apply jJ
      | refine AW.draw (id := 19) (rnd_mixed l) [7, 10] [0, 8, 9] [nx + 5, nx + 2] 11 (by decide +kernel) ?_
      | ((apply jL (rnd_ok l); decide; decide); (simp (disch := (first | omega | (simp only [vC, rwI_len, rowT_len, spanT_len, bothL_len]; omega))) only [push_cast, simprocAttr, takeM, dropM, zK, zA, zB, zN, zQ, zR, zO, zP, zT, zS, zU, leT, zH, pureL, pureA, Cx.rnd, hc5, hc, g1, g5, hrc, hdf, hfrG, zV, isEmpty_map, zE, zD, zC, zY, zX, zW] <;> rfl))
      | ((first | (apply D.store (rnd_ok l); decide) | (apply D.stept (rnd_ok l); decide; decide) | (apply D.stepm (rnd_ok l); decide; decide)); (simp (disch := (first | omega | (simp only [vC, rwI_len, rowT_len, spanT_len, bothL_len]; omega))) only [push_cast, simprocAttr, takeM, dropM, zK, zA, zB, zN, zQ, zR, zO, zP, zT, zS, zU, leT, zH, pureL, pureA, Cx.rnd, hc5, hc, g1, g5, hrc, hdf, hfrG, zV, isEmpty_map, zE, zD, zC, zY, zX, zW] <;> rfl); try first | exact .inl rfl | exact .inr (by simp))
      | ((apply D.alloc (rnd_ok l); decide; decide); (simp (disch := (first | omega | (simp only [vC, rwI_len, rowT_len, spanT_len, bothL_len]; omega))) only [push_cast, simprocAttr, takeM, dropM, zK, zA, zB, zN, zQ, zR, zO, zP, zT, zS, zU, leT, zH, pureL, pureA, Cx.rnd, hc5, hc, g1, g5, hrc, hdf, hfrG, zV, isEmpty_map, zE, zD, zC, zY, zX, zW] <;> rfl); (simp (disch := (first | omega | (simp only [vC, rwI_len, rowT_len, spanT_len, bothL_len]; omega))) only [push_cast, simprocAttr, takeM, dropM, zK, zA, zB, zN, zQ, zR, zO, zP, zT, zS, zU, leT, zH, pureL, pureA, Cx.rnd, hc5, hc, g1, g5, hrc, hdf, hfrG, zV, isEmpty_map, zE, zD, zC, zY, zX, zW, updH_at]); (simp (disch := (first | omega | (simp only [vC, rwI_len, rowT_len, spanT_len, bothL_len]; omega))) only [push_cast, simprocAttr, takeM, dropM, zK, zA, zB, zN, zQ, zR, zO, zP, zT, zS, zU, leT, zH, pureL, pureA, Cx.rnd, hc5, hc, g1, g5, hrc, hdf, hfrG, zV, isEmpty_map, zE, zD, zC, zY, zX, zW] <;> omega))
      | (apply jU (rnd_ok l); decide; decide; rfl; rfl; rfl; decide; (iterate 3 (simp (disch := (first | omega | (simp only [vC, rwI_len, rowT_len, spanT_len, bothL_len]; omega))) only [push_cast, simprocAttr, takeM, dropM, zK, zA, zB, zN, zQ, zR, zO, zP, zT, zS, zU, leT, zH, pureL, pureA, Cx.rnd, hc5, hc, g1, g5, hrc, hdf, hfrG, zV, isEmpty_map, zE, zD, zC, zY, zX, zW] <;> rfl)); (first | (focus (simp; done)) | (intro c hc; obtain ⟨x, _, rfl⟩ := List.mem_map.1 hc; rfl)); ((first | rfl | (simp (disch := omega) only [push_cast]; done))); ((try dsimp only); (try simp only [vC, rwI_len, rowT_len, spanT_len, bothL_len]); omega); ((try dsimp only); (try simp only [vC, rwI_len, rowT_len, spanT_len, bothL_len]); omega); first | exact .inl rfl | exact .inr (by simp))


    all_goals
      (refine ⟨?_, rfl, ⟨⟨?_, ?_, ?_, ⟨.ref (nx + 4) 0 (nodesR r more).length, .ref (nx + 5) 0 (p.length + 1), ?_⟩, ?_⟩, ⟨?_, ?_, ?_, p.length + 1, ?_, ?_⟩, ?_, fun j hj => ?_, ?_, ?_⟩, ?_, fun i h1 h2 => ?_⟩
       all_goals first
         | (simp (disch := omega) only [push_cast, simprocAttr, Cx.rnd, hc5, hc, g1, g5, hrc, hdf, hfrG, zV, isEmpty_map, zE, zD, zC, zY, zX, zW, y1, y2, y3, y5, g2, g3, yB, yA] <;> first | rfl | omega)
         | omega
         | (have q := hfr0 j hj; simp (disch := omega) only [push_cast, simprocAttr, Cx.rnd, hc5, hc, g1, g5, hrc, hdf, hfrG, zV, isEmpty_map, zE, zD, zC, zY, zX, zW, y1, y2, y3, y5, g2, g3, yB, yA, q]))
  case post =>
    rintro G n ⟨⟨y1, y2, y3, ⟨ga, gl, y4⟩, y5⟩, ⟨g1, g2, g3, lw, g4, g5⟩, hc, hfr0, hdf, hrc⟩ hn
    have u : ∀ j, j ≠ s1.nx + 4 → ∀ o, updH G (s1.nx + 3 + 1) o j = G j := fun j hj o => by simp only [updH]; rw [if_neg (by omega)]
    refine ⟨_, hrc, by simp, ?_⟩
    delta tail87 at hK
    simp only [Tryz.f47, Option.getD_some, dropS1] at hK
    refine hK Dn (s1.nx + 3) _ ht5 ⟨(rowAt_eqH (u _ (by omega) _)).trans g1, (rowAt_eqH (u _ (by omega) _)).trans g2, (u _ (by omega) _).trans g3, lw, g4, (rowAt_eqH (u _ (by omega) _)).trans g5⟩ ((rowAt_eqH (u _ (by omega) _)).trans hc) (fun j hj => (u j (by omega) _).trans (hfr0 j hj)) ((u _ (by omega) _).trans hdf) (by omega) ?_
    show nx + 6 ≤ n
    omega
end Go.Proofs.Ks

namespace Go.Proofs.Ks
open Go Go.Pg Go.Proofs Go.Proofs.Yt
attribute [local push_cast] List.mem_cons List.not_mem_nil Nat.add_assoc TyD.isAgg natNe
theorem view_list {α : Type} (f : α → List AV) {H : Nat → Option AO} {id k lw : Nat} {ty : TypeId} {l : List α} (hp : (l.map f).all pureL = true) (hlw : lw ≤ l.length) (h : Pg.rowAt H id = some { k := k, es := l.map f, ty := ty, lo := lw }) : viewA H (.ref id 0 l.length) = some (.lst (l.map f)) := by
  rw [view_ref, h]
  dsimp only
  rw [if_pos ⟨by omega, by simp, hp⟩, List.drop_zero, List.take_of_length_le (by simp)]
theorem pure_all {α : Type} (f : α → List AV) (h : ∀ x, pureL (f x) = true) (l : List α) : (l.map f).all pureL = true := by
  rw [List.all_map, List.all_eq_true]; intro x _; exact h x
theorem build_ok (r : Rec) (more : List Int) (hv : r.V) (hml : more.length ≤ 8) (hmb : ∀ a ∈ more, 0 ≤ a ∧ a ≤ 43200) : OKv cx 47 [.agg (eRec r), lInt more] (gSys (nodesR r more) (linksR r more)) := by
  refine OKm.toAt (build_a (H0 := fun _ => none) (nx := 0) r more hv hml hmb (Q := fun v H _ => viewA H v = some (gSys (nodesR r more) (linksR r more))) fun Dd dn s h5 hM hc hf hd hdn hn => ?_) (fun r H nx hq => ⟨_, hq, rfl⟩)
  obtain ⟨m1, m2, m3, lw, m4, m5⟩ := hM
  simp only [Nat.zero_add] at m1 m2 m3 m5 hc h5
  generalize nodesR r more = N at m1 m2 m3 ⊢
  generalize linksR r more = L at m1 m4 m5 ⊢
  refine AW.frzM 1 m3 ?_
  refine AW.settle 2 [4, 5] (r := { k := 3, es := [[.ref 4 0 N.length, .map 1, .ref 5 0 L.length]], ty := 145 }) (es' := [[lNode N, .lmap .pair (N.map keyN) (idxV 0 N.length), lLink L]]) ?_ ?_ (by decide) rfl ?_ ?_
  · (simp (disch := omega) only [push_cast, simprocAttr, m1] <;> rfl)
  · intro i hi
    simp only [List.mem_cons, List.not_mem_nil, or_false] at hi
    rcases hi with rfl | rfl
    · exact ⟨_, (by (simp (disch := omega) only [push_cast, simprocAttr, m2]) : Pg.rowAt _ 4 = some { k := 2, es := N.map eNode, ty := 147, lo := N.length })⟩
    · exact ⟨_, (by (simp (disch := omega) only [push_cast, simprocAttr, m5]) : Pg.rowAt _ 5 = some { k := 3, es := L.map eLink, ty := 171, lo := lw })⟩
  · intro i e e' he he'
    match i, he, he' with
    | 0, he, he' =>
      simp only [List.getElem?_cons_zero, Option.some.injEq] at he he'
      subst he; subst he'
      refine ⟨rfl, fun j a b ha hb => ?_⟩
      match j, ha, hb with
      | 0, ha, hb =>
        simp only [List.getElem?_cons_zero, Option.some.injEq] at ha hb
        subst ha; subst hb
        exact ⟨.view (view_list eNode (pure_all eNode (fun _ => rfl) N) (Nat.le_refl _) (k := 2) (ty := 147) (by (simp (disch := omega) only [push_cast, simprocAttr, m2]))), by simp [idsA]⟩
      | 1, ha, hb =>
        simp only [List.getElem?_cons_zero, List.getElem?_cons_succ, Option.some.injEq] at ha hb
        subst ha; subst hb
        have hz : (ixM N).map (·.1) = N.map keyN ∧ (ixM N).map (·.2) = idxV 0 N.length := by
          unfold ixM
          constructor
          · rw [List.map_fst_zip]; simp [idxV]
          · rw [List.map_snd_zip]; simp [idxV]
        have hq := Told.map (H := updH s.H 1 (.mp (.fmap .pair) 0 (ixM N))) (id := 1) (sh := .pair) (et := 0) (es := ixM N) (by simp [updH]) (by
          rw [hz.2]; unfold idxV
          generalize List.range' 0 N.length = q
          induction q with
          | nil => rfl
          | cons a q ih => simp only [List.map_cons, pureL, pureA, ih, Bool.true_and])
        rw [hz.1, hz.2] at hq
        exact ⟨hq, by simp [idsA]⟩
      | 2, ha, hb =>
        simp only [List.getElem?_cons_zero, List.getElem?_cons_succ, Option.some.injEq] at ha hb
        subst ha; subst hb
        exact ⟨.view (view_list eLink (pure_all eLink (fun _ => rfl) L) m4 (k := 3) (ty := 171) (by (simp (disch := omega) only [push_cast, simprocAttr, m5]))), by simp [idsA]⟩
      | j + 3, ha, _ => simp at ha
    | i + 1, he, _ => simp at he
  delta tail87
  simp only [Tryz.f47, Option.getD_some, dropS1]
  have hc1 : Pg.rowAt (updH (frz (updH s.H 1 (.mp (.fmap .pair) 0 (ixM N))) [4, 5]) 2 (.row { k := 3, es := [[lNode N, .lmap .pair (N.map keyN) (idxV 0 N.length), lLink L]], ty := 145 })) 3 = some { k := 1, es := [[.ptr 2 0 0 1]], ty := 106 } := hc
  have hd1 : (updH (frz (updH s.H 1 (.mp (.fmap .pair) 0 (ixM N))) [4, 5]) 2 (.row { k := 3, es := [[lNode N, .lmap .pair (N.map keyN) (idxV 0 N.length), lLink L]], ty := 145 })) dn = some (.mp (.dfr Dd (some [])) 0 []) := by
    simp only [updH, frz]
    rw [if_neg (by omega), if_neg (by simp only [List.mem_cons, List.not_mem_nil, or_false]; omega), if_neg (by omega)]
    exact hd
  have hg1 : Pg.rowAt (updH (frz (updH s.H 1 (.mp (.fmap .pair) 0 (ixM N))) [4, 5]) 2 (.row { k := 3, es := [[lNode N, .lmap .pair (N.map keyN) (idxV 0 N.length), lLink L]], ty := 145 })) 2 = some { k := 3, es := [[lNode N, .lmap .pair (N.map keyN) (idxV 0 N.length), lLink L]], ty := 145 } := rfl
  generalize updH (frz (updH s.H 1 (.mp (.fmap .pair) 0 (ixM N))) [4, 5]) 2 (.row { k := 3, es := [[lNode N, .lmap .pair (N.map keyN) (idxV 0 N.length), lLink L]], ty := 145 }) = G at hc1 hd1 hg1 ⊢
  repeat' first
    | apply jA | apply jB | apply jC | apply jI
    | ((apply jK kO; decide); (simp (disch := (first | omega | (simp only [vC, rwI_len, rowT_len, spanT_len, bothL_len]; omega))) only [push_cast, simprocAttr, takeM, dropM, zK, zA, zB, zN, zQ, zR, zO, zP, zT, zS, zU, leT, zH, pureL, pureA, h5, hc1] <;> rfl))

  refine ⟨by (simp (disch := omega) only [push_cast, simprocAttr, hd1]), fun H2 hr2 hm2 => ?_⟩
  replace hr2 : ∀ i, Pg.rowAt H2 i = Pg.rowAt G i := hr2
  apply W.retX (vs := [.ptr 2 0 0 1])
  · (simp (disch := omega) only [push_cast, simprocAttr, h5, hc1] <;> rfl)
  · have hg2 := (hr2 2).trans hg1
    show viewA H2 (.ptr 2 0 0 1) = _
    rw [view_ptr, hg2]
    dsimp only
    rw [if_pos ⟨Nat.zero_le _, Nat.zero_lt_one, rfl⟩]
    rfl
end Go.Proofs.Ks

namespace Go.Proofs.Ks
open Go Go.Pg Go.Proofs Go.Proofs.Yt
def consP (r : Rec) (more : List Int) : Bool := decide ((lengthsF (nodesR r more).length (linksR r more) (-1)).2.2 < 0)
theorem solved_bad (r : Rec) (more : List Int) (hc : checkE r ≠ 0) : OKv cx 25 [.agg (eRec r), lInt more] (.tup [.v (.pointer none), ai (checkE r)]) := by
  have hcF : (checkE r = 0) = False := eq_false hc
  refine OKat.of_body (rs := [4, 5]) Tryz.func25 rfl (by decide +kernel) rfl (by simp [Tryz.ntmps25]) ?_
  simp only [Tryz.ntmps25]
  repeat' first
    | apply jA | apply jB | apply jC | apply jI
    | ((first | (apply jK kO; decide) | apply jR); (simp (disch := omega) only [push_cast, simprocAttr, hcF] <;> rfl); all_goals try ((with_reducible intro hI); try first | (cases hI; done) | (simp only [INTS, zL] at hI; try first | (exfalso; omega) | (have hT : True := hI; clear hT hI))))
    | ((apply jV kO; decide); (iterate 2 (simp (disch := omega) only [push_cast, simprocAttr, hcF] <;> rfl)); (with_reducible exact Check_ok r); try first | rfl | (simp (disch := omega) only [push_cast, simprocAttr, hcF] <;> rfl))
    | ((apply W.ret2); (iterate 2 (try (simp (disch := omega) only [push_cast, simprocAttr, hcF] <;> rfl))))

  all_goals (show _ = _; rfl)
theorem solved_clash (r : Rec) (more : List Int) (hc : checkE r = 0) (hml : more.length ≤ 8) (hmb : ∀ a ∈ more, 0 ≤ a ∧ a ≤ 43200) (hq : consP r more = false) : OKv cx 25 [.agg (eRec r), lInt more] (.tup [.v (.pointer none), ai 9]) := by
  have hv := checkE_V hc
  obtain ⟨h1, h2, h3, h4, h5⟩ := links_facts hv hml hmb
  have hb := build_ok r more hv hml hmb
  have hn := consistent_ok (nodesR r more) (linksR r more) h1 h2 h3 h4
  unfold consP at hq
  rw [hq] at hn
  refine OKat.of_body (rs := [4, 5]) Tryz.func25 rfl (by decide +kernel) rfl (by simp [Tryz.ntmps25]) ?_
  simp only [Tryz.ntmps25]
  repeat' first
    | apply jA | apply jB | apply jC | apply jE | apply jI
    | ((first | (apply jK kO; decide) | apply jR); (simp (disch := omega) only [push_cast, simprocAttr, hc] <;> rfl); all_goals try ((with_reducible intro hI); try first | (cases hI; done) | (simp only [INTS, zL] at hI; try first | (exfalso; omega) | (have hT : True := hI; clear hT hI))))
    | ((apply jV kO; decide); (iterate 2 (simp (disch := omega) only [push_cast, simprocAttr, hc] <;> rfl)); (with_reducible first | exact Check_ok r | exact hb | exact hn); try first | rfl | (simp (disch := omega) only [push_cast, simprocAttr, hc] <;> rfl))
    | ((apply W.ret2); (iterate 2 (try (simp (disch := omega) only [push_cast, simprocAttr, hc] <;> rfl))))

  all_goals (show _ = _; rfl)
theorem solved_good (r : Rec) (more : List Int) (hc : checkE r = 0) (hml : more.length ≤ 8) (hmb : ∀ a ∈ more, 0 ≤ a ∧ a ≤ 43200) (hq : consP r more = true) : OKv cx 25 [.agg (eRec r), lInt more] (.tup [gSys (nodesR r more) (linksR r more), ai 0]) := by
  have hv := checkE_V hc
  obtain ⟨h1, h2, h3, h4, h5⟩ := links_facts hv hml hmb
  have hb := build_ok r more hv hml hmb
  have hn := consistent_ok (nodesR r more) (linksR r more) h1 h2 h3 h4
  unfold consP at hq
  rw [hq] at hn
  refine OKat.of_body (rs := [4, 5]) Tryz.func25 rfl (by decide +kernel) rfl (by simp [Tryz.ntmps25]) ?_
  simp only [Tryz.ntmps25]
  repeat' first
    | apply jA | apply jB | apply jC | apply jE | apply jI
    | ((first | (apply jK kO; decide) | apply jR); (simp (disch := omega) only [push_cast, simprocAttr, hc] <;> rfl); all_goals try ((with_reducible intro hI); try first | (cases hI; done) | (simp only [INTS, zL] at hI; try first | (exfalso; omega) | (have hT : True := hI; clear hT hI))))
    | ((apply jV kO; decide); (iterate 2 (simp (disch := omega) only [push_cast, simprocAttr, hc] <;> rfl)); (with_reducible first | exact Check_ok r | exact hb | exact hn); try first | rfl | (simp (disch := omega) only [push_cast, simprocAttr, hc] <;> rfl))
    | ((apply W.ret2); (iterate 2 (try (simp (disch := omega) only [push_cast, simprocAttr, hc] <;> rfl))))

  all_goals (show _ = _; rfl)
theorem nomore (a : Int) : a ∈ ([] : List Int) → 0 ≤ a ∧ a ≤ 43200 := fun h => by cases h
theorem solved0 (r : Rec) : (checkE r ≠ 0 ∧ OKv cx 25 [.agg (eRec r), .lst []] (.tup [.v (.pointer none), ai (checkE r)])) ∨ (checkE r = 0 ∧ consP r [] = false ∧ OKv cx 25 [.agg (eRec r), .lst []] (.tup [.v (.pointer none), ai 9])) ∨
    (checkE r = 0 ∧ consP r [] = true ∧ OKv cx 25 [.agg (eRec r), .lst []] (.tup [gSys (nodesR r []) (linksR r []), ai 0])) := by
  by_cases hc : checkE r = 0
  · cases hq : consP r [] with
    | false => exact .inr (.inl ⟨hc, rfl, solved_clash r [] hc (by decide) nomore hq⟩)
    | true => exact .inr (.inr ⟨hc, rfl, solved_good r [] hc (by decide) nomore hq⟩)
  · exact .inl ⟨hc, solved_bad r [] hc⟩
theorem spanI_ok {r : Rec} {more : List Int} (hv : r.V) (hml : more.length ≤ 8) (hmb : ∀ a ∈ more, 0 ≤ a ∧ a ≤ 43200) {f t : Int} (hf : 0 ≤ f ∧ f < (nodesR r more).length) (ht : 0 ≤ t ∧ t < (nodesR r more).length) :
    OKv cx 26 [gSys (nodesR r more) (linksR r more), ai f, ai t] (.agg (eSpan (spanF (nodesR r more) (linksR r more) f.toNat t.toNat))) := by
  obtain ⟨h1, h2, h3, h4, h5⟩ := links_facts hv hml hmb
  have := span_ok (nodesR r more) (linksR r more) f.toNat t.toNat h1 h2 h3 h4 (by omega) (by omega)
  rw [Int.toNat_of_nonneg hf.1, Int.toNat_of_nonneg ht.1] at this
  exact this
end Go.Proofs.Ks
