/-
  Contracts of functions, proved by going through their code. No conditions.
-/
import Derived.Test.YtmcchoalekmklaaGreatZaw
import Derived.Test.YtmcchoalekmklaaGreatZbi
import Derived.Test.YtmcchoalekmklaaGreatZbj
import Derived.Test.YtmcchoalekmklaaGreatZbk
set_option linter.unusedVariables false
set_option linter.unusedSimpArgs false
set_option maxHeartbeats 8000000
set_option maxRecDepth 10000
namespace Go.Proofs.Yt
open Go Go.Pg Go.Proofs
open Go.Proofs.Hs (House Step eHouse eStep)
open Go.Proofs.Ks (Session Run Span Strike eSession eRun eSpan lSpan eStrike lStrike lSight lStop eStop lLeg eLeg eInt lInt takeM dropM leT isEmpty_map getD_map get_map drop_cons drop_nil playsE needleP Plays_ok Spans_ok spansQ spansP)
open Go.Proofs.Ds (Ink Blow eKey eInk eBlow eMark rowAt_aftF)
attribute [local push_cast] Bool.and_false Bool.and_self Bool.and_true Bool.false_and Bool.false_eq_true Bool.not_false Bool.not_true Bool.true_and List.append_nil List.cons_append List.length_nil List.map_nil List.mem_cons List.nil_append List.not_mem_nil Nat.add_assoc St.back TyD.isAgg idsA idsL natNe
attribute [local push_cast] Option.map_some idsLL if_false if_true or_true rowAt_aftF true_or
theorem law3_ok (h : House) (F t : Int) (steps : List Step) (ses : Session) (x : Run) (keys : List Ds.Key) (ink : Ink) (l : List Hit) (wall : List Int) (hn : ∀ r ∈ h.rooms, r.name.size ≤ 9223372036854775807) (hd : ∀ d ∈ h.doors, d.hours.length ≤ 9223372036854775807 ∧ d.shut.length ≤ 9223372036854775807) : OKv cx 3 [.agg (eHouse h), ai F, ai t, .lst (steps.map eStep), .agg (eSession ses), .agg (eRun x), lKey keys, .agg (eInk ink), .lst (l.map eHit), lInt wall] (ab true) := by
  by_cases hall : (steps.length ≤ 20 ∧ l.length ≤ 6 ∧ ses.stops.length ≤ 8 ∧ x.legs.length ≤ 40 ∧ keys.length ≤ 40 ∧ wall.length ≤ 30 ∧ h.rooms.length ≤ 30 ∧ h.doors.length ≤ 20 ∧ h.ways.length ≤ 70) ∧ playsE ses x = 0
  rotate_left
  · exact few_ok h F t steps ses x keys ink l wall hall
  obtain ⟨⟨b0, b1, b2, b3, b4, b5, b6, b7, b8⟩, hp⟩ := hall
  have g0 : ((20 : Int) < (steps.length : Int)) = False := eq_false (by omega)
  have g1 : ((6 : Int) < (l.length : Int)) = False := eq_false (by omega)
  have g2 : ((8 : Int) < (ses.stops.length : Int)) = False := eq_false (by omega)
  have g3 : ((40 : Int) < (x.legs.length : Int)) = False := eq_false (by omega)
  have g4 : ((40 : Int) < (keys.length : Int)) = False := eq_false (by omega)
  have g5 : ((30 : Int) < (wall.length : Int)) = False := eq_false (by omega)
  have g6 : ((30 : Int) < (h.rooms.length : Int)) = False := eq_false (by omega)
  have g7 : ((20 : Int) < (h.doors.length : Int)) = False := eq_false (by omega)
  have g8 : ((70 : Int) < (h.ways.length : Int)) = False := eq_false (by omega)
  have hfit : h.Fit := ⟨hn, hd, by omega, by omega, by omega⟩
  have hf1 : ∀ l x, flatA (.tup [.lst l, .v x]) = false := fun _ _ => rfl
  have hf2 : ∀ l, flatA (.lst l) = false := fun _ => rfl
  have hf3 : ∀ x, flatA (.v x) = true := fun _ => rfl
  have hf8 : ∀ x y, flatA (.tup [.v x, .v y]) = true := fun _ _ => rfl
  have hf9 : ∀ l x, flatA (.tup [.lst l, .v x]) = false := fun _ _ => rfl
  have hfA : ∀ a b c d e f g, flatA (.tup [.agg [.v a, .v b, .v c, .v d, .v e], .v f, .v g]) = true := fun _ _ _ _ _ _ _ => rfl
  have hfB : ∀ a b c, flatA (.tup [.agg [.v a, .v b], .v c]) = true := fun _ _ _ => rfl
  have cR := rooms_ok
  have c4 := Plays_ok ses x (by omega)
  rw [hp] at c4
  have c6 := walked_ok h F t steps hfit (by omega)
  obtain ⟨⟨PL, okb⟩, hPLe⟩ : ∃ z, walkedF h F t steps = z := ⟨_, rfl⟩
  rw [hPLe] at c6
  dsimp only at c6
  cases okb with
  | false =>
    refine OKat.of_body (rs := [20]) Tryz.func3 rfl (by decide +kernel) rfl (by simp [Tryz.ntmps3]) ?_
    simp only [Tryz.ntmps3]
    repeat' first
      | apply jA | apply jB | apply jC | apply jE | apply jI
      | ((first | (apply jK kO; decide) | (apply jN; rfl; decide) | apply jR); (simp (disch := omega) only [push_cast, simprocAttr, hf1, hf2, hf3, hf8, hf9, hfA, hfB, g0, g1, g2, g3, g4, g5, g6, g7, g8] <;> rfl); all_goals try ((with_reducible intro hI); try first | (cases hI; done) | (simp only [INTS, zL] at hI; try first | (exfalso; omega) | (have hT : True := hI; clear hT hI))))
      | ((apply jV kO; decide); (iterate 2 (simp (disch := omega) only [push_cast, simprocAttr, hf1, hf2, hf3, hf8, hf9, hfA, hfB, g0, g1, g2, g3, g4, g5, g6, g7, g8] <;> rfl)); (with_reducible first | exact cR | exact c4 | exact c6); try first | rfl | (simp (disch := omega) only [push_cast, simprocAttr, hf1, hf2, hf3, hf8, hf9, hfA, hfB, g0, g1, g2, g3, g4, g5, g6, g7, g8] <;> rfl))
      | ((apply W.ret1); (iterate 2 (try (simp (disch := omega) only [push_cast, simprocAttr, hf1, hf2, hf3, hf8, hf9, hfA, hfB, g0, g1, g2, g3, g4, g5, g6, g7, g8] <;> rfl))))

    all_goals (show _ = _; rfl)
  | true =>
  obtain ⟨hc, hF, ht, hPL, pl, hpl0, hw, hPLg⟩ := walked_good (by omega) hPLe
  obtain ⟨z1, z2, z3⟩ := Ks.plays_sess hp
  have h31 : ((PL.length : Int) - 1) = (steps.length : Int) := by omega
  refine OKat.of_body (rs := [20]) Tryz.func3 rfl (by decide +kernel) rfl (by simp [Tryz.ntmps3]) ?_
  simp only [Tryz.ntmps3]
  repeat' first
    | refine AW.seqS (y := tailL) ?_ | apply jA | apply jB | apply jD | apply jE | apply jI
    | ((first | (apply jK kO; decide) | apply jM kO | (apply jN; rfl; decide) | apply jR); (simp (disch := omega) only [push_cast, simprocAttr, hf1, hf2, hf3, hf8, hf9, hfA, hfB, g0, g1, g2, g3, g4, g5, g6, g7, g8] <;> rfl); all_goals try ((with_reducible intro hI); try first | (cases hI; done) | (simp only [INTS, zL] at hI; try first | (exfalso; omega) | (have hT : True := hI; clear hT hI))))
    | ((apply jV kO; decide); (iterate 2 (simp (disch := omega) only [push_cast, simprocAttr, hf1, hf2, hf3, hf8, hf9, hfA, hfB, g0, g1, g2, g3, g4, g5, g6, g7, g8] <;> rfl)); (with_reducible first | exact c4 | exact c6); try first | rfl | (simp (disch := omega) only [push_cast, simprocAttr, hf1, hf2, hf3, hf8, hf9, hfA, hfB, g0, g1, g2, g3, g4, g5, g6, g7, g8] <;> rfl))

  refine AW.adoptCell 4 0 12 3 70 (r := { k := 14, es := [[ai ses.id, ai ses.inn.lo, ai ses.inn.hi, ai ses.out.lo, ai ses.out.hi, ai ses.zero.lo, ai ses.zero.hi, ai ses.fin.lo, ai ses.fin.hi, ai ses.rate.lo, ai ses.rate.hi, lStop ses.stops, .v (.slice none 0 0), .v (.slice none 0 0)]], ty := 50 }) (by simp (disch := omega) only [push_cast, simprocAttr, hf1, hf2, hf3, hf8, hf9, hfA, hfB, g0, g1, g2, g3, g4, g5, g6, g7, g8] <;> rfl) rfl ?_
  refine AW.adopt 24 1 3 ?_ ?_
  · (simp (disch := omega) only [push_cast, simprocAttr, hf1, hf2, hf3, hf8, hf9, hfA, hfB, g0, g1, g2, g3, g4, g5, g6, g7, g8] <;> rfl)
  refine AW.loop (fun n s => ∃ (k ls la : Nat) (S : List Strike) (A : List Int), n = l.length - k ∧ (k ≤ l.length) ∧ (S.length = k) ∧ (A.length = k) ∧ (ls ≤ k) ∧ (la ≤ k) ∧ (Ks.Told ses x S ((l.take k).map (·.time))) ∧ (∀ (i : Nat) (y : Hit) (a : Int), i < k → l[i]? = some y → A[i]? = some a → At steps pl y.time a) ∧ 7 ≤ s.nx ∧ s.tm 1 = ai F ∧ s.tm 2 = ai t ∧ s.tm 3 = .lst (steps.map eStep) ∧ s.tm 6 = lKey keys ∧ s.tm 8 = .lst (l.map eHit) ∧ s.tm 9 = lInt wall ∧ s.tm 10 = .ptr 0 0 0 1 ∧ s.tm 14 = .ptr 1 0 0 1 ∧ s.tm 15 = .ptr 2 0 0 1 ∧ s.tm 17 = .ptr 3 0 0 1 ∧ s.tm 21 = .lst (PL.map ePl) ∧ s.tm 23 = .ptr 4 0 0 1 ∧ s.tm 24 = .ref 6 0 k ∧ s.tm 25 = ai k ∧ Pg.rowAt s.H (0) = some ({ k := 3, es := [eHouse h], ty := 26 }) ∧ Pg.rowAt s.H (1) = some ({ k := 12, es := [eSession ses], ty := 32 }) ∧ Pg.rowAt s.H (2) = some ({ k := 3, es := [eRun x], ty := 35 }) ∧ Pg.rowAt s.H (3) = some ({ k := 3, es := [eInk ink], ty := 38 }) ∧ Pg.rowAt s.H (4) = some ({ k := 14, es := [[ai ses.id, ai ses.inn.lo, ai ses.inn.hi, ai ses.out.lo, ai ses.out.hi, ai ses.zero.lo, ai ses.zero.hi, ai ses.fin.lo, ai ses.fin.hi, ai ses.rate.lo, ai ses.rate.hi, lStop ses.stops, .ref 5 0 k, .v (.slice none 0 0)]], ty := 50 }) ∧ Pg.rowAt s.H (5) = some ({ k := 3, es := S.map eStrike, ty := 70, lo := ls }) ∧ Pg.rowAt s.H (6) = some ({ k := 1, es := A.map eInt, ty := 3, lo := la })) (l.length) ⟨0, 0, 0, [], [], rfl, (Nat.zero_le _), rfl, rfl, (Nat.zero_le _), (Nat.zero_le _), (Ks.Told.nil ses x), (fun i y a hi => absurd hi (Nat.not_lt_zero i)), ?_, ?_, ?_, ?_, ?_, ?_, ?_, ?_, ?_, ?_, ?_, ?_, ?_, ?_, ?_, ?_, ?_, ?_, ?_, ?_, ?_, ?_⟩ ?_
  iterate 22 (first | (simp (disch := omega) only [push_cast, simprocAttr, hf1, hf2, hf3, hf8, hf9, hfA, hfB, g0, g1, g2, g3, g4, g5, g6, g7, g8] <;> first | rfl | omega) | omega)
  rintro n1 s1 ⟨k1, ls1, la1, S1, A1, hn1, hp01, hp11, hp21, hp31, hp41, hp51, hp61, hnl1, hS1⟩
  have hZ1 : (0 : Nat) ≠ s1.nx ∧ s1.nx ≠ (0 : Nat) ∧ (1 : Nat) ≠ s1.nx ∧ s1.nx ≠ (1 : Nat) ∧ (2 : Nat) ≠ s1.nx ∧ s1.nx ≠ (2 : Nat) ∧ (3 : Nat) ≠ s1.nx ∧ s1.nx ≠ (3 : Nat) ∧ (4 : Nat) ≠ s1.nx ∧ s1.nx ≠ (4 : Nat) ∧ (5 : Nat) ≠ s1.nx ∧ s1.nx ≠ (5 : Nat) ∧ (6 : Nat) ≠ s1.nx ∧ s1.nx ≠ (6 : Nat) := by omega
  refine AW.fresh fun hfr1 => ?_
  by_cases hk : k1 < l.length
  rotate_left
  · obtain rfl : k1 = l.length := by omega
    have hkk : ¬ (l.length : Int) < (l.length : Int) := by omega
    have hT := hp51
    rw [List.take_length] at hT
    have hAt : ∀ (i : Nat) (y : Hit) (a : Int), l[i]? = some y → A1[i]? = some a → At steps pl y.time a := fun i y a hy ha => hp61 i y a (List.getElem?_eq_some_iff.1 hy).1 hy ha
    repeat' first
      | apply jA | apply jB | apply jF | apply jI
      | ((first | (apply jK kO; decide) | apply jR); (simp (disch := omega) only [push_cast, simprocAttr, hS1, hZ1, hf1, hf2, hf3, hf8, hf9, hfA, hfB, hkk] <;> rfl); all_goals try ((with_reducible intro hI); try first | (cases hI; done) | (simp only [INTS, zL] at hI; try first | (exfalso; omega) | (have hT : True := hI; clear hT hI))))

    all_goals (refine Pg.Stop.mk (tail_ok h F t steps ses x l wall hfit b1 b5 hp hc hF ht hw S1 A1 la1 ls1 hT hp21 hAt ?_ ?_ ?_ ?_ ?_ ?_ ?_ ?_ ?_ hp31 hp41 ?_) <;> first | (simp (disch := omega) only [push_cast, simprocAttr, hS1, hZ1, hf1, hf2, hf3, hf8, hf9, hfA, hfB] <;> first | rfl | omega) | omega)
  have hkk : (k1 : Int) < (l.length : Int) := by omega
  obtain ⟨y, hy⟩ : ∃ y, l[k1]? = some y := ⟨_, List.getElem?_eq_getElem hk⟩
  have hxy : (l.map eHit)[k1]? = some (eHit y) := by rw [List.getElem?_map, hy]; rfl
  have hgy : (l.map eHit).getD k1 [] = eHit y := by rw [List.getD_eq_getElem?_getD, hxy]; rfl
  obtain ⟨m, a, b, c7, f7⟩ := struck_ok x keys ink y b3 b4
  cases b with
  | false =>
    repeat' first
      | apply jA | apply jB | apply jC | apply jD | apply jE | apply jI | apply jJ
      | refine AW.draw (id := 11) cx_mixed [13, 14, 15] [10, 11] [s1.nx + 12] 16 (by decide +kernel) ?_
      | refine W.draw cx_mixed (by decide +kernel) ?_
      | ((first | (apply jK kO; decide) | (apply jL kO; decide; decide) | (apply jO; rfl; decide; decide) | apply jR); (simp (disch := omega) only [push_cast, simprocAttr, hS1, hZ1, hf1, hf2, hf3, hf8, hf9, hfA, hfB, hfr1, hkk, hxy, hgy] <;> rfl); all_goals try ((with_reducible intro hI); try first | (cases hI; done) | (simp only [INTS, zL] at hI; try first | (exfalso; omega) | (have hT : True := hI; clear hT hI))))
      | ((first | (apply jQ; rfl; decide; decide) | (apply D.store kO; decide) | (apply D.stept kO; decide; decide) | (apply D.stepm kO; decide; decide)); (simp (disch := omega) only [push_cast, simprocAttr, hS1, hZ1, hf1, hf2, hf3, hf8, hf9, hfA, hfB, hfr1, hkk, hxy, hgy] <;> rfl); try first | exact .inl rfl | exact .inr (by simp))
      | ((apply D.alloc kO; decide; decide); (simp (disch := omega) only [push_cast, simprocAttr, hS1, hZ1, hf1, hf2, hf3, hf8, hf9, hfA, hfB, hfr1, hkk, hxy, hgy] <;> rfl); (simp (disch := omega) only [push_cast, simprocAttr, hS1, hZ1, hf1, hf2, hf3, hf8, hf9, hfA, hfB, hfr1, hkk, hxy, hgy, updH_at]); (simp (disch := omega) only [push_cast, simprocAttr, hS1, hZ1, hf1, hf2, hf3, hf8, hf9, hfA, hfB, hfr1, hkk, hxy, hgy] <;> omega))
      | ((first | (apply jV kO; decide) | (apply jW kO; decide; decide)); (iterate 2 (simp (disch := omega) only [push_cast, simprocAttr, hS1, hZ1, hf1, hf2, hf3, hf8, hf9, hfA, hfB, hfr1, hkk, hxy, hgy] <;> rfl)); (with_reducible first | exact c7 | exact cR); try first | rfl | (simp (disch := omega) only [push_cast, simprocAttr, hS1, hZ1, hf1, hf2, hf3, hf8, hf9, hfA, hfB, hfr1, hkk, hxy, hgy] <;> rfl))
      | ((apply W.ret1); (iterate 2 (try (simp (disch := omega) only [push_cast, simprocAttr, hS1, hZ1, hf1, hf2, hf3, hf8, hf9, hfA, hfB, hfr1, hkk, hxy, hgy] <;> rfl))))

    all_goals (show _ = _; rfl)
  | true =>
  obtain ⟨key, j1, j2', j3, j4, j5, j6, j7, j8, j9⟩ := f7 rfl
  obtain ⟨nk, hnk⟩ : ∃ n : Nat, y.key = (n : Int) := ⟨y.key.toNat, by omega⟩
  rw [hnk, Int.toNat_natCast] at j1
  replace c7 : OKv cx 7 [.agg (eRun x), lKey keys, .agg (eInk ink), .agg [ai (nk : Int), ai y.time, ai y.blow.miss, ai y.blow.dirt, ai y.blow.shift, ai y.by_, ai y.unclear]] (.tup [.agg (eMark m), ai a, ab true]) := by rw [← hnk]; exact c7
  have hkl : (nk : Int) < (keys.length : Int) := by omega
  have hkx : (keys.map eKey)[nk]? = some (eKey key) := by rw [List.getElem?_map, j1]; rfl
  have hkg : (keys.map eKey).getD nk [] = eKey key := by rw [List.getD_eq_getElem?_getD, hkx]; rfl
  by_cases hB : 0 < k1 ∧ y.time < (l.getD (k1 - 1) default).time
  · obtain ⟨h0, hzl⟩ := hB
    have hk0 : (0 < (k1 : Int)) = True := eq_true (by omega)
    have hkm : ((k1 : Int) - 1).toNat = k1 - 1 := by omega
    have hq0 : (0 ≤ (k1 : Int) - 1) = True := eq_true (by omega)
    have hq1 : ((k1 : Int) - 1 < (l.length : Int)) = True := eq_true (by omega)
    obtain ⟨z, hz⟩ : ∃ z, l[k1 - 1]? = some z := ⟨_, List.getElem?_eq_getElem (by omega)⟩
    have hzx : (l.map eHit)[k1 - 1]? = some (eHit z) := by rw [List.getElem?_map, hz]; rfl
    have hzg : (l.map eHit).getD (k1 - 1) [] = eHit z := by rw [List.getD_eq_getElem?_getD, hzx]; rfl
    rw [List.getD_eq_getElem?_getD, hz] at hzl
    replace hzl : (y.time < z.time) = True := eq_true hzl
    repeat' first
      | apply jA | apply jB | apply jC | apply jD | apply jE | apply jI | apply jJ
      | refine AW.draw (id := 11) cx_mixed [13, 14, 15] [10, 11] [s1.nx + 12] 16 (by decide +kernel) ?_
      | refine W.draw cx_mixed (by decide +kernel) ?_
      | ((first | (apply jK kO; decide) | (apply jL kO; decide; decide) | (apply jO; rfl; decide; decide) | apply jR); (simp (disch := omega) only [push_cast, simprocAttr, hS1, hZ1, hf1, hf2, hf3, hf8, hf9, hfA, hfB, hfr1, hkk, hxy, hgy, hnk, hkx, hkg, hkl, hk0, hkm, hq0, hq1, hzx, hzg, hzl] <;> rfl); all_goals try ((with_reducible intro hI); try first | (cases hI; done) | (simp only [INTS, zL] at hI; try first | (exfalso; omega) | (have hT : True := hI; clear hT hI))))
      | ((first | (apply D.store kO; decide) | (apply D.stept kO; decide; decide) | (apply D.stepm kO; decide; decide)); (simp (disch := omega) only [push_cast, simprocAttr, hS1, hZ1, hf1, hf2, hf3, hf8, hf9, hfA, hfB, hfr1, hkk, hxy, hgy, hnk, hkx, hkg, hkl, hk0, hkm, hq0, hq1, hzx, hzg, hzl] <;> rfl); try first | exact .inl rfl | exact .inr (by simp))
      | ((apply D.alloc kO; decide; decide); (simp (disch := omega) only [push_cast, simprocAttr, hS1, hZ1, hf1, hf2, hf3, hf8, hf9, hfA, hfB, hfr1, hkk, hxy, hgy, hnk, hkx, hkg, hkl, hk0, hkm, hq0, hq1, hzx, hzg, hzl] <;> rfl); (simp (disch := omega) only [push_cast, simprocAttr, hS1, hZ1, hf1, hf2, hf3, hf8, hf9, hfA, hfB, hfr1, hkk, hxy, hgy, hnk, hkx, hkg, hkl, hk0, hkm, hq0, hq1, hzx, hzg, hzl, updH_at]); (simp (disch := omega) only [push_cast, simprocAttr, hS1, hZ1, hf1, hf2, hf3, hf8, hf9, hfA, hfB, hfr1, hkk, hxy, hgy, hnk, hkx, hkg, hkl, hk0, hkm, hq0, hq1, hzx, hzg, hzl] <;> omega))
      | ((first | (apply jV kO; decide) | (apply jW kO; decide; decide)); (iterate 2 (simp (disch := omega) only [push_cast, simprocAttr, hS1, hZ1, hf1, hf2, hf3, hf8, hf9, hfA, hfB, hfr1, hkk, hxy, hgy, hnk, hkx, hkg, hkl, hk0, hkm, hq0, hq1, hzx, hzg, hzl] <;> rfl)); (with_reducible first | exact c7 | exact cR); try first | rfl | (simp (disch := omega) only [push_cast, simprocAttr, hS1, hZ1, hf1, hf2, hf3, hf8, hf9, hfA, hfB, hfr1, hkk, hxy, hgy, hnk, hkx, hkg, hkl, hk0, hkm, hq0, hq1, hzx, hzg, hzl] <;> rfl))
      | ((apply W.ret1); (iterate 2 (try (simp (disch := omega) only [push_cast, simprocAttr, hS1, hZ1, hf1, hf2, hf3, hf8, hf9, hfA, hfB, hfr1, hkk, hxy, hgy, hnk, hkx, hkg, hkl, hk0, hkm, hq0, hq1, hzx, hzg, hzl] <;> rfl))))

    all_goals (show _ = _; rfl)
  have hord : ∀ q, ((l.take k1).map (·.time)).length = q + 1 → ((l.take k1).map (·.time)).getD q 0 ≤ y.time := fun q hq => by
    rw [List.length_map, List.length_take] at hq
    obtain ⟨z, hz⟩ : ∃ z, l[k1 - 1]? = some z := ⟨_, List.getElem?_eq_getElem (by omega)⟩
    rw [List.getD_eq_getElem?_getD, hz] at hB
    have e : q = k1 - 1 := by omega
    rw [List.getD_eq_getElem?_getD, List.getElem?_map, List.getElem?_take, if_pos (by omega), e, hz]
    simp only [Option.getD_some] at hB
    show z.time ≤ y.time
    omega
  have hprev : ∃ z, ((0 < (k1 : Int)) = False ∧ (0 < (k1 : Int)) = False ∧ (0 < (k1 : Int)) = False ∧ (0 < (k1 : Int)) = False ∧ (0 < (k1 : Int)) = False ∧ (0 < (k1 : Int)) = False ∧ (0 < (k1 : Int)) = False) ∨
      ((0 < (k1 : Int)) = True ∧ ((k1 : Int) - 1).toNat = k1 - 1 ∧ (0 ≤ (k1 : Int) - 1) = True ∧ ((k1 : Int) - 1 < (l.length : Int)) = True ∧ (l.map eHit)[k1 - 1]? = some (eHit z) ∧ (l.map eHit).getD (k1 - 1) [] = eHit z ∧ (y.time < z.time) = False) := by
    rcases Nat.eq_zero_or_pos k1 with h0 | h0
    · have e : (0 < (k1 : Int)) = False := eq_false (by omega)
      exact ⟨y, .inl ⟨e, e, e, e, e, e, e⟩⟩
    · obtain ⟨z, hz⟩ : ∃ z, l[k1 - 1]? = some z := ⟨_, List.getElem?_eq_getElem (by omega)⟩
      have hzx : (l.map eHit)[k1 - 1]? = some (eHit z) := by rw [List.getElem?_map, hz]; rfl
      rw [List.getD_eq_getElem?_getD, hz] at hB
      exact ⟨z, .inr ⟨eq_true (by omega), by omega, eq_true (by omega), eq_true (by omega), hzx, by rw [List.getD_eq_getElem?_getD, hzx]; rfl, eq_false fun hh => hB ⟨h0, hh⟩⟩⟩
  obtain ⟨z, hprev⟩ := hprev
  rcases hprev with ⟨hk0, hkm, hq0, hq1, hzx, hzg, hzl⟩ | ⟨hk0, hkm, hq0, hq1, hzx, hzg, hzl⟩
  all_goals
    by_cases hyt : y.time < t
    · replace hyt : (y.time < t) = True := eq_true hyt
      repeat' first
        | apply jA | apply jB | apply jC | apply jD | apply jE | apply jI | apply jJ
        | refine AW.draw (id := 11) cx_mixed [13, 14, 15] [10, 11] [s1.nx + 12] 16 (by decide +kernel) ?_
        | refine W.draw cx_mixed (by decide +kernel) ?_
        | ((first | (apply jK kO; decide) | (apply jL kO; decide; decide) | (apply jO; rfl; decide; decide) | apply jR); (simp (disch := omega) only [push_cast, simprocAttr, hS1, hZ1, hf1, hf2, hf3, hf8, hf9, hfA, hfB, hfr1, hkk, hxy, hgy, hnk, hkx, hkg, hkl, hk0, hkm, hq0, hq1, hzx, hzg, hzl, hyt] <;> rfl); all_goals try ((with_reducible intro hI); try first | (cases hI; done) | (simp only [INTS, zL] at hI; try first | (exfalso; omega) | (have hT : True := hI; clear hT hI))))
        | ((first | (apply D.store kO; decide) | (apply D.stept kO; decide; decide) | (apply D.stepm kO; decide; decide)); (simp (disch := omega) only [push_cast, simprocAttr, hS1, hZ1, hf1, hf2, hf3, hf8, hf9, hfA, hfB, hfr1, hkk, hxy, hgy, hnk, hkx, hkg, hkl, hk0, hkm, hq0, hq1, hzx, hzg, hzl, hyt] <;> rfl); try first | exact .inl rfl | exact .inr (by simp))
        | ((apply D.alloc kO; decide; decide); (simp (disch := omega) only [push_cast, simprocAttr, hS1, hZ1, hf1, hf2, hf3, hf8, hf9, hfA, hfB, hfr1, hkk, hxy, hgy, hnk, hkx, hkg, hkl, hk0, hkm, hq0, hq1, hzx, hzg, hzl, hyt] <;> rfl); (simp (disch := omega) only [push_cast, simprocAttr, hS1, hZ1, hf1, hf2, hf3, hf8, hf9, hfA, hfB, hfr1, hkk, hxy, hgy, hnk, hkx, hkg, hkl, hk0, hkm, hq0, hq1, hzx, hzg, hzl, hyt, updH_at]); (simp (disch := omega) only [push_cast, simprocAttr, hS1, hZ1, hf1, hf2, hf3, hf8, hf9, hfA, hfB, hfr1, hkk, hxy, hgy, hnk, hkx, hkg, hkl, hk0, hkm, hq0, hq1, hzx, hzg, hzl, hyt] <;> omega))
        | ((first | (apply jV kO; decide) | (apply jW kO; decide; decide)); (iterate 2 (simp (disch := omega) only [push_cast, simprocAttr, hS1, hZ1, hf1, hf2, hf3, hf8, hf9, hfA, hfB, hfr1, hkk, hxy, hgy, hnk, hkx, hkg, hkl, hk0, hkm, hq0, hq1, hzx, hzg, hzl, hyt] <;> rfl)); (with_reducible first | exact c7 | exact cR); try first | rfl | (simp (disch := omega) only [push_cast, simprocAttr, hS1, hZ1, hf1, hf2, hf3, hf8, hf9, hfA, hfB, hfr1, hkk, hxy, hgy, hnk, hkx, hkg, hkl, hk0, hkm, hq0, hq1, hzx, hzg, hzl, hyt] <;> rfl))
        | ((apply W.ret1); (iterate 2 (try (simp (disch := omega) only [push_cast, simprocAttr, hS1, hZ1, hf1, hf2, hf3, hf8, hf9, hfA, hfB, hfr1, hkk, hxy, hgy, hnk, hkx, hkg, hkl, hk0, hkm, hq0, hq1, hzx, hzg, hzl, hyt] <;> rfl))))

      all_goals (show _ = _; rfl)
    have hty : t ≤ y.time := by omega
    replace hyt : (y.time < t) = False := eq_false hyt
    have hslip := (Ds.inkV_iff.1 j6).2.2.1
    obtain ⟨n1, n2, n3, n4, n5, n6⟩ := Ks.needle_in hp j4
    have hhas : Ds.hasF (Ds.wideF m.arc ink.slip) a = true := by rw [j9]; exact Ds.blur_has j8 hslip j7
    repeat' first
      | refine AW.seqS (y := tailM) ?_ | apply jA | apply jB | apply jD | apply jE | apply jI | apply jJ
      | refine AW.draw (id := 11) cx_mixed [13, 14, 15] [10, 11] [s1.nx + 12] 16 (by decide +kernel) ?_
      | refine W.draw cx_mixed (by decide +kernel) ?_
      | ((first | (apply jK kO; decide) | (apply jL kO; decide; decide) | (apply jO; rfl; decide; decide) | apply jR); (simp (disch := omega) only [push_cast, simprocAttr, hS1, hZ1, hf1, hf2, hf3, hf8, hf9, hfA, hfB, hfr1, hkk, hxy, hgy, hnk, hkx, hkg, hkl, hk0, hkm, hq0, hq1, hzx, hzg, hzl, hyt] <;> rfl); all_goals try ((with_reducible intro hI); try first | (cases hI; done) | (simp only [INTS, zL] at hI; try first | (exfalso; omega) | (have hT : True := hI; clear hT hI))))
      | ((first | (apply D.store kO; decide) | (apply D.stept kO; decide; decide) | (apply D.stepm kO; decide; decide)); (simp (disch := omega) only [push_cast, simprocAttr, hS1, hZ1, hf1, hf2, hf3, hf8, hf9, hfA, hfB, hfr1, hkk, hxy, hgy, hnk, hkx, hkg, hkl, hk0, hkm, hq0, hq1, hzx, hzg, hzl, hyt] <;> rfl); try first | exact .inl rfl | exact .inr (by simp))
      | ((apply D.alloc kO; decide; decide); (simp (disch := omega) only [push_cast, simprocAttr, hS1, hZ1, hf1, hf2, hf3, hf8, hf9, hfA, hfB, hfr1, hkk, hxy, hgy, hnk, hkx, hkg, hkl, hk0, hkm, hq0, hq1, hzx, hzg, hzl, hyt] <;> rfl); (simp (disch := omega) only [push_cast, simprocAttr, hS1, hZ1, hf1, hf2, hf3, hf8, hf9, hfA, hfB, hfr1, hkk, hxy, hgy, hnk, hkx, hkg, hkl, hk0, hkm, hq0, hq1, hzx, hzg, hzl, hyt, updH_at]); (simp (disch := omega) only [push_cast, simprocAttr, hS1, hZ1, hf1, hf2, hf3, hf8, hf9, hfA, hfB, hfr1, hkk, hxy, hgy, hnk, hkx, hkg, hkl, hk0, hkm, hq0, hq1, hzx, hzg, hzl, hyt] <;> omega))
      | ((apply jW kO; decide; decide); (iterate 2 (simp (disch := omega) only [push_cast, simprocAttr, hS1, hZ1, hf1, hf2, hf3, hf8, hf9, hfA, hfB, hfr1, hkk, hxy, hgy, hnk, hkx, hkg, hkl, hk0, hkm, hq0, hq1, hzx, hzg, hzl, hyt] <;> rfl)); (with_reducible exact c7); try first | rfl | (simp (disch := omega) only [push_cast, simprocAttr, hS1, hZ1, hf1, hf2, hf3, hf8, hf9, hfA, hfB, hfr1, hkk, hxy, hgy, hnk, hkx, hkg, hkl, hk0, hkm, hq0, hq1, hzx, hzg, hzl, hyt] <;> rfl))

    all_goals (refine Pg.Stop.mk (mid_ok h F t steps ses x keys ink l wall PL k1 ls1 la1 S1 A1 pl y key m a nk (s1.nx + 12) ?_ ?_ hp11 hp21 hp31 hp41 hk b1 b0 hxy hgy hPL hPLg (by rw [hpl0]; exact hty) z1 z2 z3 hslip ⟨n1, n2⟩ hhas hnk hkx hkg hkl ?_ ⟨?_, ?_, ?_, ?_, ?_, ?_, ?_, ?_, ?_, ?_, ?_, ?_, ?_, ?_, ?_, ?_, ?_, ?_, ?_, ?_, ?_, ?_, ?_⟩))
    · intro s hs
      exact (W.ret1 (by rw [hs]; rfl) rfl : endQ [20] (fun x => x = ab true) .ret s)
    · intro j2 e1 e2 e3 hst p hpp hin s2 hnx2 hS2
      have htk : (l.take (k1 + 1)).map (·.time) = (l.take k1).map (·.time) ++ [y.time] := by rw [List.take_add_one, hy, List.map_append]; rfl
      have hT' : Ks.Told ses x (S1 ++ [⟨(k1 : Int) + 1, p⟩]) ((l.take (k1 + 1)).map (·.time)) := by
        have := hp51.snoc hpp j4 hin hord
        rw [hp11] at this
        rw [htk]
        exact this
      have hA' : ∀ (i : Nat) (y' : Hit) (a' : Int), i < k1 + 1 → l[i]? = some y' → (A1 ++ [(pl j2).1])[i]? = some a' → At steps pl y'.time a' := fun i y' a' hi h1 h2 => by
        rcases Nat.lt_succ_iff_lt_or_eq.1 hi with h3 | h3
        · rw [List.getElem?_append_left (by omega)] at h2
          exact hp61 i y' a' h3 h1 h2
        · subst h3
          rw [hy] at h1
          rw [List.getElem?_append_right (by omega), hp21, Nat.sub_self] at h2
          injection h1 with h1
          injection h2 with h2
          subst h1
          exact ⟨j2, e1, h2.symm, e2, e3, hst⟩
      change AW cx 404 _ _ s2
      repeat' first
        | apply jB | apply jI
        | ((apply jK kO; decide); (simp (disch := omega) only [push_cast, simprocAttr, hS2, hf1, hf2, hf3, hf8, hf9, hfA, hfB] <;> rfl))

      all_goals (refine ⟨l.length - (k1 + 1), ?_, k1 + 1, (k1 + 1), (k1 + 1), (S1 ++ [⟨(k1 : Int) + 1, p⟩]), (A1 ++ [(pl j2).1]), rfl, (by omega), (by rw [List.length_append, hp11]; rfl), (by rw [List.length_append, hp21]; rfl), (Nat.le_refl _), (Nat.le_refl _), hT', hA', ?_, ?_, ?_, ?_, ?_, ?_, ?_, ?_, ?_, ?_, ?_, ?_, ?_, ?_, ?_, ?_, ?_, ?_, ?_, ?_, ?_, ?_⟩; ((omega)); all_goals first | (simp (disch := omega) only [push_cast, simprocAttr, hS2, hf1, hf2, hf3, hf8, hf9, hfA, hfB] <;> first | rfl | omega) | omega)
    all_goals first | (simp (disch := omega) only [push_cast, simprocAttr, hS1, hZ1, hf1, hf2, hf3, hf8, hf9, hfA, hfB, hfr1, hkk, hxy, hgy, hnk, hkx, hkg, hkl, hk0, hkm, hq0, hq1, hzx, hzg, hzl, hyt] <;> first | rfl | omega) | (constructor <;> first | omega | (simp (disch := omega) only [push_cast, simprocAttr, hS1, hZ1, hf1, hf2, hf3, hf8, hf9, hfA, hfB, hfr1, hkk, hxy, hgy, hnk, hkx, hkg, hkl, hk0, hkm, hq0, hq1, hzx, hzg, hzl, hyt] <;> omega))
end Go.Proofs.Yt

set_option maxRecDepth 100000
namespace Go.Proofs.Yt
open Go Go.Pg Go.Proofs Go.ChangeShapes Go.WideShapes Go.RowKit
open Go.Proofs.Ks (Reads Old i3 arg_one eInt)
section
variable {H : Type} {enc : TypeId × Value → H} {W : World} {spare : Nat → Bool} {held : Bool}
theorem blow_reads : Reads enc W spare held 58 Ds.eBlow (fun _ => True) := by
  intro fuel cs x h
  obtain ⟨xs, n, _, _, hl, hn, hf⟩ := DataW.trod_struct Tryz.underlying58 h
  have hn' : xs.length = 3 := hn
  obtain ⟨a0, _, c0, u0, h0, r0⟩ := Reads.field (e := fun n : Int => ai n) i3 (hf 0 _ rfl) (by omega)
  obtain ⟨a1, _, c1, u1, h1, r1⟩ := Reads.field (e := fun n : Int => ai n) i3 (hf 1 _ rfl) (by omega)
  obtain ⟨a2, _, c2, u2, h2, r2⟩ := Reads.field (e := fun n : Int => ai n) i3 (hf 2 _ rfl) (by omega)
  refine ⟨⟨a0, a1, a2⟩, trivial, hl.trans (by kernel_rfl), by simp [c0, c1, c2], ?_⟩
  simp only [RepL]
  exact ⟨⟨u0, h0, r0⟩, ⟨u1, h1, r1⟩, ⟨u2, h2, r2⟩, trivial⟩
theorem hit_reads : Reads enc W spare held 60 eHit (fun _ => True) := by
  intro fuel cs x h
  obtain ⟨xs, n, _, _, hl, hn, hf⟩ := DataW.trod_struct Tryz.underlying60 h
  have hn' : xs.length = 5 := hn
  obtain ⟨a0, _, c0, u0, h0, r0⟩ := Reads.field (e := fun n : Int => ai n) i3 (hf 0 _ rfl) (by omega)
  obtain ⟨a1, _, c1, u1, h1, r1⟩ := Reads.field (e := fun n : Int => ai n) i3 (hf 1 _ rfl) (by omega)
  obtain ⟨a2, _, c2, r2⟩ := Reads.fieldM (e := Ds.eBlow) blow_reads (hf 2 _ rfl) (by omega)
  obtain ⟨a3, _, c3, u3, h3, r3⟩ := Reads.field (e := fun n : Int => ai n) i3 (hf 3 _ rfl) (by omega)
  obtain ⟨a4, _, c4, u4, h4, r4⟩ := Reads.field (e := fun n : Int => ai n) i3 (hf 4 _ rfl) (by omega)
  refine ⟨⟨a0, a1, a2, a3, a4⟩, trivial, hl.trans (by kernel_rfl), by simp [AV.cell, Value.oneCell'], ?_⟩
  simp only [RepL] at r2 ⊢
  obtain ⟨⟨v0, k0, p0⟩, ⟨v1, k1, p1⟩, ⟨v2, k2, p2⟩, _⟩ := r2
  exact ⟨⟨u0, h0, r0⟩, ⟨u1, h1, r1⟩, ⟨v0, k0, p0⟩, ⟨v1, k1, p1⟩, ⟨v2, k2, p2⟩, ⟨u3, h3, r3⟩, ⟨u4, h4, r4⟩, trivial⟩
variable {r : Reach} {base : Nat} {v : Value} {d : DataW H} {ps : List MemPlace}
theorem arg_hits (hv : Value.okWide Tryz.prog W r base 39 v) (h : DataW.Trod enc Tryz.prog W 0 spare held 39 v d ps) : ∃ l : List Hit, l.length ≤ 9223372036854775807 ∧ Rep (pureSg (Old W)) W (.lst (l.map eHit)) v := by
  obtain ⟨a, len, cap, rfl⟩ := okWide_slice Tryz.underlying39 hv
  obtain ⟨l, g, h⟩ := arg_one (e := fun l : List Hit => .lst (l.map eHit)) (Reads.slice Tryz.underlying39 (k := 7) (by kernel_rfl) (by decide) (fun _ => rfl) hit_reads) rfl h
  exact ⟨l, g.2, h⟩
end
end Go.Proofs.Yt
