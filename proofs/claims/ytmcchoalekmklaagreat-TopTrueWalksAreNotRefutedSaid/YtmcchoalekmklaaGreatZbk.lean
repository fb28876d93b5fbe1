/-
  Contracts of functions, proved by going through their code. No conditions.
-/
import Derived.Test.YtmcchoalekmklaaGreatZba
import Derived.Test.YtmcchoalekmklaaGreatZbj
set_option linter.unusedVariables false
set_option linter.unusedSimpArgs false
set_option maxHeartbeats 8000000
set_option maxRecDepth 10000
namespace Go.Proofs.Yt
open Go Go.Pg Go.Proofs
open Go.Proofs.Hs (House Step eHouse eStep)
open Go.Proofs.Ks (Session Run Span Strike eSession eRun eSpan lSpan eStrike lStrike lSight lStop eStop lLeg eLeg eInt lInt takeM dropM leT isEmpty_map getD_map get_map drop_cons drop_nil playsE needleP Plays_ok Spans_ok spansQ spansP)
open Go.Proofs.Ds (Ink Blow eKey eInk eBlow eMark rowAt_aftF)
attribute [local push_cast] Bool.and_false Bool.and_self Bool.and_true Bool.false_and Bool.false_eq_true Bool.not_false Bool.not_true Bool.true_and List.append_nil List.cons_append List.length_nil List.map_nil List.mem_cons List.nil_append List.not_mem_nil Nat.add_assoc St.back TyD.isAgg idsA idsL natNe
attribute [local push_cast] Option.map_some idsLL if_false if_true or_true rowAt_aftF true_or
theorem end_ok (h : House) (F t : Int) (steps : List Step) (ses : Session) (x : Run) (keys : List Ds.Key) (ink : Ink) (l : List Hit) (wall : List Int) (PL : List (Int × Int)) (k1 ls1 la1 : Nat) (S1 : List Strike) (A1 : List Int) (y : Hit) (a0 b0 : Int) (p : Span) (j2 sp : Nat) {Q : Exit → St → Prop} (hret : ∀ s : St, s.tm 20 = ab true → Q .ret s) (hnorm : (∀ st, steps[j2]? = some st → y.time ≤ st.at') → ∀ s : St, 7 ≤ s.nx → (s.tm 1 = ai F ∧ s.tm 2 = ai t ∧ s.tm 3 = .lst (steps.map eStep) ∧ s.tm 6 = lKey keys ∧ s.tm 8 = .lst (l.map eHit) ∧ s.tm 9 = lInt wall ∧ s.tm 10 = .ptr 0 0 0 1 ∧ s.tm 14 = .ptr 1 0 0 1 ∧ s.tm 15 = .ptr 2 0 0 1 ∧ s.tm 17 = .ptr 3 0 0 1 ∧ s.tm 21 = .lst (PL.map ePl) ∧ s.tm 23 = .ptr 4 0 0 1 ∧ s.tm 24 = .ref 6 0 (k1 + 1) ∧ s.tm 25 = ai k1 ∧ Pg.rowAt s.H (0) = some ({ k := 3, es := [eHouse h], ty := 26 }) ∧ Pg.rowAt s.H (1) = some ({ k := 12, es := [eSession ses], ty := 32 }) ∧ Pg.rowAt s.H (2) = some ({ k := 3, es := [eRun x], ty := 35 }) ∧ Pg.rowAt s.H (3) = some ({ k := 3, es := [eInk ink], ty := 38 }) ∧ Pg.rowAt s.H (4) = some ({ k := 14, es := [[ai ses.id, ai ses.inn.lo, ai ses.inn.hi, ai ses.out.lo, ai ses.out.hi, ai ses.zero.lo, ai ses.zero.hi, ai ses.fin.lo, ai ses.fin.hi, ai ses.rate.lo, ai ses.rate.hi, lStop ses.stops, .ref 5 0 (k1 + 1), .v (.slice none 0 0)]], ty := 50 }) ∧ Pg.rowAt s.H (5) = some ({ k := 3, es := (S1 ++ [(⟨(k1 : Int) + 1, p⟩ : Strike)]).map eStrike, ty := 70, lo := (k1 + 1) }) ∧ Pg.rowAt s.H (6) = some ({ k := 1, es := (A1 ++ [a0]).map eInt, ty := 3, lo := (k1 + 1) })) → Q .normal s) (hS1 : S1.length = k1) (hA1 : A1.length = k1) (hls : ls1 ≤ k1) (hla : la1 ≤ k1) (hk : k1 < l.length) (hl6 : l.length ≤ 6) (hs20 : steps.length ≤ 20) (hxy : (l.map eHit)[k1]? = some (eHit y)) (hgy : (l.map eHit).getD k1 [] = eHit y)
    (hPL : PL.length = steps.length + 1) (hj : j2 ≤ steps.length) (hPx : (PL.map ePl)[j2]? = some [ai a0, ai b0]) (hPg : (PL.map ePl).getD j2 [] = [ai a0, ai b0]) {s : St} (hsp : 7 ≤ sp ∧ sp < s.nx) (hS : s.tm 1 = ai F ∧ s.tm 2 = ai t ∧ s.tm 3 = .lst (steps.map eStep) ∧ s.tm 6 = lKey keys ∧ s.tm 8 = .lst (l.map eHit) ∧ s.tm 9 = lInt wall ∧ s.tm 10 = .ptr 0 0 0 1 ∧ s.tm 14 = .ptr 1 0 0 1 ∧ s.tm 15 = .ptr 2 0 0 1 ∧ s.tm 17 = .ptr 3 0 0 1 ∧ s.tm 21 = .lst (PL.map ePl) ∧ s.tm 23 = .ptr 4 0 0 1 ∧ s.tm 24 = .ref 6 0 k1 ∧ s.tm 25 = ai k1 ∧ s.tm 29 = .ptr sp 0 0 1 ∧ s.tm 31 = ai j2 ∧ Pg.rowAt s.H (0) = some ({ k := 3, es := [eHouse h], ty := 26 }) ∧ Pg.rowAt s.H (1) = some ({ k := 12, es := [eSession ses], ty := 32 }) ∧ Pg.rowAt s.H (2) = some ({ k := 3, es := [eRun x], ty := 35 }) ∧ Pg.rowAt s.H (3) = some ({ k := 3, es := [eInk ink], ty := 38 }) ∧ Pg.rowAt s.H (4) = some ({ k := 14, es := [[ai ses.id, ai ses.inn.lo, ai ses.inn.hi, ai ses.out.lo, ai ses.out.hi, ai ses.zero.lo, ai ses.zero.hi, ai ses.fin.lo, ai ses.fin.hi, ai ses.rate.lo, ai ses.rate.hi, lStop ses.stops, .ref 5 0 k1, .v (.slice none 0 0)]], ty := 50 }) ∧ Pg.rowAt s.H (5) = some ({ k := 3, es := S1.map eStrike, ty := 70, lo := ls1 }) ∧ Pg.rowAt s.H (6) = some ({ k := 1, es := A1.map eInt, ty := 3, lo := la1 }) ∧ Pg.rowAt s.H (sp) = some ({ k := 2, es := [eSpan p], ty := 29 })) : AW cx 404 tailE Q s := by
  have hf1 : ∀ l x, flatA (.tup [.lst l, .v x]) = false := fun _ _ => rfl
  have hf2 : ∀ l, flatA (.lst l) = false := fun _ => rfl
  have hf3 : ∀ x, flatA (.v x) = true := fun _ => rfl
  have hf8 : ∀ x y, flatA (.tup [.v x, .v y]) = true := fun _ _ => rfl
  have hf9 : ∀ l x, flatA (.tup [.lst l, .v x]) = false := fun _ _ => rfl
  have hfA : ∀ a b c d e f g, flatA (.tup [.agg [.v a, .v b, .v c, .v d, .v e], .v f, .v g]) = true := fun _ _ _ _ _ _ _ => rfl
  have hfB : ∀ a b c, flatA (.tup [.agg [.v a, .v b], .v c]) = true := fun _ _ _ => rfl
  have cR := rooms_ok
  have hZ : (0 : Nat) ≠ s.nx ∧ s.nx ≠ (0 : Nat) ∧ (1 : Nat) ≠ s.nx ∧ s.nx ≠ (1 : Nat) ∧ (2 : Nat) ≠ s.nx ∧ s.nx ≠ (2 : Nat) ∧ (3 : Nat) ≠ s.nx ∧ s.nx ≠ (3 : Nat) ∧ (4 : Nat) ≠ s.nx ∧ s.nx ≠ (4 : Nat) ∧ (5 : Nat) ≠ s.nx ∧ s.nx ≠ (5 : Nat) ∧ (6 : Nat) ≠ s.nx ∧ s.nx ≠ (6 : Nat) ∧ (sp : Nat) ≠ s.nx ∧ s.nx ≠ (sp : Nat) := by omega
  have hkk : (k1 : Int) < (l.length : Int) := by omega
  have hPl2 : ((j2 : Int) < (PL.length : Int)) = True := eq_true (by omega)
  suffices hgoal : AW cx 404 tailE (fun e s => Pg.Stop (Q e s)) s from AW.mono hgoal fun e s' h => h.get
  delta tailE tailM bodyB
  simp only [Tryz.f3, Option.getD_some, dropS, inB, fstS]
  by_cases hbad : ∃ st, steps[j2]? = some st ∧ st.at' < y.time
  · obtain ⟨st, hst, hsl⟩ := hbad
    have hjs : j2 < steps.length := (List.getElem?_eq_some_iff.1 hst).1
    have hc0 : ((j2 : Int) + 1 < (PL.length : Int)) = True := eq_true (by omega)
    have hjj : ((j2 : Int) < (steps.length : Int)) = True := eq_true (by omega)
    have hsx : (steps.map eStep)[j2]? = some (eStep st) := by rw [List.getElem?_map, hst]; rfl
    have hsg : (steps.map eStep).getD j2 [] = eStep st := by rw [List.getD_eq_getElem?_getD, hsx]; rfl
    replace hsl : (st.at' < y.time) = True := eq_true hsl
    repeat' first
      | apply jA | apply jB | apply jC | apply jI | apply jJ
      | refine W.draw cx_mixed (by decide +kernel) ?_
      | ((first | (apply jK kO; decide) | (apply jL kO; decide; decide) | (apply jO; rfl; decide; decide) | apply jR); (simp (disch := omega) only [push_cast, simprocAttr, hS, hZ, hkk, hxy, hgy, hf1, hf2, hf3, hf8, hf9, hfA, hfB, hc0, hjj, hsx, hsg, hsl] <;> rfl); all_goals try ((with_reducible intro hI); try first | (cases hI; done) | (simp only [INTS, zL] at hI; try first | (exfalso; omega) | (have hT : True := hI; clear hT hI))))
      | ((apply jV kO; decide); (iterate 2 (simp (disch := omega) only [push_cast, simprocAttr, hS, hZ, hkk, hxy, hgy, hf1, hf2, hf3, hf8, hf9, hfA, hfB, hc0, hjj, hsx, hsg, hsl] <;> rfl)); (with_reducible exact cR); try first | rfl | (simp (disch := omega) only [push_cast, simprocAttr, hS, hZ, hkk, hxy, hgy, hf1, hf2, hf3, hf8, hf9, hfA, hfB, hc0, hjj, hsx, hsg, hsl] <;> rfl))

    all_goals (refine Pg.Stop.mk (hret _ ?_); (simp (disch := omega) only [push_cast, simprocAttr, hS, hZ, hf1, hf2, hf3, hf8, hf9, hfA, hfB] <;> rfl))
  have hst' : ∀ st, steps[j2]? = some st → y.time ≤ st.at' := fun st hst => by
    rcases Int.lt_or_le st.at' y.time with h5 | h5
    · exact absurd ⟨st, hst, h5⟩ hbad
    · exact h5
  have hfin := hnorm hst'
  by_cases hjs : j2 < steps.length
  · obtain ⟨st, hst⟩ : ∃ st, steps[j2]? = some st := ⟨_, List.getElem?_eq_getElem hjs⟩
    have hc0 : ((j2 : Int) + 1 < (PL.length : Int)) = True := eq_true (by omega)
    have hjj : ((j2 : Int) < (steps.length : Int)) = True := eq_true (by omega)
    have hsx : (steps.map eStep)[j2]? = some (eStep st) := by rw [List.getElem?_map, hst]; rfl
    have hsg : (steps.map eStep).getD j2 [] = eStep st := by rw [List.getD_eq_getElem?_getD, hsx]; rfl
    have hsl : (st.at' < y.time) = False := eq_false fun hh => hbad ⟨st, hst, hh⟩
    repeat' first
      | refine AW.seqS (y := tailF) ?_ | apply jA | apply jE | apply jJ
      | refine W.draw cx_mixed (by decide +kernel) ?_
      | ((first | (apply jL kO; decide; decide) | (apply jO; rfl; decide; decide) | apply jR); (simp (disch := omega) only [push_cast, simprocAttr, hS, hZ, hkk, hxy, hgy, hf1, hf2, hf3, hf8, hf9, hfA, hfB, hc0, hjj, hsx, hsg, hsl] <;> rfl); all_goals try ((with_reducible intro hI); try first | (cases hI; done) | (simp only [INTS, zL] at hI; try first | (exfalso; omega) | (have hT : True := hI; clear hT hI))))

    all_goals (refine Pg.Stop.mk (fin_ok h F t steps ses x keys ink l wall PL k1 ls1 la1 S1 A1 a0 b0 p j2 sp (Q := fun e s => Pg.Stop (Q e s)) (fun s h1 h2 => Pg.Stop.mk (hfin s h1 h2)) hS1 hA1 hls hla hk hl6 hs20 hPx hPg hPl2 ?_ ⟨?_, ?_, ?_, ?_, ?_, ?_, ?_, ?_, ?_, ?_, ?_, ?_, ?_, ?_, ?_, ?_, ?_, ?_, ?_, ?_, ?_, ?_, ?_, ?_⟩); all_goals first | (simp (disch := omega) only [push_cast, simprocAttr, hS, hZ, hf1, hf2, hf3, hf8, hf9, hfA, hfB] <;> first | rfl | omega) | (constructor <;> first | omega | (simp (disch := omega) only [push_cast, simprocAttr, hS, hZ, hf1, hf2, hf3, hf8, hf9, hfA, hfB] <;> omega)))
  have hc0 : ((j2 : Int) + 1 < (PL.length : Int)) = False := eq_false (by omega)
  repeat' first
    | refine AW.seqS (y := tailF) ?_ | apply jA | apply jE | apply jJ
    | refine W.draw cx_mixed (by decide +kernel) ?_
    | ((first | (apply jL kO; decide; decide) | (apply jO; rfl; decide; decide) | apply jR); (simp (disch := omega) only [push_cast, simprocAttr, hS, hZ, hkk, hxy, hgy, hf1, hf2, hf3, hf8, hf9, hfA, hfB, hc0] <;> rfl); all_goals try ((with_reducible intro hI); try first | (cases hI; done) | (simp only [INTS, zL] at hI; try first | (exfalso; omega) | (have hT : True := hI; clear hT hI))))

  all_goals (refine Pg.Stop.mk (fin_ok h F t steps ses x keys ink l wall PL k1 ls1 la1 S1 A1 a0 b0 p j2 sp (Q := fun e s => Pg.Stop (Q e s)) (fun s h1 h2 => Pg.Stop.mk (hfin s h1 h2)) hS1 hA1 hls hla hk hl6 hs20 hPx hPg hPl2 ?_ ⟨?_, ?_, ?_, ?_, ?_, ?_, ?_, ?_, ?_, ?_, ?_, ?_, ?_, ?_, ?_, ?_, ?_, ?_, ?_, ?_, ?_, ?_, ?_, ?_⟩); all_goals first | (simp (disch := omega) only [push_cast, simprocAttr, hS, hZ, hf1, hf2, hf3, hf8, hf9, hfA, hfB] <;> first | rfl | omega) | (constructor <;> first | omega | (simp (disch := omega) only [push_cast, simprocAttr, hS, hZ, hf1, hf2, hf3, hf8, hf9, hfA, hfB] <;> omega)))
end Go.Proofs.Yt

namespace Go.Proofs.Yt
open Go Go.Pg Go.Proofs
open Go.Proofs.Hs (House Step eHouse eStep)
open Go.Proofs.Ks (Session Run Span Strike eSession eRun eSpan lSpan eStrike lStrike lSight lStop eStop lLeg eLeg eInt lInt takeM dropM leT isEmpty_map getD_map get_map drop_cons drop_nil playsE needleP Plays_ok Spans_ok spansQ spansP)
open Go.Proofs.Ds (Ink Blow eKey eInk eBlow eMark rowAt_aftF)
attribute [local push_cast] Bool.and_false Bool.and_self Bool.and_true Bool.false_and Bool.false_eq_true Bool.not_false Bool.not_true Bool.true_and List.append_nil List.cons_append List.length_nil List.map_nil List.mem_cons List.nil_append List.not_mem_nil Nat.add_assoc St.back TyD.isAgg idsA idsL natNe
attribute [local push_cast] Option.map_some idsLL if_false if_true or_true rowAt_aftF true_or
theorem AW.post {K I : St → Prop} {C : Cx} {N id : Nat} {c : Code} {Q : Exit → St → Prop} {s : St} (hK : ∀ s, I s → K s) (h : AW C N c (blockQ id (thenQ I Q)) s) : AW C N c (blockQ id (thenQ K Q)) s := by
  refine AW.mono h fun e s' hq => ?_
  cases e with
  | normal => exact hK _ hq
  | exit id' =>
    simp only [blockQ] at hq ⊢
    split
    · rename_i he; rw [if_pos he] at hq; exact hK _ hq
    · rename_i he; rw [if_neg he] at hq; exact hq
  | ret => exact hq
  | goto l => exact hq
  | panic c => exact hq
  | outgrown => exact hq
theorem mid_ok (h : House) (F t : Int) (steps : List Step) (ses : Session) (x : Run) (keys : List Ds.Key) (ink : Ink) (l : List Hit) (wall : List Int) (PL : List (Int × Int)) (k1 ls1 la1 : Nat) (S1 : List Strike) (A1 : List Int) (pl : Nat → Int × Int) (y : Hit) (key : Ds.Key) (m : Ds.Mark) (a : Int) (nk mk : Nat) {Q : Exit → St → Prop} (hret : ∀ s : St, s.tm 20 = ab true → Q .ret s) (hnorm : ∀ j2, j2 ≤ steps.length → (pl j2).2 ≤ y.time → (∀ q, j2 < q → q ≤ steps.length → y.time < (pl q).2) → (∀ st, steps[j2]? = some st → y.time ≤ st.at') → ∀ p : Span, ses.zero.lo ≤ p.lo ∧ p.lo ≤ p.hi ∧ p.hi ≤ ses.fin.hi → p.lo ≤ a ∧ a ≤ p.hi → ∀ s : St, 7 ≤ s.nx → (s.tm 1 = ai F ∧ s.tm 2 = ai t ∧ s.tm 3 = .lst (steps.map eStep) ∧ s.tm 6 = lKey keys ∧ s.tm 8 = .lst (l.map eHit) ∧ s.tm 9 = lInt wall ∧ s.tm 10 = .ptr 0 0 0 1 ∧ s.tm 14 = .ptr 1 0 0 1 ∧ s.tm 15 = .ptr 2 0 0 1 ∧ s.tm 17 = .ptr 3 0 0 1 ∧ s.tm 21 = .lst (PL.map ePl) ∧ s.tm 23 = .ptr 4 0 0 1 ∧ s.tm 24 = .ref 6 0 (k1 + 1) ∧ s.tm 25 = ai k1 ∧ Pg.rowAt s.H (0) = some ({ k := 3, es := [eHouse h], ty := 26 }) ∧ Pg.rowAt s.H (1) = some ({ k := 12, es := [eSession ses], ty := 32 }) ∧ Pg.rowAt s.H (2) = some ({ k := 3, es := [eRun x], ty := 35 }) ∧ Pg.rowAt s.H (3) = some ({ k := 3, es := [eInk ink], ty := 38 }) ∧ Pg.rowAt s.H (4) = some ({ k := 14, es := [[ai ses.id, ai ses.inn.lo, ai ses.inn.hi, ai ses.out.lo, ai ses.out.hi, ai ses.zero.lo, ai ses.zero.hi, ai ses.fin.lo, ai ses.fin.hi, ai ses.rate.lo, ai ses.rate.hi, lStop ses.stops, .ref 5 0 (k1 + 1), .v (.slice none 0 0)]], ty := 50 }) ∧ Pg.rowAt s.H (5) = some ({ k := 3, es := (S1 ++ [(⟨(k1 : Int) + 1, p⟩ : Strike)]).map eStrike, ty := 70, lo := (k1 + 1) }) ∧ Pg.rowAt s.H (6) = some ({ k := 1, es := (A1 ++ [(pl j2).1]).map eInt, ty := 3, lo := (k1 + 1) })) → Q .normal s) (hS1 : S1.length = k1) (hA1 : A1.length = k1) (hls : ls1 ≤ k1) (hla : la1 ≤ k1) (hk : k1 < l.length) (hl6 : l.length ≤ 6) (hs20 : steps.length ≤ 20) (hxy : (l.map eHit)[k1]? = some (eHit y)) (hgy : (l.map eHit).getD k1 [] = eHit y)
    (hPL : PL.length = steps.length + 1) (hPLg : ∀ i, i ≤ steps.length → PL[i]? = some (pl i)) (hpl0 : (pl 0).2 ≤ y.time) (hz1 : 0 ≤ ses.zero.lo) (hz2 : ses.zero.lo ≤ ses.fin.hi) (hz3 : ses.fin.hi ≤ 43199) (hsl : 0 ≤ ink.slip)
    (ha : ses.zero.lo ≤ a ∧ a ≤ ses.fin.hi) (hm : Ds.hasF (Ds.wideF m.arc ink.slip) a = true) (hnk : y.key = (nk : Int)) (hkx : (keys.map eKey)[nk]? = some (eKey key)) (hkg : (keys.map eKey).getD nk [] = eKey key) (hkl : (nk : Int) < (keys.length : Int))
    {s0 : St} (hmk : 7 ≤ mk ∧ mk < s0.nx) (hS : s0.tm 1 = ai F ∧ s0.tm 2 = ai t ∧ s0.tm 3 = .lst (steps.map eStep) ∧ s0.tm 6 = lKey keys ∧ s0.tm 8 = .lst (l.map eHit) ∧ s0.tm 9 = lInt wall ∧ s0.tm 10 = .ptr 0 0 0 1 ∧ s0.tm 14 = .ptr 1 0 0 1 ∧ s0.tm 15 = .ptr 2 0 0 1 ∧ s0.tm 17 = .ptr 3 0 0 1 ∧ s0.tm 21 = .lst (PL.map ePl) ∧ s0.tm 23 = .ptr 4 0 0 1 ∧ s0.tm 24 = .ref 6 0 k1 ∧ s0.tm 25 = ai k1 ∧ s0.tm 26 = .ptr mk 0 0 1 ∧ Pg.rowAt s0.H (0) = some ({ k := 3, es := [eHouse h], ty := 26 }) ∧ Pg.rowAt s0.H (1) = some ({ k := 12, es := [eSession ses], ty := 32 }) ∧ Pg.rowAt s0.H (2) = some ({ k := 3, es := [eRun x], ty := 35 }) ∧ Pg.rowAt s0.H (3) = some ({ k := 3, es := [eInk ink], ty := 38 }) ∧ Pg.rowAt s0.H (4) = some ({ k := 14, es := [[ai ses.id, ai ses.inn.lo, ai ses.inn.hi, ai ses.out.lo, ai ses.out.hi, ai ses.zero.lo, ai ses.zero.hi, ai ses.fin.lo, ai ses.fin.hi, ai ses.rate.lo, ai ses.rate.hi, lStop ses.stops, .ref 5 0 k1, .v (.slice none 0 0)]], ty := 50 }) ∧ Pg.rowAt s0.H (5) = some ({ k := 3, es := S1.map eStrike, ty := 70, lo := ls1 }) ∧ Pg.rowAt s0.H (6) = some ({ k := 1, es := A1.map eInt, ty := 3, lo := la1 }) ∧ Pg.rowAt s0.H (mk) = some ({ k := 5, es := [eMark m], ty := 54 })) : AW cx 404 tailM Q s0 := by
  have hf1 : ∀ l x, flatA (.tup [.lst l, .v x]) = false := fun _ _ => rfl
  have hf2 : ∀ l, flatA (.lst l) = false := fun _ => rfl
  have hf3 : ∀ x, flatA (.v x) = true := fun _ => rfl
  have hf8 : ∀ x y, flatA (.tup [.v x, .v y]) = true := fun _ _ => rfl
  have hf9 : ∀ l x, flatA (.tup [.lst l, .v x]) = false := fun _ _ => rfl
  have hfA : ∀ a b c d e f g, flatA (.tup [.agg [.v a, .v b, .v c, .v d, .v e], .v f, .v g]) = true := fun _ _ _ _ _ _ _ => rfl
  have hfB : ∀ a b c, flatA (.tup [.agg [.v a, .v b], .v c]) = true := fun _ _ _ => rfl
  have cR := rooms_ok
  have hZ : (0 : Nat) ≠ s0.nx ∧ s0.nx ≠ (0 : Nat) ∧ (1 : Nat) ≠ s0.nx ∧ s0.nx ≠ (1 : Nat) ∧ (2 : Nat) ≠ s0.nx ∧ s0.nx ≠ (2 : Nat) ∧ (3 : Nat) ≠ s0.nx ∧ s0.nx ≠ (3 : Nat) ∧ (4 : Nat) ≠ s0.nx ∧ s0.nx ≠ (4 : Nat) ∧ (5 : Nat) ≠ s0.nx ∧ s0.nx ≠ (5 : Nat) ∧ (6 : Nat) ≠ s0.nx ∧ s0.nx ≠ (6 : Nat) ∧ (mk : Nat) ≠ s0.nx ∧ s0.nx ≠ (mk : Nat) := by omega
  have hkk : (k1 : Int) < (l.length : Int) := by omega
  have h31 : ((PL.length : Int) - 1) = (steps.length : Int) := by omega
  refine AW.fresh fun hfr => ?_
  obtain ⟨p, bu, c8, f8⟩ := used_ok Ds.sort130_0 ses key m ink hz1 hz2 hz3
  suffices hgoal : AW cx 404 tailM (fun e s => Pg.Stop (Q e s)) s0 from AW.mono hgoal fun e s' h => h.get
  delta tailM bodyB
  simp only [Tryz.f3, Option.getD_some, dropS, inB, fstS]
  cases bu with
  | false =>
    repeat' first
      | apply jA | apply jB | apply jC | apply jI
      | refine AW.draw (id := 14) cx_mixed [16, 17] [14] [s0.nx + 15] 18 (by decide +kernel) ?_
      | ((first | (apply jK kO; decide) | (apply jL kO; decide; decide) | apply jR); (simp (disch := omega) only [push_cast, simprocAttr, hS, hZ, hkk, hxy, hgy, hfr, hf1, hf2, hf3, hf8, hf9, hfA, hfB, hnk, hkx, hkg, hkl] <;> rfl); all_goals try ((with_reducible intro hI); try first | (cases hI; done) | (simp only [INTS, zL] at hI; try first | (exfalso; omega) | (have hT : True := hI; clear hT hI))))
      | ((first | (apply D.store kO; decide) | (apply D.stept kO; decide; decide) | (apply D.stepm kO; decide; decide)); (simp (disch := omega) only [push_cast, simprocAttr, hS, hZ, hkk, hxy, hgy, hfr, hf1, hf2, hf3, hf8, hf9, hfA, hfB, hnk, hkx, hkg, hkl] <;> rfl); try first | exact .inl rfl | exact .inr (by simp))
      | ((apply D.alloc kO; decide; decide); (simp (disch := omega) only [push_cast, simprocAttr, hS, hZ, hkk, hxy, hgy, hfr, hf1, hf2, hf3, hf8, hf9, hfA, hfB, hnk, hkx, hkg, hkl] <;> rfl); (simp (disch := omega) only [push_cast, simprocAttr, hS, hZ, hkk, hxy, hgy, hfr, hf1, hf2, hf3, hf8, hf9, hfA, hfB, hnk, hkx, hkg, hkl, updH_at]); (simp (disch := omega) only [push_cast, simprocAttr, hS, hZ, hkk, hxy, hgy, hfr, hf1, hf2, hf3, hf8, hf9, hfA, hfB, hnk, hkx, hkg, hkl] <;> omega))
      | ((first | (apply jV kO; decide) | (apply jW kO; decide; decide)); (iterate 2 (simp (disch := omega) only [push_cast, simprocAttr, hS, hZ, hkk, hxy, hgy, hfr, hf1, hf2, hf3, hf8, hf9, hfA, hfB, hnk, hkx, hkg, hkl] <;> rfl)); (with_reducible first | exact c8 | exact cR); try first | rfl | (simp (disch := omega) only [push_cast, simprocAttr, hS, hZ, hkk, hxy, hgy, hfr, hf1, hf2, hf3, hf8, hf9, hfA, hfB, hnk, hkx, hkg, hkl] <;> rfl))

    all_goals (refine Pg.Stop.mk (hret _ ?_); (simp (disch := omega) only [push_cast, simprocAttr, hS, hZ, hkk, hxy, hgy, hfr, hf1, hf2, hf3, hf8, hf9, hfA, hfB, hnk, hkx, hkg, hkl] <;> rfl))
  | true =>
    obtain ⟨w1, w2, w3, w4⟩ := f8 rfl hsl
    have hin := w4 a ha.1 ha.2 hm
    repeat' first
      | apply jA | apply jB | apply jD | apply jE | apply jI
      | refine AW.draw (id := 14) cx_mixed [16, 17] [14] [s0.nx + 15] 18 (by decide +kernel) ?_
      | ((first | (apply jK kO; decide) | (apply jL kO; decide; decide) | apply jR); (simp (disch := omega) only [push_cast, simprocAttr, hS, hZ, hkk, hxy, hgy, hfr, hf1, hf2, hf3, hf8, hf9, hfA, hfB, hnk, hkx, hkg, hkl] <;> rfl); all_goals try ((with_reducible intro hI); try first | (cases hI; done) | (simp only [INTS, zL] at hI; try first | (exfalso; omega) | (have hT : True := hI; clear hT hI))))
      | ((first | (apply D.store kO; decide) | (apply D.stept kO; decide; decide) | (apply D.stepm kO; decide; decide)); (simp (disch := omega) only [push_cast, simprocAttr, hS, hZ, hkk, hxy, hgy, hfr, hf1, hf2, hf3, hf8, hf9, hfA, hfB, hnk, hkx, hkg, hkl] <;> rfl); try first | exact .inl rfl | exact .inr (by simp))
      | ((apply D.alloc kO; decide; decide); (simp (disch := omega) only [push_cast, simprocAttr, hS, hZ, hkk, hxy, hgy, hfr, hf1, hf2, hf3, hf8, hf9, hfA, hfB, hnk, hkx, hkg, hkl] <;> rfl); (simp (disch := omega) only [push_cast, simprocAttr, hS, hZ, hkk, hxy, hgy, hfr, hf1, hf2, hf3, hf8, hf9, hfA, hfB, hnk, hkx, hkg, hkl, updH_at]); (simp (disch := omega) only [push_cast, simprocAttr, hS, hZ, hkk, hxy, hgy, hfr, hf1, hf2, hf3, hf8, hf9, hfA, hfB, hnk, hkx, hkg, hkl] <;> omega))
      | ((apply jW kO; decide; decide); (iterate 2 (simp (disch := omega) only [push_cast, simprocAttr, hS, hZ, hkk, hxy, hgy, hfr, hf1, hf2, hf3, hf8, hf9, hfA, hfB, hnk, hkx, hkg, hkl] <;> rfl)); (with_reducible exact c8); try first | rfl | (simp (disch := omega) only [push_cast, simprocAttr, hS, hZ, hkk, hxy, hgy, hfr, hf1, hf2, hf3, hf8, hf9, hfA, hfB, hnk, hkx, hkg, hkl] <;> rfl))

    refine AW.post (I := fun s => ∃ (j : Nat), (j ≤ steps.length) ∧ ((pl j).2 ≤ y.time) ∧ (∀ q, j < q → q ≤ steps.length → y.time < (pl q).2) ∧ (s0.nx + 18) ≤ s.nx ∧ s.tm 1 = ai F ∧ s.tm 2 = ai t ∧ s.tm 3 = .lst (steps.map eStep) ∧ s.tm 6 = lKey keys ∧ s.tm 8 = .lst (l.map eHit) ∧ s.tm 9 = lInt wall ∧ s.tm 10 = .ptr 0 0 0 1 ∧ s.tm 14 = .ptr 1 0 0 1 ∧ s.tm 15 = .ptr 2 0 0 1 ∧ s.tm 17 = .ptr 3 0 0 1 ∧ s.tm 21 = .lst (PL.map ePl) ∧ s.tm 23 = .ptr 4 0 0 1 ∧ s.tm 24 = .ref 6 0 k1 ∧ s.tm 25 = ai k1 ∧ s.tm 29 = .ptr (s0.nx + 15) 0 0 1 ∧ s.tm 31 = ai j ∧ Pg.rowAt s.H (0) = some ({ k := 3, es := [eHouse h], ty := 26 }) ∧ Pg.rowAt s.H (1) = some ({ k := 12, es := [eSession ses], ty := 32 }) ∧ Pg.rowAt s.H (2) = some ({ k := 3, es := [eRun x], ty := 35 }) ∧ Pg.rowAt s.H (3) = some ({ k := 3, es := [eInk ink], ty := 38 }) ∧ Pg.rowAt s.H (4) = some ({ k := 14, es := [[ai ses.id, ai ses.inn.lo, ai ses.inn.hi, ai ses.out.lo, ai ses.out.hi, ai ses.zero.lo, ai ses.zero.hi, ai ses.fin.lo, ai ses.fin.hi, ai ses.rate.lo, ai ses.rate.hi, lStop ses.stops, .ref 5 0 k1, .v (.slice none 0 0)]], ty := 50 }) ∧ Pg.rowAt s.H (5) = some ({ k := 3, es := S1.map eStrike, ty := 70, lo := ls1 }) ∧ Pg.rowAt s.H (6) = some ({ k := 1, es := A1.map eInt, ty := 3, lo := la1 }) ∧ Pg.rowAt s.H (s0.nx + 15) = some ({ k := 2, es := [eSpan p], ty := 29 })) ?_ ?_
    · rintro s2 ⟨j2, e1, e2, e3, hnl2, hS2⟩
      have hPx : (PL.map ePl)[j2]? = some (ePl (pl j2)) := by rw [List.getElem?_map, hPLg j2 e1]; rfl
      have hPg : (PL.map ePl).getD j2 [] = ePl (pl j2) := by rw [List.getD_eq_getElem?_getD, hPx]; rfl
      exact end_ok (Q := fun e s => Pg.Stop (Q e s)) h F t steps ses x keys ink l wall PL k1 ls1 la1 S1 A1 y _ _ p j2 (s0.nx + 15) (fun s h => Pg.Stop.mk (hret s h)) (fun hst s hs hf => Pg.Stop.mk (hnorm j2 e1 e2 e3 hst p ⟨w1, w2, w3⟩ hin s hs hf)) hS1 hA1 hls hla hk hl6 hs20 hxy hgy hPL e1 hPx hPg ⟨by omega, by omega⟩ ⟨hS2.1, hS2.2.1, hS2.2.2.1, hS2.2.2.2.1, hS2.2.2.2.2.1, hS2.2.2.2.2.2.1, hS2.2.2.2.2.2.2.1, hS2.2.2.2.2.2.2.2.1, hS2.2.2.2.2.2.2.2.2.1, hS2.2.2.2.2.2.2.2.2.2.1, hS2.2.2.2.2.2.2.2.2.2.2.1, hS2.2.2.2.2.2.2.2.2.2.2.2.1, hS2.2.2.2.2.2.2.2.2.2.2.2.2.1, hS2.2.2.2.2.2.2.2.2.2.2.2.2.2.1, hS2.2.2.2.2.2.2.2.2.2.2.2.2.2.2.1, hS2.2.2.2.2.2.2.2.2.2.2.2.2.2.2.2.1, hS2.2.2.2.2.2.2.2.2.2.2.2.2.2.2.2.2.1, hS2.2.2.2.2.2.2.2.2.2.2.2.2.2.2.2.2.2.1, hS2.2.2.2.2.2.2.2.2.2.2.2.2.2.2.2.2.2.2.1, hS2.2.2.2.2.2.2.2.2.2.2.2.2.2.2.2.2.2.2.2.1, hS2.2.2.2.2.2.2.2.2.2.2.2.2.2.2.2.2.2.2.2.2.1, hS2.2.2.2.2.2.2.2.2.2.2.2.2.2.2.2.2.2.2.2.2.2.1, hS2.2.2.2.2.2.2.2.2.2.2.2.2.2.2.2.2.2.2.2.2.2.2.1, hS2.2.2.2.2.2.2.2.2.2.2.2.2.2.2.2.2.2.2.2.2.2.2.2⟩
    ·
      refine AW.loop (fun n s => ∃ (j : Nat), n = j ∧ (j ≤ steps.length) ∧ (∀ q, j < q → q ≤ steps.length → y.time < (pl q).2) ∧ (s0.nx + 18) ≤ s.nx ∧ s.tm 1 = ai F ∧ s.tm 2 = ai t ∧ s.tm 3 = .lst (steps.map eStep) ∧ s.tm 6 = lKey keys ∧ s.tm 8 = .lst (l.map eHit) ∧ s.tm 9 = lInt wall ∧ s.tm 10 = .ptr 0 0 0 1 ∧ s.tm 14 = .ptr 1 0 0 1 ∧ s.tm 15 = .ptr 2 0 0 1 ∧ s.tm 17 = .ptr 3 0 0 1 ∧ s.tm 21 = .lst (PL.map ePl) ∧ s.tm 23 = .ptr 4 0 0 1 ∧ s.tm 24 = .ref 6 0 k1 ∧ s.tm 25 = ai k1 ∧ s.tm 29 = .ptr (s0.nx + 15) 0 0 1 ∧ s.tm 31 = ai j ∧ Pg.rowAt s.H (0) = some ({ k := 3, es := [eHouse h], ty := 26 }) ∧ Pg.rowAt s.H (1) = some ({ k := 12, es := [eSession ses], ty := 32 }) ∧ Pg.rowAt s.H (2) = some ({ k := 3, es := [eRun x], ty := 35 }) ∧ Pg.rowAt s.H (3) = some ({ k := 3, es := [eInk ink], ty := 38 }) ∧ Pg.rowAt s.H (4) = some ({ k := 14, es := [[ai ses.id, ai ses.inn.lo, ai ses.inn.hi, ai ses.out.lo, ai ses.out.hi, ai ses.zero.lo, ai ses.zero.hi, ai ses.fin.lo, ai ses.fin.hi, ai ses.rate.lo, ai ses.rate.hi, lStop ses.stops, .ref 5 0 k1, .v (.slice none 0 0)]], ty := 50 }) ∧ Pg.rowAt s.H (5) = some ({ k := 3, es := S1.map eStrike, ty := 70, lo := ls1 }) ∧ Pg.rowAt s.H (6) = some ({ k := 1, es := A1.map eInt, ty := 3, lo := la1 }) ∧ Pg.rowAt s.H (s0.nx + 15) = some ({ k := 2, es := [eSpan p], ty := 29 })) (steps.length) ⟨steps.length, rfl, (Nat.le_refl _), (fun q h1 h2 => absurd h2 (by omega)), ?_, ?_, ?_, ?_, ?_, ?_, ?_, ?_, ?_, ?_, ?_, ?_, ?_, ?_, ?_, ?_, ?_, ?_, ?_, ?_, ?_, ?_, ?_, ?_, ?_⟩ ?_
      iterate 25 (first | (simp (disch := omega) only [push_cast, simprocAttr, hS, hZ, hkk, hxy, hgy, hfr, hf1, hf2, hf3, hf8, hf9, hfA, hfB, hnk, hkx, hkg, hkl, h31] <;> first | rfl | omega) | omega)
      rintro n2 s2 ⟨j2, hn2, hp02, hp12, hnl2, hS2⟩
      have hZ2 : (0 : Nat) ≠ s2.nx ∧ s2.nx ≠ (0 : Nat) ∧ (1 : Nat) ≠ s2.nx ∧ s2.nx ≠ (1 : Nat) ∧ (2 : Nat) ≠ s2.nx ∧ s2.nx ≠ (2 : Nat) ∧ (3 : Nat) ≠ s2.nx ∧ s2.nx ≠ (3 : Nat) ∧ (4 : Nat) ≠ s2.nx ∧ s2.nx ≠ (4 : Nat) ∧ (5 : Nat) ≠ s2.nx ∧ s2.nx ≠ (5 : Nat) ∧ (6 : Nat) ≠ s2.nx ∧ s2.nx ≠ (6 : Nat) ∧ (s0.nx + 15 : Nat) ≠ s2.nx ∧ s2.nx ≠ (s0.nx + 15 : Nat) := by omega
      rcases Nat.eq_zero_or_pos j2 with h0 | h0
      · have hj0 : (0 < (j2 : Int)) = False := eq_false (by omega)
        have e2 : (pl j2).2 ≤ y.time := by rw [h0]; exact hpl0
        repeat' first
          | apply jA | apply jF | apply jJ
          | refine W.draw cx_mixed (by decide +kernel) ?_
          | ((first | (apply jL kO; decide; decide) | (apply jO; rfl; decide; decide) | apply jR); (simp (disch := omega) only [push_cast, simprocAttr, hS2, hZ2, hf1, hf2, hf3, hf8, hf9, hfA, hfB, hj0] <;> rfl); all_goals try ((with_reducible intro hI); try first | (cases hI; done) | (simp only [INTS, zL] at hI; try first | (exfalso; omega) | (have hT : True := hI; clear hT hI))))

        all_goals (refine ⟨j2, hp02, e2, hp12, ?_, ?_, ?_, ?_, ?_, ?_, ?_, ?_, ?_, ?_, ?_, ?_, ?_, ?_, ?_, ?_, ?_, ?_, ?_, ?_, ?_, ?_, ?_, ?_, ?_⟩; all_goals first | (simp (disch := omega) only [push_cast, simprocAttr, hS2, hZ2, hf1, hf2, hf3, hf8, hf9, hfA, hfB, hj0] <;> first | rfl | omega) | omega)
      have hj0 : (0 < (j2 : Int)) = True := eq_true (by omega)
      have hjx : (PL.map ePl)[j2]? = some (ePl (pl j2)) := by rw [List.getElem?_map, hPLg j2 hp02]; rfl
      have hjg : (PL.map ePl).getD j2 [] = ePl (pl j2) := by rw [List.getD_eq_getElem?_getD, hjx]; rfl
      have hPl : ((j2 : Int) < (PL.length : Int)) = True := eq_true (by omega)
      by_cases hjl : y.time < (pl j2).2
      · obtain ⟨j3, hj3⟩ : ∃ j3, j2 = j3 + 1 := ⟨j2 - 1, by omega⟩
        have hq' : ∀ q, j3 < q → q ≤ steps.length → y.time < (pl q).2 := fun q h1 h2 => by
          rcases Nat.eq_or_lt_of_le (show j2 ≤ q by omega) with h3 | h3
          · rw [← h3]; exact hjl
          · exact hp12 q h3 h2
        replace hjl : (y.time < (pl j2).2) = True := eq_true hjl
        have hjm : (j2 : Int) - 1 = (j3 : Int) := by omega
        repeat' first
          | apply jA | apply jB | apply jD | apply jE | apply jI | apply jJ
          | refine W.draw cx_mixed (by decide +kernel) ?_
          | ((first | (apply jK kO; decide) | (apply jL kO; decide; decide) | (apply jO; rfl; decide; decide) | apply jR); (simp (disch := omega) only [push_cast, simprocAttr, hS2, hZ2, hf1, hf2, hf3, hf8, hf9, hfA, hfB, hj0, hjx, hjg, hjl, hPl, hkk, hxy, hgy] <;> rfl); all_goals try ((with_reducible intro hI); try first | (cases hI; done) | (simp only [INTS, zL] at hI; try first | (exfalso; omega) | (have hT : True := hI; clear hT hI))))

        all_goals (refine ⟨j3, ?_, j3, rfl, (by omega), hq', ?_, ?_, ?_, ?_, ?_, ?_, ?_, ?_, ?_, ?_, ?_, ?_, ?_, ?_, ?_, ?_, ?_, ?_, ?_, ?_, ?_, ?_, ?_, ?_, ?_⟩; ((omega)); all_goals first | (simp (disch := omega) only [push_cast, simprocAttr, hS2, hZ2, hf1, hf2, hf3, hf8, hf9, hfA, hfB, hjm] <;> first | rfl | omega) | omega)
      · have e2 : (pl j2).2 ≤ y.time := by omega
        replace hjl : (y.time < (pl j2).2) = False := eq_false hjl
        repeat' first
          | apply jA | apply jF | apply jJ
          | refine W.draw cx_mixed (by decide +kernel) ?_
          | ((first | (apply jL kO; decide; decide) | (apply jO; rfl; decide; decide) | apply jR); (simp (disch := omega) only [push_cast, simprocAttr, hS2, hZ2, hf1, hf2, hf3, hf8, hf9, hfA, hfB, hj0, hjx, hjg, hjl, hPl, hkk, hxy, hgy] <;> rfl); all_goals try ((with_reducible intro hI); try first | (cases hI; done) | (simp only [INTS, zL] at hI; try first | (exfalso; omega) | (have hT : True := hI; clear hT hI))))

        all_goals (refine ⟨j2, hp02, e2, hp12, ?_, ?_, ?_, ?_, ?_, ?_, ?_, ?_, ?_, ?_, ?_, ?_, ?_, ?_, ?_, ?_, ?_, ?_, ?_, ?_, ?_, ?_, ?_, ?_, ?_⟩; all_goals first | (simp (disch := omega) only [push_cast, simprocAttr, hS2, hZ2, hf1, hf2, hf3, hf8, hf9, hfA, hfB, hj0, hjx, hjg, hjl, hPl] <;> first | rfl | omega) | omega)
end Go.Proofs.Yt
