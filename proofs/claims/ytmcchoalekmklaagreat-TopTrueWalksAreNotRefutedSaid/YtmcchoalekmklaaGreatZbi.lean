/-
  Contracts of functions, proved by going through their code. No conditions.
-/
import Derived.Test.YtmcchoalekmklaaGreatZaj
import Derived.Test.YtmcchoalekmklaaGreatZam
import Derived.Test.YtmcchoalekmklaaGreatZan
import Derived.Test.YtmcchoalekmklaaGreatZat
import Derived.Test.YtmcchoalekmklaaGreatZax
import Derived.Test.YtmcchoalekmklaaGreatZay
import Derived.Test.YtmcchoalekmklaaGreatZba
import Derived.Test.YtmcchoalekmklaaGreatZbb
import Derived.Test.YtmcchoalekmklaaGreatZbd
import Derived.Test.YtmcchoalekmklaaGreatZbg
set_option linter.unusedVariables false
set_option linter.unusedSimpArgs false
namespace Go.Proofs.Yt
open Go Go.Pg Go.Proofs
structure Hit where
  key : Int
  time : Int
  blow : Ds.Blow
  by_ : Int
  unclear : Int
  deriving Inhabited
abbrev eHit (x : Hit) : List AV := [ai x.key, ai x.time, ai x.blow.miss, ai x.blow.dirt, ai x.blow.shift, ai x.by_, ai x.unclear]
abbrev lKey (l : List Ds.Key) : AV := .lst (l.map Ds.eKey)
abbrev ePl (p : Int × Int) : List AV := [ai p.1, ai p.2]
theorem viewLL_pl (H : Nat → Option AO) (l : List (Int × Int)) : viewLL H (l.map ePl) = some (l.map ePl) := viewLL_map H ePl (fun _ => rfl) l
theorem pure_pl (l : List (Int × Int)) : (l.map ePl).all pureL = true := Ks.pure_map (fun _ => rfl) l
theorem idsLL_pl (l : List (Int × Int)) : idsLL (l.map ePl) = [] := idsLL_map ePl (fun _ => rfl) l
theorem all_pl (l : List (Int × Int)) : (∀ c ∈ l.map ePl, c.length = 2) = True := eq_true fun c hc => by obtain ⟨x, _, rfl⟩ := List.mem_map.1 hc; rfl
theorem viewLL_key (H : Nat → Option AO) (l : List Ds.Key) : viewLL H (l.map Ds.eKey) = some (l.map Ds.eKey) := viewLL_map H Ds.eKey (fun _ => rfl) l
theorem viewLL_hit (H : Nat → Option AO) (l : List Hit) : viewLL H (l.map eHit) = some (l.map eHit) := viewLL_map H eHit (fun _ => rfl) l
attribute [push_cast] viewLL_key viewLL_hit viewLL_pl pure_pl idsLL_pl all_pl
end Go.Proofs.Yt

namespace Go.Proofs.Ds
theorem meet_one {X Y a : Arc} (hX : validA X = true) (hY : validA Y = true) (h : arcsF (meetF (spansS [X]) (spansS [Y])) = [a]) (hle : a.from_ + a.len ≤ 43199) :
    (0 ≤ a.from_ ∧ 0 ≤ a.len) ∧ ∀ v, 0 ≤ v → v ≤ 43199 → (a.from_ ≤ v ∧ v ≤ a.from_ + a.len ↔ hasF X v = true ∧ hasF Y v = true) := by
  obtain ⟨cX, iX, mX⟩ := spans_spec (l := [X]) (fun x hx => by rw [List.mem_singleton] at hx; rw [hx]; exact hX)
  obtain ⟨cY, iY, mY⟩ := spans_spec (l := [Y]) (fun x hx => by rw [List.mem_singleton] at hx; rw [hx]; exact hY)
  obtain ⟨cM, mM⟩ := meet_spec cX cY
  have iM : inC (meetF (spansS [X]) (spansS [Y])) := inC_of_mem cM fun x hx => mem_inC iX ((mM x).1 hx).1
  obtain ⟨va, ma⟩ := arcsF_spec cM iM
  rw [h] at va ma
  obtain ⟨h1, h2, h3, h4, h5⟩ := validA_iff.1 (va a (by simp))
  refine ⟨⟨h1, h3⟩, fun v v0 v1 => ?_⟩
  have one : ∀ x : Arc, piecesL [x] = piecesF x := fun x => by unfold piecesL; simp
  have hang : angF v = v := by unfold angF; omega
  have e := ma v
  rw [mM, mX, mY, one, one, one] at e
  rw [hasF_iff hX, hasF_iff hY, hang, ← e]
  unfold piecesF
  rw [if_pos (by omega)]
  unfold memS
  simp
theorem blur_has {a s n q : Int} (hn : 0 ≤ n) (hq : 0 ≤ q) (hs : -q ≤ s ∧ s ≤ q) : hasF (wideF (wideF ⟨angF (angF a + s), 0⟩ n) q) a = true := by
  have hf := angF_bd (angF a + s)
  have hv : validA ⟨angF (angF a + s), 0⟩ = true := validA_iff.2 ⟨hf.1, hf.2, Int.le_refl 0, by show (0 : Int) < 43200; omega, .inl (by show (0 : Int) < 43199; omega)⟩
  refine (near_iff (wide_valid hv hn) hq a).2 ⟨angF (angF a + s), hf.1, by omega, (near_iff hv hn _).2 ⟨angF (angF a + s), hf.1, by omega, ?_, ?_⟩, ?_⟩
  · unfold hasF; rw [hv]; unfold aheadF angF; simp
  · unfold apartF aheadF angF; omega
  · unfold apartF aheadF angF; omega
theorem sess_valid {z e : Int} (h0 : 0 ≤ z) (h1 : z ≤ e) (h2 : e ≤ 43199) : validA ⟨z, e - z⟩ = true := validA_iff.2 ⟨h0, by dsimp only; omega, by dsimp only; omega, by dsimp only; omega, by dsimp only; omega⟩
theorem sess_has {z e v : Int} (h0 : 0 ≤ z) (h1 : z ≤ e) (h2 : e ≤ 43199) (v0 : 0 ≤ v) (v1 : v ≤ 43199) : hasF ⟨z, e - z⟩ v = true ↔ z ≤ v ∧ v ≤ e := by
  unfold hasF
  rw [sess_valid h0 h1 h2, Bool.true_and, decide_eq_true_eq]
  unfold aheadF angF
  dsimp only
  omega
end Go.Proofs.Ds

set_option maxHeartbeats 8000000
set_option maxRecDepth 10000
namespace Go.Proofs.Yt
open Go Go.Pg Go.Proofs
open Go.Proofs.Ks (Session Run Span eSession eRun eSpan takeM dropM leT isEmpty_map getD_map get_map drop_cons drop_nil needleP Needle_ok)
open Go.Proofs.Ds (Ink Blow Arc eKey eMark eInk eBlow eArc lArc keyV inkV inkV_iff inF inF_iff markV markV_iff validA validA_iff mark0 wideF angF blurF struckF strikesI strikesI_iff madeF arcsF meetF spansS checkL hasF spans_spec meet_spec arcsF_spec inC_of_mem mem_inC wide_valid rowAt_aftF)
attribute [local push_cast] Bool.and_false Bool.and_self Bool.and_true Bool.false_and Bool.false_eq_true Bool.not_false Bool.not_true Bool.true_and List.append_nil List.cons_append List.length_nil List.map_nil List.mem_cons List.nil_append List.not_mem_nil Nat.add_assoc St.back TyD.isAgg idsA idsL natNe
attribute [local push_cast] Option.map_some idsLL rowAt_aftF
theorem strike_some (k : Ds.Key) (a : Int) (b : Blow) (i : Ink) : ∃ m e, OKv cx 21 [.agg (eKey k), ai a, .agg (eBlow b), .agg (eInk i)] (.tup [.agg (eMark m), ai e]) ∧ (e = 0 → keyV k = true ∧ inkV i = true ∧ (-i.slip ≤ b.shift ∧ b.shift ≤ i.slip) ∧ m.arc = ⟨angF (angF a + b.shift), 0⟩) := by
  by_cases h : keyV k = true ∧ inkV i = true ∧ inF b.miss 0 4095 = true ∧ inF b.dirt 0 4095 = true
  · obtain ⟨h1, h2, h3, h4⟩ := h
    cases hs : strikesI k.pat.toNat b.miss.toNat b.dirt.toNat b.shift i with
    | true => exact ⟨_, _, Ds.Strike_good k a b i h1 h2 (inF_iff.1 h3) (inF_iff.1 h4) 0 _ (.inl ⟨hs, rfl, rfl⟩), fun _ => ⟨h1, h2, (strikesI_iff.1 hs).2.2, rfl⟩⟩
    | false => exact ⟨_, _, Ds.Strike_good k a b i h1 h2 (inF_iff.1 h3) (inF_iff.1 h4) 3 _ (.inr ⟨hs, rfl, rfl⟩), fun h => by cases h⟩
  · exact ⟨_, _, Ds.Strike_bad k a b i h, fun h => by cases h⟩
theorem blur_some (m : Ds.Mark) (n u : Int) : ∃ m' e, OKv cx 22 [.agg (eMark m), ai n, ai u] (.tup [.agg (eMark m'), ai e]) ∧ (e = 0 → 0 ≤ n ∧ m'.arc = wideF m.arc n) := by
  by_cases h : markV m = true ∧ 0 ≤ n ∧ n ≤ 43200 ∧ 0 ≤ u ∧ u ≤ 4095
  · exact ⟨_, _, Ds.Blur_good m n u h, fun _ => ⟨h.2.1, rfl⟩⟩
  · exact ⟨_, _, Ds.Blur_bad m n u h, fun h => by cases h⟩
theorem struck_ok (x : Run) (keys : List Ds.Key) (i : Ink) (t : Hit) (hx : x.legs.length ≤ 40) (hk : keys.length ≤ 40) : ∃ m a b, OKv cx 7 [.agg (eRun x), lKey keys, .agg (eInk i), .agg (eHit t)] (.tup [.agg (eMark m), ai a, ab b]) ∧ (b = true → (∃ k, keys[t.key.toNat]? = some k ∧ 0 ≤ t.key ∧ t.key < (keys.length : Int) ∧ needleP x t.time = (a, 0) ∧ keyV k = true ∧ inkV i = true ∧ (-i.slip ≤ t.blow.shift ∧ t.blow.shift ≤ i.slip) ∧ 0 ≤ t.by_ ∧ m.arc = wideF ⟨angF (angF a + t.blow.shift), 0⟩ t.by_)) := by
  have hf1 : ∀ l x, flatA (.tup [.lst l, .v x]) = false := fun _ _ => rfl
  have hf2 : ∀ l, flatA (.lst l) = false := fun _ => rfl
  have hf3 : ∀ x, flatA (.v x) = true := fun _ => rfl
  have hf4 : ∀ a b c d e f, flatA (.tup [.agg [.v a, .v b, .v c, .v d, .v e], .v f]) = true := fun _ _ _ _ _ _ => rfl
  have hf8 : ∀ x y, flatA (.tup [.v x, .v y]) = true := fun _ _ => rfl
  obtain ⟨key, time, blow, by_, un⟩ := t
  dsimp only
  by_cases h1 : key < 0
  · have g1 := eq_true h1
    refine ⟨mark0, 0, false, ?_, fun h => by cases h⟩
    refine OKat.of_bodyM kO (rs := [.cell 8 54, .tmp 9, .tmp 10]) Tryz.func7 rfl (by decide +kernel) rfl (by simp [Tryz.ntmps7]) ?_
    simp only [Tryz.ntmps7]
    repeat' first
      | apply jA | apply jB | apply jC | apply jI
      | ((first | (apply jK kO; decide) | apply jM kO | (apply jN; rfl; decide) | apply jR); (simp (disch := omega) only [push_cast, simprocAttr, hf1, hf2, hf3, hf4, hf8, g1] <;> rfl); all_goals try ((with_reducible intro hI); try first | (cases hI; done) | (simp only [INTS, zL] at hI; try first | (exfalso; omega) | (have hT : True := hI; clear hT hI))))
      | ((apply W.retM); (iterate 2 (try (simp (disch := omega) only [push_cast, simprocAttr, hf1, hf2, hf3, hf4, hf8, g1] <;> rfl))))

    all_goals (show _ = _; rfl)
  have g1 := eq_false h1
  obtain ⟨n, rfl⟩ : ∃ n : Nat, key = (n : Int) := ⟨key.toNat, by omega⟩
  by_cases h2 : (keys.length : Int) ≤ (n : Int)
  · have g2 := eq_true h2
    refine ⟨mark0, 0, false, ?_, fun h => by cases h⟩
    refine OKat.of_bodyM kO (rs := [.cell 8 54, .tmp 9, .tmp 10]) Tryz.func7 rfl (by decide +kernel) rfl (by simp [Tryz.ntmps7]) ?_
    simp only [Tryz.ntmps7]
    repeat' first
      | apply jA | apply jB | apply jC | apply jI
      | ((first | (apply jK kO; decide) | apply jM kO | (apply jN; rfl; decide) | apply jR); (simp (disch := omega) only [push_cast, simprocAttr, hf1, hf2, hf3, hf4, hf8, g1, g2] <;> rfl); all_goals try ((with_reducible intro hI); try first | (cases hI; done) | (simp only [INTS, zL] at hI; try first | (exfalso; omega) | (have hT : True := hI; clear hT hI))))
      | ((apply W.retM); (iterate 2 (try (simp (disch := omega) only [push_cast, simprocAttr, hf1, hf2, hf3, hf4, hf8, g1, g2] <;> rfl))))

    all_goals (show _ = _; rfl)
  have g2 := eq_false h2
  have hn : (n : Int) < (keys.length : Int) := by omega
  obtain ⟨k, hk1⟩ : ∃ k, keys[n]? = some k := ⟨_, List.getElem?_eq_getElem (by omega)⟩
  have hk2 : (keys.map eKey)[n]? = some (eKey k) := by rw [List.getElem?_map, hk1]; rfl
  have hk3 : (keys.map eKey).getD n [] = eKey k := by rw [List.getD_eq_getElem?_getD, hk2]; rfl
  have c1 := Needle_ok x time (by omega)
  obtain ⟨⟨a, e1⟩, hP⟩ : ∃ z, needleP x time = z := ⟨_, rfl⟩
  rw [hP] at c1
  dsimp only at c1
  obtain ⟨m0, e2, c2, f2⟩ := strike_some k a blow i
  by_cases h3 : e1 = 0
  rotate_left
  · have g3 := eq_false h3
    refine ⟨mark0, 0, false, ?_, fun h => by cases h⟩
    refine OKat.of_bodyM kO (rs := [.cell 8 54, .tmp 9, .tmp 10]) Tryz.func7 rfl (by decide +kernel) rfl (by simp [Tryz.ntmps7]) ?_
    simp only [Tryz.ntmps7]
    repeat' first
      | apply jA | apply jB | apply jC | apply jE | apply jI
      | refine AW.draw (id := 4) cx_mixed [14, 15] [12] [17] 16 (by decide +kernel) ?_
      | ((first | (apply jK kO; decide) | (apply jL kO; decide; decide) | apply jM kO | (apply jN; rfl; decide) | apply jR); (simp (disch := omega) only [push_cast, simprocAttr, hf1, hf2, hf3, hf4, hf8, g1, g2, g3, hn, hk2, hk3] <;> rfl); all_goals try ((with_reducible intro hI); try first | (cases hI; done) | (simp only [INTS, zL] at hI; try first | (exfalso; omega) | (have hT : True := hI; clear hT hI))))
      | ((first | (apply D.store kO; decide) | (apply D.stept kO; decide; decide) | (apply D.stepm kO; decide; decide)); (simp (disch := omega) only [push_cast, simprocAttr, hf1, hf2, hf3, hf4, hf8, g1, g2, g3, hn, hk2, hk3] <;> rfl); try first | exact .inl rfl | exact .inr (by simp))
      | ((apply D.alloc kO; decide; decide); (simp (disch := omega) only [push_cast, simprocAttr, hf1, hf2, hf3, hf4, hf8, g1, g2, g3, hn, hk2, hk3] <;> rfl); (simp (disch := omega) only [push_cast, simprocAttr, hf1, hf2, hf3, hf4, hf8, g1, g2, g3, hn, hk2, hk3, updH_at]); (simp (disch := omega) only [push_cast, simprocAttr, hf1, hf2, hf3, hf4, hf8, g1, g2, g3, hn, hk2, hk3] <;> omega))
      | ((first | (apply jV kO; decide) | (apply jW kO; decide; decide)); (iterate 2 (simp (disch := omega) only [push_cast, simprocAttr, hf1, hf2, hf3, hf4, hf8, g1, g2, g3, hn, hk2, hk3] <;> rfl)); (with_reducible first | exact c1 | exact c2); try first | rfl | (simp (disch := omega) only [push_cast, simprocAttr, hf1, hf2, hf3, hf4, hf8, g1, g2, g3, hn, hk2, hk3] <;> rfl))
      | ((apply W.retM); (iterate 2 (try (simp (disch := omega) only [push_cast, simprocAttr, hf1, hf2, hf3, hf4, hf8, g1, g2, g3, hn, hk2, hk3] <;> rfl))))

    all_goals (show _ = _; rfl)
  subst h3
  by_cases h4 : e2 = 0
  rotate_left
  · have g4 := eq_false h4
    refine ⟨mark0, 0, false, ?_, fun h => by cases h⟩
    refine OKat.of_bodyM kO (rs := [.cell 8 54, .tmp 9, .tmp 10]) Tryz.func7 rfl (by decide +kernel) rfl (by simp [Tryz.ntmps7]) ?_
    simp only [Tryz.ntmps7]
    repeat' first
      | apply jA | apply jB | apply jC | apply jE | apply jI
      | refine AW.draw (id := 4) cx_mixed [14, 15] [12] [17] 16 (by decide +kernel) ?_
      | ((first | (apply jK kO; decide) | (apply jL kO; decide; decide) | apply jM kO | (apply jN; rfl; decide) | apply jR); (simp (disch := omega) only [push_cast, simprocAttr, hf1, hf2, hf3, hf4, hf8, g1, g2, g4, hn, hk2, hk3] <;> rfl); all_goals try ((with_reducible intro hI); try first | (cases hI; done) | (simp only [INTS, zL] at hI; try first | (exfalso; omega) | (have hT : True := hI; clear hT hI))))
      | ((first | (apply D.store kO; decide) | (apply D.stept kO; decide; decide) | (apply D.stepm kO; decide; decide)); (simp (disch := omega) only [push_cast, simprocAttr, hf1, hf2, hf3, hf4, hf8, g1, g2, g4, hn, hk2, hk3] <;> rfl); try first | exact .inl rfl | exact .inr (by simp))
      | ((apply D.alloc kO; decide; decide); (simp (disch := omega) only [push_cast, simprocAttr, hf1, hf2, hf3, hf4, hf8, g1, g2, g4, hn, hk2, hk3] <;> rfl); (simp (disch := omega) only [push_cast, simprocAttr, hf1, hf2, hf3, hf4, hf8, g1, g2, g4, hn, hk2, hk3, updH_at]); (simp (disch := omega) only [push_cast, simprocAttr, hf1, hf2, hf3, hf4, hf8, g1, g2, g4, hn, hk2, hk3] <;> omega))
      | ((first | (apply jV kO; decide) | (apply jW kO; decide; decide)); (iterate 2 (simp (disch := omega) only [push_cast, simprocAttr, hf1, hf2, hf3, hf4, hf8, g1, g2, g4, hn, hk2, hk3] <;> rfl)); (with_reducible first | exact c1 | exact c2); try first | rfl | (simp (disch := omega) only [push_cast, simprocAttr, hf1, hf2, hf3, hf4, hf8, g1, g2, g4, hn, hk2, hk3] <;> rfl))
      | ((apply W.retM); (iterate 2 (try (simp (disch := omega) only [push_cast, simprocAttr, hf1, hf2, hf3, hf4, hf8, g1, g2, g4, hn, hk2, hk3] <;> rfl))))

    all_goals (show _ = _; rfl)
  subst h4
  obtain ⟨m1, e3, c3, f3⟩ := blur_some m0 by_ un
  obtain ⟨q1, q2, q3, q4⟩ := f2 rfl
  by_cases h5 : e3 = 0
  · subst h5
    obtain ⟨r1, r2⟩ := f3 rfl
    refine ⟨m1, a, true, ?_, fun _ => ⟨k, hk1, by omega, hn, hP, q1, q2, q3, r1, by rw [r2, q4]⟩⟩
    refine OKat.of_bodyM kO (rs := [.cell 8 54, .tmp 9, .tmp 10]) Tryz.func7 rfl (by decide +kernel) rfl (by simp [Tryz.ntmps7]) ?_
    simp only [Tryz.ntmps7]
    repeat' first
      | apply jA | apply jB | apply jC | apply jE | apply jI
      | refine AW.draw (id := 4) cx_mixed [14, 15] [12] [17] 16 (by decide +kernel) ?_
      | ((first | (apply jK kO; decide) | (apply jL kO; decide; decide) | apply jM kO | (apply jN; rfl; decide) | apply jR); (simp (disch := omega) only [push_cast, simprocAttr, hf1, hf2, hf3, hf4, hf8, g1, g2, hn, hk2, hk3] <;> rfl); all_goals try ((with_reducible intro hI); try first | (cases hI; done) | (simp only [INTS, zL] at hI; try first | (exfalso; omega) | (have hT : True := hI; clear hT hI))))
      | ((first | (apply D.store kO; decide) | (apply D.stept kO; decide; decide) | (apply D.stepm kO; decide; decide)); (simp (disch := omega) only [push_cast, simprocAttr, hf1, hf2, hf3, hf4, hf8, g1, g2, hn, hk2, hk3] <;> rfl); try first | exact .inl rfl | exact .inr (by simp))
      | ((apply D.alloc kO; decide; decide); (simp (disch := omega) only [push_cast, simprocAttr, hf1, hf2, hf3, hf4, hf8, g1, g2, hn, hk2, hk3] <;> rfl); (simp (disch := omega) only [push_cast, simprocAttr, hf1, hf2, hf3, hf4, hf8, g1, g2, hn, hk2, hk3, updH_at]); (simp (disch := omega) only [push_cast, simprocAttr, hf1, hf2, hf3, hf4, hf8, g1, g2, hn, hk2, hk3] <;> omega))
      | ((first | (apply jV kO; decide) | (apply jW kO; decide; decide)); (iterate 2 (simp (disch := omega) only [push_cast, simprocAttr, hf1, hf2, hf3, hf4, hf8, g1, g2, hn, hk2, hk3] <;> rfl)); (with_reducible first | exact c1 | exact c2 | exact c3); try first | rfl | (simp (disch := omega) only [push_cast, simprocAttr, hf1, hf2, hf3, hf4, hf8, g1, g2, hn, hk2, hk3] <;> rfl))
      | ((apply W.retM); (iterate 2 (try (simp (disch := omega) only [push_cast, simprocAttr, hf1, hf2, hf3, hf4, hf8, g1, g2, hn, hk2, hk3] <;> rfl))))

    all_goals (show _ = _; rfl)
  · have g5 : (e3 == 0) = false := beq_eq_false_iff_ne.2 h5
    have g6 := eq_false h5
    refine ⟨m1, a, false, ?_, fun h => by cases h⟩
    refine OKat.of_bodyM kO (rs := [.cell 8 54, .tmp 9, .tmp 10]) Tryz.func7 rfl (by decide +kernel) rfl (by simp [Tryz.ntmps7]) ?_
    simp only [Tryz.ntmps7]
    repeat' first
      | apply jA | apply jB | apply jC | apply jE | apply jI
      | refine AW.draw (id := 4) cx_mixed [14, 15] [12] [17] 16 (by decide +kernel) ?_
      | ((first | (apply jK kO; decide) | (apply jL kO; decide; decide) | apply jM kO | (apply jN; rfl; decide) | apply jR); (simp (disch := omega) only [push_cast, simprocAttr, hf1, hf2, hf3, hf4, hf8, g1, g2, g5, g6, hn, hk2, hk3] <;> rfl); all_goals try ((with_reducible intro hI); try first | (cases hI; done) | (simp only [INTS, zL] at hI; try first | (exfalso; omega) | (have hT : True := hI; clear hT hI))))
      | ((first | (apply D.store kO; decide) | (apply D.stept kO; decide; decide) | (apply D.stepm kO; decide; decide)); (simp (disch := omega) only [push_cast, simprocAttr, hf1, hf2, hf3, hf4, hf8, g1, g2, g5, g6, hn, hk2, hk3] <;> rfl); try first | exact .inl rfl | exact .inr (by simp))
      | ((apply D.alloc kO; decide; decide); (simp (disch := omega) only [push_cast, simprocAttr, hf1, hf2, hf3, hf4, hf8, g1, g2, g5, g6, hn, hk2, hk3] <;> rfl); (simp (disch := omega) only [push_cast, simprocAttr, hf1, hf2, hf3, hf4, hf8, g1, g2, g5, g6, hn, hk2, hk3, updH_at]); (simp (disch := omega) only [push_cast, simprocAttr, hf1, hf2, hf3, hf4, hf8, g1, g2, g5, g6, hn, hk2, hk3] <;> omega))
      | ((first | (apply jV kO; decide) | (apply jW kO; decide; decide)); (iterate 2 (simp (disch := omega) only [push_cast, simprocAttr, hf1, hf2, hf3, hf4, hf8, g1, g2, g5, g6, hn, hk2, hk3] <;> rfl)); (with_reducible first | exact c1 | exact c2 | exact c3); try first | rfl | (simp (disch := omega) only [push_cast, simprocAttr, hf1, hf2, hf3, hf4, hf8, g1, g2, g5, g6, hn, hk2, hk3] <;> rfl))
      | ((apply W.retM); (iterate 2 (try (simp (disch := omega) only [push_cast, simprocAttr, hf1, hf2, hf3, hf4, hf8, g1, g2, g5, g6, hn, hk2, hk3] <;> rfl))))

    all_goals (show _ = _; rfl)
end Go.Proofs.Yt

namespace Go.Proofs.Yt
open Go Go.Pg Go.Proofs
open Go.Proofs.Ks (Session Run Span eSession eRun eSpan takeM dropM leT isEmpty_map getD_map get_map drop_cons drop_nil needleP Needle_ok)
open Go.Proofs.Ds (Ink Blow Arc eKey eMark eInk eBlow eArc lArc keyV inkV inkV_iff inF inF_iff markV markV_iff validA validA_iff mark0 wideF angF blurF struckF strikesI strikesI_iff madeF arcsF meetF spansS checkL hasF spans_spec meet_spec arcsF_spec inC_of_mem mem_inC wide_valid rowAt_aftF)
attribute [local push_cast] Bool.and_false Bool.and_self Bool.and_true Bool.false_and Bool.false_eq_true Bool.not_false Bool.not_true Bool.true_and List.append_nil List.cons_append List.length_nil List.map_nil List.mem_cons List.nil_append List.not_mem_nil Nat.add_assoc St.back TyD.isAgg idsA idsL natNe
attribute [local push_cast] Option.map_some idsLL rowAt_aftF
theorem used_ok (h0 : SortKC0 Tryz.prog 92) (s : Session) (k : Ds.Key) (m : Ds.Mark) (i : Ink) (hz1 : 0 ≤ s.zero.lo) (hz2 : s.zero.lo ≤ s.fin.hi) (hz3 : s.fin.hi ≤ 43199) : ∃ (p : Span) (b : Bool), OKv cx 8 [.agg (eSession s), .agg (eKey k), .agg (eMark m), .agg (eInk i)] (.tup [.agg (eSpan p), ab b]) ∧
    (b = true → (0 ≤ i.slip → s.zero.lo ≤ p.lo ∧ p.lo ≤ p.hi ∧ p.hi ≤ s.fin.hi ∧ ∀ v, s.zero.lo ≤ v → v ≤ s.fin.hi → hasF (wideF m.arc i.slip) v = true → p.lo ≤ v ∧ v ≤ p.hi)) := by
  have hf1 : ∀ l x, flatA (.tup [.lst l, .v x]) = false := fun _ _ => rfl
  have hf2 : ∀ l, flatA (.lst l) = false := fun _ => rfl
  have hf3 : ∀ x, flatA (.v x) = true := fun _ => rfl
  have hf4 : ∀ a b c d e f, flatA (.tup [.agg [.v a, .v b, .v c, .v d, .v e], .v f]) = true := fun _ _ _ _ _ _ => rfl
  have hf8 : ∀ x y, flatA (.tup [.v x, .v y]) = true := fun _ _ => rfl
  have hY := Ds.sess_valid hz1 hz2 hz3
  have cY : checkL [⟨s.zero.lo, s.fin.hi - s.zero.lo⟩] = 0 := by
    unfold checkL
    rw [if_neg (by simp), if_pos (by rw [List.all_cons, hY]; rfl)]
  by_cases hg : keyV k = true ∧ markV m = true ∧ inkV i = true
  rotate_left
  · have c1 := Ds.Angles_bad k m i hg
    have c2 : OKv cx 24 [.lst [], .lst [[ai s.zero.lo, ai (s.fin.hi - s.zero.lo)]]] (.tup [lArc _, ai 0]) := Ds.Meet_good h0 [] [⟨s.zero.lo, s.fin.hi - s.zero.lo⟩] rfl cY
    generalize arcsF (meetF (spansS []) (spansS [⟨s.zero.lo, s.fin.hi - s.zero.lo⟩])) = L at c2
    refine ⟨⟨0, 0⟩, false, ?_, fun h => by cases h⟩
    refine OKat.of_bodyM kO (rs := [.cell 8 29, .tmp 9]) Tryz.func8 rfl (by decide +kernel) rfl (by simp [Tryz.ntmps8]) ?_
    simp only [Tryz.ntmps8]
    repeat' first
      | apply jA | apply jB | apply jC | apply jI | apply jJ
      | refine W.draw cx_mixed (by decide +kernel) ?_
      | ((first | (apply jK kO; decide) | (apply jL kO; decide; decide) | apply jM kO | (apply jO; rfl; decide; decide) | apply jR); (simp (disch := omega) only [push_cast, simprocAttr, hf1, hf2, hf3, hf4, hf8, hz1, hz2, hz3] <;> rfl); all_goals try ((with_reducible intro hI); try first | (cases hI; done) | (simp only [INTS, zL] at hI; try first | (exfalso; omega) | (have hT : True := hI; clear hT hI))))
      | ((apply jV kO; decide); (iterate 2 (simp (disch := omega) only [push_cast, simprocAttr, hf1, hf2, hf3, hf4, hf8, hz1, hz2, hz3] <;> rfl)); (with_reducible first | exact c1 | exact c2); try first | rfl | (simp (disch := omega) only [push_cast, simprocAttr, hf1, hf2, hf3, hf4, hf8, hz1, hz2, hz3] <;> rfl))
      | ((apply W.retM); (iterate 2 (try (simp (disch := omega) only [push_cast, simprocAttr, hf1, hf2, hf3, hf4, hf8, hz1, hz2, hz3] <;> rfl))))

    all_goals (show _ = _; rfl)
  obtain ⟨h1, h2, h3⟩ := hg
  have hs := (inkV_iff.1 h3).2.2
  have c1 := Ds.Angles_good k m i h1 h2 h3
  obtain ⟨NR, hNR⟩ : ∃ z, (if madeF k m i = true then [wideF m.arc i.slip] else []) = z := ⟨_, rfl⟩
  rw [hNR] at c1
  have hX := wide_valid (markV_iff.1 h2).1 (n := i.slip) hs.1
  have cX : checkL NR = 0 := by
    rw [← hNR]
    split
    · unfold checkL
      rw [if_neg (by simp), if_pos (by rw [List.all_cons, hX]; rfl)]
    · rfl
  have c2 : OKv cx 24 [lArc NR, .lst [[ai s.zero.lo, ai (s.fin.hi - s.zero.lo)]]] (.tup [lArc _, ai 0]) := Ds.Meet_good h0 NR [⟨s.zero.lo, s.fin.hi - s.zero.lo⟩] cX cY
  obtain ⟨L, hL⟩ : ∃ z, arcsF (meetF (spansS NR) (spansS [⟨s.zero.lo, s.fin.hi - s.zero.lo⟩])) = z := ⟨_, rfl⟩
  rw [hL] at c2
  by_cases hl : L.length = 1
  rotate_left
  · have g1 : ((L.length : Int) = 1) = False := eq_false (by omega)
    refine ⟨⟨0, 0⟩, false, ?_, fun h => by cases h⟩
    refine OKat.of_bodyM kO (rs := [.cell 8 29, .tmp 9]) Tryz.func8 rfl (by decide +kernel) rfl (by simp [Tryz.ntmps8]) ?_
    simp only [Tryz.ntmps8]
    repeat' first
      | apply jA | apply jB | apply jC | apply jI | apply jJ
      | refine W.draw cx_mixed (by decide +kernel) ?_
      | ((first | (apply jK kO; decide) | (apply jL kO; decide; decide) | apply jM kO | (apply jO; rfl; decide; decide) | apply jR); (simp (disch := omega) only [push_cast, simprocAttr, hf1, hf2, hf3, hf4, hf8, hz1, hz2, hz3, g1] <;> rfl); all_goals try ((with_reducible intro hI); try first | (cases hI; done) | (simp only [INTS, zL] at hI; try first | (exfalso; omega) | (have hT : True := hI; clear hT hI))))
      | ((apply jV kO; decide); (iterate 2 (simp (disch := omega) only [push_cast, simprocAttr, hf1, hf2, hf3, hf4, hf8, hz1, hz2, hz3, g1] <;> rfl)); (with_reducible first | exact c1 | exact c2); try first | rfl | (simp (disch := omega) only [push_cast, simprocAttr, hf1, hf2, hf3, hf4, hf8, hz1, hz2, hz3, g1] <;> rfl))
      | ((apply W.retM); (iterate 2 (try (simp (disch := omega) only [push_cast, simprocAttr, hf1, hf2, hf3, hf4, hf8, hz1, hz2, hz3, g1] <;> rfl))))

    all_goals (show _ = _; rfl)
  obtain ⟨a, rfl⟩ := List.length_eq_one_iff.1 hl
  replace c2 : OKv cx 24 [lArc NR, .lst [[ai s.zero.lo, ai (s.fin.hi - s.zero.lo)]]] (.tup [.lst [[ai a.from_, ai a.len]], ai 0]) := c2
  have hmd : NR = [wideF m.arc i.slip] := by
    by_cases hm : madeF k m i = true
    · rw [← hNR, if_pos hm]
    · exfalso
      rw [if_neg hm] at hNR
      subst hNR
      have es : spansS [] = [] := rfl
      have e0 : ∀ S, meetF (spansS []) S = [] := fun S => by rw [es]; cases S <;> simp [meetF]
      rw [e0] at hL
      cases hL
  rw [hmd] at hL
  have hav : validA a = true := by
    obtain ⟨cA, iA, mA⟩ := spans_spec (l := [wideF m.arc i.slip]) (fun x hx => by rw [List.mem_singleton] at hx; rw [hx]; exact hX)
    obtain ⟨cB, iB, mB⟩ := spans_spec (l := [⟨s.zero.lo, s.fin.hi - s.zero.lo⟩]) (fun x hx => by rw [List.mem_singleton] at hx; rw [hx]; exact hY)
    obtain ⟨cM, mM⟩ := meet_spec cA cB
    have := (arcsF_spec cM (inC_of_mem cM fun x hx => mem_inC iA ((mM x).1 hx).1)).1
    rw [hL] at this
    exact this a (by simp)
  obtain ⟨v1, v2, v3, v4, _⟩ := validA_iff.1 hav
  by_cases hp : 43199 < a.from_ + a.len
  · have g2 := eq_true hp
    refine ⟨⟨0, 0⟩, false, ?_, fun h => by cases h⟩
    refine OKat.of_bodyM kO (rs := [.cell 8 29, .tmp 9]) Tryz.func8 rfl (by decide +kernel) rfl (by simp [Tryz.ntmps8]) ?_
    simp only [Tryz.ntmps8]
    repeat' first
      | apply jA | apply jB | apply jC | apply jI | apply jJ
      | refine W.draw cx_mixed (by decide +kernel) ?_
      | ((first | (apply jK kO; decide) | (apply jL kO; decide; decide) | apply jM kO | (apply jO; rfl; decide; decide) | apply jR); (simp (disch := omega) only [push_cast, simprocAttr, hf1, hf2, hf3, hf4, hf8, hz1, hz2, hz3, g2] <;> rfl); all_goals try ((with_reducible intro hI); try first | (cases hI; done) | (simp only [INTS, zL] at hI; try first | (exfalso; omega) | (have hT : True := hI; clear hT hI))))
      | ((apply jV kO; decide); (iterate 2 (simp (disch := omega) only [push_cast, simprocAttr, hf1, hf2, hf3, hf4, hf8, hz1, hz2, hz3, g2] <;> rfl)); (with_reducible first | exact c1 | exact c2); try first | rfl | (simp (disch := omega) only [push_cast, simprocAttr, hf1, hf2, hf3, hf4, hf8, hz1, hz2, hz3, g2] <;> rfl))
      | ((apply W.retM); (iterate 2 (try (simp (disch := omega) only [push_cast, simprocAttr, hf1, hf2, hf3, hf4, hf8, hz1, hz2, hz3, g2] <;> rfl))))

    all_goals (show _ = _; rfl)
  have g2 := eq_false hp
  refine ⟨⟨a.from_, a.from_ + a.len⟩, true, ?_, fun _ _ => ?_⟩
  rotate_left
  · obtain ⟨⟨w1, w2⟩, w3⟩ := Ds.meet_one hX hY hL (by omega)
    have l1 := ((w3 a.from_ (by omega) (by omega)).1 ⟨by omega, by omega⟩).2
    have l2 := ((w3 (a.from_ + a.len) (by omega) (by omega)).1 ⟨by omega, by omega⟩).2
    have l3 := (Ds.sess_has hz1 hz2 hz3 (by omega) (by omega)).1 l1
    have l4 := (Ds.sess_has hz1 hz2 hz3 (by omega) (by omega)).1 l2
    refine ⟨l3.1, by dsimp only; omega, l4.2, fun v x1 x2 x3 => ?_⟩
    exact (w3 v (by omega) (by omega)).2 ⟨x3, (Ds.sess_has hz1 hz2 hz3 (by omega) (by omega)).2 ⟨x1, x2⟩⟩
  refine OKat.of_bodyM kO (rs := [.cell 8 29, .tmp 9]) Tryz.func8 rfl (by decide +kernel) rfl (by simp [Tryz.ntmps8]) ?_
  simp only [Tryz.ntmps8]
  repeat' first
    | apply jA | apply jB | apply jC | apply jE | apply jI | apply jJ
    | refine AW.draw (id := 5) cx_mixed [14, 15] [] [] 0 (by decide +kernel) ?_
    | refine W.draw cx_mixed (by decide +kernel) ?_
    | ((first | (apply jK kO; decide) | (apply jL kO; decide; decide) | (apply jO; rfl; decide; decide) | apply jR); (simp (disch := omega) only [push_cast, simprocAttr, hf1, hf2, hf3, hf4, hf8, hz1, hz2, hz3, g2] <;> rfl); all_goals try ((with_reducible intro hI); try first | (cases hI; done) | (simp only [INTS, zL] at hI; try first | (exfalso; omega) | (have hT : True := hI; clear hT hI))))
    | ((first | (apply D.store kO; decide) | (apply D.stept kO; decide; decide)); (simp (disch := omega) only [push_cast, simprocAttr, hf1, hf2, hf3, hf4, hf8, hz1, hz2, hz3, g2] <;> rfl); try first | exact .inl rfl | exact .inr (by simp))
    | ((apply jV kO; decide); (iterate 2 (simp (disch := omega) only [push_cast, simprocAttr, hf1, hf2, hf3, hf4, hf8, hz1, hz2, hz3, g2] <;> rfl)); (with_reducible first | exact c1 | exact c2); try first | rfl | (simp (disch := omega) only [push_cast, simprocAttr, hf1, hf2, hf3, hf4, hf8, hz1, hz2, hz3, g2] <;> rfl))
    | ((apply W.retM); (iterate 2 (try (simp (disch := omega) only [push_cast, simprocAttr, hf1, hf2, hf3, hf4, hf8, hz1, hz2, hz3, g2] <;> rfl))))

  all_goals (show _ = _; rfl)
end Go.Proofs.Yt

namespace Go.Proofs.Yt
open Go Go.Pg Go.Proofs
open Go.Proofs.Hs (House Step eHouse eStep Walk Walk_ok)
open Go.Proofs.Ks (takeM dropM leT isEmpty_map getD_map get_map drop_cons drop_nil lInt eInt)
attribute [local push_cast] Bool.and_false Bool.and_self Bool.and_true Bool.false_and Bool.false_eq_true Bool.not_false Bool.not_true Bool.true_and List.all_append List.all_cons List.all_nil List.append_nil List.cons_append List.drop_zero List.isEmpty_cons List.length_append List.length_cons List.length_drop List.length_nil List.length_take List.map_append List.map_cons List.map_nil List.mem_cons List.nil_append List.not_mem_nil List.take_length List.take_of_length_le Nat.add_assoc Nat.zero_add Nat.zero_le St.back TyD.isAgg and_self and_true dropM idsA idsL isEmpty_map leT natNe pureA pureL takeM true_and
def plF (h : House) (F t : Int) (l : List Step) (n : Nat) : List (Int × Int) := (F, t) :: (List.range n).map fun i => ((Walk h F t (l.take (i + 1))).1, (Walk h F t (l.take (i + 1))).2.1)
theorem plF0 (h : House) (F t : Int) (l : List Step) : plF h F t l 0 = [(F, t)] := rfl
theorem plF_succ (h : House) (F t : Int) (l : List Step) (n : Nat) : plF h F t l (n + 1) = plF h F t l n ++ [((Walk h F t (l.take (n + 1))).1, (Walk h F t (l.take (n + 1))).2.1)] := by
  unfold plF
  rw [List.range_succ, List.map_append, List.cons_append]
  rfl
theorem plF_len (h : House) (F t : Int) (l : List Step) (n : Nat) : (plF h F t l n).length = n + 1 := by
  unfold plF
  rw [List.length_cons, List.length_map, List.length_range]
def walkedF (h : House) (F t : Int) (l : List Step) : List (Int × Int) × Bool :=
  if ∀ i, i < l.length → (Walk h F t (l.take (i + 1))).2.2 = 0 then (plF h F t l l.length, decide ((Walk h F t []).2.2 = 0)) else ([], false)
theorem walked_ok (h : House) (F t : Int) (l : List Step) (hfit : h.Fit) (hl : l.length ≤ 1000) : OKv cx 6 [.agg (eHouse h), ai F, ai t, .lst (l.map eStep)] (.tup [.lst ((walkedF h F t l).1.map ePl), ab (walkedF h F t l).2]) := by
  obtain ⟨RES, hRES⟩ : ∃ z, walkedF h F t l = z := ⟨_, rfl⟩
  rw [hRES]
  have plL : ∀ n, (plF h F t l n).length = n + 1 := plF_len h F t l
  have hf3 : ∀ x, flatA (.v x) = true := fun _ => rfl
  have hf5 : ∀ x y, flatA (.tup [.v x, .v y]) = true := fun _ _ => rfl
  have hf7 : ∀ x y z, flatA (.tup [.v x, .v y, .v z]) = true := fun _ _ _ => rfl
  refine OKat.of_body (rs := [8, 9]) Tryz.func6 rfl (by decide +kernel) rfl (by simp [Tryz.ntmps6]) ?_
  simp only [Tryz.ntmps6]
  repeat' first
    | apply jA | apply jB | apply jD | apply jI
    | ((apply jK kO; decide); (simp (disch := (first | omega | (simp only [vC]; omega))) only [push_cast, simprocAttr, hf3, hf5, hf7] <;> rfl))

  refine AW.loop (fun n s => ∃ (k lw : Nat), n = l.length - k ∧ (k ≤ l.length) ∧ (lw ≤ k + 1) ∧ (∀ i, i < k → (Walk h F t (l.take (i + 1))).2.2 = 0) ∧ 2 ≤ s.nx ∧ s.tm 1 = ai F ∧ s.tm 2 = ai t ∧ s.tm 3 = .lst (l.map eStep) ∧ s.tm 4 = .ptr 0 0 0 1 ∧ s.tm 10 = .ref 1 0 (k + 1) ∧ s.tm 11 = ai k ∧ Pg.rowAt s.H (0) = some ({ k := 3, es := [eHouse h], ty := 26 }) ∧ Pg.rowAt s.H (1) = some ({ k := 2, es := (plF h F t l k).map ePl, ty := 66, lo := lw })) (l.length) ⟨0, 0, rfl, (Nat.zero_le _), (Nat.zero_le _), (fun i hi => absurd hi (Nat.not_lt_zero i)), ?_, ?_, ?_, ?_, ?_, ?_, ?_, ?_, ?_⟩ ?_
  iterate 9 (first | (simp (disch := omega) only [push_cast, simprocAttr, hf3, hf5, hf7, plF0] <;> first | rfl | omega) | omega)
  rintro n1 s1 ⟨k1, lw1, hn1, hp01, hp11, hp21, hnl1, hS1⟩
  have hZ1 : (0 : Nat) ≠ s1.nx ∧ s1.nx ≠ (0 : Nat) ∧ (1 : Nat) ≠ s1.nx ∧ s1.nx ≠ (1 : Nat) := by omega
  refine AW.fresh fun hfr1 => ?_
  rcases Nat.lt_or_ge k1 l.length with hlt | hge
  · have hk : (k1 : Int) < (l.length : Int) := by omega
    have hk1 : ((k1 : Int) + 1).toNat = k1 + 1 := by omega
    have h0k : (0 ≤ (k1 : Int) + 1) = True := eq_true (by omega)
    have hk2 : (k1 + 1 ≤ l.length) = True := eq_true hlt
    have hal : (∀ (e : List AV), e ∈ l.map eStep → e.length = 3) = True := eq_true fun e he => by
      obtain ⟨x, _, rfl⟩ := List.mem_map.1 he; rfl
    have c1 := Walk_ok h F t (l.take (k1 + 1)) hfit (by rw [List.length_take]; omega)
    have hps := plF_succ h F t l k1
    obtain ⟨⟨wa, wb, we⟩, hw⟩ : ∃ z, Walk h F t (l.take (k1 + 1)) = z := ⟨_, rfl⟩
    rw [hw] at c1 hps
    dsimp only at c1 hps
    by_cases he : we = 0
    · subst he
      repeat' first
        | apply jA | apply jB | apply jD | apply jE | apply jI
        | refine W.draw cx_mixed (by decide +kernel) ?_
        | ((first | (apply jK kO; decide) | (apply jL kO; decide; decide) | apply jR); (simp (disch := (first | omega | (simp only [vC, plL]; omega))) only [push_cast, simprocAttr, hS1, hZ1, hf3, hf5, hf7, plL, hfr1, hk, hk1, h0k, hk2, hal] <;> rfl); all_goals try ((with_reducible intro hI); try first | (cases hI; done) | (simp only [INTS, zL] at hI; try first | (exfalso; omega) | (have hT : True := hI; clear hT hI))))
        | (apply jT kO; decide; rfl; rfl; rfl; decide; (iterate 3 (simp (disch := (first | omega | (simp only [vC, plL]; omega))) only [push_cast, simprocAttr, hS1, hZ1, hf3, hf5, hf7, plL, hfr1, hk, hk1, h0k, hk2, hal] <;> rfl)); (first | (focus (simp; done)) | (intro c hc; obtain ⟨x, _, rfl⟩ := List.mem_map.1 hc; rfl)); ((first | rfl | simp (disch := omega) only [push_cast])); ((try dsimp only); (try simp only [vC, plL]); omega); ((try dsimp only); (try simp only [vC, plL]); omega))
        | ((apply jW kO; decide; decide); (iterate 2 (simp (disch := (first | omega | (simp only [vC, plL]; omega))) only [push_cast, simprocAttr, hS1, hZ1, hf3, hf5, hf7, plL, hfr1, hk, hk1, h0k, hk2, hal] <;> rfl)); (with_reducible exact c1); try first | rfl | (simp (disch := (first | omega | (simp only [vC, plL]; omega))) only [push_cast, simprocAttr, hS1, hZ1, hf3, hf5, hf7, plL, hfr1, hk, hk1, h0k, hk2, hal] <;> rfl))

      all_goals (refine ⟨l.length - (k1 + 1), ?_, k1 + 1, (k1 + 2), rfl, (by omega), (by omega), (fun i hi => (Nat.lt_succ_iff_lt_or_eq.1 hi).elim (hp21 i) (fun e => by rw [e, hw])), ?_, ?_, ?_, ?_, ?_, ?_, ?_, ?_, ?_⟩; ((omega)); all_goals first | (simp (disch := omega) only [push_cast, simprocAttr, hS1, hZ1, hk, hps, plL, appRow, hfr1, hf3, hf5, hf7] <;> first | rfl | omega) | omega)
    · have hE : (we = 0) = False := eq_false he
      have hR : walkedF h F t l = ([], false) := by
        unfold walkedF
        rw [if_neg fun hh => he (by have := hh k1 hlt; rw [hw] at this; exact this)]
      rw [hR] at hRES
      subst hRES
      repeat' first
        | apply jA | apply jB | apply jC | apply jD | apply jE | apply jI
        | refine W.draw cx_mixed (by decide +kernel) ?_
        | ((first | (apply jK kO; decide) | (apply jL kO; decide; decide) | apply jR); (simp (disch := (first | omega | (simp only [vC, plL]; omega))) only [push_cast, simprocAttr, hS1, hZ1, hf3, hf5, hf7, plL, hfr1, hk, hk1, h0k, hk2, hal, hE] <;> rfl); all_goals try ((with_reducible intro hI); try first | (cases hI; done) | (simp only [INTS, zL] at hI; try first | (exfalso; omega) | (have hT : True := hI; clear hT hI))))
        | ((apply jW kO; decide; decide); (iterate 2 (simp (disch := (first | omega | (simp only [vC, plL]; omega))) only [push_cast, simprocAttr, hS1, hZ1, hf3, hf5, hf7, plL, hfr1, hk, hk1, h0k, hk2, hal, hE] <;> rfl)); (with_reducible exact c1); try first | rfl | (simp (disch := (first | omega | (simp only [vC, plL]; omega))) only [push_cast, simprocAttr, hS1, hZ1, hf3, hf5, hf7, plL, hfr1, hk, hk1, h0k, hk2, hal, hE] <;> rfl))
        | ((apply W.ret2); (iterate 2 (try (simp (disch := (first | omega | (simp only [vC, plL]; omega))) only [push_cast, simprocAttr, hS1, hZ1, hf3, hf5, hf7, plL, hfr1, hk, hk1, h0k, hk2, hal, hE] <;> rfl))))

      all_goals (show _ = _; rfl)
  obtain rfl : k1 = l.length := by omega
  have hk : ¬ (l.length : Int) < (l.length : Int) := by omega
  have hR : walkedF h F t l = (plF h F t l l.length, decide ((Walk h F t []).2.2 = 0)) := by
    unfold walkedF
    rw [if_pos hp21]
  rw [hR] at hRES
  subst hRES
  have c1 : OKv cx 19 [.agg (eHouse h), ai F, ai t, .lst []] _ := Walk_ok h F t [] hfit (by simp)
  obtain ⟨⟨wa, wb, we⟩, hw⟩ : ∃ z, Walk h F t [] = z := ⟨_, rfl⟩
  rw [hw] at c1 ⊢
  dsimp only at c1 ⊢
  repeat' first
    | apply jA | apply jB | apply jC | apply jF | apply jI
    | ((first | (apply jK kO; decide) | apply jR); (simp (disch := (first | omega | (simp only [vC, plL]; omega))) only [push_cast, simprocAttr, hS1, hZ1, hf3, hf5, hf7, plL, hfr1, hk] <;> rfl); all_goals try ((with_reducible intro hI); try first | (cases hI; done) | (simp only [INTS, zL] at hI; try first | (exfalso; omega) | (have hT : True := hI; clear hT hI))))
    | ((apply jV kO; decide); (iterate 2 (simp (disch := (first | omega | (simp only [vC, plL]; omega))) only [push_cast, simprocAttr, hS1, hZ1, hf3, hf5, hf7, plL, hfr1, hk] <;> rfl)); (with_reducible exact c1); try first | rfl | (simp (disch := (first | omega | (simp only [vC, plL]; omega))) only [push_cast, simprocAttr, hS1, hZ1, hf3, hf5, hf7, plL, hfr1, hk] <;> rfl))
    | ((apply W.ret2); (iterate 2 (try (simp (disch := (first | omega | (simp only [vC, plL]; omega))) only [push_cast, simprocAttr, hS1, hZ1, hf3, hf5, hf7, plL, hfr1, hk] <;> rfl))))

  all_goals (show _ = _; rfl)
end Go.Proofs.Yt

namespace Go.Proofs.Yt
open Go Go.Pg Go.Proofs
open Go.Proofs.Hs (House Step eHouse eStep Walk Walk_ok)
open Go.Proofs.Ks (takeM dropM leT isEmpty_map getD_map get_map drop_cons drop_nil lInt eInt)
open Go.Proofs.Ds (rowAt_aftF)
attribute [local push_cast] Bool.and_self Bool.and_true Bool.false_eq_true Bool.true_and List.append_nil List.cons_append List.isEmpty_cons List.isEmpty_nil List.length_cons List.length_nil List.map_cons List.map_nil List.mem_cons List.nil_append List.not_mem_nil Nat.add_assoc St.back TyD.isAgg idsA idsL natNe pureA pureL
attribute [local push_cast] Option.map_some idsLL if_false if_true or_true rowAt_aftF true_or
def hEx : House := ⟨[⟨ByteArray.mk #[97], 0⟩, ⟨ByteArray.mk #[98], 0⟩], [], [⟨0, 1, 10, 0, -1⟩]⟩
theorem ex_fit : hEx.Fit := ⟨fun r hr => by
  simp only [hEx, List.mem_cons, List.not_mem_nil, or_false] at hr
  rcases hr with rfl | rfl <;> decide, fun d hd => by simp [hEx] at hd, by decide, by decide, by decide⟩
theorem ex_walked : walkedF hEx 0 5 [⟨0, false, 7⟩] = ([(0, 5), (1, 17)], true) := by decide +kernel
theorem ex_can : Hs.canH hEx 0 5 1 15 = (true, 0) := by decide +kernel
theorem ex_wall : (Hs.wallH hEx 0 5 1 14).2 = 0 := by decide +kernel
theorem ex_check : Hs.checkWallH hEx 0 5 1 14 (Hs.wallH hEx 0 5 1 14).1 = 0 := by decide +kernel
theorem rooms_ok : OKv cx 5 [] (ab true) := by
  have hf1 : ∀ l x, flatA (.tup [.lst l, .v x]) = false := fun _ _ => rfl
  have hf2 : ∀ l, flatA (.lst l) = false := fun _ => rfl
  have hf3 : ∀ x, flatA (.v x) = true := fun _ => rfl
  have hf8 : ∀ x y, flatA (.tup [.v x, .v y]) = true := fun _ _ => rfl
  have hf9 : ∀ x y z, flatA (.tup [.v x, .v y, .v z]) = true := fun _ _ _ => rfl
  have c1 : OKv cx 6 [.agg [.lst [[at_ (ByteArray.mk #[97]), ai 0], [at_ (ByteArray.mk #[98]), ai 0]], .lst [], .lst [[ai 0, ai 1, ai 10, ai 0, ai (-1)]]], ai 0, ai 5, .lst [[ai 0, ab false, ai 7]]] (.tup [.lst [[ai 0, ai 5], [ai 1, ai 17]], ab true]) := by
    have := walked_ok hEx 0 5 [⟨0, false, 7⟩] ex_fit (by decide)
    rw [ex_walked] at this
    exact this
  have c2 : OKv cx 10 [.agg [.lst [[at_ (ByteArray.mk #[97]), ai 0], [at_ (ByteArray.mk #[98]), ai 0]], .lst [], .lst [[ai 0, ai 1, ai 10, ai 0, ai (-1)]]], ai 0, ai 5, ai 1, ai 15] (.tup [ab true, ai 0]) := by
    have := Hs.Can_ok hEx 0 5 1 15 ex_fit
    rw [ex_can] at this
    exact this
  obtain ⟨⟨WL, e⟩, hW⟩ : ∃ z, Hs.wallH hEx 0 5 1 14 = z := ⟨_, rfl⟩
  have c3 : OKv cx 18 [.agg [.lst [[at_ (ByteArray.mk #[97]), ai 0], [at_ (ByteArray.mk #[98]), ai 0]], .lst [], .lst [[ai 0, ai 1, ai 10, ai 0, ai (-1)]]], ai 0, ai 5, ai 1, ai 14] (.tup [lInt WL, ai 0]) := by
    have := Hs.Wall_ok hEx 0 5 1 14 ex_fit
    have h2 := ex_wall
    rw [hW] at this h2
    dsimp only at this h2
    rw [h2] at this
    exact this
  have c4 : OKv cx 13 [.agg [.lst [[at_ (ByteArray.mk #[97]), ai 0], [at_ (ByteArray.mk #[98]), ai 0]], .lst [], .lst [[ai 0, ai 1, ai 10, ai 0, ai (-1)]]], ai 0, ai 5, ai 1, ai 14, lInt WL] (ai 0) := by
    have h2 := ex_check
    rw [hW] at h2
    dsimp only at h2
    have hl : WL.length ≤ 1099511627776 := by
      have : (Hs.wallH hEx 0 5 1 14).1.length ≤ 1099511627776 := by decide +kernel
      rw [hW] at this
      exact this
    have := Hs.CheckWall_ok hEx 0 5 1 14 WL ex_fit hl
    rw [h2] at this
    exact this
  refine OKat.of_body (rs := [0]) Tryz.func5 rfl (by decide +kernel) rfl (by simp [Tryz.ntmps5]) ?_
  simp only [Tryz.ntmps5]
  repeat' first
    | apply jA | apply jB | apply jC | apply jI
    | ((first | (apply jK kO; decide) | apply jM kO | (apply jN; rfl; decide)); (simp (disch := omega) only [push_cast, simprocAttr, hf1, hf2, hf3, hf8, hf9] <;> rfl); all_goals try ((with_reducible intro hI); try first | (cases hI; done) | (simp only [INTS, zL] at hI; try first | (exfalso; omega) | (have hT : True := hI; clear hT hI))))
    | ((apply jV kO; decide); (iterate 2 (simp (disch := omega) only [push_cast, simprocAttr, hf1, hf2, hf3, hf8, hf9] <;> rfl)); (with_reducible first | exact c1 | exact c2 | exact c3 | exact c4); try first | rfl | (simp (disch := omega) only [push_cast, simprocAttr, hf1, hf2, hf3, hf8, hf9] <;> rfl))
    | ((apply W.ret1); (iterate 2 (try (simp (disch := omega) only [push_cast, simprocAttr, hf1, hf2, hf3, hf8, hf9] <;> rfl))))

  all_goals (show _ = _; rfl)
end Go.Proofs.Yt
