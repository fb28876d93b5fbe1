/-
  Contracts of functions, proved by going through their code. No conditions.
-/
import Derived.Test.YtdlflcambboojaaVaa
import Derived.Test.YtdlflcambboojaaVaq
import Derived.Test.YtdlflcambboojaaVay
set_option linter.unusedVariables false
set_option linter.unusedSimpArgs false
set_option maxHeartbeats 8000000
set_option maxRecDepth 10000
namespace Go.Proofs.Ks
open Go Go.Pg Go.Proofs
theorem view_list {α : Type} (f : α → List AV) {H : Nat → Option AO} {id k lw : Nat} {ty : TypeId} {l : List α} (hp : (l.map f).all pureL = true) (hlw : lw ≤ l.length) (h : Pg.rowAt H id = some { k := k, es := l.map f, ty := ty, lo := lw }) : viewA H (.ref id 0 l.length) = some (.lst (l.map f)) := by
  rw [view_ref, h]
  dsimp only
  rw [if_pos ⟨by omega, by simp, hp⟩, List.drop_zero, List.take_of_length_le (by simp)]
theorem pure_all {α : Type} (f : α → List AV) (h : ∀ x, pureL (f x) = true) (l : List α) : (l.map f).all pureL = true := by
  rw [List.all_map, List.all_eq_true]; intro x _; exact h x
theorem build_m {H0 : Nat → Option AO} {nx : Nat} (r : Rec) (more : List Int) (hv : r.V) (hml : more.length ≤ 8) (hmb : ∀ a ∈ more, 0 ≤ a ∧ a ≤ 43200) :
    OKm cx 87 [.agg (eRec r), lInt more] H0 nx (fun v H' nx' => v = .ptr (nx + 2) 0 0 1 ∧ SysM H' (nx + 2) (nx + 4) (nx + 1) (nx + 5) (nodesR r more) (linksR r more) ∧ nx + 6 ≤ nx' ∧ ∀ j, j < nx → (∀ a b, H0 j ≠ some (.mp (.dfr a b) 0 [])) → H' j = H0 j) := by
  refine build_a r more hv hml hmb fun Dd dn s h5 hM hc hf hd hdn hn => ?_
  delta tail87
  simp only [Try.f87, Option.getD_some, dropS1]
  repeat' first
    | apply jA | apply jB | apply jC | apply jD | apply jE | apply jF | apply jG | apply jH | apply jI | apply jJ
    | refine W.draw cx_mixed (by decide +kernel) ?_
    | ((first | (apply jK cx_ok; decide) | (apply jL cx_ok; decide; decide) | apply jM cx_ok | (apply jN; rfl; decide) | (apply jO; rfl; decide; decide) | apply jR | apply jS cx_ok); (simp (disch := (first | omega | (simp only [vC, vD]; omega))) only [push_cast, simprocAttr, takeM, dropM, zK, zA, zB, zN, zQ, zR, zO, zP, zT, zS, zU, leT, zH, natNe, zI, zG, zJ, h5, hc] <;> rfl); all_goals try ((with_reducible intro hI); try first | (cases hI; done) | (simp only [INTS, zL] at hI; try first | (exfalso; omega) | (have hT : True := hI; clear hT hI))))
    | ((first | (apply jP; rfl; decide) | (apply jQ; rfl; decide; decide)); (simp (disch := (first | omega | (simp only [vC, vD]; omega))) only [push_cast, simprocAttr, takeM, dropM, zK, zA, zB, zN, zQ, zR, zO, zP, zT, zS, zU, leT, zH, natNe, zI, zG, zJ, h5, hc] <;> rfl))
    | (refine W.makeMap cx_ok (by simp only [push_cast, simprocAttr] <;> rfl) (by decide) ?_)
    | (apply jT cx_ok; decide; rfl; rfl; rfl; decide; (iterate 3 (simp (disch := (first | omega | (simp only [vC, vD]; omega))) only [push_cast, simprocAttr, takeM, dropM, zK, zA, zB, zN, zQ, zR, zO, zP, zT, zS, zU, leT, zH, natNe, zI, zG, zJ, h5, hc] <;> rfl)); (first | (focus (simp; done)) | (intro c hc; obtain ⟨x, _, rfl⟩ := List.mem_map.1 hc; rfl)); ((first | rfl | simp (disch := omega) only [push_cast])); ((try dsimp only); (try simp only [vC, vD]); omega); ((try dsimp only); (try simp only [vC, vD]); omega))

  refine ⟨by (simp (disch := omega) only [push_cast, simprocAttr, natNe, zI, zG, zJ, hd]), fun H2 hr2 hm2 => ?_⟩
  replace hr2 : ∀ i, Pg.rowAt H2 i = Pg.rowAt s.H i := hr2
  replace hm2 : ∀ i, (∀ D ds, s.H i ≠ some (.mp (.dfr D ds) 0 [])) → H2 i = s.H i := hm2
  obtain ⟨m1, m2, m3, lw, m4, m5⟩ := hM
  apply W.retX (vs := [.ptr (nx + 2) 0 0 1])
  · (simp (disch := omega) only [push_cast, simprocAttr, natNe, zI, zG, zJ, h5, hc] <;> rfl)
  · refine ⟨rfl, ⟨(hr2 _).trans m1, (hr2 _).trans m2, (hm2 _ (by rw [m3]; intro a b h; injection h with h; injection h with h; cases h)).trans m3, lw, m4, (hr2 _).trans m5⟩, hn, fun j hj hd => ?_⟩
    exact (hm2 j (by rw [hf j hj]; exact hd)).trans (hf j hj)
theorem build_ok (r : Rec) (more : List Int) (hv : r.V) (hml : more.length ≤ 8) (hmb : ∀ a ∈ more, 0 ≤ a ∧ a ≤ 43200) : OKv cx 87 [.agg (eRec r), lInt more] (gSys (nodesR r more) (linksR r more)) := by
  refine OKm.toAt (build_a (H0 := fun _ => none) (nx := 0) r more hv hml hmb (Q := fun v H _ => viewA H v = some (gSys (nodesR r more) (linksR r more))) fun Dd dn s h5 hM hc hf hd hdn hn => ?_) (fun r H nx hq => ⟨_, hq, rfl⟩)
  obtain ⟨m1, m2, m3, lw, m4, m5⟩ := hM
  simp only [Nat.zero_add] at m1 m2 m3 m5 hc h5
  generalize nodesR r more = N at m1 m2 m3 ⊢
  generalize linksR r more = L at m1 m4 m5 ⊢
  refine AW.frzM 1 m3 ?_
  refine AW.settle 2 [4, 5] (r := { k := 3, es := [[.ref 4 0 N.length, .map 1, .ref 5 0 L.length]], ty := 135 }) (es' := [[lNode N, .lmap .pair (N.map keyN) (idxV 0 N.length), lLink L]]) ?_ ?_ (by decide) rfl ?_ ?_
  · (simp (disch := omega) only [push_cast, simprocAttr, natNe, zI, zG, zJ, m1] <;> rfl)
  · intro i hi
    simp only [zI, zG, or_false] at hi
    rcases hi with rfl | rfl
    · exact ⟨_, (by (simp (disch := omega) only [push_cast, simprocAttr, natNe, zI, zG, zJ, m2]) : Pg.rowAt _ 4 = some { k := 2, es := N.map eNode, ty := 144, lo := N.length })⟩
    · exact ⟨_, (by (simp (disch := omega) only [push_cast, simprocAttr, natNe, zI, zG, zJ, m5]) : Pg.rowAt _ 5 = some { k := 3, es := L.map eLink, ty := 66, lo := lw })⟩
  · intro i e e' he he'
    match i, he, he' with
    | 0, he, he' =>
      simp only [List.getElem?_cons_zero, Option.some.injEq] at he he'
      subst he; subst he'
      refine ⟨rfl, fun j a b ha hb => ?_⟩
      match j, ha, hb with
      | 0, ha, hb =>
        simp only [List.getElem?_cons_zero, Option.some.injEq] at ha hb
        subst ha; subst hb
        exact ⟨.view (view_list eNode (pure_all eNode (fun _ => rfl) N) (Nat.le_refl _) (k := 2) (ty := 144) (by (simp (disch := omega) only [push_cast, simprocAttr, natNe, zI, zG, zJ, m2]))), by simp [idsA]⟩
      | 1, ha, hb =>
        simp only [List.getElem?_cons_zero, List.getElem?_cons_succ, Option.some.injEq] at ha hb
        subst ha; subst hb
        have hz : (ixM N).map (·.1) = N.map keyN ∧ (ixM N).map (·.2) = idxV 0 N.length := by
          unfold ixM
          constructor
          · rw [List.map_fst_zip]; simp [idxV]
          · rw [List.map_snd_zip]; simp [idxV]
        have hq := Told.map (H := updH s.H 1 (.mp (.fmap .pair) 0 (ixM N))) (id := 1) (sh := .pair) (et := 0) (es := ixM N) (by simp [updH]) (by
          rw [hz.2]; unfold idxV
          generalize List.range' 0 N.length = q
          induction q with
          | nil => rfl
          | cons a q ih => simp only [zX, pureL, pureA, ih, Bool.true_and])
        rw [hz.1, hz.2] at hq
        exact ⟨hq, by simp [idsA]⟩
      | 2, ha, hb =>
        simp only [List.getElem?_cons_zero, List.getElem?_cons_succ, Option.some.injEq] at ha hb
        subst ha; subst hb
        exact ⟨.view (view_list eLink (pure_all eLink (fun _ => rfl) L) m4 (k := 3) (ty := 66) (by (simp (disch := omega) only [push_cast, simprocAttr, natNe, zI, zG, zJ, m5]))), by simp [idsA]⟩
      | j + 3, ha, _ => simp at ha
    | i + 1, he, _ => simp at he
  delta tail87
  simp only [Try.f87, Option.getD_some, dropS1]
  have hc1 : Pg.rowAt (updH (frz (updH s.H 1 (.mp (.fmap .pair) 0 (ixM N))) [4, 5]) 2 (.row { k := 3, es := [[lNode N, .lmap .pair (N.map keyN) (idxV 0 N.length), lLink L]], ty := 135 })) 3 = some { k := 1, es := [[.ptr 2 0 0 1]], ty := 122 } := hc
  have hd1 : (updH (frz (updH s.H 1 (.mp (.fmap .pair) 0 (ixM N))) [4, 5]) 2 (.row { k := 3, es := [[lNode N, .lmap .pair (N.map keyN) (idxV 0 N.length), lLink L]], ty := 135 })) dn = some (.mp (.dfr Dd (some [])) 0 []) := by
    simp only [updH, frz]
    rw [if_neg (by omega), if_neg (by simp only [zI, zG, or_false]; omega), if_neg (by omega)]
    exact hd
  have hg1 : Pg.rowAt (updH (frz (updH s.H 1 (.mp (.fmap .pair) 0 (ixM N))) [4, 5]) 2 (.row { k := 3, es := [[lNode N, .lmap .pair (N.map keyN) (idxV 0 N.length), lLink L]], ty := 135 })) 2 = some { k := 3, es := [[lNode N, .lmap .pair (N.map keyN) (idxV 0 N.length), lLink L]], ty := 135 } := rfl
  generalize updH (frz (updH s.H 1 (.mp (.fmap .pair) 0 (ixM N))) [4, 5]) 2 (.row { k := 3, es := [[lNode N, .lmap .pair (N.map keyN) (idxV 0 N.length), lLink L]], ty := 135 }) = G at hc1 hd1 hg1 ⊢
  repeat' first
    | apply jA | apply jB | apply jC | apply jD | apply jE | apply jF | apply jG | apply jH | apply jI | apply jJ
    | refine W.draw cx_mixed (by decide +kernel) ?_
    | ((first | (apply jK cx_ok; decide) | (apply jL cx_ok; decide; decide) | apply jM cx_ok | (apply jN; rfl; decide) | (apply jO; rfl; decide; decide) | apply jR | apply jS cx_ok); (simp (disch := (first | omega | (simp only [vC, vD]; omega))) only [push_cast, simprocAttr, takeM, dropM, zK, zA, zB, zN, zQ, zR, zO, zP, zT, zS, zU, leT, zH, natNe, zI, zG, zJ, h5, hc1] <;> rfl); all_goals try ((with_reducible intro hI); try first | (cases hI; done) | (simp only [INTS, zL] at hI; try first | (exfalso; omega) | (have hT : True := hI; clear hT hI))))
    | ((first | (apply jP; rfl; decide) | (apply jQ; rfl; decide; decide)); (simp (disch := (first | omega | (simp only [vC, vD]; omega))) only [push_cast, simprocAttr, takeM, dropM, zK, zA, zB, zN, zQ, zR, zO, zP, zT, zS, zU, leT, zH, natNe, zI, zG, zJ, h5, hc1] <;> rfl))
    | (refine W.makeMap cx_ok (by simp only [push_cast, simprocAttr] <;> rfl) (by decide) ?_)
    | (apply jT cx_ok; decide; rfl; rfl; rfl; decide; (iterate 3 (simp (disch := (first | omega | (simp only [vC, vD]; omega))) only [push_cast, simprocAttr, takeM, dropM, zK, zA, zB, zN, zQ, zR, zO, zP, zT, zS, zU, leT, zH, natNe, zI, zG, zJ, h5, hc1] <;> rfl)); (first | (focus (simp; done)) | (intro c hc; obtain ⟨x, _, rfl⟩ := List.mem_map.1 hc; rfl)); ((first | rfl | simp (disch := omega) only [push_cast])); ((try dsimp only); (try simp only [vC, vD]); omega); ((try dsimp only); (try simp only [vC, vD]); omega))

  refine ⟨by (simp (disch := omega) only [push_cast, simprocAttr, natNe, zI, zG, zJ, hd1]), fun H2 hr2 hm2 => ?_⟩
  replace hr2 : ∀ i, Pg.rowAt H2 i = Pg.rowAt G i := hr2
  apply W.retX (vs := [.ptr 2 0 0 1])
  · (simp (disch := omega) only [push_cast, simprocAttr, natNe, zI, zG, zJ, h5, hc1] <;> rfl)
  · have hg2 := (hr2 2).trans hg1
    show viewA H2 (.ptr 2 0 0 1) = _
    rw [view_ptr, hg2]
    dsimp only
    rw [if_pos ⟨Nat.zero_le _, Nat.zero_lt_one, rfl⟩]
    rfl
end Go.Proofs.Ks

namespace Go.Pg
open Go Go.RowKit
section
variable {C : Cx} {N : Nat} {Q : Exit → St → Prop} {s : St} {ops : Array Oper} {l : List Oper}
theorem AWL.frzM (id : Nat) {sh : KSh} {et : TypeId} {es : List (Key × AV)} (hH : s.H id = some (.mp (.map sh) et es)) (h : AWL C N ops Q l { s with H := updH s.H id (.mp (.fmap sh) et es) }) : AWL C N ops Q l s := by
  rintro S0 w0 a w hE ⟨σ, hσ⟩
  have hle := hσ.inv.le_frz [id]
  refine h S0 w0 a w hE ⟨σ.frz [id], hσ.inv.frzM hH, fun i hi => ?_, fun u => Rep.mono hle _ _ (hσ.tm u), hσ.N, hσ.d, hσ.below⟩
  have h0 := hσ.nx i hi
  show updH s.H id _ i = none
  simp only [updH]
  rw [if_neg (fun e => by subst e; rw [hH] at h0; cases h0)]; exact h0
theorem AWL.settle (id : Nat) (ids : List Nat) {r : Row} {es' : List (List AV)} (hr : rowAt s.H id = some r) (hrows : ∀ i ∈ ids, ∃ r, rowAt s.H i = some r) (hid : id ∉ ids) (hl : es'.length = r.es.length)
    (htold : ∀ (i : Nat) (e e' : List AV), r.es[i]? = some e → es'[i]? = some e' → e'.length = e.length ∧ ∀ (j : Nat) (a b : AV), e[j]? = some a → e'[j]? = some b → Told s.H a b ∧ ∀ x ∈ idsA a, x ∈ ids)
    (h : AWL C N ops Q l { s with H := updH (frz s.H ids) id (.row { r with es := es' }) }) : AWL C N ops Q l s := by
  rintro S0 w0 a w hE ⟨σ, hσ⟩
  have hH := rowAt_eq hr
  have hle := hσ.inv.le_frz ids
  have hinv := hσ.inv.frz hrows
  have hH' : frz s.H ids id = some (.row r) := by unfold frz; rw [if_neg hid]; exact hH
  have hR := hinv.row id r hH'
  have hR0 := hσ.inv.row id r hH
  have hinv2 := hinv.retell (es' := es') hH' hl (fun e' he' => by
    obtain ⟨i, hi, rfl⟩ := List.getElem_of_mem he'
    have hi2 : i < r.es.length := by omega
    obtain ⟨g1, g2⟩ := htold i r.es[i] es'[i] (List.getElem?_eq_getElem hi2) (List.getElem?_eq_getElem hi)
    obtain ⟨e1, e2⟩ := hR.each _ (List.getElem_mem hi2)
    refine ⟨g1.trans e1, fun d hd => ?_⟩
    obtain ⟨j, hj, rfl⟩ := List.getElem_of_mem hd
    have hj2 : j < r.es[i].length := by omega
    obtain ⟨t1, _⟩ := g2 j _ _ (List.getElem?_eq_getElem hj2) (List.getElem?_eq_getElem hj)
    have hcc := e2 _ (List.getElem_mem hj2)
    generalize es'[i][j] = d at t1
    generalize r.es[i][j] = c0 at t1 hcc
    cases t1 with
    | view hv => exact view_cell hv hcc
    | map hv hp => rfl) (fun b hb i hi => by
    have hi2 : i < r.es.length := by omega
    obtain ⟨g1, g2⟩ := htold i r.es[i] es'[i] (List.getElem?_eq_getElem hi2) (List.getElem?_eq_getElem hi)
    have hcon := hR0.con b hb i hi2
    rw [repL_iff] at hcon ⊢
    intro j hj
    have hj2 : j < r.es[i].length := by omega
    obtain ⟨u, hu, hru⟩ := hcon j hj2
    obtain ⟨t1, t2⟩ := g2 j _ _ (List.getElem?_eq_getElem hj2) (List.getElem?_eq_getElem hj)
    refine ⟨u, hu, ?_⟩
    generalize es'[i][j] = d at t1
    generalize r.es[i][j] = c0 at t1 t2 hru
    cases t1 with
    | view hv => exact Rep.lift (viewA_sound hσ.inv (S' := (σ.frz ids).S) (fun b h => .inl h) _ _ _ hv (fun x hx b hb => .inr ⟨x, t2 x hx, hb⟩) hru)
    | map hv hp => exact Rep.mono hle _ _ (hσ.inv.fmap_rep hv hp hru))
  refine h S0 w0 a w hE ⟨σ.frz ids, hinv2, fun i hi => ?_, fun u => Rep.mono hle _ _ (hσ.tm u), hσ.N, hσ.d, hσ.below⟩
  have h0 := hσ.nx i hi
  show updH (frz s.H ids) id _ i = none
  simp only [updH]
  rw [if_neg (fun e => by subst e; rw [hH] at h0; cases h0)]
  unfold frz
  split
  · rw [h0]
  · exact h0
end
end Go.Pg

namespace Go.Proofs.Ks
open Go Go.Pg Go.Proofs
theorem settleM {NN : Nat} {Q : Exit → St → Prop} {s : St} {ops : Array Oper} {l : List Oper} {g nd m lk : Nat} {N : List Node} {L : List Lk} (hM : SysM s.H g nd m lk N L) (d1 : g ≠ nd) (d2 : g ≠ m) (d3 : g ≠ lk) (d4 : nd ≠ m) (d5 : lk ≠ m)
    (h : ∀ H', Pg.rowAt H' g = some { k := 3, es := [[lNode N, .lmap .pair (N.map keyN) (idxV 0 N.length), lLink L]], ty := 135 } → (∀ j, j ≠ g → j ≠ nd → j ≠ lk → j ≠ m → H' j = s.H j) → AWL cx NN ops Q l { s with H := H' }) : AWL cx NN ops Q l s := by
  obtain ⟨m1, m2, m3, lw, m4, m5⟩ := hM
  have r1 : Pg.rowAt (updH s.H m (.mp (.fmap .pair) 0 (ixM N))) g = some { k := 3, es := [[.ref nd 0 N.length, .map m, .ref lk 0 L.length]], ty := 135 } := (rowAt_eqH (by simp only [updH]; rw [if_neg d2])).trans m1
  have r2 : Pg.rowAt (updH s.H m (.mp (.fmap .pair) 0 (ixM N))) nd = some { k := 2, es := N.map eNode, ty := 144, lo := N.length } := (rowAt_eqH (by simp only [updH]; rw [if_neg d4])).trans m2
  have r3 : Pg.rowAt (updH s.H m (.mp (.fmap .pair) 0 (ixM N))) lk = some { k := 3, es := L.map eLink, ty := 66, lo := lw } := (rowAt_eqH (by simp only [updH]; rw [if_neg d5])).trans m5
  refine AWL.frzM m m3 ?_
  refine AWL.settle g [nd, lk] (r := { k := 3, es := [[.ref nd 0 N.length, .map m, .ref lk 0 L.length]], ty := 135 }) (es' := [[lNode N, .lmap .pair (N.map keyN) (idxV 0 N.length), lLink L]]) r1 ?_ (by simp only [zI, zG, or_false, not_or]; exact ⟨d1, d3⟩) rfl ?_ (h _ ?_ ?_)
  · intro i hi
    simp only [zI, zG, or_false] at hi
    rcases hi with rfl | rfl
    · exact ⟨_, r2⟩
    · exact ⟨_, r3⟩
  · intro i e e' he he'
    match i, he, he' with
    | 0, he, he' =>
      simp only [List.getElem?_cons_zero, Option.some.injEq] at he he'
      subst he; subst he'
      refine ⟨rfl, fun j a b ha hb => ?_⟩
      match j, ha, hb with
      | 0, ha, hb =>
        simp only [List.getElem?_cons_zero, Option.some.injEq] at ha hb
        subst ha; subst hb
        exact ⟨.view (view_list eNode (pure_all eNode (fun _ => rfl) N) (Nat.le_refl _) (k := 2) (ty := 144) r2), by simp [idsA]⟩
      | 1, ha, hb =>
        simp only [List.getElem?_cons_zero, List.getElem?_cons_succ, Option.some.injEq] at ha hb
        subst ha; subst hb
        have hz : (ixM N).map (·.1) = N.map keyN ∧ (ixM N).map (·.2) = idxV 0 N.length := by
          unfold ixM
          constructor
          · rw [List.map_fst_zip]; simp [idxV]
          · rw [List.map_snd_zip]; simp [idxV]
        have hq := Told.map (H := updH s.H m (.mp (.fmap .pair) 0 (ixM N))) (id := m) (sh := .pair) (et := 0) (es := ixM N) (by simp [updH]) (by
          rw [hz.2]; unfold idxV
          generalize List.range' 0 N.length = q
          induction q with
          | nil => rfl
          | cons a q ih => simp only [zX, pureL, pureA, ih, Bool.true_and])
        rw [hz.1, hz.2] at hq
        exact ⟨hq, by simp [idsA]⟩
      | 2, ha, hb =>
        simp only [List.getElem?_cons_zero, List.getElem?_cons_succ, Option.some.injEq] at ha hb
        subst ha; subst hb
        exact ⟨.view (view_list eLink (pure_all eLink (fun _ => rfl) L) m4 (k := 3) (ty := 66) r3), by simp [idsA]⟩
      | j + 3, ha, _ => simp at ha
    | i + 1, he, _ => simp at he
  · unfold Pg.rowAt; simp only [updH, if_true]
  · intro j hj1 hj2 hj3 hj4
    show updH (frz (updH s.H m (.mp (.fmap .pair) 0 (ixM N))) [nd, lk]) g _ j = _
    simp only [updH, frz]
    rw [if_neg hj1, if_neg (by simp only [zI, zG, or_false, not_or]; exact ⟨hj2, hj3⟩), if_neg hj4]
end Go.Proofs.Ks

namespace Go.Proofs.Ks
open Go Go.Pg Go.Proofs
def consP (r : Rec) (more : List Int) : Bool := decide ((lengthsF (nodesR r more).length (linksR r more) (-1)).2.2 < 0)
theorem solved_bad (r : Rec) (more : List Int) (hc : checkE r ≠ 0) : OKv cx 81 [.agg (eRec r), lInt more] (.tup [.v (.pointer none), ai (checkE r)]) := by
  have hcF : (checkE r = 0) = False := eq_false hc
  refine OKat.of_body (rs := [4, 5]) Try.func81 rfl (by decide +kernel) rfl (by simp [Try.ntmps81]) ?_
  simp only [Try.ntmps81]
  repeat' first
    | apply jA | apply jB | apply jC | apply jD | apply jE | apply jF | apply jG | apply jH | apply jI
    | ((first | (apply jK cx_ok; decide) | apply jR); (simp (disch := omega) only [push_cast, simprocAttr, hcF] <;> rfl); all_goals try ((with_reducible intro hI); try first | (cases hI; done) | (simp only [INTS, zL] at hI; try first | (exfalso; omega) | (have hT : True := hI; clear hT hI))))
    | ((apply jV cx_ok; decide); (iterate 2 (simp (disch := omega) only [push_cast, simprocAttr, hcF] <;> rfl)); (with_reducible first | exact Check_ok r); try first | rfl | (simp (disch := omega) only [push_cast, simprocAttr, hcF] <;> rfl))
    | ((first | apply jh | apply ji); (iterate 2 (try (simp (disch := omega) only [push_cast, simprocAttr, hcF] <;> rfl))))

  all_goals (show _ = _; rfl)
theorem solved_clash (r : Rec) (more : List Int) (hc : checkE r = 0) (hml : more.length ≤ 8) (hmb : ∀ a ∈ more, 0 ≤ a ∧ a ≤ 43200) (hq : consP r more = false) : OKv cx 81 [.agg (eRec r), lInt more] (.tup [.v (.pointer none), ai 9]) := by
  have hv := checkE_V hc
  obtain ⟨h1, h2, h3, h4, h5⟩ := links_facts hv hml hmb
  have hb := build_ok r more hv hml hmb
  have hn := consistent_ok (nodesR r more) (linksR r more) h1 h2 h3 h4
  unfold consP at hq
  rw [hq] at hn
  refine OKat.of_body (rs := [4, 5]) Try.func81 rfl (by decide +kernel) rfl (by simp [Try.ntmps81]) ?_
  simp only [Try.ntmps81]
  repeat' first
    | apply jA | apply jB | apply jC | apply jD | apply jE | apply jF | apply jG | apply jH | apply jI
    | ((first | (apply jK cx_ok; decide) | apply jR); (simp (disch := omega) only [push_cast, simprocAttr, hc] <;> rfl); all_goals try ((with_reducible intro hI); try first | (cases hI; done) | (simp only [INTS, zL] at hI; try first | (exfalso; omega) | (have hT : True := hI; clear hT hI))))
    | ((apply jV cx_ok; decide); (iterate 2 (simp (disch := omega) only [push_cast, simprocAttr, hc] <;> rfl)); (with_reducible first | exact Check_ok r | exact hb | exact hn); try first | rfl | (simp (disch := omega) only [push_cast, simprocAttr, hc] <;> rfl))
    | ((first | apply jh | apply ji); (iterate 2 (try (simp (disch := omega) only [push_cast, simprocAttr, hc] <;> rfl))))

  all_goals (show _ = _; rfl)
theorem solved_good (r : Rec) (more : List Int) (hc : checkE r = 0) (hml : more.length ≤ 8) (hmb : ∀ a ∈ more, 0 ≤ a ∧ a ≤ 43200) (hq : consP r more = true) : OKv cx 81 [.agg (eRec r), lInt more] (.tup [gSys (nodesR r more) (linksR r more), ai 0]) := by
  have hv := checkE_V hc
  obtain ⟨h1, h2, h3, h4, h5⟩ := links_facts hv hml hmb
  have hb := build_ok r more hv hml hmb
  have hn := consistent_ok (nodesR r more) (linksR r more) h1 h2 h3 h4
  unfold consP at hq
  rw [hq] at hn
  refine OKat.of_body (rs := [4, 5]) Try.func81 rfl (by decide +kernel) rfl (by simp [Try.ntmps81]) ?_
  simp only [Try.ntmps81]
  repeat' first
    | apply jA | apply jB | apply jC | apply jD | apply jE | apply jF | apply jG | apply jH | apply jI
    | ((first | (apply jK cx_ok; decide) | apply jR); (simp (disch := omega) only [push_cast, simprocAttr, hc] <;> rfl); all_goals try ((with_reducible intro hI); try first | (cases hI; done) | (simp only [INTS, zL] at hI; try first | (exfalso; omega) | (have hT : True := hI; clear hT hI))))
    | ((apply jV cx_ok; decide); (iterate 2 (simp (disch := omega) only [push_cast, simprocAttr, hc] <;> rfl)); (with_reducible first | exact Check_ok r | exact hb | exact hn); try first | rfl | (simp (disch := omega) only [push_cast, simprocAttr, hc] <;> rfl))
    | ((first | apply jh | apply ji); (iterate 2 (try (simp (disch := omega) only [push_cast, simprocAttr, hc] <;> rfl))))

  all_goals (show _ = _; rfl)
theorem nomore (a : Int) : a ∈ ([] : List Int) → 0 ≤ a ∧ a ≤ 43200 := fun h => by cases h
theorem solved0 (r : Rec) : (checkE r ≠ 0 ∧ OKv cx 81 [.agg (eRec r), .lst []] (.tup [.v (.pointer none), ai (checkE r)])) ∨ (checkE r = 0 ∧ consP r [] = false ∧ OKv cx 81 [.agg (eRec r), .lst []] (.tup [.v (.pointer none), ai 9])) ∨
    (checkE r = 0 ∧ consP r [] = true ∧ OKv cx 81 [.agg (eRec r), .lst []] (.tup [gSys (nodesR r []) (linksR r []), ai 0])) := by
  by_cases hc : checkE r = 0
  · cases hq : consP r [] with
    | false => exact .inr (.inl ⟨hc, rfl, solved_clash r [] hc (by decide) nomore hq⟩)
    | true => exact .inr (.inr ⟨hc, rfl, solved_good r [] hc (by decide) nomore hq⟩)
  · exact .inl ⟨hc, solved_bad r [] hc⟩
theorem spanI_ok {r : Rec} {more : List Int} (hv : r.V) (hml : more.length ≤ 8) (hmb : ∀ a ∈ more, 0 ≤ a ∧ a ≤ 43200) {f t : Int} (hf : 0 ≤ f ∧ f < (nodesR r more).length) (ht : 0 ≤ t ∧ t < (nodesR r more).length) :
    OKv cx 82 [gSys (nodesR r more) (linksR r more), ai f, ai t] (.agg (eSpan (spanF (nodesR r more) (linksR r more) f.toNat t.toNat))) := by
  obtain ⟨h1, h2, h3, h4, h5⟩ := links_facts hv hml hmb
  have := span_ok (nodesR r more) (linksR r more) f.toNat t.toNat h1 h2 h3 h4 (by omega) (by omega)
  rw [Int.toNat_of_nonneg hf.1, Int.toNat_of_nonneg ht.1] at this
  exact this
def eventP (r : Rec) (kd : Nat) : Span × Int := if checkE r = 0 then (if consP r [] = true then (spanF (nodesR r []) (linksR r []) 0 kd, 0) else (⟨0, 0⟩, 9)) else (⟨0, 0⟩, checkE r)
theorem event_ok (r : Rec) (kd : Nat) (hk : kd = 1 ∨ kd = 2) : OKv cx 94 [.agg (eRec r), ai kd] (.tup [.agg (eSpan (eventP r kd).1), ai (eventP r kd).2]) := by
  unfold eventP
  rcases solved0 r with ⟨hc, hs⟩ | ⟨hc, hq, hs⟩ | ⟨hc, hq, hs⟩
  · rw [if_neg hc]
    have hcF : (checkE r = 0) = False := eq_false hc
    refine OKat.of_bodyM cx_ok (rs := [.cell 4 23, .tmp 5]) Try.func94 rfl (by decide +kernel) rfl (by simp [Try.ntmps94]) ?_
    simp only [Try.ntmps94]
    repeat' first
      | apply jA | apply jB | apply jC | apply jD | apply jE | apply jF | apply jG | apply jH | apply jI
      | ((first | (apply jK cx_ok; decide) | apply jM cx_ok | apply jR); (simp (disch := omega) only [push_cast, simprocAttr, hcF] <;> rfl); all_goals try ((with_reducible intro hI); try first | (cases hI; done) | (simp only [INTS, zL] at hI; try first | (exfalso; omega) | (have hT : True := hI; clear hT hI))))
      | ((apply jV cx_ok; decide); (iterate 2 (simp (disch := omega) only [push_cast, simprocAttr, hcF] <;> rfl)); (with_reducible first | exact hs); try first | rfl | (simp (disch := omega) only [push_cast, simprocAttr, hcF] <;> rfl))
      | ((first | apply jl | apply jm); (iterate 2 (try (simp (disch := omega) only [push_cast, simprocAttr, hcF] <;> rfl))))

    all_goals (show _ = _; rfl)
  · rw [if_pos hc, if_neg (by rw [hq]; decide)]
    refine OKat.of_bodyM cx_ok (rs := [.cell 4 23, .tmp 5]) Try.func94 rfl (by decide +kernel) rfl (by simp [Try.ntmps94]) ?_
    simp only [Try.ntmps94]
    repeat' first
      | apply jA | apply jB | apply jC | apply jD | apply jE | apply jF | apply jG | apply jH | apply jI
      | ((first | (apply jK cx_ok; decide) | apply jM cx_ok | apply jR); (simp (disch := omega) only [push_cast, simprocAttr] <;> rfl); all_goals try ((with_reducible intro hI); try first | (cases hI; done) | (simp only [INTS, zL] at hI; try first | (exfalso; omega) | (have hT : True := hI; clear hT hI))))
      | ((apply jV cx_ok; decide); (iterate 2 (simp (disch := omega) only [push_cast, simprocAttr] <;> rfl)); (with_reducible first | exact hs); try first | rfl | (simp (disch := omega) only [push_cast, simprocAttr] <;> rfl))
      | ((first | apply jl | apply jm); (iterate 2 (try (simp (disch := omega) only [push_cast, simprocAttr] <;> rfl))))

    all_goals (show _ = _; rfl)
  · rw [if_pos hc, if_pos hq]
    have hv := checkE_V hc
    have hl := nodesR_len r []
    have ha : OKv cx 83 [gSys (nodesR r []) (linksR r []), ai kd, ai 0] (ai kd) := by
      have := at_ok (nodesR r []) (linksR r []) kd 0
      rcases hk with rfl | rfl
      · exact this
      · exact this
    have hsp : OKv cx 82 [gSys (nodesR r []) (linksR r []), ai 0, ai kd] (.agg (eSpan (spanF (nodesR r []) (linksR r []) 0 kd))) := by
      have := spanI_ok (more := []) hv (by decide) nomore (f := 0) (t := (kd : Int)) (by omega) (by omega)
      simpa using this
    obtain ⟨S, hS0⟩ : ∃ z, spanF (nodesR r []) (linksR r []) 0 kd = z := ⟨_, rfl⟩
    rw [hS0] at hsp
    rw [hS0]
    refine OKat.of_bodyM cx_ok (rs := [.cell 4 23, .tmp 5]) Try.func94 rfl (by decide +kernel) rfl (by simp [Try.ntmps94]) ?_
    simp only [Try.ntmps94]
    repeat' first
      | apply jA | apply jB | apply jC | apply jD | apply jE | apply jF | apply jG | apply jH | apply jI
      | ((first | (apply jK cx_ok; decide) | apply jM cx_ok | apply jR); (simp (disch := omega) only [push_cast, simprocAttr] <;> rfl); all_goals try ((with_reducible intro hI); try first | (cases hI; done) | (simp only [INTS, zL] at hI; try first | (exfalso; omega) | (have hT : True := hI; clear hT hI))))
      | ((apply jV cx_ok; decide); (iterate 2 (simp (disch := omega) only [push_cast, simprocAttr] <;> rfl)); (with_reducible first | exact hs | exact ha | exact hsp); try first | rfl | (simp (disch := omega) only [push_cast, simprocAttr] <;> rfl))
      | ((first | apply jl | apply jm); (iterate 2 (try (simp (disch := omega) only [push_cast, simprocAttr] <;> rfl))))

    all_goals (show _ = _; rfl)
theorem Removed_ok (r : Rec) : OKv cx 60 [.agg (eRec r)] (.tup [.agg (eSpan (eventP r 2).1), ai (eventP r 2).2]) := by
  have he : OKv cx 94 [.agg (eRec r), ai 2] (.tup [.agg (eSpan (eventP r 2).1), ai (eventP r 2).2]) := event_ok r 2 (by decide)
  obtain ⟨E, hE⟩ : ∃ z, eventP r 2 = z := ⟨_, rfl⟩
  rw [hE] at he ⊢
  refine OKat.of_bodyM cx_ok (rs := [.cell 2 23, .tmp 3]) Try.func60 rfl (by decide +kernel) rfl (by simp [Try.ntmps60]) ?_
  simp only [Try.ntmps60]
  repeat' first
    | apply jA | apply jB | apply jC | apply jD | apply jE | apply jF | apply jG | apply jH | apply jI
    | ((first | (apply jK cx_ok; decide) | apply jM cx_ok | apply jR); (simp (disch := omega) only [push_cast, simprocAttr] <;> rfl); all_goals try ((with_reducible intro hI); try first | (cases hI; done) | (simp only [INTS, zL] at hI; try first | (exfalso; omega) | (have hT : True := hI; clear hT hI))))
    | ((apply jV cx_ok; decide); (iterate 2 (simp (disch := omega) only [push_cast, simprocAttr] <;> rfl)); (with_reducible first | exact he); try first | rfl | (simp (disch := omega) only [push_cast, simprocAttr] <;> rfl))
    | ((first | apply jl | apply jm); (iterate 2 (try (simp (disch := omega) only [push_cast, simprocAttr] <;> rfl))))

  all_goals (show _ = _; rfl)
end Go.Proofs.Ks
