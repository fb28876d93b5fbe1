/-
  Contracts of functions, proved by going through their code. No conditions.
-/
import Derived.Tactics2
import Derived.Test.YtkdiplkmcilkmaaGreatDoorTaa
import Derived.Test.YtkdiplkmcilkmaaGreatDoorTap
set_option linter.unusedVariables false
set_option linter.unusedSimpArgs false
set_option maxHeartbeats 8000000
set_option maxRecDepth 10000
namespace Go.Proofs.Dz
open Go Go.Pg Go.Proofs Go.Proofs.Ds
theorem Collect_m (A : List Arc) (hv : ∀ x ∈ A, validA x = true) (hA : A.length ≤ 1000000) (hP : (piecesL A).length ≤ 2000000) : OKm cx 104 [.clo 106 [.iptr [lArc A] 0]] (fun _ => none) 0 (NewR (rowP A)) := by
  refine OKm.of_body cx_ok (rs := [.tmp 2]) Tryz.func104 rfl (by decide +kernel) rfl (by simp [Tryz.ntmps104]) ?_
  simp only [Tryz.ntmps104]
  repeat' first
    | apply AW.seq | apply AW.region | apply AW.ret | apply AW.block | apply AW.skip | apply AW.exit | apply AW.scope | apply AW.label | apply AWL.nil
    | ((first | (apply W.step cx_ok; decide) | apply AW.cond); (simp (disch := omega) only [push_cast, simprocAttr, natNe, List.mem_cons, List.not_mem_nil, TyD.isAgg, Nat.add_assoc, Bool.false_eq_true] <;> rfl); all_goals try ((with_reducible intro hI); try first | (cases hI; done) | (simp only [INTS, not_true_eq_false] at hI; try first | (exfalso; omega) | (have hT : True := hI; clear hT hI))))


  refine W.callm cx_ok (by decide) (f := 124) (caps := []) (by simp (disch := omega) only [push_cast, simprocAttr, natNe, List.mem_cons, List.not_mem_nil, TyD.isAgg, Nat.add_assoc, Bool.false_eq_true] <;> rfl) (by simp (disch := omega) only [push_cast, simprocAttr, natNe, List.mem_cons, List.not_mem_nil, TyD.isAgg, Nat.add_assoc, Bool.false_eq_true] <;> exact AppendSeq_m A hv hA hP) ?_
  rintro r H1 nx1 hN
  repeat' first
    | apply AW.seq | apply AW.region | apply AW.ret | apply AW.block | apply AW.skip | apply AW.exit | apply AW.scope | apply AW.label | apply AWL.nil
    | ((first | (apply W.step cx_ok; decide) | apply AW.cond); (simp (disch := omega) only [push_cast, simprocAttr, natNe, List.mem_cons, List.not_mem_nil, TyD.isAgg, Nat.add_assoc, Bool.false_eq_true] <;> rfl); all_goals try ((with_reducible intro hI); try first | (cases hI; done) | (simp only [INTS, not_true_eq_false] at hI; try first | (exfalso; omega) | (have hT : True := hI; clear hT hI))))


  all_goals
    (apply W.retX (vs := [r])
     · (simp (disch := omega) only [push_cast, simprocAttr, natNe, List.mem_cons, List.not_mem_nil, TyD.isAgg, Nat.add_assoc, Bool.false_eq_true] <;> rfl)
     · exact hN)
structure SpanB where
  sp : Span
  ok : 0 ≤ sp.lo ∧ sp.lo ≤ 43199 ∧ 0 ≤ sp.hi ∧ sp.hi ≤ 43199
instance : Inhabited SpanB := ⟨⟨⟨0, 0⟩, by decide⟩⟩
def encS (x : SpanB) : List Value := [.int .i64 x.sp.lo, .int .i64 x.sp.hi]
def leS (x y : SpanB) : Prop := x.sp.lo ≤ y.sp.lo
theorem view_list {α : Type} (f : α → List AV) {H : Nat → Option AO} {id k lw : Nat} {ty : TypeId} {l : List α} (hp : (l.map f).all pureL = true) (hlw : lw ≤ l.length) (h : Pg.rowAt H id = some { k := k, es := l.map f, ty := ty, lo := lw }) : viewA H (.ref id 0 l.length) = some (.lst (l.map f)) := by
  rw [view_ref, h]
  dsimp only
  rw [if_pos ⟨by omega, by simp, hp⟩, List.drop_zero, List.take_of_length_le (by simp)]
theorem encS_row (l : List SpanB) : (l.map fun x => (encS x).map AV.v) = (l.map SpanB.sp).map eSpan := by rw [List.map_map]; rfl
theorem toB : ∀ (l : List Span), (∀ s ∈ l, 0 ≤ s.lo ∧ s.lo ≤ 43199 ∧ 0 ≤ s.hi ∧ s.hi ≤ 43199) → ∃ m : List SpanB, m.map SpanB.sp = l
  | [], _ => ⟨[], rfl⟩
  | s :: l, h => by
    obtain ⟨m, hm⟩ := toB l fun t ht => h t (by simp [ht])
    exact ⟨⟨s, h s (by simp)⟩ :: m, by rw [List.map_cons, hm]⟩
theorem SortedFunc_ok (hS : SortKC Tryz.prog 105 88 encS 2 leS) (h0 : SortKC0 Tryz.prog 105) (A : List Arc) (hv : ∀ x ∈ A, validA x = true) (hA : A.length ≤ 1000000) (hP : (piecesL A).length ≤ 2000000) :
    OKat cx 86 [.clo 106 [.iptr [lArc A] 0], .clo 88 []] (fun r => ∃ m : List Span, r = lSpan m ∧ m.Perm (piecesL A) ∧ m.Pairwise (fun s t => s.lo ≤ t.lo)) := by
  refine OKm.toAt (Q := fun v H _ => ∃ m : List Span, viewA H v = some (lSpan m) ∧ m.Perm (piecesL A) ∧ m.Pairwise (fun s t => s.lo ≤ t.lo)) ?_ (fun r H nx hq => by
    obtain ⟨m, h1, h2, h3⟩ := hq
    exact ⟨_, h1, m, rfl, h2, h3⟩)
  have hent : Go.Pg.Enters Tryz.prog 105 := ⟨_, Tryz.func105, by decide +kernel, rfl⟩
  have hC := Collect_m A hv hA hP
  refine OKm.of_body cx_ok (rs := [.tmp 4]) Tryz.func86 rfl (by decide +kernel) rfl (by simp [Tryz.ntmps86]) ?_
  simp only [Tryz.ntmps86]
  repeat' first
    | apply AW.seq | apply AW.region | apply AW.ret | apply AW.block | apply AW.skip | apply AW.exit | apply AW.scope | apply AW.label | apply AWL.nil
    | ((first | (apply W.step cx_ok; decide) | apply AW.cond); (simp (disch := omega) only [push_cast, simprocAttr, natNe, List.mem_cons, List.not_mem_nil, TyD.isAgg, Nat.add_assoc, Bool.false_eq_true] <;> rfl); all_goals try ((with_reducible intro hI); try first | (cases hI; done) | (simp only [INTS, not_true_eq_false] at hI; try first | (exfalso; omega) | (have hT : True := hI; clear hT hI))))


  refine W.callm cx_ok (by decide) (f := 104) (caps := []) (by simp (disch := omega) only [push_cast, simprocAttr, natNe, List.mem_cons, List.not_mem_nil, TyD.isAgg, Nat.add_assoc, Bool.false_eq_true] <;> rfl) (by simp (disch := omega) only [push_cast, simprocAttr, natNe, List.mem_cons, List.not_mem_nil, TyD.isAgg, Nat.add_assoc, Bool.false_eq_true] <;> exact hC) ?_
  rintro r H1 nx1 hN
  rcases hN with ⟨i, row1, hr, hrow, hfro, hflat, hne, hq⟩ | ⟨he, hl, hfro, hr⟩
  · subst hq
    obtain ⟨l, hl⟩ := toB (piecesL A) fun s hs => by have := piecesL_ok hv s hs; omega
    have hlen0 : (l.map SpanB.sp).length = l.length := List.length_map _
    have hrow2 : Pg.rowAt H1 i = some (rowK encS 2 112 l.length l) := by
      rw [hrow]
      unfold rowK
      rw [encS_row, hl, ← hlen0, hl]
    have hr2 : r = .ref i 0 l.length := by
      rw [hr, ← hlen0, hl]
      simp [rowP]
    have hln : l ≠ [] := fun e => hne (by subst e; simp [rowP, ← hl])
    have hlm : l.length ≤ 2000000 := by rw [← hlen0, hl]; exact hP
    have hso := fun nx => OKm.sortK (C := cx) (nx := nx) hent hS (fun _ => rfl) (fun x v hv => by simp [encS] at hv; rcases hv with rfl | rfl <;> rfl) hln (by omega) hrow2
    subst hr2
    repeat' first
      | apply AW.seq | apply AW.region | apply AW.ret | apply AW.block | apply AW.skip | apply AW.exit | apply AW.scope | apply AW.label | apply AWL.nil
      | ((first | (apply W.step cx_ok; decide) | apply AW.cond); (simp (disch := omega) only [push_cast, simprocAttr, natNe, List.mem_cons, List.not_mem_nil, TyD.isAgg, Nat.add_assoc, Bool.false_eq_true] <;> rfl); all_goals try ((with_reducible intro hI); try first | (cases hI; done) | (simp only [INTS, not_true_eq_false] at hI; try first | (exfalso; omega) | (have hT : True := hI; clear hT hI))))


    refine W.callm cx_ok (by decide) (f := 105) (caps := []) (by simp (disch := omega) only [push_cast, simprocAttr, natNe, List.mem_cons, List.not_mem_nil, TyD.isAgg, Nat.add_assoc, Bool.false_eq_true] <;> rfl) (by simp (disch := omega) only [push_cast, simprocAttr, natNe, List.mem_cons, List.not_mem_nil, TyD.isAgg, Nat.add_assoc, Bool.false_eq_true] <;> exact hso _) ?_
    rintro _ H2 nx2 ⟨rfl, rfl, m, hmp, hms, rfl⟩
    repeat' first
      | apply AW.seq | apply AW.region | apply AW.ret | apply AW.block | apply AW.skip | apply AW.exit | apply AW.scope | apply AW.label | apply AWL.nil
      | ((first | (apply W.step cx_ok; decide) | apply AW.cond); (simp (disch := omega) only [push_cast, simprocAttr, natNe, List.mem_cons, List.not_mem_nil, TyD.isAgg, Nat.add_assoc, Bool.false_eq_true] <;> rfl); all_goals try ((with_reducible intro hI); try first | (cases hI; done) | (simp only [INTS, not_true_eq_false] at hI; try first | (exfalso; omega) | (have hT : True := hI; clear hT hI))))


    all_goals
      (apply W.retX (vs := [.ref i 0 l.length])
       · (simp (disch := omega) only [push_cast, simprocAttr, natNe, List.mem_cons, List.not_mem_nil, TyD.isAgg, Nat.add_assoc, Bool.false_eq_true] <;> rfl)
       · refine ⟨m.map SpanB.sp, ?_, by rw [← hl]; exact hmp.map _, by rw [List.pairwise_map]; exact hms⟩
         have hlen : l.length = (m.map SpanB.sp).length := by rw [List.length_map, hmp.length_eq]
         show viewA _ (.ref i 0 l.length) = _
         rw [hlen]
         exact view_list eSpan (pure_spans _) (Nat.le_refl _) (k := 2) (ty := 112) (by
           simp only [St.put, putH, rowAt_upd, if_true]
           unfold rowK
           rw [encS_row]))
  · have hp0 : piecesL A = [] := by simpa [rowP] using he
    have hx : r = .v (.slice none 0 0) ∨ ∃ i, r = .ref i 0 0 ∧ Pg.rowAt H1 i = some (rowP A) := hr
    have hso := fun nx => OKm.sortK0 (C := cx) (g := 88) (x := r) (H := H1) (nx := nx) hent h0 (hx.imp id fun ⟨i, h, _⟩ => ⟨i, h⟩)
    repeat' first
      | apply AW.seq | apply AW.region | apply AW.ret | apply AW.block | apply AW.skip | apply AW.exit | apply AW.scope | apply AW.label | apply AWL.nil
      | ((first | (apply W.step cx_ok; decide) | apply AW.cond); (simp (disch := omega) only [push_cast, simprocAttr, natNe, List.mem_cons, List.not_mem_nil, TyD.isAgg, Nat.add_assoc, Bool.false_eq_true] <;> rfl); all_goals try ((with_reducible intro hI); try first | (cases hI; done) | (simp only [INTS, not_true_eq_false] at hI; try first | (exfalso; omega) | (have hT : True := hI; clear hT hI))))


    refine W.callm cx_ok (by decide) (f := 105) (caps := []) (by simp (disch := omega) only [push_cast, simprocAttr, natNe, List.mem_cons, List.not_mem_nil, TyD.isAgg, Nat.add_assoc, Bool.false_eq_true] <;> rfl) (by simp (disch := omega) only [push_cast, simprocAttr, natNe, List.mem_cons, List.not_mem_nil, TyD.isAgg, Nat.add_assoc, Bool.false_eq_true] <;> exact hso _) ?_
    rintro _ H2 nx2 ⟨rfl, rfl, rfl⟩
    repeat' first
      | apply AW.seq | apply AW.region | apply AW.ret | apply AW.block | apply AW.skip | apply AW.exit | apply AW.scope | apply AW.label | apply AWL.nil
      | ((first | (apply W.step cx_ok; decide) | apply AW.cond); (simp (disch := omega) only [push_cast, simprocAttr, natNe, List.mem_cons, List.not_mem_nil, TyD.isAgg, Nat.add_assoc, Bool.false_eq_true] <;> rfl); all_goals try ((with_reducible intro hI); try first | (cases hI; done) | (simp only [INTS, not_true_eq_false] at hI; try first | (exfalso; omega) | (have hT : True := hI; clear hT hI))))


    all_goals
      (apply W.retX (vs := [r])
       · (simp (disch := omega) only [push_cast, simprocAttr, natNe, List.mem_cons, List.not_mem_nil, TyD.isAgg, Nat.add_assoc, Bool.false_eq_true] <;> rfl)
       · refine ⟨[], ?_, by rw [hp0], List.Pairwise.nil⟩
         rcases hx with rfl | ⟨i, rfl, hrw⟩
         · rfl
         · exact view_list eSpan (l := []) rfl (Nat.le_refl _) (k := 2) (ty := 112) (lw := 0) (hrw.trans (by simp [rowP, hp0])))
end Go.Proofs.Dz

namespace Go.Proofs.Dz
open Go Go.Pg Go.Proofs Go.Proofs.Ds Go.RowKit Go.Sort Go.Lib
def cfS (x y : SpanB) : Int := x.sp.lo - y.sp.lo
theorem ltS (x y : SpanB) : ltOf cfS x y = decide (x.sp.lo < y.sp.lo) := by
  unfold ltOf cfS
  rw [Bool.eq_iff_iff]
  simp only [decide_eq_true_eq]
  omega
theorem swoS : SWO (ltOf cfS) where
  irrefl x := by rw [ltS]; simp
  trans x y z h1 h2 := by rw [ltS] at *; simp at *; omega
  ntrans x y z h1 h2 := by rw [ltS] at *; simp at *; omega
set_option maxHeartbeats 1000000 in
theorem cmp124 (x y : SpanB) (W : World) : Calls Tryz.prog 88 #[.agg #[.int .i64 x.sp.lo, .int .i64 x.sp.hi], .agg #[.int .i64 y.sp.lo, .int .i64 y.sp.hi]] W fun e w' => e = .returned (.int .i64 (cfS x y)) ∧ ∃ q os', w' = Go.Sort.grow (W.drewN q) os' := by
  have hw : IntKind.wrap .i64 (x.sp.lo - y.sp.lo) = cfS x y := by
    have := x.ok
    have := y.ok
    unfold cfS
    exact wrapN (by omega)
  generalize cfS x y = r at hw ⊢
  go_enter Tryz.func88, Tryz.ntmps88
  go_wp2
  go_ret
  exact ⟨by simp [hw], 0, _, by rw [alloc_eq_grow, alloc_eq_grow, grow_grow]; rfl⟩
theorem agg113 (w : World) : (isAgg 112).run Tryz.prog w = .ok true w := Tryz.isAgg112 w
theorem size113 (w : World) : (Go.sizeOf 112).run Tryz.prog w = .ok 2 w := Tryz.sizeOf112 w
theorem sort130 : SortKC Tryz.prog 105 88 encS 2 leS := by
  intro blk cap zs w hH hblk hsz
  have eg : ∀ args w, (callFunc 88 args).run Tryz.prog w = .ok (.enter 88 args) w := enters_of Tryz.func88 (by kernel_rfl) rfl
  have h := AnyQ.slices_SortFunc Tryz.sortF 2 agg113 size113 encS (fun _ => rfl) (fun x v hv => by simp [encS] at hv; rcases hv with rfl | rfl <;> rfl) cfS swoS 88 #[] blk 0 cap zs.toArray w eg
    (fun _ _ _ _ x y => cmp124 x y _) hH hblk (by simpa using hsz)
  rw [show zs.toArray.size = zs.length by simp] at h
  refine h.mono ?_
  rintro e w' ⟨he, d', n, os, hp, hs, hw⟩
  obtain ⟨h1, h2, h3⟩ := hp
  have h1' : d'.size = zs.length := by rw [h1]; simp
  refine ⟨he, d'.toList, n, os, ?_, ?_, by rw [hw]; rfl⟩
  · have e1 : d'.extract 0 zs.length = d' := by rw [← h1']; exact Array.extract_size
    have e2 : zs.toArray.extract 0 zs.length = zs.toArray := by
      have : zs.length = zs.toArray.size := by simp
      rw [this]; exact Array.extract_size
    rw [e1, e2] at h3
    exact h3
  · rw [List.pairwise_iff_getElem]
    intro i j hi hj hij
    have hi' : i < d'.size := by simpa using hi
    have hj' : j < d'.size := by simpa using hj
    have hq := hs i j (Nat.zero_le _) hij (by omega)
    rw [getElem!_pos d' j hj', getElem!_pos d' i hi', ltS] at hq
    simp only [decide_eq_false_iff_not] at hq
    unfold leS
    simp only [Array.getElem_toList]
    omega
end Go.Proofs.Dz
