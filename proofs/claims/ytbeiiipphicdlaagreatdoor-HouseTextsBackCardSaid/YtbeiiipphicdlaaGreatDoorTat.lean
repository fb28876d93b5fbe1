/-
  Contracts of functions, proved by going through their code. No conditions.
-/
import Derived.Test.YtbeiiipphicdlaaGreatDoorTas
set_option linter.unusedVariables false
set_option linter.unusedSimpArgs false
namespace Go.Pg
open Go Go.RowKit
def mark (D : Nat) : Deferred := { target := .collected D, args := #[] }
def Marks (bs : List (Nat × Nat)) (H : Nat → Option AO) : Prop := (bs.map (·.2)).Nodup ∧ ∀ p ∈ bs, H p.2 = some (.mp (.dfr p.1 (some [])) 0 [])
def AWx (C : Cx) (N : Nat) (c : Code) (Q : Exit → St → Prop) (s : St) : Prop :=
  ∀ S0 w0 a w, S0.ds = [] → C.E w0 → Sim S0 w0 N a w s → c.wpIn C.F 0 C.P (fun e a' w' => ∃ s' bs, Sim { S0 with ds := bs.map (fun p => mark p.1) } w0 N a' w' s' ∧ Marks bs s'.H ∧ Q e s') a w
section
variable {C : Cx} {N : Nat} {Q : Exit → St → Prop} {s : St}
theorem Fr.no_ds {S0 : Fr} (h : S0.ds = []) : { S0 with ds := (([] : List (Nat × Nat)).map (fun p => mark p.1)) } = S0 := by
  obtain ⟨S, K, m, ds⟩ := S0
  simp only at h
  subst h; rfl
theorem AWx.of {c : Code} (h : AW C N c Q s) : AWx C N c Q s := by
  intro S0 w0 a w hds hE hs
  refine wpIn_mono (h S0 w0 a w hE hs) ?_
  rintro e a' w' ⟨s', h1, h2⟩
  exact ⟨s', [], by rw [Fr.no_ds hds]; exact h1, ⟨by simp, by simp⟩, h2⟩
theorem AWx.seq {x y : Code} (h : AW C N x (thenQ (AWx C N y Q) Q) s) : AWx C N (.seq x y) Q s := by
  intro S0 w0 a w hds hE hs
  refine wpIn_seq (wpIn_mono (h S0 w0 a w hE hs) ?_)
  rintro e a' w' ⟨s', h1, h3⟩
  cases e <;> simp only [thenQ, Exit.then] at h3 ⊢
  · exact h3 S0 w0 a' w' hds hE h1
  all_goals exact ⟨s', [], by rw [Fr.no_ds hds]; exact h1, ⟨by simp, by simp⟩, h3⟩
def afterR (C : Cx) (N : Nat) (tail : Code) (bid : Nat) (Q : Exit → St → Prop) : Option Code → St → Prop
  | none, s => AW C N tail Q s
  | some .ret, s => Q .ret s
  | some (.exit i), s => if i = bid then AW C N tail Q s else Q (.exit i) s
  | _, _ => False
def AWk (C : Cx) (N : Nat) (y z : Code) (Q : Exit → St → Prop) (s : St) : Prop :=
  ∀ S0 w0 a w, S0.ds = [] → C.E w0 → Sim S0 w0 N a w s → y.wpIn C.F 0 C.P (Exit.then (z.wpIn C.F 0 C.P fun e a' w' => ∃ s' bs, Sim { S0 with ds := bs.map (fun p => mark p.1) } w0 N a' w' s' ∧ Marks bs s'.H ∧ Q e s')
    (fun e a' w' => ∃ s' bs, Sim { S0 with ds := bs.map (fun p => mark p.1) } w0 N a' w' s' ∧ Marks bs s'.H ∧ Q e s')) a w
theorem AWx.ofk {y z : Code} (h : AWk C N y z Q s) : AWx C N (.seq y z) Q s := fun S0 w0 a w hds hE hs => wpIn_seq (h S0 w0 a w hds hE hs)
def Stop (p : Prop) : Prop := p
theorem Stop.mk {p : Prop} (h : p) : Stop p := h
theorem Stop.get {p : Prop} (h : Stop p) : p := h
attribute [irreducible] Stop
theorem AWx.seqS {x y : Code} (h : AW C N x (thenQ (fun s => Stop (AWx C N y Q s)) Q) s) : AWx C N (.seq x y) Q s :=
  AWx.seq (AW.mono h fun e s' hq => by cases e <;> first | exact hq.get | exact hq)
theorem AWk.seqS {x y z : Code} (h : AW C N x (thenQ (fun s => Stop (AWk C N y z Q s)) Q) s) : AWk C N (.seq x y) z Q s := by
  intro S0 w0 a w hds hE hs
  refine wpIn_seq (wpIn_mono (h S0 w0 a w hE hs) ?_)
  rintro e a' w' ⟨s', h1, h3⟩
  cases e <;> simp only [thenQ, Exit.then] at h3 ⊢
  · exact h3.get S0 w0 a' w' hds hE h1
  all_goals exact ⟨s', [], by rw [Fr.no_ds hds]; exact h1, ⟨by simp, by simp⟩, h3⟩
theorem AWk.range [hW : C.Wide] {g : Operand} {ps : Array Tmp} {assign body tail : Code} {bid : Nat} {f : FuncId} {caps : List AV} (hg : s.ev g = .clo f caps)
    (hok : ∀ (D l : Nat) (fn : FuncId), OKm C f (.v (.func (.yield l) #[] #[]) :: caps)
      (updH (updH s.H s.nx (.mp (.dfr D (some [])) 0 [])) (s.nx + 1) (.mp (.loop l { state := .ready, pending := none, fn := fn, tmps := #[], params := ps, assign := assign, body := body, defers := D }) 0 (keepT N s.tm))) (s.nx + 2)
      (fun _ H' nx' => ∃ L', H' (s.nx + 1) = some (.mp (.loop l L') 0 (keepT N s.tm)) ∧ L'.state ≠ .busy ∧
        afterR C N tail bid (fun e s' => s'.H s.nx = some (.mp (.dfr D (some [])) 0 []) ∧ Q e s') L'.pending { tm := s.tm, H := updH H' (s.nx + 1) (.mp (.loop l { L' with state := .exhausted }) 0 (keepT N s.tm)), nx := nx' })) :
    AWk C N (.block bid (.rangeFunc g ps assign body)) tail Q s := by
  rintro S0 w0 a w hds hE ⟨σ, hσ⟩
  rw [hW.h]
  refine wpIn_block (wpIn_rangeFunc fun fn _ => ?_)
  obtain ⟨hle1, hi1⟩ := hσ.inv.pushK (kt0 := .dfr w.heap.size (some [])) (es0 := []) (xs0 := #[]) (hσ.nx s.nx (Nat.le_refl _)) hσ.size rfl rfl rfl trivial
  have hb1 : Below w0.heap.size w (w.alloc (.deferred (some []))) := (Below.refl _ _).alloc hσ.size _
  have hnx1 : ∀ i, s.nx + 1 ≤ i → updH s.H s.nx (.mp (.dfr w.heap.size (some [])) 0 []) i = none := fun i h => by
    simp only [updH]; rw [if_neg (by omega)]; exact hσ.nx i (by omega)
  obtain ⟨hle2, hi2⟩ := hi1.pushK (id := s.nx + 1) (kt0 := .loop (w.heap.size + 1) { state := .ready, pending := none, fn := fn, tmps := #[], params := ps, assign := assign, body := body, defers := w.heap.size }) (es0 := keepT N s.tm) (xs0 := keepX a.tmps)
    (hnx1 _ (Nat.le_refl _)) (by simp [MK.obj]; have := hσ.size; omega) rfl (keepX_key _ hσ.N) (by simp [MK.obj, MK.at]) (keepX_rep hσ.N fun t => Rep.mono hle1 _ _ (hσ.tm t))
  have hle := hle1.trans hle2
  simp only [MK.obj, keepX_val] at hi2 hle
  have hb2 : Below w0.heap.size w ((w.alloc (.deferred (some []))).alloc (.loop { state := .ready, pending := none, fn := fn, tmps := a.tmps, params := ps, assign := assign, body := body, defers := w.heap.size })) := hb1.alloc (Nat.le_trans hσ.size (by simp)) _
  generalize hW2 : (w.alloc (.deferred (some []))).alloc (.loop { state := .ready, pending := none, fn := fn, tmps := a.tmps, params := ps, assign := assign, body := body, defers := w.heap.size }) = W2 at hi2 hb2 hle
  obtain ⟨⟨fn', hfn, hname, hbody⟩, hcall⟩ := hok w.heap.size (w.heap.size + 1) fn
  have hfo := hσ.ev g
  rw [hg] at hfo
  simp only [Rep] at hfo
  obtain ⟨ca, hca, hcs, hcr⟩ := hfo
  have hc := hcall S0 w0 _ _ (#[.func (.yield (w.heap.size + 1)) #[] #[]] ++ ca) hE hi2 (fun i h => by
      simp only [updH]; rw [if_neg (by omega), if_neg (by omega)]; exact hσ.nx i (by omega)) (hσ.below.trans hb2) (by simp [hcs]; omega) (by
      rw [repL_iff'] at hcr ⊢
      intro i c hc
      rw [Array.getElem?_append]
      cases i with
      | zero => simp only [List.getElem?_cons_zero, Option.some.injEq] at hc; subst hc; exact ⟨_, by simp, rfl⟩
      | succ i =>
        simp only [List.getElem?_cons_succ] at hc
        obtain ⟨u, hu, hr⟩ := hcr i c hc
        refine ⟨u, ?_, Rep.mono hle _ _ hr⟩
        simpa using hu)
  have he := run_enterLoop_outer (P := C.P) (w := w) fn a.tmps ps assign body
  have hres : (resolve a.eval (rangeCall g (w.heap.size + 1)) 0).run C.P W2 = .ok { target := .fn (.func f) ca, args := #[.func (.yield (w.heap.size + 1)) #[] #[]] } W2 := by
    simp only [resolve, rangeCall, hca, Deferred.ofValue, Sem.run_bind, Sem.run_pure, Result.andThen_ok]
    simp [Act.eval]
  have hinv : (invoke (.fn (.func f) ca) #[.func (.yield (w.heap.size + 1)) #[] #[]]).run C.P W2 = .ok (.enter f (#[.func (.yield (w.heap.size + 1)) #[] #[]] ++ ca)) W2 := by
    have hb : (fn'.name == "runtime.NumGoroutine") ≠ true := by simp [hname]
    simp only [invoke, callFunc, run_program, Sem.run_bind, Sem.run_pure, Result.andThen_ok, hfn, if_neg hb, hbody, Bool.false_eq_true, if_false]
  rw [hW2] at he
  refine ⟨w.heap.size + 1, [{ target := .collected w.heap.size, args := #[] }], W2, { target := .fn (.func f) ca, args := #[.func (.yield (w.heap.size + 1)) #[] #[]] }, W2, f, #[.func (.yield (w.heap.size + 1)) #[] #[]] ++ ca, W2, ?_⟩
  refine ⟨he, hres, fun _ _ => trivial, hinv, fun h => (by cases h), ?_⟩
  refine callsIn_wide.2 (hc.mono ?_)
  rintro e w' ⟨v, r, σ', H', nx', rfl, ⟨L', hL, hst, hq⟩, hb, hi', hn', hle', _⟩
  obtain ⟨tmps, e1, e2, e3, e4⟩ := hi'.turn hL
  obtain ⟨f1, f2, f3⟩ := e4 { L' with state := .exhausted }
  have hs4 : Sim { S0 with ds := [mark w.heap.size] } w0 N { a with defers := [{ target := .collected w.heap.size, args := #[] }] ++ a.defers } (w'.putObj (w.heap.size + 1) (.loop { L' with state := .exhausted, tmps := tmps }))
      { tm := s.tm, H := updH H' (s.nx + 1) (.mp (.loop (w.heap.size + 1) { L' with state := .exhausted }) 0 (keepT N s.tm)), nx := nx' } := by
    refine ⟨σ', ⟨f2.al, f2.fresh, f2.S_lt, f2.own_lt, f2.row, f2.mp, f2.fr⟩, updH_nx hn' (by rw [hL]; simp), fun t => Rep.mono ((hle.trans hle').trans f1) _ _ (hσ.tm t), hσ.N, ?_, hb.trans f3⟩
    show [mark w.heap.size] ++ a.defers = [mark w.heap.size]
    rw [hσ.d, hds]; rfl
  have hfin : ∀ e a' w'' s', Sim { S0 with ds := [mark w.heap.size] } w0 N a' w'' s' → (s'.H s.nx = some (.mp (.dfr w.heap.size (some [])) 0 []) ∧ Q e s') →
      ∃ s' bs, Sim { S0 with ds := bs.map (fun p => mark p.1) } w0 N a' w'' s' ∧ Marks bs s'.H ∧ Q e s' := fun e a' w'' s' h1 h2 =>
    ⟨s', [(w.heap.size, s.nx)], h1, ⟨by simp, by simpa using h2.1⟩, h2.2⟩
  have htail : AW C N tail (fun e s' => s'.H s.nx = some (.mp (.dfr w.heap.size (some [])) 0 []) ∧ Q e s') { tm := s.tm, H := updH H' (s.nx + 1) (.mp (.loop (w.heap.size + 1) { L' with state := .exhausted }) 0 (keepT N s.tm)), nx := nx' } →
      tail.wpIn Fence.wide 0 C.P (fun e a' w' => ∃ s' bs, Sim { S0 with ds := bs.map (fun p => mark p.1) } w0 N a' w' s' ∧ Marks bs s'.H ∧ Q e s') { a with defers := [{ target := .collected w.heap.size, args := #[] }] ++ a.defers } (w'.putObj (w.heap.size + 1) (.loop { L' with state := .exhausted, tmps := tmps })) := fun h => by
    have h2 := h _ w0 _ _ hE hs4
    rw [hW.h] at h2
    refine wpIn_mono h2 ?_
    rintro e a' w'' ⟨s', g1, g2⟩
    exact hfin e a' w'' s' g1 g2
  have hend : (Instr.endLoop (w.heap.size + 1)).run C.P w' = .ok L'.pending (w'.putObj (w.heap.size + 1) (.loop { L' with state := .exhausted, tmps := tmps })) := run_endLoop e1 hst
  generalize hst4 : ({ tm := s.tm, H := updH H' (s.nx + 1) (.mp (.loop (w.heap.size + 1) { L' with state := .exhausted }) 0 (keepT N s.tm)), nx := nx' } : St) = st at hq hs4 htail
  generalize hw4 : w'.putObj (w.heap.size + 1) (.loop { L' with state := .exhausted, tmps := tmps }) = w4 at hend hs4 htail
  generalize hj : L'.pending = jump at hend hq
  refine ⟨jump, w4, hend, ?_⟩
  cases jump with
  | none => exact htail hq
  | some c =>
    cases c <;> try exact hq.elim
    case ret => exact wpIn_ret (hfin _ _ _ _ hs4 hq)
    case exit i =>
      refine wpIn_exit ?_
      simp only [afterR] at hq
      simp only [Exit.inBlock]
      split at hq
      · rename_i hi; rw [if_pos hi]; exact htail hq
      · rename_i hi; rw [if_neg hi]; exact hfin _ _ _ _ hs4 hq
end
section
variable {C : Cx}
theorem leavesX {S0 : Fr} {B0 : Nat} {fn : Func} {tmps : Array Value} {tm : Nat → AV} {R : Ending → World → Prop} : ∀ (bs : List (Nat × Nat)) (w : World) (H : Nat → Option AO) (σ : Sg), Inv B0 S0 w H σ → (∀ t, Rep σ w (tm t) (tmps.getD t undef)) → Marks bs H →
    (∀ w' H' σ', Inv B0 S0 w' H' σ' → (∀ t, Rep σ' w' (tm t) (tmps.getD t undef)) → Below B0 w w' → (∀ i, rowAt H' i = rowAt H i) → (∀ i, H' i = none ↔ H i = none) → ∃ v, (results fn tmps).run C.P w' = .ok v w' ∧ R (.returned v) w') →
    LeavesInM Fence.wide 0 C.P fn tmps R (bs.map fun p => mark p.1) .returning w
  | [], w, H, σ, hi, ht, _, fin => fin w H σ hi ht (Below.refl _ _) (fun _ => rfl) (fun _ => Iff.rfl)
  | (D, id) :: bs, w, H, σ, hi, ht, hm, fin => by
    obtain ⟨hm1, hm2⟩ := hm
    have hH : H id = some (.mp (.dfr D (some [])) 0 []) := hm2 (D, id) (by simp)
    obtain ⟨g1, g2⟩ := hi.shut hH
    obtain ⟨f1, f2, f3⟩ := g2 none
    simp only [List.map_cons, List.nodup_cons] at hm1
    refine ⟨by simp, .inl ⟨D, _, rfl, run_takeDeferred g1, ?_⟩⟩
    refine leavesX bs _ _ σ f2 (fun t => Rep.mono f1 _ _ (ht t)) ⟨hm1.2, fun p hp => ?_⟩ fun w' H' σ' h1 h2 h3 h4 h5 => fin w' H' σ' h1 h2 (f3.trans h3) (fun i => ?_) (fun i => ?_)
    · have hne : p.2 ≠ id := fun e => hm1.1 (e ▸ List.mem_map_of_mem (f := (·.2)) hp)
      simp only [updH]; rw [if_neg hne]; exact hm2 p (by simp [hp])
    · rw [h4, rowAt_updM]
      split
      · rename_i e; subst e; simp [rowAt, hH]
      · rfl
    · rw [h5]
      simp only [updH]
      split
      · rename_i e; subst e; simp [hH]
      · rfl
def endX (C : Cx) (rs : List ResultVar) (Q : AV → (Nat → Option AO) → Nat → Prop) (e : Exit) (s : St) : Prop :=
  ∀ H', (∀ i, rowAt H' i = rowAt s.H i) → endM C rs Q e { s with H := H' }
theorem OKm.of_bodyX [hW : C.Wide] (hC : C.OK) {f : FuncId} {fn : Func} {c : Code} {args : List AV} {rs : List ResultVar} {H : Nat → Option AO} {nx : Nat} {Q : AV → (Nat → Option AO) → Nat → Prop} (hf : C.P.funcs[f]? = some fn) (hb : fn.body = some c) (hn : (fn.name == "runtime.NumGoroutine") = false)
    (hr : fn.results = rs.toArray) (hN : args.length ≤ fn.ntmps) (h : AWx C fn.ntmps c (endX C rs Q) { tm := fun t => args.getD t .junk, H := H, nx := nx }) : OKm C f args H nx Q := by
  refine ⟨⟨fn, hf, hn, by rw [hb]; rfl⟩, fun S0 w0 w σ vals hE hi hnx hbel hsz hrep => ?_⟩
  refine callsIn_wide.1 (callsIn_of_wp_marks (n := 0) hf hb trivial ?_)
  have hs : Sim (S0.from σ w) w0 fn.ntmps { tmps := vals ++ Array.replicate (fn.ntmps - vals.size) undef, defers := [] } w { tm := fun t => args.getD t .junk, H := H, nx := nx } := by
    refine ⟨σ, hi.from, hnx, fun t => ?_, by simp; omega, rfl, hbel⟩
    show Rep σ w (args.getD t .junk) ((vals ++ Array.replicate (fn.ntmps - vals.size) undef).getD t undef)
    by_cases ht : t < args.length
    · rw [repL_iff] at hrep
      obtain ⟨u, hu, hru⟩ := hrep t ht
      have : (vals ++ Array.replicate (fn.ntmps - vals.size) undef).getD t undef = u := by
        rw [Array.getD_eq_getD_getElem?, Array.getElem?_append_left (by omega), hu]; rfl
      rw [this, List.getD_eq_getElem?_getD, List.getElem?_eq_getElem ht]; exact hru
    · have : args.getD t .junk = .junk := by rw [List.getD_eq_getElem?_getD, List.getElem?_eq_none (by omega)]; rfl
      rw [this]; trivial
  have h2 := h (S0.from σ w) w0 _ w rfl hE hs
  rw [hW.h] at h2
  refine wpIn_mono h2 ?_
  rintro e a' w' ⟨s', bs, ⟨σ', hσ'⟩, hm, hq⟩
  have fin : (∀ H', (∀ i, rowAt H' i = rowAt s'.H i) → ∃ vs, resVs C.T { s' with H := H' } rs = some vs ∧ Q (bundle vs) H' s'.nx) →
      LeavesInM Fence.wide 0 C.P fn a'.tmps (fun e w' => ∃ v r σ' H' nx', e = .returned v ∧ Q r H' nx' ∧ Below w0.heap.size w0 w' ∧ Inv w0.heap.size S0 w' H' σ' ∧ (∀ id, nx' ≤ id → H' id = none) ∧ Le σ σ' w w' ∧ Rep σ' w' r v) a'.defers .returning w' := by
    intro hq
    rw [show a'.defers = bs.map (fun p => mark p.1) from hσ'.d]
    refine leavesX bs w' s'.H σ' hσ'.inv hσ'.tm hm fun w2 H2 σ2 h1 h2 h3 h4 h5 => ?_
    obtain ⟨vs, hvs, hq⟩ := hq H2 h4
    have hs2 : SimG { (S0.from σ w) with ds := bs.map (fun p => mark p.1) } w0 fn.ntmps a' w2 { s' with H := H2 } σ2 := ⟨h1, fun id hid => (h5 id).2 (hσ'.nx id hid), h2, hσ'.N, hσ'.d, hσ'.below.trans h3⟩
    obtain ⟨v, hv, hrv⟩ := run_results_of hC hs2 hr hvs
    have hi2 : Inv w0.heap.size (S0.from σ w) w2 H2 σ2 := ⟨h1.al, h1.fresh, h1.S_lt, h1.own_lt, h1.row, h1.mp, h1.fr⟩
    obtain ⟨hi', hle⟩ := hi2.unfrom
    exact ⟨v, hv, v, _, σ2, H2, s'.nx, rfl, hq, hs2.below, hi', hs2.nx, hle, hrv⟩
  cases e with
  | normal => exact fin hq
  | ret => exact fin hq
  | exit id => exact (hq s'.H fun _ => rfl).elim
  | goto l => exact (hq s'.H fun _ => rfl).elim
  | panic c => exact (hq s'.H fun _ => rfl).elim
  | outgrown => exact (hq s'.H fun _ => rfl).elim
end
section
variable {C : Cx} {N : Nat} {Q : Exit → St → Prop} {s : St} {ops : Array Oper} {rest : List Oper} {ty : TypeId} {ps : String} {af : Array Edge} {d : Nat}
theorem W.yield (hN : d < N) {fo : Operand} {args : Array Operand} {tys : Array TypeId} {l : Nat} (hf : s.ev fo = .v (.func (.yield l) #[] #[])) {va : List AV} (ha : evsA args.toList s.ev = va) {Qr : Bool → (Nat → Option AO) → Nat → Prop} (hok : YOK C l va s.H s.nx Qr)
    (k : ∀ b H' nx', Qr b H' nx' → AWL C N ops Q rest { tm := upd s.tm d (.v (.bool b)), H := H', nx := nx' }) : AWL C N ops Q (⟨some d, .call { callee := .value fo, args := args, argTypes := tys }, ty, ps, af, none⟩ :: rest) s :=
  AWL.yield rfl rfl hN rfl hf (by rw [ha]; exact hok) k
end
end Go.Pg

namespace Go.Pg
open Go Go.RowKit
section
variable {B0 : Nat} {S0 : Fr} {w : World} {H : Nat → Option AO} {σ : Sg}
theorem Inv.fmap_rep (hi : Inv B0 S0 w H σ) {id : Nat} {sh : KSh} {et : TypeId} {es : List (Key × AV)} (hH : H id = some (.mp (.fmap sh) et es)) (hp : pureL (es.map (·.2)) = true) {u : Value} (hr : Rep σ w (.map id) u) :
    Rep σ w (.lmap sh (es.map (·.1)) (es.map (·.2))) u := by
  simp only [Rep] at hr ⊢
  obtain ⟨b, rfl, hown⟩ := hr
  have hm := hi.mp id _ _ _ hH
  obtain ⟨b', clock, xs, a1, a2, a3, a4, ⟨a5, a5'⟩, a6⟩ := hm.cur
  have := (hm.one b hown).1
  rw [a1] at this; injection this with this; subst this
  exact ⟨b', clock, xs, rfl, a3.2 rfl, a4, by rw [a5, List.map_map]; rfl, a5', by simp, RepL.pure_ _ _ hp a6⟩
end
section
variable {C : Cx} {N : Nat} {Q : Exit → St → Prop} {s : St}
inductive Told (H : Nat → Option AO) : AV → AV → Prop where
  | view {c d : AV} (h : viewA H c = some d) : Told H c d
  | map {id : Nat} {sh : KSh} {et : TypeId} {es : List (Key × AV)} (h : H id = some (.mp (.fmap sh) et es)) (hp : pureL (es.map (·.2)) = true) : Told H (.map id) (.lmap sh (es.map (·.1)) (es.map (·.2)))
theorem view_cell {H : Nat → Option AO} {c d : AV} (h : viewA H c = some d) (hc : c.cell = true) : d.cell = true := by
  cases c <;> simp only [AV.cell] at hc <;> try contradiction
  all_goals (unfold viewA at h)
  · split at h <;> try contradiction
    · injection h with h; subst h; rfl
    · injection h with h; subst h; exact hc
  · injection h with h; subst h; rfl
  · injection h with h; subst h; rfl
  · split at h
    · split at h
      · injection h with h; subst h; rfl
      · cases h
    · cases h
  · split at h
    · split at h
      · injection h with h; subst h; rfl
      · cases h
    · cases h
  · simp only [Option.map_eq_some_iff] at h
    obtain ⟨_, _, rfl⟩ := h; rfl
  · simp only [Option.map_eq_some_iff] at h
    obtain ⟨_, _, rfl⟩ := h; rfl
  · injection h with h; subst h; rfl
theorem AW.settle {c : Code} (id : Nat) (ids : List Nat) {r : Row} {es' : List (List AV)} (hr : rowAt s.H id = some r) (hrows : ∀ i ∈ ids, ∃ r, rowAt s.H i = some r) (hid : id ∉ ids) (hl : es'.length = r.es.length)
    (htold : ∀ (i : Nat) (e e' : List AV), r.es[i]? = some e → es'[i]? = some e' → e'.length = e.length ∧ ∀ (j : Nat) (a b : AV), e[j]? = some a → e'[j]? = some b → Told s.H a b ∧ ∀ x ∈ idsA a, x ∈ ids)
    (h : AW C N c Q { s with H := updH (frz s.H ids) id (.row { r with es := es' }) }) : AW C N c Q s := by
  rintro S0 w0 a w hE ⟨σ, hσ⟩
  have hH := rowAt_eq hr
  have hle := hσ.inv.le_frz ids
  have hinv := hσ.inv.frz hrows
  have hH' : frz s.H ids id = some (.row r) := by unfold frz; rw [if_neg hid]; exact hH
  have hR := hinv.row id r hH'
  have hR0 := hσ.inv.row id r hH
  have hinv2 := hinv.retell (es' := es') hH' hl (fun e' he' => by
    obtain ⟨i, hi, rfl⟩ := List.getElem_of_mem he'
    have hi2 : i < r.es.length := by omega
    obtain ⟨g1, g2⟩ := htold i r.es[i] es'[i] (List.getElem?_eq_getElem hi2) (List.getElem?_eq_getElem hi)
    obtain ⟨e1, e2⟩ := hR.each _ (List.getElem_mem hi2)
    refine ⟨g1.trans e1, fun d hd => ?_⟩
    obtain ⟨j, hj, rfl⟩ := List.getElem_of_mem hd
    have hj2 : j < r.es[i].length := by omega
    obtain ⟨t1, _⟩ := g2 j _ _ (List.getElem?_eq_getElem hj2) (List.getElem?_eq_getElem hj)
    have hcc := e2 _ (List.getElem_mem hj2)
    generalize es'[i][j] = d at t1
    generalize r.es[i][j] = c0 at t1 hcc
    cases t1 with
    | view hv => exact view_cell hv hcc
    | map hv hp => rfl) (fun b hb i hi => by
    have hi2 : i < r.es.length := by omega
    obtain ⟨g1, g2⟩ := htold i r.es[i] es'[i] (List.getElem?_eq_getElem hi2) (List.getElem?_eq_getElem hi)
    have hcon := hR0.con b hb i hi2
    rw [repL_iff] at hcon ⊢
    intro j hj
    have hj2 : j < r.es[i].length := by omega
    obtain ⟨u, hu, hru⟩ := hcon j hj2
    obtain ⟨t1, t2⟩ := g2 j _ _ (List.getElem?_eq_getElem hj2) (List.getElem?_eq_getElem hj)
    refine ⟨u, hu, ?_⟩
    generalize es'[i][j] = d at t1
    generalize r.es[i][j] = c0 at t1 t2 hru
    cases t1 with
    | view hv => exact Rep.lift (viewA_sound hσ.inv (S' := (σ.frz ids).S) (fun b h => .inl h) _ _ _ hv (fun x hx b hb => .inr ⟨x, t2 x hx, hb⟩) hru)
    | map hv hp => exact Rep.mono hle _ _ (hσ.inv.fmap_rep hv hp hru))
  refine h S0 w0 a w hE ⟨σ.frz ids, hinv2, fun i hi => ?_, fun u => Rep.mono hle _ _ (hσ.tm u), hσ.N, hσ.d, hσ.below⟩
  have h0 := hσ.nx i hi
  show updH (frz s.H ids) id _ i = none
  simp only [updH]
  rw [if_neg (fun e => by subst e; rw [hH] at h0; cases h0)]
  unfold frz
  split
  · rw [h0]
  · exact h0
end
end Go.Pg

namespace Go.Pg
open Go Go.RowKit
section
variable {C : Cx} {N : Nat} {Q : Exit → St → Prop} {s : St} {ops : Array Oper} {rest : List Oper} {ty : TypeId} {ps : String} {af : Array Edge} {d : Nat}
variable {H0 : Nat → Option AO} {b : Nat} {tg mk av : List Nat} {Fin : St → Prop} {i : Nat}
theorem natNe {a b : Nat} (h : a ≠ b) : (a = b) = False := eq_false h
end
end Go.Pg

set_option maxHeartbeats 8000000
set_option maxRecDepth 10000
namespace Go.Proofs.Hz
open Go Go.Pg Go.Proofs Go.Tx
attribute [local push_cast] Bool.and_false Bool.and_self Bool.and_true Bool.false_and Bool.false_eq_true Bool.not_false Bool.not_true Bool.true_and List.mem_cons List.not_mem_nil Nat.add_assoc TyD.isAgg natNe
theorem mkS1 (a : UInt8) : (ByteArray.mk #[a]).size = 1 := rfl
theorem mkS4 (a b c d : UInt8) : (ByteArray.mk #[a, b, c, d]).size = 4 := rfl
theorem mkS5 (a b c d e : UInt8) : (ByteArray.mk #[a, b, c, d, e]).size = 5 := rfl
def digB (n : Int) : ByteArray := ByteArray.mk #[UInt8.ofNat (48 + n % 10).toNat]
theorem itoa_pos (n : Int) (h : 0 ≤ n) : bl (itoaB n) = Lib.decDigits n.toNat := by
  rw [itoa_bl]; unfold Lib.itoa; rw [if_neg (by omega)]
theorem itoa_small (n : Int) (h : 0 ≤ n) (hl : n < 10) : digB n = itoaB n := by
  refine bl_inj ?_
  rw [itoa_pos n h, Lib.decDigits, dif_pos (by omega)]
  unfold digB
  rw [show (48 + n % 10).toNat = 48 + n.toNat by omega]
theorem itoa_big (n : Int) (h : 10 ≤ n) : itoaB (n / 10) ++ digB n = itoaB n := by
  refine bl_inj ?_
  rw [bl_app, itoa_pos n (by omega), itoa_pos _ (by omega)]
  conv => rhs; rw [Lib.decDigits, dif_neg (by omega)]
  unfold digB
  rw [show (48 + n % 10).toNat = 48 + n.toNat % 10 by omega, show (n / 10).toNat = n.toNat / 10 by omega]
theorem itoa_minus (n : Int) (h : n < 0) : ByteArray.mk #[45] ++ itoaB (0 - n) = itoaB n := by
  refine bl_inj ?_
  rw [bl_app, bl_one, itoa_pos _ (by omega), itoa_bl]
  unfold Lib.itoa
  rw [if_pos h, show (0 - n).toNat = n.natAbs by omega]; rfl
theorem RDecP (k : Nat) : ∀ n0 : Int, 0 ≤ n0 → n0 ≤ (k : Int) → n0 ≤ 4611686018427387904 → OKv cx 52 [ai n0] (at_ (itoaB n0)) := by
  induction k with
  | zero =>
    intro n0 h0 hk h1
    rw [← itoa_small n0 h0 (by omega)]
    have hn : (n0 < 0) = False := eq_false (by omega)
    have hb : (9 < n0) = False := eq_false (by omega)
    have hw8 : IntKind.wrap .u8 (48 + n0 % 10) = 48 + n0 % 10 := by simp [IntKind.wrap, IntKind.bits, IntKind.signed]; omega
    refine OKat.of_body (rs := [2]) Tryz.func52 rfl (by decide +kernel) rfl (by simp [Tryz.ntmps52]) ?_
    simp only [Tryz.ntmps52]
    repeat' first
      | ((apply W.byteStr; decide; exact Tryz.underlying58; exact Tryz.underlying5; exact Tryz.underlying9); (iterate 2 (simp (disch := omega) only [push_cast, simprocAttr, hn, hb, hw8] <;> rfl)); rfl; omega)
      | apply AW.seq | apply AW.region | apply AW.ret | apply AW.block | apply AW.skip | apply AW.exit | apply AW.scope | apply AW.label | apply AWL.nil
      | ((first | (apply W.step cx_ok; decide) | apply AW.cond); (simp (disch := omega) only [push_cast, simprocAttr, hn, hb, hw8] <;> rfl); all_goals try ((with_reducible intro hI); try first | (cases hI; done) | (simp only [INTS, not_true_eq_false] at hI; try first | (exfalso; omega) | (have hT : True := hI; clear hT hI))))
      | ((first | apply W.ret1 | apply W.end1); (iterate 2 (try (simp (disch := omega) only [push_cast, simprocAttr, hn, hb, hw8] <;> rfl))))

    all_goals (show _ = _; rfl)
  | succ k ih =>
    intro n0 h0 hk h1
    have hn : (n0 < 0) = False := eq_false (by omega)
    have hw8 : IntKind.wrap .u8 (48 + n0 % 10) = 48 + n0 % 10 := by simp [IntKind.wrap, IntKind.bits, IntKind.signed]; omega
    by_cases hs : 9 < n0
    rotate_left
    · rw [← itoa_small n0 h0 (by omega)]
      have hb : (9 < n0) = False := eq_false hs
      refine OKat.of_body (rs := [2]) Tryz.func52 rfl (by decide +kernel) rfl (by simp [Tryz.ntmps52]) ?_
      simp only [Tryz.ntmps52]
      repeat' first
        | ((apply W.byteStr; decide; exact Tryz.underlying58; exact Tryz.underlying5; exact Tryz.underlying9); (iterate 2 (simp (disch := omega) only [push_cast, simprocAttr, hn, hb, hw8] <;> rfl)); rfl; omega)
        | apply AW.seq | apply AW.region | apply AW.ret | apply AW.block | apply AW.skip | apply AW.exit | apply AW.scope | apply AW.label | apply AWL.nil
        | ((first | (apply W.step cx_ok; decide) | apply AW.cond); (simp (disch := omega) only [push_cast, simprocAttr, hn, hb, hw8] <;> rfl); all_goals try ((with_reducible intro hI); try first | (cases hI; done) | (simp only [INTS, not_true_eq_false] at hI; try first | (exfalso; omega) | (have hT : True := hI; clear hT hI))))
        | ((first | apply W.ret1 | apply W.end1); (iterate 2 (try (simp (disch := omega) only [push_cast, simprocAttr, hn, hb, hw8] <;> rfl))))

      all_goals (show _ = _; rfl)
    have hb : (9 < n0) = True := eq_true hs
    rw [← itoa_big n0 (by omega)]
    have c1 := ih (n0 / 10) (by omega) (by omega) (by omega)
    have hs1 := itoaB_size (n0 / 10) (by omega) (by omega)
    have hc1 : (itoaB (n0 / 10)).size + (ByteArray.mk #[UInt8.ofNat (48 + n0 % 10).toNat]).size ≤ maxLen := by rw [mkS1]; unfold maxLen; omega
    refine OKat.of_body (rs := [2]) Tryz.func52 rfl (by decide +kernel) rfl (by simp [Tryz.ntmps52]) ?_
    simp only [Tryz.ntmps52]
    repeat' first
      | ((apply W.byteStr; decide; exact Tryz.underlying58; exact Tryz.underlying5; exact Tryz.underlying9); (iterate 2 (simp (disch := omega) only [push_cast, simprocAttr, hn, hb, hw8, hc1] <;> rfl)); rfl; omega)
      | apply AW.seq | apply AW.region | apply AW.ret | apply AW.block | apply AW.skip | apply AW.exit | apply AW.scope | apply AW.label | apply AWL.nil
      | ((first | (apply W.step cx_ok; decide) | apply AW.cond); (simp (disch := omega) only [push_cast, simprocAttr, hn, hb, hw8, hc1] <;> rfl); all_goals try ((with_reducible intro hI); try first | (cases hI; done) | (simp only [INTS, not_true_eq_false] at hI; try first | (exfalso; omega) | (have hT : True := hI; clear hT hI))))
      | ((apply W.callv cx_ok; decide); (iterate 2 (simp (disch := omega) only [push_cast, simprocAttr, hn, hb, hw8, hc1] <;> rfl)); (with_reducible first | exact c1); try first | rfl | (simp (disch := omega) only [push_cast, simprocAttr, hn, hb, hw8, hc1] <;> rfl))
      | ((first | apply W.ret1 | apply W.end1); (iterate 2 (try (simp (disch := omega) only [push_cast, simprocAttr, hn, hb, hw8, hc1] <;> rfl))))

    all_goals (show _ = _; rfl)
theorem RDecimal_ok (n0 : Int) (h0 : -4611686018427387904 ≤ n0) (h1 : n0 ≤ 4611686018427387904) : OKv cx 52 [ai n0] (at_ (itoaB n0)) := by
  by_cases hn : n0 < 0
  rotate_left
  · exact RDecP n0.toNat n0 (by omega) (by omega) h1
  rw [← itoa_minus n0 hn]
  have c1 := RDecP (0 - n0).toNat (0 - n0) (by omega) (by omega) (by omega)
  have hT := eq_true hn
  have hs1 := itoaB_size (0 - n0) (by omega) (by omega)
  have hc1 : (ByteArray.mk #[45]).size + (itoaB (0 - n0)).size ≤ maxLen := by rw [mkS1]; unfold maxLen; omega
  refine OKat.of_body (rs := [2]) Tryz.func52 rfl (by decide +kernel) rfl (by simp [Tryz.ntmps52]) ?_
  simp only [Tryz.ntmps52]
  repeat' first
    | ((apply W.byteStr; decide; exact Tryz.underlying58; exact Tryz.underlying5; exact Tryz.underlying9); (iterate 2 (simp (disch := omega) only [push_cast, simprocAttr, hT, hc1] <;> rfl)); rfl; omega)
    | apply AW.seq | apply AW.region | apply AW.ret | apply AW.block | apply AW.skip | apply AW.exit | apply AW.scope | apply AW.label | apply AWL.nil
    | ((first | (apply W.step cx_ok; decide) | apply AW.cond); (simp (disch := omega) only [push_cast, simprocAttr, hT, hc1] <;> rfl); all_goals try ((with_reducible intro hI); try first | (cases hI; done) | (simp only [INTS, not_true_eq_false] at hI; try first | (exfalso; omega) | (have hT : True := hI; clear hT hI))))
    | ((apply W.callv cx_ok; decide); (iterate 2 (simp (disch := omega) only [push_cast, simprocAttr, hT, hc1] <;> rfl)); (with_reducible first | exact c1); try first | rfl | (simp (disch := omega) only [push_cast, simprocAttr, hT, hc1] <;> rfl))
    | ((first | apply W.ret1 | apply W.end1); (iterate 2 (try (simp (disch := omega) only [push_cast, simprocAttr, hT, hc1] <;> rfl))))

  all_goals (show _ = _; rfl)
def spsB (l : List Span) : ByteArray := catB (l.map fun x => ByteArray.mk #[32] ++ spanB x)
theorem spsB_cons (x : Span) (l : List Span) : spsB (x :: l) = ByteArray.mk #[32] ++ spanB x ++ spsB l := rfl
theorem spsB_size : ∀ (l : List Span), (∀ x ∈ l, 0 ≤ x.lo ∧ x.lo ≤ x.hi ∧ x.hi ≤ 2147483648) → (spsB l).size ≤ 44 * l.length
  | [], _ => Nat.le_refl _
  | x :: l, h => by
    obtain ⟨h0, h1, h2⟩ := h x (by simp)
    have s1 := itoaB_size x.lo (by omega) (by omega)
    have s2 := itoaB_size x.hi (by omega) (by omega)
    have := spsB_size l fun y hy => h y (by simp [hy])
    rw [spsB_cons]
    unfold spanB
    simp only [ByteArray.size_append, mkS1, List.length_cons]
    omega
theorem RSpans_ok (l : List Span) (hl : l.length ≤ 1048576) (hv : ∀ x ∈ l, 0 ≤ x.lo ∧ x.lo ≤ x.hi ∧ x.hi ≤ 2147483648) : OKv cx 53 [lSpan l] (at_ (spsB l)) := by
  obtain ⟨TT, hTT⟩ : ∃ z, spsB l = z := ⟨_, rfl⟩
  rw [hTT]
  refine OKat.of_body (rs := [2]) Tryz.func53 rfl (by decide +kernel) rfl (by simp [Tryz.ntmps53]) ?_
  simp only [Tryz.ntmps53]
  repeat' first
    | apply AW.seq | apply AW.region | apply AW.ret | apply AW.block | apply AW.skip | apply AW.exit | apply AW.scope | apply AW.label | apply AWL.nil | apply D.nil
    | refine W.draw cx_mixed (by decide +kernel) ?_
    | ((first | (apply W.step cx_ok; decide) | (apply D.step cx_ok; decide; decide) | apply AW.cond); (simp (disch := omega) only [push_cast, simprocAttr] <;> rfl); all_goals try ((with_reducible intro hI); try first | (cases hI; done) | (simp only [INTS, not_true_eq_false] at hI; try first | (exfalso; omega) | (have hT : True := hI; clear hT hI))))
    | ((first | apply W.ret1 | apply W.end1); (iterate 2 (try (simp (disch := omega) only [push_cast, simprocAttr] <;> rfl))))

  refine AW.loop (fun n s => ∃ (k : Nat) (r : ByteArray) (rest : List Span), n = rest.length ∧ (l.drop k = rest) ∧ (r ++ spsB rest = TT) ∧ (r.size ≤ 44 * k) ∧ (k ≤ l.length) ∧ s.tm 0 = lSpan l ∧ s.tm 3 = at_ r ∧ s.tm 4 = ai k) (l.length) ⟨0, ByteArray.empty, l, rfl, rfl, (by rw [ByteArray.empty_append]; exact hTT), (Nat.zero_le _), (Nat.zero_le _), ?_, ?_, ?_⟩ ?_
  iterate 3 (first | (simp (disch := omega) only [push_cast, simprocAttr] <;> first | rfl | omega) | omega)
  rintro n1 s1 ⟨k1, r1, rest1, hn1, hp01, hp11, hp21, hp31, hS1⟩
  rcases rest1 with _ | ⟨x, rest1⟩
  · have hk := drop_nil hp01
    have hq : r1 = TT := by rw [← hp11]; exact ByteArray.append_empty.symm
    subst hq
    repeat' first
      | apply AW.seq | apply AW.region | apply AW.ret | apply AW.block | apply AW.skip | apply AW.exit | apply AW.scope | apply AW.label | apply AWL.nil | apply D.nil
      | refine W.draw cx_mixed (by decide +kernel) ?_
      | ((first | (apply W.step cx_ok; decide) | (apply D.step cx_ok; decide; decide) | apply AW.cond); (simp (disch := omega) only [push_cast, simprocAttr, hS1, hk] <;> rfl); all_goals try ((with_reducible intro hI); try first | (cases hI; done) | (simp only [INTS, not_true_eq_false] at hI; try first | (exfalso; omega) | (have hT : True := hI; clear hT hI))))
      | ((first | apply W.ret1 | apply W.end1); (iterate 2 (try (simp (disch := omega) only [push_cast, simprocAttr, hS1, hk] <;> rfl))))

    all_goals (show _ = _; rfl)
  obtain ⟨hk, hg, hd', hl', hm', hx⟩ := drop_cons hp01 eSpan []
  obtain ⟨h0, h1, h2⟩ := hv x hm'
  have s1 := itoaB_size x.lo (by omega) (by omega)
  have s2 := itoaB_size x.hi (by omega) (by omega)
  have i1 := RDecimal_ok x.lo (by omega) (by omega)
  have i2 := RDecimal_ok x.hi (by omega) (by omega)
  have hc0 : r1.size + (ByteArray.mk #[32]).size ≤ maxLen := by
    simp only [ByteArray.size_append, mkS1]
    unfold maxLen; omega
  have hc1 : (r1 ++ (ByteArray.mk #[32])).size + (itoaB x.lo).size ≤ maxLen := by
    simp only [ByteArray.size_append, mkS1]
    unfold maxLen; omega
  have hc2 : (r1 ++ (ByteArray.mk #[32]) ++ (itoaB x.lo)).size + (ByteArray.mk #[45]).size ≤ maxLen := by
    simp only [ByteArray.size_append, mkS1]
    unfold maxLen; omega
  have hc3 : (r1 ++ (ByteArray.mk #[32]) ++ (itoaB x.lo) ++ (ByteArray.mk #[45])).size + (itoaB x.hi).size ≤ maxLen := by
    simp only [ByteArray.size_append, mkS1]
    unfold maxLen; omega
  have hap : r1 ++ (ByteArray.mk #[32]) ++ (itoaB x.lo) ++ (ByteArray.mk #[45]) ++ (itoaB x.hi) ++ spsB rest1 = TT := by rw [← hp11, spsB_cons]; unfold spanB; simp only [ByteArray.append_assoc]
  have hz : (r1 ++ (ByteArray.mk #[32]) ++ (itoaB x.lo) ++ (ByteArray.mk #[45]) ++ (itoaB x.hi)).size ≤ 44 * (k1 + 1) := by simp only [ByteArray.size_append, mkS1]; omega
  repeat' first
    | apply AW.seq | apply AW.region | apply AW.ret | apply AW.block | apply AW.skip | apply AW.exit | apply AW.scope | apply AW.label | apply AWL.nil | apply D.nil
    | refine W.draw cx_mixed (by decide +kernel) ?_
    | ((first | (apply W.step cx_ok; decide) | (apply D.step cx_ok; decide; decide) | apply AW.cond); (simp (disch := omega) only [push_cast, simprocAttr, hS1, hk, hg, hx, hc0, hc1, hc2, hc3] <;> rfl); all_goals try ((with_reducible intro hI); try first | (cases hI; done) | (simp only [INTS, not_true_eq_false] at hI; try first | (exfalso; omega) | (have hT : True := hI; clear hT hI))))
    | ((first | (apply W.callv cx_ok; decide) | (apply D.callv cx_ok; decide; decide)); (iterate 2 (simp (disch := omega) only [push_cast, simprocAttr, hS1, hk, hg, hx, hc0, hc1, hc2, hc3] <;> rfl)); (with_reducible first | exact i1 | exact i2); try first | rfl | (simp (disch := omega) only [push_cast, simprocAttr, hS1, hk, hg, hx, hc0, hc1, hc2, hc3] <;> rfl))
    | ((first | apply W.ret1 | apply W.end1); (iterate 2 (try (simp (disch := omega) only [push_cast, simprocAttr, hS1, hk, hg, hx, hc0, hc1, hc2, hc3] <;> rfl))))

  all_goals (refine ⟨rest1.length, ?_, k1 + 1, r1 ++ (ByteArray.mk #[32]) ++ (itoaB x.lo) ++ (ByteArray.mk #[45]) ++ (itoaB x.hi), rest1, rfl, hd', hap, hz, (by omega), ?_, ?_, ?_⟩; ((simp only [List.length_cons] at *; omega)); all_goals first | (simp (disch := omega) only [push_cast, simprocAttr, hS1, hk, hg, hx, hc0, hc1, hc2, hc3] <;> first | rfl | omega) | omega)
end Go.Proofs.Hz
