/-
  Contracts of functions, proved by going through their code. No conditions.
-/
import Derived.RangeFuncIn
import Derived.RangeFuncRecord
import Derived.Test.YtmcchoalekmklaaGreatZai
set_option linter.unusedVariables false
set_option linter.unusedSimpArgs false
namespace Go.Pg
open Go Go.RowKit
section
variable {B0 : Nat} {S0 : Fr} {w w' : World} {H : Nat → Option AO} {σ : Sg}
theorem Inv.pushK (hi : Inv B0 S0 w H σ) {id : Nat} (hf : H id = none) (hB : B0 ≤ w.heap.size) {kt0 : MK} (hlv : kt0.live = true) {es0 : List (Key × AV)} {xs0 : Array MapEntry} (hkey : xs0.toList.map (·.key) = es0.map (fun e => e.1.val)) (hat : kt0.at (es0.map (·.1)) w.heap.size)
    (hv : RepL σ w (es0.map (·.2)) (fun i => (xs0[i]?).map (·.val))) :
    Le σ (σ.push w.heap.size id 0 0 0) w (w.alloc (kt0.obj xs0 0)) ∧ Inv B0 S0 (w.alloc (kt0.obj xs0 0)) (updH H id (.mp kt0 0 es0)) (σ.push w.heap.size id 0 0 0) := by
  have hle := hi.le_push (n := 0) (k := 0) (cap := 0) hf (kt0.obj xs0 0)
  have hS : ¬ σ.S w.heap.size := fun h => by have := (hi.S_lt _ h).1; omega
  have hheap : ∀ b, b < w.heap.size → (w.alloc (kt0.obj xs0 0)).heap[b]? = w.heap[b]? := fun b hb => Below.heap_alloc w _ b hb
  refine ⟨hle, fun i => ?_, fun i hn => ?_, fun b h => ⟨by have := (hi.S_lt b h).1; simp; omega, (hi.S_lt b h).2⟩, fun b i h => ?_, fun i r' h => ?_, fun i kt et es h => ?_, S0.mono _ _ _ _ hle hi.fr⟩
  · simp only [Sg.push, updH]
    by_cases e : i = id
    · simp [e]
    · simp [e, hi.al]
  · simp only [updH] at hn
    have e : i ≠ id := fun e => by simp [e] at hn
    rw [if_neg e] at hn
    obtain ⟨h1, h2⟩ := hi.fresh i hn
    refine ⟨by simp only [Sg.push]; rw [if_neg e]; exact h1, fun b hb => ?_⟩
    simp only [Sg.push] at hb
    split at hb
    · injection hb with hb; exact e hb.symm
    · exact h2 b hb
  · simp only [Sg.push] at h
    split at h
    · subst b; exact ⟨hB, by simp⟩
    · have := hi.own_lt b i h; exact ⟨this.1, by simp; omega⟩
  · simp only [updH] at h
    by_cases e : i = id
    · subst e; simp at h
    · rw [if_neg e] at h
      have hr := hi.row i r' h
      have hown : ∀ b, (σ.push w.heap.size id 0 0 0).own b = some i → σ.own b = some i ∧ b ≠ w.heap.size := fun b hb => by
        simp only [Sg.push] at hb
        split at hb
        · injection hb with hb; exact absurd hb.symm e
        · exact ⟨hb, by assumption⟩
      have hx : ∀ b, b ≠ w.heap.size → (σ.push w.heap.size id 0 0 0).ext b = σ.ext b := fun b hb => by simp only [Sg.push]; rw [if_neg hb]
      have hcx : (σ.push w.heap.size id 0 0 0).cur i = σ.cur i := by simp only [Sg.push]; rw [if_neg e]
      have hax : ∀ b, b ≠ w.heap.size → (σ.push w.heap.size id 0 0 0).cap b = σ.cap b := fun b hb => by simp only [Sg.push]; rw [if_neg hb]
      refine ⟨by simp only [Sg.push]; rw [if_neg e]; exact hr.len, by simp only [Sg.push]; rw [if_neg e]; exact hr.k, hr.each, hr.lo, fun b hb => ?_, fun hc => hr.empty (by rw [← hcx]; exact hc), fun b hb => ?_, fun b hb j h1 => ?_⟩
      · rw [hcx] at hb
        obtain ⟨a1, a2, a3, a4, ar, a5, a6⟩ := hr.cur b hb
        have hlt := (hi.own_lt b i a1).2
        exact ⟨by simp only [Sg.push]; rw [if_neg (by omega)]; exact a1, by rw [hx b (by omega)]; exact a2, by rw [hax b (by omega)]; exact a3, by rw [hax b (by omega)]; exact a4, ar, (hheap b hlt).trans a5, by rw [hax b (by omega)]; exact a6⟩
      · obtain ⟨h1, h2⟩ := hown b hb
        rw [hx b h2, hcx]; exact hr.own b h1
      · rw [hcx] at hb
        refine RepL.mono hle _ _ _ (fun m u hu => ?_) (hr.con b hb j h1)
        rw [cell_of_heap (w := w) (hheap b (hi.own_lt b i (hr.cur b hb).1).2)]; exact hu
  · simp only [updH] at h
    by_cases e : i = id
    · subst e
      rw [if_pos rfl] at h; injection h with h; injection h with h1 h2 h3; subst h1; subst h3
      refine ⟨by simp [Sg.push], ⟨w.heap.size, 0, xs0, by simp [Sg.push], by simp [Sg.push], ⟨fun _ => hS, fun h => (by rw [hlv] at h; cases h)⟩, World.alloc_heap_new w _, ⟨hkey, hat⟩, RepL.mono hle _ _ _ (fun _ _ h => h) hv⟩, fun b hb => ?_⟩
      simp only [Sg.push] at hb
      split at hb
      · rename_i he; subst he; exact ⟨by simp [Sg.push], by simp [Sg.push]⟩
      · exact absurd hb ((hi.fresh i hf).2 b)
    · rw [if_neg e] at h
      have hm := hi.mp i kt et es h
      obtain ⟨b, clock, xs, a1, a2, a3, a4, a5, a6⟩ := hm.cur
      have hlt := (hi.own_lt b i a2).2
      refine ⟨by simp only [Sg.push]; rw [if_neg e]; exact hm.len, ⟨b, clock, xs, by simp only [Sg.push]; rw [if_neg e]; exact a1, by simp only [Sg.push]; rw [if_neg (by omega)]; exact a2, a3, (hheap b hlt).trans a4, a5, RepL.mono hle _ _ _ (fun _ _ h => h) a6⟩, fun b hb => ?_⟩
      simp only [Sg.push] at hb
      split at hb
      · injection hb with hb; exact absurd hb.symm e
      · rename_i hne
        obtain ⟨h1, h2⟩ := hm.one b hb
        exact ⟨by simp only [Sg.push]; rw [if_neg e]; exact h1, by simp only [Sg.push]; rw [if_neg hne]; exact h2⟩
theorem Inv.turn (hi : Inv B0 S0 w H σ) {id l : Nat} {L : Loop} {es : List (Key × AV)} (hH : H id = some (.mp (.loop l L) 0 es)) :
    ∃ tmps : Array Value, w.heap[l]? = some (.loop { L with tmps := tmps }) ∧ tmps.size = es.length ∧ RepL σ w (es.map (·.2)) (fun i => tmps[i]?) ∧
      ∀ L' : Loop, Le σ σ w (w.putObj l (.loop { L' with tmps := tmps })) ∧ Inv B0 S0 (w.putObj l (.loop { L' with tmps := tmps })) (updH H id (.mp (.loop l L') 0 es)) σ ∧ Below B0 w (w.putObj l (.loop { L' with tmps := tmps })) := by
  have hm := hi.mp id _ _ _ hH
  obtain ⟨b, clock, xs, a1, a2, a3, a4, ⟨a5, a5'⟩, a6⟩ := hm.cur
  have hb : b = l := a5'
  subst hb
  have hlt := hi.own_lt b id a2
  have hl : xs.size = es.length := by have := congrArg List.length a5; simpa using this
  refine ⟨xs.map (fun e : MapEntry => e.val), a4, by simp [hl], ?_, fun L' => ?_⟩
  · refine RepL.congr (fun i _ => ?_) a6
    simp
  · have hoth : ∀ k, k ≠ b → (w.putObj b (.loop { L' with tmps := xs.map (·.val) })).heap[k]? = w.heap[k]? := fun k hk => World.putObj_heap_other hk
    have hr := hi.remap (w' := w.putObj b (.loop { L' with tmps := xs.map (·.val) })) (kt' := .loop b L') hH rfl rfl (fun _ h => h) (clock := clock) a1 (World.putObj_heap_same hlt.2) World.putObj_size hoth a5 a6
    exact ⟨hr.1, hr.2, rfl, rfl, rfl, by simp, fun k hk => hoth k (by omega)⟩
theorem Inv.shut (hi : Inv B0 S0 w H σ) {id l : Nat} {ds : Option (List Deferred)} {es : List (Key × AV)} (hH : H id = some (.mp (.dfr l ds) 0 es)) :
    w.heap[l]? = some (.deferred ds) ∧ ∀ ds' : Option (List Deferred), Le σ σ w (w.putObj l (.deferred ds')) ∧ Inv B0 S0 (w.putObj l (.deferred ds')) (updH H id (.mp (.dfr l ds') 0 es)) σ ∧ Below B0 w (w.putObj l (.deferred ds')) := by
  have hm := hi.mp id _ _ _ hH
  obtain ⟨b, clock, xs, a1, a2, a3, a4, ⟨a5, a5'⟩, a6⟩ := hm.cur
  have hb : b = l := a5'
  subst hb
  have hlt := hi.own_lt b id a2
  refine ⟨a4, fun ds' => ?_⟩
  have hoth : ∀ k, k ≠ b → (w.putObj b (.deferred ds')).heap[k]? = w.heap[k]? := fun k hk => World.putObj_heap_other hk
  have hr := hi.remap (w' := w.putObj b (.deferred ds')) (kt' := .dfr b ds') hH rfl rfl (fun _ h => h) (clock := clock) a1 (World.putObj_heap_same hlt.2) World.putObj_size hoth a5 a6
  exact ⟨hr.1, hr.2, rfl, rfl, rfl, by simp, fun k hk => hoth k (by omega)⟩
end
def keepT (N : Nat) (tm : Nat → AV) : List (Key × AV) := (List.range N).map fun t => (Key.str ByteArray.empty, tm t)
def keepX (tmps : Array Value) : Array MapEntry := tmps.map fun v => ⟨.string ByteArray.empty, v, 0⟩
theorem keepX_val (tmps : Array Value) : (keepX tmps).map (·.val) = tmps := by
  apply Array.ext
  · simp [keepX]
  · intro i h1 h2; simp [keepX]
theorem keepX_key (tmps : Array Value) {N : Nat} {tm : Nat → AV} (h : tmps.size = N) : (keepX tmps).toList.map (·.key) = (keepT N tm).map (fun e => e.1.val) := by
  apply List.ext_getElem
  · simp [keepX, keepT, h]
  · intro i h1 h2; simp [keepX, keepT, Key.val]
theorem keepX_rep {σ : Sg} {w : World} {tmps : Array Value} {N : Nat} {tm : Nat → AV} (h : tmps.size = N) (hr : ∀ t, Rep σ w (tm t) (tmps.getD t undef)) : RepL σ w ((keepT N tm).map (·.2)) (fun i => ((keepX tmps)[i]?).map (·.val)) := by
  rw [repL_iff]
  intro i hi
  have hi' : i < tmps.size := by simpa [keepT, h] using hi
  refine ⟨tmps[i], by simp [keepX, hi'], ?_⟩
  have := hr i
  simp only [keepT, List.map_map, List.getElem_map, List.getElem_range, Function.comp]
  rwa [Array.getD_eq_getD_getElem?, Array.getElem?_eq_getElem hi'] at this
theorem keepT_length (N : Nat) (tm : Nat → AV) : (keepT N tm).length = N := by simp [keepT]
def cutT (N : Nat) (tm : Nat → AV) : Nat → AV := fun t => if t < N then tm t else .junk
def tmP (tm : Nat → AV) : List (Nat × AV) → Nat → AV
  | [] => tm
  | (p, x) :: r => tmP (upd tm p x) r
theorem keepT_rep {σ : Sg} {w : World} {tmps : Array Value} {N : Nat} {tm : Nat → AV} (hs : tmps.size = N) (hr : RepL σ w ((keepT N tm).map (·.2)) (fun i => tmps[i]?)) (t : Nat) : Rep σ w (cutT N tm t) (tmps.getD t undef) := by
  unfold cutT
  split
  · rename_i ht
    rw [repL_iff] at hr
    obtain ⟨u, hu, h⟩ := hr t (by simpa [keepT] using ht)
    rw [Array.getD_eq_getD_getElem?, hu]
    simpa [keepT] using h
  · trivial
theorem tmP_rep {σ : Sg} {w : World} : ∀ (pv : List (Nat × Value)) (pa : List (Nat × AV)) (tmps : Array Value) (tm : Nat → AV), (∀ t, Rep σ w (tm t) (tmps.getD t undef)) → pv.length = pa.length → (∀ p ∈ pv, p.1 < tmps.size) →
    (∀ (i : Nat) (h : i < pv.length) (h' : i < pa.length), pv[i].1 = pa[i].1 ∧ Rep σ w pa[i].2 pv[i].2) → ∀ t, Rep σ w (tmP tm pa t) ((pv.foldl (fun tmps x => tmps.setIfInBounds x.1 x.2) tmps).getD t undef)
  | [], [], tmps, tm, h, _, _, _ => h
  | (p, v) :: pv, (q, x) :: pa, tmps, tm, h, hl, hb, hr => by
    intro t
    simp only [List.foldl_cons, tmP]
    have h0 := hr 0 (by simp) (by simp)
    simp only [List.getElem_cons_zero] at h0
    obtain ⟨h0, h1⟩ := h0
    subst h0
    refine tmP_rep pv pa _ _ (fun u => ?_) (by simpa using hl) (fun y hy => by simpa using hb y (by simp [hy])) (fun i hi hi' => ?_) t
    · rw [getD_set _ _ _ _ (hb (p, v) (by simp))]
      unfold upd
      split
      · exact h1
      · exact h u
    · have := hr (i + 1) (by simp; omega) (by simp; omega)
      simpa using this
  | [], _ :: _, _, _, _, hl, _, _ => by simp at hl
  | _ :: _, [], _, _, _, hl, _, _ => by simp at hl
def YOK (C : Cx) (l : Nat) (args : List AV) (H : Nat → Option AO) (nx : Nat) (Q : Bool → (Nat → Option AO) → Nat → Prop) : Prop :=
  ∀ (S0 : Fr) (w0 w : World) (σ : Sg) (vals : Array Value), C.E w0 → Inv w0.heap.size S0 w H σ → (∀ id, nx ≤ id → H id = none) → Below w0.heap.size w0 w → vals.size = args.length → RepL σ w args (fun i => vals[i]?) →
    ∃ f tmps assign body, (Instr.yield l vals).run C.P w = .ok (.round l f tmps assign body) w ∧ RoundIn Fence.wide 0 C.P l f tmps assign body w fun e w' =>
      ∃ b σ' H' nx', e = .returned (.bool b) ∧ Q b H' nx' ∧ Below w0.heap.size w0 w' ∧ Inv w0.heap.size S0 w' H' σ' ∧ (∀ id, nx' ≤ id → H' id = none) ∧ Le σ σ' w w'
def Cx.rnd (C : Cx) (l : Nat) : Cx := { C with F' := ⟨Fence.wide.inRound l, .inr ⟨l, rfl⟩⟩ }
def roundQ (id l : Nat) (L : Loop) (es : List (Key × AV)) (Q : Bool → (Nat → Option AO) → Nat → Prop) : Exit → St → Prop
  | .normal, s => s.H id = some (.mp (.loop l { L with state := .busy }) 0 es) ∧ Q true (updH s.H id (.mp (.loop l { L with state := .ready, pending := none }) 0 es)) s.nx
  | .ret, s => s.H id = some (.mp (.loop l { L with state := .busy }) 0 es) ∧ Q false (updH s.H id (.mp (.loop l { L with state := .done, pending := some .ret }) 0 es)) s.nx
  | .exit i, s => s.H id = some (.mp (.loop l { L with state := .busy }) 0 es) ∧ Q false (updH s.H id (.mp (.loop l { L with state := .done, pending := some (.exit i) }) 0 es)) s.nx
  | _, _ => False
theorem updH_nx {H : Nat → Option AO} {id nx : Nat} {o : AO} (h : ∀ i, nx ≤ i → H i = none) (hid : H id ≠ none) : ∀ i, nx ≤ i → updH H id o i = none := fun i hi => by
  simp only [updH]
  split
  · rename_i e; subst e; exact absurd (h i hi) hid
  · exact h i hi
theorem YOK.of_body {C : Cx} {l id : Nat} {L : Loop} {tm : Nat → AV} {N : Nat} {H : Nat → Option AO} {nx : Nat} {args : List AV} {Q : Bool → (Nat → Option AO) → Nat → Prop}
    (hH : H id = some (.mp (.loop l L) 0 (keepT N tm))) (hst : L.state = .ready) (hp : L.params.size = args.length) (hpN : ∀ p ∈ L.params.toList, p < N)
    (h : AW (C.rnd l) N L.assign (fun e s1 => match e with
      | .normal => s1.H id = some (.mp (.loop l L) 0 (keepT N tm)) ∧ AW (C.rnd l) N L.body (roundQ id l L (keepT N tm) Q) { s1 with H := updH s1.H id (.mp (.loop l { L with state := .busy }) 0 (keepT N tm)) }
      | _ => False) { tm := tmP (cutT N tm) (L.params.toList.zip args), H := H, nx := nx }) : YOK C l args H nx Q := by
  intro S0 w0 w σ vals hE hi hnx hbel hsz hrep
  obtain ⟨tmps, b1, b2, b3, b4⟩ := hi.turn hH
  rw [keepT_length] at b2
  refine ⟨_, _, _, _, run_yield b1 (by rw [hsz]; exact hp.symm), ?_⟩
  refine roundIn_of_wpIn trivial ?_
  have hfold : (L.params.zip vals).foldl (fun tmps (t, a) => tmps.setIfInBounds t a) tmps = (L.params.toList.zip vals.toList).foldl (fun tmps x => tmps.setIfInBounds x.1 x.2) tmps := by
    rw [← Array.foldl_toList, Array.toList_zip]
  have hs : Sim (S0.from σ w) w0 N { tmps := (L.params.zip vals).foldl (fun tmps (t, a) => tmps.setIfInBounds t a) tmps, defers := [] } w { tm := tmP (cutT N tm) (L.params.toList.zip args), H := H, nx := nx } := by
    have hsize : ∀ (pv : List (Nat × Value)) (tmps : Array Value), (pv.foldl (fun tmps x => tmps.setIfInBounds x.1 x.2) tmps).size = tmps.size := by
      intro pv
      induction pv with
      | nil => intro t; rfl
      | cons p pv ih => intro t; simp only [List.foldl_cons]; rw [ih]; simp
    refine ⟨σ, hi.from, hnx, fun t => ?_, ?_, rfl, hbel⟩
    · show Rep σ w _ (((L.params.zip vals).foldl (fun tmps (t, a) => tmps.setIfInBounds t a) tmps).getD t undef)
      rw [hfold]
      refine tmP_rep _ _ _ _ (keepT_rep b2 b3) ?_ ?_ ?_ t
      · simp [hsz]
      · intro p hp
        rw [b2]
        exact hpN _ (List.of_mem_zip hp).1
      · intro i h1 h2
        simp only [List.length_zip] at h1 h2
        have hia : i < args.length := by omega
        rw [repL_iff] at hrep
        obtain ⟨u, hu, hr⟩ := hrep i hia
        have hiv : i < vals.size := by omega
        rw [Array.getElem?_eq_getElem hiv] at hu
        injection hu with hu
        subst hu
        exact ⟨by simp, by simpa using hr⟩
    · show ((L.params.zip vals).foldl (fun tmps (t, a) => tmps.setIfInBounds t a) tmps).size = N
      rw [hfold, hsize, b2]
  have h2 := h (S0.from σ w) w0 _ w hE hs
  refine wpIn_mono (show L.assign.wpIn (Fence.wide.inRound l) 0 C.P _ _ _ from h2) ?_
  rintro e a1 w1 ⟨s1, hs1, hq⟩
  cases e <;> try exact hq.elim
  obtain ⟨hH1, hq⟩ := hq
  obtain ⟨σ1, hs1⟩ := hs1
  obtain ⟨tmps1, c1, c2, c3, c4⟩ := hs1.inv.turn hH1
  obtain ⟨d1, d2, d3⟩ := c4 { L with state := .busy }
  refine ⟨_, run_beginRound c1 hst, ?_⟩
  have h3 := hq (S0.from σ w) w0 a1 _ hE ⟨σ1, d2, updH_nx hs1.nx (by rw [hH1]; simp), fun t => Rep.mono d1 _ _ (hs1.tm t), hs1.N, hs1.d, hs1.below.trans d3⟩
  refine wpIn_mono (show L.body.wpIn (Fence.wide.inRound l) 0 C.P _ _ _ from h3) ?_
  rintro e a2 w2 ⟨s2, ⟨σ2, hs2⟩, hq2⟩
  have fin : ∀ jump : Option Code, s2.H id = some (.mp (.loop l { L with state := .busy }) 0 (keepT N tm)) → Q jump.isNone (updH s2.H id (.mp (.loop l { L with state := if jump.isNone then .ready else .done, pending := jump }) 0 (keepT N tm))) s2.nx →
      ∃ v w', (Instr.endRound l jump).run C.P w2 = .ok v w' ∧ ∃ b σ' H' nx', Ending.returned v = .returned (.bool b) ∧ Q b H' nx' ∧ Below w0.heap.size w0 w' ∧ Inv w0.heap.size S0 w' H' σ' ∧ (∀ id, nx' ≤ id → H' id = none) ∧ Le σ σ' w w' := by
    intro jump hH2 hq
    obtain ⟨tmps2, e1, e2, e3, e4⟩ := hs2.inv.turn hH2
    obtain ⟨f1, f2, f3⟩ := e4 { L with state := if jump.isNone then .ready else .done, pending := jump }
    obtain ⟨g1, g2⟩ := f2.unfrom
    exact ⟨_, _, run_endRound jump e1, jump.isNone, σ2, _, s2.nx, rfl, hq, hs2.below.trans f3, g1, updH_nx hs2.nx (by rw [hH2]; simp), g2⟩
  cases e with
  | normal => exact fin none hq2.1 hq2.2
  | ret => exact fin (some .ret) hq2.1 hq2.2
  | exit i => exact fin (some (.exit i)) hq2.1 hq2.2
  | goto t => exact hq2.elim
  | panic c => exact hq2.elim
  | outgrown => exact hq2.elim
section
variable {C : Cx} {N : Nat} {Q : Exit → St → Prop} {s : St} {ops : Array Oper} {rest : List Oper} {o : Oper}
theorem AWL.yield (hg : o.guard = none) {d : Nat} (hd : o.dst = some d) (hN : d < N) {fo : Operand} {args : Array Operand} {tys : Array TypeId} (ho : o.op = .call { callee := .value fo, args := args, argTypes := tys })
    {l : Nat} (hf : s.ev fo = .v (.func (.yield l) #[] #[])) {Qr : Bool → (Nat → Option AO) → Nat → Prop} (hok : YOK C l (evsA args.toList s.ev) s.H s.nx Qr)
    (k : ∀ b H' nx', Qr b H' nx' → AWL C N ops Q rest { tm := upd s.tm d (.v (.bool b)), H := H', nx := nx' }) : AWL C N ops Q (o :: rest) s := by
  rintro S0 w0 a w hE ⟨σ, hσ⟩
  have hfo := hσ.ev fo
  rw [hf] at hfo
  simp only [Rep] at hfo
  have hargs : RepL σ w (evsA args.toList s.ev) (fun i => (args.map a.eval)[i]?) := repL_evs (σ := σ) (w := w) (fun x => hσ.ev x) args
  obtain ⟨f, tmps, assign, body, hy, hr⟩ := hok S0 w0 w σ (args.map a.eval) hE hσ.inv hσ.nx hσ.below (by simp [evsA_map]) hargs
  refine wpListIn_plain hg fun K hK => ?_
  refine ⟨fun f _ => C.hF.fn f, ?_⟩
  have hs : o.semAt C.F.round a.eval = execOp a.eval o := by
    cases hr : C.F.round with
    | none => rfl
    | some l => exact Oper.semAt_some l _ o (fun c e => by rw [ho] at e; cases e)
  rw [hs]
  have hexec : (execOp a.eval o).run C.P w = .ok (.round l f tmps assign body) w := by
    simp only [execOp, ho, resolve, hfo, Deferred.ofValue, Sem.run_bind, Sem.run_pure, Result.andThen_ok, invoke]
    simpa using hy
  rw [hexec, Oper.uponIn_round]
  refine ⟨fun hq => (by rw [C.hF.depth] at hq; cases hq), C.hF.roundIn.2 (RoundIn.mono hr ?_)⟩
  rintro e w' ⟨b, σ', H', nx', rfl, hQ, hb, hi', hn', hle⟩
  dsimp only
  rw [hd]
  refine hK _ _ (k b H' nx' hQ S0 w0 _ w' hE ⟨σ', hi', hn', fun t => ?_, by simp [Act.put, hσ.N], hσ.d, hb⟩)
  simp only [Act.put]
  rw [getD_set _ _ _ _ (by rw [hσ.N]; exact hN)]
  show Rep σ' w' (upd s.tm d _ t) _
  unfold upd
  split
  · exact rfl
  · exact Rep.mono hle _ _ (hσ.tm t)
end
end Go.Pg

namespace Go.Pg
open Go Go.RowKit
def mark (D : Nat) : Deferred := { target := .collected D, args := #[] }
def Marks (bs : List (Nat × Nat)) (H : Nat → Option AO) : Prop := (bs.map (·.2)).Nodup ∧ ∀ p ∈ bs, H p.2 = some (.mp (.dfr p.1 (some [])) 0 [])
def AWx (C : Cx) (N : Nat) (c : Code) (Q : Exit → St → Prop) (s : St) : Prop :=
  ∀ S0 w0 a w, S0.ds = [] → C.E w0 → Sim S0 w0 N a w s → c.wpIn C.F 0 C.P (fun e a' w' => ∃ s' bs, Sim { S0 with ds := bs.map (fun p => mark p.1) } w0 N a' w' s' ∧ Marks bs s'.H ∧ Q e s') a w
section
variable {C : Cx} {N : Nat} {Q : Exit → St → Prop} {s : St}
theorem Fr.no_ds {S0 : Fr} (h : S0.ds = []) : { S0 with ds := (([] : List (Nat × Nat)).map (fun p => mark p.1)) } = S0 := by
  obtain ⟨S, K, m, ds⟩ := S0
  simp only at h
  subst h; rfl
theorem AWx.seq {x y : Code} (h : AW C N x (thenQ (AWx C N y Q) Q) s) : AWx C N (.seq x y) Q s := by
  intro S0 w0 a w hds hE hs
  refine wpIn_seq (wpIn_mono (h S0 w0 a w hE hs) ?_)
  rintro e a' w' ⟨s', h1, h3⟩
  cases e <;> simp only [thenQ, Exit.then] at h3 ⊢
  · exact h3 S0 w0 a' w' hds hE h1
  all_goals exact ⟨s', [], by rw [Fr.no_ds hds]; exact h1, ⟨by simp, by simp⟩, h3⟩
def afterR (C : Cx) (N : Nat) (tail : Code) (bid : Nat) (Q : Exit → St → Prop) : Option Code → St → Prop
  | none, s => AW C N tail Q s
  | some .ret, s => Q .ret s
  | some (.exit i), s => if i = bid then AW C N tail Q s else Q (.exit i) s
  | _, _ => False
def AWk (C : Cx) (N : Nat) (y z : Code) (Q : Exit → St → Prop) (s : St) : Prop :=
  ∀ S0 w0 a w, S0.ds = [] → C.E w0 → Sim S0 w0 N a w s → y.wpIn C.F 0 C.P (Exit.then (z.wpIn C.F 0 C.P fun e a' w' => ∃ s' bs, Sim { S0 with ds := bs.map (fun p => mark p.1) } w0 N a' w' s' ∧ Marks bs s'.H ∧ Q e s')
    (fun e a' w' => ∃ s' bs, Sim { S0 with ds := bs.map (fun p => mark p.1) } w0 N a' w' s' ∧ Marks bs s'.H ∧ Q e s')) a w
theorem AWx.ofk {y z : Code} (h : AWk C N y z Q s) : AWx C N (.seq y z) Q s := fun S0 w0 a w hds hE hs => wpIn_seq (h S0 w0 a w hds hE hs)
def Stop (p : Prop) : Prop := p
theorem Stop.mk {p : Prop} (h : p) : Stop p := h
theorem Stop.get {p : Prop} (h : Stop p) : p := h
attribute [irreducible] Stop
theorem AWx.seqS {x y : Code} (h : AW C N x (thenQ (fun s => Stop (AWx C N y Q s)) Q) s) : AWx C N (.seq x y) Q s :=
  AWx.seq (AW.mono h fun e s' hq => by cases e <;> first | exact hq.get | exact hq)
theorem AWk.seqS {x y z : Code} (h : AW C N x (thenQ (fun s => Stop (AWk C N y z Q s)) Q) s) : AWk C N (.seq x y) z Q s := by
  intro S0 w0 a w hds hE hs
  refine wpIn_seq (wpIn_mono (h S0 w0 a w hE hs) ?_)
  rintro e a' w' ⟨s', h1, h3⟩
  cases e <;> simp only [thenQ, Exit.then] at h3 ⊢
  · exact h3.get S0 w0 a' w' hds hE h1
  all_goals exact ⟨s', [], by rw [Fr.no_ds hds]; exact h1, ⟨by simp, by simp⟩, h3⟩
theorem AWk.range [hW : C.Wide] {g : Operand} {ps : Array Tmp} {assign body tail : Code} {bid : Nat} {f : FuncId} {caps : List AV} (hg : s.ev g = .clo f caps)
    (hok : ∀ (D l : Nat) (fn : FuncId), OKm C f (.v (.func (.yield l) #[] #[]) :: caps)
      (updH (updH s.H s.nx (.mp (.dfr D (some [])) 0 [])) (s.nx + 1) (.mp (.loop l { state := .ready, pending := none, fn := fn, tmps := #[], params := ps, assign := assign, body := body, defers := D }) 0 (keepT N s.tm))) (s.nx + 2)
      (fun _ H' nx' => ∃ L', H' (s.nx + 1) = some (.mp (.loop l L') 0 (keepT N s.tm)) ∧ L'.state ≠ .busy ∧
        afterR C N tail bid (fun e s' => s'.H s.nx = some (.mp (.dfr D (some [])) 0 []) ∧ Q e s') L'.pending { tm := s.tm, H := updH H' (s.nx + 1) (.mp (.loop l { L' with state := .exhausted }) 0 (keepT N s.tm)), nx := nx' })) :
    AWk C N (.block bid (.rangeFunc g ps assign body)) tail Q s := by
  rintro S0 w0 a w hds hE ⟨σ, hσ⟩
  rw [hW.h]
  refine wpIn_block (wpIn_rangeFunc fun fn _ => ?_)
  obtain ⟨hle1, hi1⟩ := hσ.inv.pushK (kt0 := .dfr w.heap.size (some [])) (es0 := []) (xs0 := #[]) (hσ.nx s.nx (Nat.le_refl _)) hσ.size rfl rfl rfl trivial
  have hb1 : Below w0.heap.size w (w.alloc (.deferred (some []))) := (Below.refl _ _).alloc hσ.size _
  have hnx1 : ∀ i, s.nx + 1 ≤ i → updH s.H s.nx (.mp (.dfr w.heap.size (some [])) 0 []) i = none := fun i h => by
    simp only [updH]; rw [if_neg (by omega)]; exact hσ.nx i (by omega)
  obtain ⟨hle2, hi2⟩ := hi1.pushK (id := s.nx + 1) (kt0 := .loop (w.heap.size + 1) { state := .ready, pending := none, fn := fn, tmps := #[], params := ps, assign := assign, body := body, defers := w.heap.size }) (es0 := keepT N s.tm) (xs0 := keepX a.tmps)
    (hnx1 _ (Nat.le_refl _)) (by simp [MK.obj]; have := hσ.size; omega) rfl (keepX_key _ hσ.N) (by simp [MK.obj, MK.at]) (keepX_rep hσ.N fun t => Rep.mono hle1 _ _ (hσ.tm t))
  have hle := hle1.trans hle2
  simp only [MK.obj, keepX_val] at hi2 hle
  have hb2 : Below w0.heap.size w ((w.alloc (.deferred (some []))).alloc (.loop { state := .ready, pending := none, fn := fn, tmps := a.tmps, params := ps, assign := assign, body := body, defers := w.heap.size })) := hb1.alloc (Nat.le_trans hσ.size (by simp)) _
  generalize hW2 : (w.alloc (.deferred (some []))).alloc (.loop { state := .ready, pending := none, fn := fn, tmps := a.tmps, params := ps, assign := assign, body := body, defers := w.heap.size }) = W2 at hi2 hb2 hle
  obtain ⟨⟨fn', hfn, hname, hbody⟩, hcall⟩ := hok w.heap.size (w.heap.size + 1) fn
  have hfo := hσ.ev g
  rw [hg] at hfo
  simp only [Rep] at hfo
  obtain ⟨ca, hca, hcs, hcr⟩ := hfo
  have hc := hcall S0 w0 _ _ (#[.func (.yield (w.heap.size + 1)) #[] #[]] ++ ca) hE hi2 (fun i h => by
      simp only [updH]; rw [if_neg (by omega), if_neg (by omega)]; exact hσ.nx i (by omega)) (hσ.below.trans hb2) (by simp [hcs]; omega) (by
      rw [repL_iff'] at hcr ⊢
      intro i c hc
      rw [Array.getElem?_append]
      cases i with
      | zero => simp only [List.getElem?_cons_zero, Option.some.injEq] at hc; subst hc; exact ⟨_, by simp, rfl⟩
      | succ i =>
        simp only [List.getElem?_cons_succ] at hc
        obtain ⟨u, hu, hr⟩ := hcr i c hc
        refine ⟨u, ?_, Rep.mono hle _ _ hr⟩
        simpa using hu)
  have he := run_enterLoop_outer (P := C.P) (w := w) fn a.tmps ps assign body
  have hres : (resolve a.eval (rangeCall g (w.heap.size + 1)) 0).run C.P W2 = .ok { target := .fn (.func f) ca, args := #[.func (.yield (w.heap.size + 1)) #[] #[]] } W2 := by
    simp only [resolve, rangeCall, hca, Deferred.ofValue, Sem.run_bind, Sem.run_pure, Result.andThen_ok]
    simp [Act.eval]
  have hinv : (invoke (.fn (.func f) ca) #[.func (.yield (w.heap.size + 1)) #[] #[]]).run C.P W2 = .ok (.enter f (#[.func (.yield (w.heap.size + 1)) #[] #[]] ++ ca)) W2 := by
    have hb : (fn'.name == "runtime.NumGoroutine") ≠ true := by simp [hname]
    simp only [invoke, callFunc, run_program, Sem.run_bind, Sem.run_pure, Result.andThen_ok, hfn, if_neg hb, hbody, Bool.false_eq_true, if_false]
  rw [hW2] at he
  refine ⟨w.heap.size + 1, [{ target := .collected w.heap.size, args := #[] }], W2, { target := .fn (.func f) ca, args := #[.func (.yield (w.heap.size + 1)) #[] #[]] }, W2, f, #[.func (.yield (w.heap.size + 1)) #[] #[]] ++ ca, W2, ?_⟩
  refine ⟨he, hres, fun _ _ => trivial, hinv, fun h => (by cases h), ?_⟩
  refine callsIn_wide.2 (hc.mono ?_)
  rintro e w' ⟨v, r, σ', H', nx', rfl, ⟨L', hL, hst, hq⟩, hb, hi', hn', hle', _⟩
  obtain ⟨tmps, e1, e2, e3, e4⟩ := hi'.turn hL
  obtain ⟨f1, f2, f3⟩ := e4 { L' with state := .exhausted }
  have hs4 : Sim { S0 with ds := [mark w.heap.size] } w0 N { a with defers := [{ target := .collected w.heap.size, args := #[] }] ++ a.defers } (w'.putObj (w.heap.size + 1) (.loop { L' with state := .exhausted, tmps := tmps }))
      { tm := s.tm, H := updH H' (s.nx + 1) (.mp (.loop (w.heap.size + 1) { L' with state := .exhausted }) 0 (keepT N s.tm)), nx := nx' } := by
    refine ⟨σ', ⟨f2.al, f2.fresh, f2.S_lt, f2.own_lt, f2.row, f2.mp, f2.fr⟩, updH_nx hn' (by rw [hL]; simp), fun t => Rep.mono ((hle.trans hle').trans f1) _ _ (hσ.tm t), hσ.N, ?_, hb.trans f3⟩
    show [mark w.heap.size] ++ a.defers = [mark w.heap.size]
    rw [hσ.d, hds]; rfl
  have hfin : ∀ e a' w'' s', Sim { S0 with ds := [mark w.heap.size] } w0 N a' w'' s' → (s'.H s.nx = some (.mp (.dfr w.heap.size (some [])) 0 []) ∧ Q e s') →
      ∃ s' bs, Sim { S0 with ds := bs.map (fun p => mark p.1) } w0 N a' w'' s' ∧ Marks bs s'.H ∧ Q e s' := fun e a' w'' s' h1 h2 =>
    ⟨s', [(w.heap.size, s.nx)], h1, ⟨by simp, by simpa using h2.1⟩, h2.2⟩
  have htail : AW C N tail (fun e s' => s'.H s.nx = some (.mp (.dfr w.heap.size (some [])) 0 []) ∧ Q e s') { tm := s.tm, H := updH H' (s.nx + 1) (.mp (.loop (w.heap.size + 1) { L' with state := .exhausted }) 0 (keepT N s.tm)), nx := nx' } →
      tail.wpIn Fence.wide 0 C.P (fun e a' w' => ∃ s' bs, Sim { S0 with ds := bs.map (fun p => mark p.1) } w0 N a' w' s' ∧ Marks bs s'.H ∧ Q e s') { a with defers := [{ target := .collected w.heap.size, args := #[] }] ++ a.defers } (w'.putObj (w.heap.size + 1) (.loop { L' with state := .exhausted, tmps := tmps })) := fun h => by
    have h2 := h _ w0 _ _ hE hs4
    rw [hW.h] at h2
    refine wpIn_mono h2 ?_
    rintro e a' w'' ⟨s', g1, g2⟩
    exact hfin e a' w'' s' g1 g2
  have hend : (Instr.endLoop (w.heap.size + 1)).run C.P w' = .ok L'.pending (w'.putObj (w.heap.size + 1) (.loop { L' with state := .exhausted, tmps := tmps })) := run_endLoop e1 hst
  generalize hst4 : ({ tm := s.tm, H := updH H' (s.nx + 1) (.mp (.loop (w.heap.size + 1) { L' with state := .exhausted }) 0 (keepT N s.tm)), nx := nx' } : St) = st at hq hs4 htail
  generalize hw4 : w'.putObj (w.heap.size + 1) (.loop { L' with state := .exhausted, tmps := tmps }) = w4 at hend hs4 htail
  generalize hj : L'.pending = jump at hend hq
  refine ⟨jump, w4, hend, ?_⟩
  cases jump with
  | none => exact htail hq
  | some c =>
    cases c <;> try exact hq.elim
    case ret => exact wpIn_ret (hfin _ _ _ _ hs4 hq)
    case exit i =>
      refine wpIn_exit ?_
      simp only [afterR] at hq
      simp only [Exit.inBlock]
      split at hq
      · rename_i hi; rw [if_pos hi]; exact htail hq
      · rename_i hi; rw [if_neg hi]; exact hfin _ _ _ _ hs4 hq
end
section
variable {C : Cx}
theorem leavesX {S0 : Fr} {B0 : Nat} {fn : Func} {tmps : Array Value} {tm : Nat → AV} {R : Ending → World → Prop} : ∀ (bs : List (Nat × Nat)) (w : World) (H : Nat → Option AO) (σ : Sg), Inv B0 S0 w H σ → (∀ t, Rep σ w (tm t) (tmps.getD t undef)) → Marks bs H →
    (∀ w' H' σ', Inv B0 S0 w' H' σ' → (∀ t, Rep σ' w' (tm t) (tmps.getD t undef)) → Below B0 w w' → (∀ i, rowAt H' i = rowAt H i) → (∀ i, H' i = none ↔ H i = none) → ∃ v, (results fn tmps).run C.P w' = .ok v w' ∧ R (.returned v) w') →
    LeavesInM Fence.wide 0 C.P fn tmps R (bs.map fun p => mark p.1) .returning w
  | [], w, H, σ, hi, ht, _, fin => fin w H σ hi ht (Below.refl _ _) (fun _ => rfl) (fun _ => Iff.rfl)
  | (D, id) :: bs, w, H, σ, hi, ht, hm, fin => by
    obtain ⟨hm1, hm2⟩ := hm
    have hH : H id = some (.mp (.dfr D (some [])) 0 []) := hm2 (D, id) (by simp)
    obtain ⟨g1, g2⟩ := hi.shut hH
    obtain ⟨f1, f2, f3⟩ := g2 none
    simp only [List.map_cons, List.nodup_cons] at hm1
    refine ⟨by simp, .inl ⟨D, _, rfl, run_takeDeferred g1, ?_⟩⟩
    refine leavesX bs _ _ σ f2 (fun t => Rep.mono f1 _ _ (ht t)) ⟨hm1.2, fun p hp => ?_⟩ fun w' H' σ' h1 h2 h3 h4 h5 => fin w' H' σ' h1 h2 (f3.trans h3) (fun i => ?_) (fun i => ?_)
    · have hne : p.2 ≠ id := fun e => hm1.1 (e ▸ List.mem_map_of_mem (f := (·.2)) hp)
      simp only [updH]; rw [if_neg hne]; exact hm2 p (by simp [hp])
    · rw [h4, rowAt_updM]
      split
      · rename_i e; subst e; simp [rowAt, hH]
      · rfl
    · rw [h5]
      simp only [updH]
      split
      · rename_i e; subst e; simp [hH]
      · rfl
def endX (C : Cx) (rs : List ResultVar) (Q : AV → (Nat → Option AO) → Nat → Prop) (e : Exit) (s : St) : Prop :=
  ∀ H', (∀ i, rowAt H' i = rowAt s.H i) → endM C rs Q e { s with H := H' }
theorem OKm.of_bodyX [hW : C.Wide] (hC : C.OK) {f : FuncId} {fn : Func} {c : Code} {args : List AV} {rs : List ResultVar} {H : Nat → Option AO} {nx : Nat} {Q : AV → (Nat → Option AO) → Nat → Prop} (hf : C.P.funcs[f]? = some fn) (hb : fn.body = some c) (hn : (fn.name == "runtime.NumGoroutine") = false)
    (hr : fn.results = rs.toArray) (hN : args.length ≤ fn.ntmps) (h : AWx C fn.ntmps c (endX C rs Q) { tm := fun t => args.getD t .junk, H := H, nx := nx }) : OKm C f args H nx Q := by
  refine ⟨⟨fn, hf, hn, by rw [hb]; rfl⟩, fun S0 w0 w σ vals hE hi hnx hbel hsz hrep => ?_⟩
  refine callsIn_wide.1 (callsIn_of_wp_marks (n := 0) hf hb trivial ?_)
  have hs : Sim (S0.from σ w) w0 fn.ntmps { tmps := vals ++ Array.replicate (fn.ntmps - vals.size) undef, defers := [] } w { tm := fun t => args.getD t .junk, H := H, nx := nx } := by
    refine ⟨σ, hi.from, hnx, fun t => ?_, by simp; omega, rfl, hbel⟩
    show Rep σ w (args.getD t .junk) ((vals ++ Array.replicate (fn.ntmps - vals.size) undef).getD t undef)
    by_cases ht : t < args.length
    · rw [repL_iff] at hrep
      obtain ⟨u, hu, hru⟩ := hrep t ht
      have : (vals ++ Array.replicate (fn.ntmps - vals.size) undef).getD t undef = u := by
        rw [Array.getD_eq_getD_getElem?, Array.getElem?_append_left (by omega), hu]; rfl
      rw [this, List.getD_eq_getElem?_getD, List.getElem?_eq_getElem ht]; exact hru
    · have : args.getD t .junk = .junk := by rw [List.getD_eq_getElem?_getD, List.getElem?_eq_none (by omega)]; rfl
      rw [this]; trivial
  have h2 := h (S0.from σ w) w0 _ w rfl hE hs
  rw [hW.h] at h2
  refine wpIn_mono h2 ?_
  rintro e a' w' ⟨s', bs, ⟨σ', hσ'⟩, hm, hq⟩
  have fin : (∀ H', (∀ i, rowAt H' i = rowAt s'.H i) → ∃ vs, resVs C.T { s' with H := H' } rs = some vs ∧ Q (bundle vs) H' s'.nx) →
      LeavesInM Fence.wide 0 C.P fn a'.tmps (fun e w' => ∃ v r σ' H' nx', e = .returned v ∧ Q r H' nx' ∧ Below w0.heap.size w0 w' ∧ Inv w0.heap.size S0 w' H' σ' ∧ (∀ id, nx' ≤ id → H' id = none) ∧ Le σ σ' w w' ∧ Rep σ' w' r v) a'.defers .returning w' := by
    intro hq
    rw [show a'.defers = bs.map (fun p => mark p.1) from hσ'.d]
    refine leavesX bs w' s'.H σ' hσ'.inv hσ'.tm hm fun w2 H2 σ2 h1 h2 h3 h4 h5 => ?_
    obtain ⟨vs, hvs, hq⟩ := hq H2 h4
    have hs2 : SimG { (S0.from σ w) with ds := bs.map (fun p => mark p.1) } w0 fn.ntmps a' w2 { s' with H := H2 } σ2 := ⟨h1, fun id hid => (h5 id).2 (hσ'.nx id hid), h2, hσ'.N, hσ'.d, hσ'.below.trans h3⟩
    obtain ⟨v, hv, hrv⟩ := run_results_of hC hs2 hr hvs
    have hi2 : Inv w0.heap.size (S0.from σ w) w2 H2 σ2 := ⟨h1.al, h1.fresh, h1.S_lt, h1.own_lt, h1.row, h1.mp, h1.fr⟩
    obtain ⟨hi', hle⟩ := hi2.unfrom
    exact ⟨v, hv, v, _, σ2, H2, s'.nx, rfl, hq, hs2.below, hi', hs2.nx, hle, hrv⟩
  cases e with
  | normal => exact fin hq
  | ret => exact fin hq
  | exit id => exact (hq s'.H fun _ => rfl).elim
  | goto l => exact (hq s'.H fun _ => rfl).elim
  | panic c => exact (hq s'.H fun _ => rfl).elim
  | outgrown => exact (hq s'.H fun _ => rfl).elim
end
section
variable {C : Cx} {N : Nat} {Q : Exit → St → Prop} {s : St} {ops : Array Oper} {rest : List Oper} {ty : TypeId} {ps : String} {af : Array Edge} {d : Nat}
theorem W.yield (hN : d < N) {fo : Operand} {args : Array Operand} {tys : Array TypeId} {l : Nat} (hf : s.ev fo = .v (.func (.yield l) #[] #[])) {va : List AV} (ha : evsA args.toList s.ev = va) {Qr : Bool → (Nat → Option AO) → Nat → Prop} (hok : YOK C l va s.H s.nx Qr)
    (k : ∀ b H' nx', Qr b H' nx' → AWL C N ops Q rest { tm := upd s.tm d (.v (.bool b)), H := H', nx := nx' }) : AWL C N ops Q (⟨some d, .call { callee := .value fo, args := args, argTypes := tys }, ty, ps, af, none⟩ :: rest) s :=
  AWL.yield rfl rfl hN rfl hf (by rw [ha]; exact hok) k
end
end Go.Pg

namespace Go.Pg
open Go Go.RowKit
section
variable {B0 : Nat} {S0 : Fr} {w w' : World} {H : Nat → Option AO} {σ : Sg}
def flatE (es : List (List AV)) : Prop := ∀ e ∈ es, ∀ c ∈ e, ∃ x, c = .v x
end
section
variable {C : Cx} {N : Nat} {Q : Exit → St → Prop} {s : St} {ops : Array Oper} {rest : List Oper} {o : Oper}
def NewRow (Qr : Row → Prop) (r : AV) (H : Nat → Option AO) (_ : Nat) : Prop := ∃ i row, r = .ref i 0 row.es.length ∧ rowAt H i = some row ∧ row.fro = false ∧ flatE row.es ∧ row.es ≠ [] ∧ Qr row
end
end Go.Pg

namespace Go.Pg
open Go Go.RowKit
section
variable {B0 : Nat} {S0 : Fr} {w : World} {H : Nat → Option AO} {σ : Sg}
theorem Inv.frzM (hi : Inv B0 S0 w H σ) {id : Nat} {sh : KSh} {et : TypeId} {es : List (Key × AV)} (hH : H id = some (.mp (.map sh) et es)) : Inv B0 S0 w (updH H id (.mp (.fmap sh) et es)) (σ.frz [id]) := by
  have hle := hi.le_frz [id]
  have hownS : ∀ b, (σ.frz [id]).S b ↔ σ.S b ∨ σ.own b = some id := fun b => by simp [Sg.frz]
  refine ⟨fun i => ?_, fun i hn => ?_, fun b h => ?_, hi.own_lt, fun i r h => ?_, fun i kt et2 es2 h => ?_, S0.mono _ _ _ _ hle hi.fr⟩
  · rw [show (σ.frz [id]).al i ↔ σ.al i from Iff.rfl, hi.al]
    unfold updH
    split
    · rename_i e; subst e; simp [hH]
    · rfl
  · refine hi.fresh i ?_
    unfold updH at hn
    split at hn
    · cases hn
    · exact hn
  · rcases (hownS b).1 h with h | h
    · exact hi.S_lt b h
    · have := hi.own_lt b id h; exact ⟨this.2, .inr this.1⟩
  · unfold updH at h
    split at h
    · cases h
    · rename_i hne
      have hr := hi.row i r h
      refine ⟨hr.len, hr.k, hr.each, hr.lo, hr.cur, hr.empty, fun b ho => ⟨(hr.own b ho).1, (hr.own b ho).2.1, fun h => .inl ((hr.own b ho).2.2.1 h), fun h => ?_⟩, fun b hc j h1 => RepL.mono hle _ _ _ (fun _ _ h => h) (hr.con b hc j h1)⟩
      intro hs
      have ho2 : σ.own b = some i := ho
      rcases (hownS b).1 hs with h' | h'
      · exact (hr.own b ho).2.2.2 h h'
      · rw [ho2] at h'; injection h' with h'; exact hne h'
  · unfold updH at h
    split at h
    · rename_i e; subst e
      injection h with h; injection h with h1 h2 h3; subst h1; subst h2; subst h3
      have hm := hi.mp i _ _ _ hH
      obtain ⟨b, clock, xs, a1, a2, a3, a4, a5, a6⟩ := hm.cur
      exact ⟨hm.len, ⟨b, clock, xs, a1, a2, ⟨fun h => (by cases h), fun _ => (hownS b).2 (.inr a2)⟩, a4, a5, RepL.mono hle _ _ _ (fun _ _ h => h) a6⟩, hm.one⟩
    · rename_i hne
      have hm := hi.mp i kt et2 es2 h
      obtain ⟨b, clock, xs, a1, a2, a3, a4, a5, a6⟩ := hm.cur
      refine ⟨hm.len, ⟨b, clock, xs, a1, a2, ⟨fun hl => ?_, fun hl => .inl (a3.2 hl)⟩, a4, a5, RepL.mono hle _ _ _ (fun _ _ h => h) a6⟩, hm.one⟩
      intro hs
      rcases (hownS b).1 hs with h' | h'
      · exact a3.1 hl h'
      · rw [a2] at h'; injection h' with h'; exact hne h'
theorem Inv.fmap_rep (hi : Inv B0 S0 w H σ) {id : Nat} {sh : KSh} {et : TypeId} {es : List (Key × AV)} (hH : H id = some (.mp (.fmap sh) et es)) (hp : pureL (es.map (·.2)) = true) {u : Value} (hr : Rep σ w (.map id) u) :
    Rep σ w (.lmap sh (es.map (·.1)) (es.map (·.2))) u := by
  simp only [Rep] at hr ⊢
  obtain ⟨b, rfl, hown⟩ := hr
  have hm := hi.mp id _ _ _ hH
  obtain ⟨b', clock, xs, a1, a2, a3, a4, ⟨a5, a5'⟩, a6⟩ := hm.cur
  have := (hm.one b hown).1
  rw [a1] at this; injection this with this; subst this
  exact ⟨b', clock, xs, rfl, a3.2 rfl, a4, by rw [a5, List.map_map]; rfl, a5', by simp, RepL.pure_ _ _ hp a6⟩
end
section
variable {C : Cx} {N : Nat} {Q : Exit → St → Prop} {s : St}
theorem AW.frzM {c : Code} (id : Nat) {sh : KSh} {et : TypeId} {es : List (Key × AV)} (hH : s.H id = some (.mp (.map sh) et es)) (h : AW C N c Q { s with H := updH s.H id (.mp (.fmap sh) et es) }) : AW C N c Q s := by
  rintro S0 w0 a w hE ⟨σ, hσ⟩
  have hle := hσ.inv.le_frz [id]
  refine h S0 w0 a w hE ⟨σ.frz [id], hσ.inv.frzM hH, fun i hi => ?_, fun u => Rep.mono hle _ _ (hσ.tm u), hσ.N, hσ.d, hσ.below⟩
  have h0 := hσ.nx i hi
  show updH s.H id _ i = none
  simp only [updH]
  rw [if_neg (fun e => by subst e; rw [hH] at h0; cases h0)]; exact h0
inductive Told (H : Nat → Option AO) : AV → AV → Prop where
  | view {c d : AV} (h : viewA H c = some d) : Told H c d
  | map {id : Nat} {sh : KSh} {et : TypeId} {es : List (Key × AV)} (h : H id = some (.mp (.fmap sh) et es)) (hp : pureL (es.map (·.2)) = true) : Told H (.map id) (.lmap sh (es.map (·.1)) (es.map (·.2)))
theorem view_cell {H : Nat → Option AO} {c d : AV} (h : viewA H c = some d) (hc : c.cell = true) : d.cell = true := by
  cases c <;> simp only [AV.cell] at hc <;> try contradiction
  all_goals (unfold viewA at h)
  · split at h <;> try contradiction
    · injection h with h; subst h; rfl
    · injection h with h; subst h; exact hc
  · injection h with h; subst h; rfl
  · injection h with h; subst h; rfl
  · split at h
    · split at h
      · injection h with h; subst h; rfl
      · cases h
    · cases h
  · split at h
    · split at h
      · injection h with h; subst h; rfl
      · cases h
    · cases h
  · simp only [Option.map_eq_some_iff] at h
    obtain ⟨_, _, rfl⟩ := h; rfl
  · simp only [Option.map_eq_some_iff] at h
    obtain ⟨_, _, rfl⟩ := h; rfl
  · injection h with h; subst h; rfl
theorem AW.settle {c : Code} (id : Nat) (ids : List Nat) {r : Row} {es' : List (List AV)} (hr : rowAt s.H id = some r) (hrows : ∀ i ∈ ids, ∃ r, rowAt s.H i = some r) (hid : id ∉ ids) (hl : es'.length = r.es.length)
    (htold : ∀ (i : Nat) (e e' : List AV), r.es[i]? = some e → es'[i]? = some e' → e'.length = e.length ∧ ∀ (j : Nat) (a b : AV), e[j]? = some a → e'[j]? = some b → Told s.H a b ∧ ∀ x ∈ idsA a, x ∈ ids)
    (h : AW C N c Q { s with H := updH (frz s.H ids) id (.row { r with es := es' }) }) : AW C N c Q s := by
  rintro S0 w0 a w hE ⟨σ, hσ⟩
  have hH := rowAt_eq hr
  have hle := hσ.inv.le_frz ids
  have hinv := hσ.inv.frz hrows
  have hH' : frz s.H ids id = some (.row r) := by unfold frz; rw [if_neg hid]; exact hH
  have hR := hinv.row id r hH'
  have hR0 := hσ.inv.row id r hH
  have hinv2 := hinv.retell (es' := es') hH' hl (fun e' he' => by
    obtain ⟨i, hi, rfl⟩ := List.getElem_of_mem he'
    have hi2 : i < r.es.length := by omega
    obtain ⟨g1, g2⟩ := htold i r.es[i] es'[i] (List.getElem?_eq_getElem hi2) (List.getElem?_eq_getElem hi)
    obtain ⟨e1, e2⟩ := hR.each _ (List.getElem_mem hi2)
    refine ⟨g1.trans e1, fun d hd => ?_⟩
    obtain ⟨j, hj, rfl⟩ := List.getElem_of_mem hd
    have hj2 : j < r.es[i].length := by omega
    obtain ⟨t1, _⟩ := g2 j _ _ (List.getElem?_eq_getElem hj2) (List.getElem?_eq_getElem hj)
    have hcc := e2 _ (List.getElem_mem hj2)
    generalize es'[i][j] = d at t1
    generalize r.es[i][j] = c0 at t1 hcc
    cases t1 with
    | view hv => exact view_cell hv hcc
    | map hv hp => rfl) (fun b hb i hi => by
    have hi2 : i < r.es.length := by omega
    obtain ⟨g1, g2⟩ := htold i r.es[i] es'[i] (List.getElem?_eq_getElem hi2) (List.getElem?_eq_getElem hi)
    have hcon := hR0.con b hb i hi2
    rw [repL_iff] at hcon ⊢
    intro j hj
    have hj2 : j < r.es[i].length := by omega
    obtain ⟨u, hu, hru⟩ := hcon j hj2
    obtain ⟨t1, t2⟩ := g2 j _ _ (List.getElem?_eq_getElem hj2) (List.getElem?_eq_getElem hj)
    refine ⟨u, hu, ?_⟩
    generalize es'[i][j] = d at t1
    generalize r.es[i][j] = c0 at t1 t2 hru
    cases t1 with
    | view hv => exact Rep.lift (viewA_sound hσ.inv (S' := (σ.frz ids).S) (fun b h => .inl h) _ _ _ hv (fun x hx b hb => .inr ⟨x, t2 x hx, hb⟩) hru)
    | map hv hp => exact Rep.mono hle _ _ (hσ.inv.fmap_rep hv hp hru))
  refine h S0 w0 a w hE ⟨σ.frz ids, hinv2, fun i hi => ?_, fun u => Rep.mono hle _ _ (hσ.tm u), hσ.N, hσ.d, hσ.below⟩
  have h0 := hσ.nx i hi
  show updH (frz s.H ids) id _ i = none
  simp only [updH]
  rw [if_neg (fun e => by subst e; rw [hH] at h0; cases h0)]
  unfold frz
  split
  · rw [h0]
  · exact h0
end
end Go.Pg

namespace Go.Pg
open Go Go.RowKit
section
variable {C : Cx} {N : Nat} {Q : Exit → St → Prop} {s : St} {ops : Array Oper} {rest : List Oper} {ty : TypeId} {ps : String} {af : Array Edge} {d : Nat}
variable {H0 : Nat → Option AO} {b : Nat} {tg mk av : List Nat} {Fin : St → Prop} {i : Nat}
def OKr (C : Cx) (f : FuncId) (args : List AV) (H0 : Nat → Option AO) (R : AV) : Prop :=
  ∀ (H : Nat → Option AO) (nx : Nat), (∀ id x, H0 id = some x → H id = some x) → OKm C f args H nx (fun r h n => r = R ∧ h = H ∧ n = nx)
theorem W.callr (hC : C.OK) (hN : d < N) {fo : Operand} {args : Array Operand} {tys : Array TypeId} {f : FuncId} {caps vs : List AV} {R : AV} (hf : s.ev fo = .clo f caps) (ha : evsA args.toList s.ev ++ caps = vs) (hok : OKr C f vs s.H R)
    (k : AWL C N ops Q rest (s.put d R none)) : AWL C N ops Q (⟨some d, .call { callee := .value fo, args := args, argTypes := tys }, ty, ps, af, none⟩ :: rest) s := by
  subst ha
  refine W.callm hC hN hf (hok _ _ fun _ _ h => h) ?_
  rintro r h n ⟨rfl, rfl, rfl⟩
  exact k
theorem D.callr (hC : C.OK) (hN : d < N) (hi : i ∉ tg ∧ i ∉ mk) {fo : Operand} {args : Array Operand} {tys : Array TypeId} {f : FuncId} {caps vs : List AV} {R : AV} (hf : s.ev fo = .clo f caps) (ha : evsA args.toList s.ev ++ caps = vs) (hok : OKr C f vs H0 R)
    (k : DW C N ops H0 b tg mk av Fin (i + 1) rest (s.put d R none)) :
    DW C N ops H0 b tg mk av Fin i (⟨some d, .call { callee := .value fo, args := args, argTypes := tys }, ty, ps, af, none⟩ :: rest) s := by
  subst ha
  refine ⟨R, s.put d R none, rfl, ?_, k⟩
  rw [if_neg hi.1, if_neg hi.2]
  refine ⟨none, rfl, rfl, .inl rfl, fun s' hx _ ht => ?_⟩
  have hev := ev_congr ht
  have e1 : s'.ev fo = .clo f caps := by rw [hev fo (by simp [Op.operands, Call.operands])]; exact hf
  have e2 : evsA args.toList s'.ev = evsA args.toList s.ev := evsA_congr (fun x hx => hev x (by simp only [Op.operands, Call.operands, Array.mem_append]; exact .inr (by simpa using hx)))
  refine one_of_AWL (W.callm hC hN e1 (Qr := fun r h n => r = R ∧ h = s'.H ∧ n = s'.nx) (by rw [e2]; exact hok _ _ hx) ?_)
  rintro r h n ⟨rfl, rfl, rfl⟩
  exact AWL.nil ⟨rfl, rfl⟩
theorem natNe {a b : Nat} (h : a ≠ b) : (a = b) = False := eq_false h
end
end Go.Pg
