/-
  Contracts of functions, proved by going through their code. No conditions.
-/
import Derived.RangeFuncIn
import Derived.RangeFuncRecord
import Derived.Test.YtkdiplkmcilkmaaGreatDoorTaj
set_option linter.unusedVariables false
set_option linter.unusedSimpArgs false
namespace Go.Pg
open Go Go.RowKit
section
variable {C : Cx} {N : Nat} {Q : Exit → St → Prop} {s : St} {ops : Array Oper} {rest : List Oper}
variable {ty : TypeId} {ps : String} {af : Array Edge} {d : Nat} {H0 : Nat → Option AO} {b : Nat} {tg mk av : List Nat} {Fin : St → Prop} {i : Nat}
end
theorem INTS : ((!true) = false ∧ (!false) = true ∧ (∀ b : Bool, ((!b) = true) = (b = false)) ∧ (∀ b : Bool, ((!b) = false) = (b = true)) ∧ (∀ (p : Prop) [Decidable p], (decide p = true) = p) ∧ (∀ (p : Prop) [Decidable p], (decide p = false) = ¬ p)) ∧
    ((∀ a b : Bool, ((a && b) = true) = (a = true ∧ b = true)) ∧ (∀ a b : Bool, ((a && b) = false) = (a = false ∨ b = false)) ∧ (∀ a b : Bool, ((a || b) = true) = (a = true ∨ b = true)) ∧ (∀ a b : Bool, ((a || b) = false) = (a = false ∧ b = false))) ∧
    ((∀ a b : Int, (¬ a < b) = (b ≤ a)) ∧ (∀ a b : Int, (¬ a ≤ b) = (b < a)) ∧ (∀ (α : Type) [BEq α] [LawfulBEq α] (a b : α), ((a == b) = true) = (a = b)) ∧ (∀ (α : Type) [BEq α] [LawfulBEq α] (a b : α), ((a == b) = false) = (a ≠ b)) ∧
      (∀ (α : Type) [BEq α] [LawfulBEq α] (a b : α), ((a != b) = true) = (a ≠ b)) ∧ (∀ (α : Type) [BEq α] [LawfulBEq α] (a b : α), ((a != b) = false) = (a = b)) ∧ (∀ (α : Type) (a b : α), (a ≠ b) = ¬ (a = b)) ∧ (∀ (p : Prop) [Decidable p], (¬ ¬ p) = p)) := by
  refine ⟨⟨rfl, rfl, ?_, ?_, ?_, ?_⟩, ⟨?_, ?_, ?_, ?_⟩, ⟨?_, ?_, ?_, ?_, ?_, ?_, ?_, ?_⟩⟩ <;> intros <;> first | (simp [Int.not_lt, Int.not_le]; done) | (rename_i a b; cases a <;> cases b <;> simp)
attribute [push_cast] EVS LST stepA binA intBinA strBinA unA convA loadA rdPtr partA TyD.isAgg fieldAddrA fieldA offA extractA lenA minA cellsA Value.oneCell' builtA fillA fillE listA evsA spliceL normC sliceA boundA indexAddrA indexA storeA appRow view_ref view_ptr pureL pureA
attribute [push_cast] nxL nxR nxC nxA if_true if_false Bool.false_eq_true Bool.not_true Bool.not_false Bool.and_true Bool.true_and Bool.and_self Option.isSome_some Option.getD_some Nat.zero_add Nat.add_zero Nat.lt_irrefl Nat.le_refl and_self and_true true_and List.replicate_one List.replicate_zero List.replicate_succ
attribute [push_cast] dstA srcA viewLL_nil viewLL_cons idsLL_nil idsLL_cons lookupA keyA shA makeMapA Key.sh Key.same mapUpdA findM putM updH_at rowAt_updM resVs resV bundle
attribute [push_cast] List.length_map Int.natCast_nonneg Int.toNat_natCast decide_true decide_false ne_eq eq_self not_false_eq_true not_true_eq_false Bool.cond_true Bool.cond_false
end Go.Pg

namespace Go.Pg
open Go Go.RowKit
section
variable {B0 : Nat} {S0 : Fr} {w : World} {H : Nat → Option AO} {σ : Sg}
theorem Inv.retell (hi : Inv B0 S0 w H σ) {id : Nat} {r : Row} {es' : List (List AV)} (hH : H id = some (.row r)) (hl : es'.length = r.es.length) (each : ∀ e ∈ es', e.length = r.k ∧ ∀ c ∈ e, c.cell = true)
    (hcon : ∀ b, σ.cur id = some b → ∀ i (h : i < es'.length), RepL σ w es'[i] (fun j => w.cell? ⟨b, i * r.k + j, none⟩)) : Inv B0 S0 w (updH H id (.row { r with es := es' })) σ := by
  have hr := hi.row id r hH
  refine ⟨fun i => ?_, fun i hn => ?_, hi.S_lt, hi.own_lt, fun i r' h => ?_, fun i kt et es h => ?_, hi.fr⟩
  · rw [hi.al]
    simp only [updH]
    split
    · rename_i e; subst e; simp [hH]
    · rfl
  · simp only [updH] at hn
    split at hn
    · cases hn
    · exact hi.fresh i hn
  · simp only [updH] at h
    split at h
    · rename_i e; subst e
      injection h with h; injection h with h; subst h
      refine ⟨by rw [hr.len]; exact hl.symm, hr.k, each, by show r.lo ≤ es'.length; rw [hl]; exact hr.lo, fun b hb => ?_, fun hc => ?_, fun b hb => ?_, fun b hb j hj => hcon b hb j hj⟩
      · obtain ⟨a1, a2, a3, a4, arr, a5, a6⟩ := hr.cur b hb
        exact ⟨a1, by show σ.ext b = es'.length; rw [hl]; exact a2, by show es'.length ≤ _; rw [hl]; exact a3, a4, arr, a5, a6⟩
      · have := hr.empty hc
        show es' = []
        rw [this] at hl
        exact List.eq_nil_of_length_eq_zero (by simpa using hl)
      · obtain ⟨a1, a2, a3, a4⟩ := hr.own b hb
        exact ⟨a1, by show σ.ext b ≤ es'.length; rw [hl]; exact a2, a3, a4⟩
    · exact hi.row i r' h
  · simp only [updH] at h
    split at h
    · cases h
    · exact hi.mp i kt et es h
end
section
variable {C : Cx} {N : Nat} {Q : Exit → St → Prop} {s : St}
theorem AW.adoptCell {c : Code} (B i j k : Nat) (e : TypeId) {r : Row} (hr : rowAt s.H B = some r) (hc : (r.es[i]?).bind (·[j]?) = some (.v (.slice none 0 0)))
    (h : AW C N c Q { tm := s.tm, H := updH (updH s.H s.nx (.row { k := k, es := [], ty := e })) B (.row { r with es := r.es.set i ((r.es.getD i []).set j (.ref s.nx 0 0)) }), nx := s.nx + 1 }) : AW C N c Q s := by
  rintro S0 w0 a w hE ⟨σ, hσ⟩
  have hH := rowAt_eq hr
  obtain ⟨hle, hinv⟩ := hσ.inv.adopt (hσ.nx s.nx (Nat.le_refl _)) { k := k, es := [], ty := e } rfl rfl rfl
  have hne : B ≠ s.nx := fun e => by have := hσ.nx s.nx (Nat.le_refl _); rw [e, this] at hH; cases hH
  have hH' : updH s.H s.nx (.row { k := k, es := [], ty := e }) B = some (.row r) := by simp only [updH]; rw [if_neg hne]; exact hH
  obtain ⟨ei, hei, hej⟩ := Option.bind_eq_some_iff.1 hc
  obtain ⟨hil, rfl⟩ := List.getElem?_eq_some_iff.1 hei
  have hgd : r.es.getD i [] = r.es[i] := by rw [List.getD_eq_getElem?_getD, List.getElem?_eq_getElem hil]; rfl
  have hR := hinv.row B r hH'
  have hnew : ∀ (w : World), Rep (σ.adopt s.nx k) w (.ref s.nx 0 0) (.slice none 0 0) := fun w => by
    simp only [Rep]
    exact ⟨.inl rfl, none, 0, rfl, Nat.le_refl _, by simp [maxLen], fun h => absurd rfl h, fun _ _ => .inl (by simp [Sg.adopt])⟩
  have hinv2 := hinv.retell (es' := r.es.set i ((r.es.getD i []).set j (.ref s.nx 0 0))) hH' (by simp) (fun x hx => by
    rcases List.mem_or_eq_of_mem_set hx with hx | rfl
    · exact hR.each x hx
    · rw [hgd]
      obtain ⟨e1, e2⟩ := hR.each _ (List.getElem_mem hil)
      refine ⟨by simpa using e1, fun c hc => ?_⟩
      rcases List.mem_or_eq_of_mem_set hc with hc | rfl
      · exact e2 c hc
      · rfl) (fun b hb i' hi' => by
    have hi2 : i' < r.es.length := by simpa using hi'
    have hcon := hR.con b hb i' hi2
    rw [List.getElem_set]
    split
    · rename_i he; subst he
      rw [hgd]
      rw [repL_iff'] at hcon ⊢
      intro m c hm
      rw [List.getElem?_set] at hm
      split at hm
      · rename_i hjm; subst hjm
        split at hm
        · injection hm with hm; subst hm
          obtain ⟨u, hu, hru⟩ := hcon j _ hej
          simp only [Rep] at hru
          subst hru
          exact ⟨_, hu, hnew w⟩
        · cases hm
      · exact hcon m c hm
    · exact hcon)
  refine h S0 w0 a w hE ⟨σ.adopt s.nx k, hinv2, fun id hid => ?_, fun u => Rep.mono hle _ _ (hσ.tm u), hσ.N, hσ.d, hσ.below⟩
  have hid' : s.nx + 1 ≤ id := hid
  have h0 := hσ.nx id (by omega)
  show updH (updH s.H s.nx _) B _ id = none
  simp only [updH]
  rw [if_neg (fun e => by subst e; rw [hH] at h0; cases h0), if_neg (by omega)]; exact h0
theorem AW.freeze {c : Code} {t : Nat} {v : AV} (hv : viewA s.H (s.tm t) = some v) (k : AW C N c Q { tm := upd s.tm t v, H := frz' s.H (idsA (s.tm t)), nx := s.nx }) : AW C N c Q s := by
  rintro S0 w0 a w hE ⟨σ, hσ⟩
  have hrows := idsA_row _ _ hv
  have hinv := hσ.inv.frz hrows
  have hle := hσ.inv.le_frz (idsA (s.tm t))
  have hinv' : Inv w0.heap.size S0 w (frz' s.H (idsA (s.tm t))) (σ.frz (idsA (s.tm t))) := by
    unfold frz'
    split
    · rename_i he
      have h0 : idsA (s.tm t) = [] := by simpa using he
      have e1 : σ.frz (idsA (s.tm t)) = σ := by
        rw [h0]
        unfold Sg.frz
        congr 1
        funext b; simp
      rw [e1]; exact hσ.inv
    · exact hinv
  refine k S0 w0 a w hE ⟨σ.frz (idsA (s.tm t)), hinv', fun id hid => ?_, fun u => ?_, hσ.N, hσ.d, hσ.below⟩
  · have h0 := hσ.nx id hid
    show frz' s.H _ id = none
    unfold frz'
    split
    · exact h0
    · unfold frz; split
      · rw [h0]
      · exact h0
  · show Rep _ w (upd s.tm t v u) _
    unfold upd
    split
    · rename_i he
      subst he
      exact Rep.lift (viewA_sound hσ.inv (S' := (σ.frz (idsA (s.tm u))).S) (fun b h => .inl h) _ _ _ hv (fun id hid b hb => .inr ⟨id, hid, hb⟩) (hσ.tm u))
    · exact Rep.mono hle _ _ (hσ.tm u)
end
end Go.Pg

namespace Go.Pg
open Go Go.RowKit
section
variable {B0 : Nat} {S0 : Fr} {w w' : World} {H : Nat → Option AO} {σ : Sg}
theorem Inv.pushK (hi : Inv B0 S0 w H σ) {id : Nat} (hf : H id = none) (hB : B0 ≤ w.heap.size) {kt0 : MK} (hlv : kt0.live = true) {es0 : List (Key × AV)} {xs0 : Array MapEntry} (hkey : xs0.toList.map (·.key) = es0.map (fun e => e.1.val)) (hat : kt0.at (es0.map (·.1)) w.heap.size)
    (hv : RepL σ w (es0.map (·.2)) (fun i => (xs0[i]?).map (·.val))) :
    Le σ (σ.push w.heap.size id 0 0 0) w (w.alloc (kt0.obj xs0 0)) ∧ Inv B0 S0 (w.alloc (kt0.obj xs0 0)) (updH H id (.mp kt0 0 es0)) (σ.push w.heap.size id 0 0 0) := by
  have hle := hi.le_push (n := 0) (k := 0) (cap := 0) hf (kt0.obj xs0 0)
  have hS : ¬ σ.S w.heap.size := fun h => by have := (hi.S_lt _ h).1; omega
  have hheap : ∀ b, b < w.heap.size → (w.alloc (kt0.obj xs0 0)).heap[b]? = w.heap[b]? := fun b hb => Below.heap_alloc w _ b hb
  refine ⟨hle, fun i => ?_, fun i hn => ?_, fun b h => ⟨by have := (hi.S_lt b h).1; simp; omega, (hi.S_lt b h).2⟩, fun b i h => ?_, fun i r' h => ?_, fun i kt et es h => ?_, S0.mono _ _ _ _ hle hi.fr⟩
  · simp only [Sg.push, updH]
    by_cases e : i = id
    · simp [e]
    · simp [e, hi.al]
  · simp only [updH] at hn
    have e : i ≠ id := fun e => by simp [e] at hn
    rw [if_neg e] at hn
    obtain ⟨h1, h2⟩ := hi.fresh i hn
    refine ⟨by simp only [Sg.push]; rw [if_neg e]; exact h1, fun b hb => ?_⟩
    simp only [Sg.push] at hb
    split at hb
    · injection hb with hb; exact e hb.symm
    · exact h2 b hb
  · simp only [Sg.push] at h
    split at h
    · subst b; exact ⟨hB, by simp⟩
    · have := hi.own_lt b i h; exact ⟨this.1, by simp; omega⟩
  · simp only [updH] at h
    by_cases e : i = id
    · subst e; simp at h
    · rw [if_neg e] at h
      have hr := hi.row i r' h
      have hown : ∀ b, (σ.push w.heap.size id 0 0 0).own b = some i → σ.own b = some i ∧ b ≠ w.heap.size := fun b hb => by
        simp only [Sg.push] at hb
        split at hb
        · injection hb with hb; exact absurd hb.symm e
        · exact ⟨hb, by assumption⟩
      have hx : ∀ b, b ≠ w.heap.size → (σ.push w.heap.size id 0 0 0).ext b = σ.ext b := fun b hb => by simp only [Sg.push]; rw [if_neg hb]
      have hcx : (σ.push w.heap.size id 0 0 0).cur i = σ.cur i := by simp only [Sg.push]; rw [if_neg e]
      have hax : ∀ b, b ≠ w.heap.size → (σ.push w.heap.size id 0 0 0).cap b = σ.cap b := fun b hb => by simp only [Sg.push]; rw [if_neg hb]
      refine ⟨by simp only [Sg.push]; rw [if_neg e]; exact hr.len, by simp only [Sg.push]; rw [if_neg e]; exact hr.k, hr.each, hr.lo, fun b hb => ?_, fun hc => hr.empty (by rw [← hcx]; exact hc), fun b hb => ?_, fun b hb j h1 => ?_⟩
      · rw [hcx] at hb
        obtain ⟨a1, a2, a3, a4, ar, a5, a6⟩ := hr.cur b hb
        have hlt := (hi.own_lt b i a1).2
        exact ⟨by simp only [Sg.push]; rw [if_neg (by omega)]; exact a1, by rw [hx b (by omega)]; exact a2, by rw [hax b (by omega)]; exact a3, by rw [hax b (by omega)]; exact a4, ar, (hheap b hlt).trans a5, by rw [hax b (by omega)]; exact a6⟩
      · obtain ⟨h1, h2⟩ := hown b hb
        rw [hx b h2, hcx]; exact hr.own b h1
      · rw [hcx] at hb
        refine RepL.mono hle _ _ _ (fun m u hu => ?_) (hr.con b hb j h1)
        rw [cell_of_heap (w := w) (hheap b (hi.own_lt b i (hr.cur b hb).1).2)]; exact hu
  · simp only [updH] at h
    by_cases e : i = id
    · subst e
      rw [if_pos rfl] at h; injection h with h; injection h with h1 h2 h3; subst h1; subst h3
      refine ⟨by simp [Sg.push], ⟨w.heap.size, 0, xs0, by simp [Sg.push], by simp [Sg.push], ⟨fun _ => hS, fun h => (by rw [hlv] at h; cases h)⟩, World.alloc_heap_new w _, ⟨hkey, hat⟩, RepL.mono hle _ _ _ (fun _ _ h => h) hv⟩, fun b hb => ?_⟩
      simp only [Sg.push] at hb
      split at hb
      · rename_i he; subst he; exact ⟨by simp [Sg.push], by simp [Sg.push]⟩
      · exact absurd hb ((hi.fresh i hf).2 b)
    · rw [if_neg e] at h
      have hm := hi.mp i kt et es h
      obtain ⟨b, clock, xs, a1, a2, a3, a4, a5, a6⟩ := hm.cur
      have hlt := (hi.own_lt b i a2).2
      refine ⟨by simp only [Sg.push]; rw [if_neg e]; exact hm.len, ⟨b, clock, xs, by simp only [Sg.push]; rw [if_neg e]; exact a1, by simp only [Sg.push]; rw [if_neg (by omega)]; exact a2, a3, (hheap b hlt).trans a4, a5, RepL.mono hle _ _ _ (fun _ _ h => h) a6⟩, fun b hb => ?_⟩
      simp only [Sg.push] at hb
      split at hb
      · injection hb with hb; exact absurd hb.symm e
      · rename_i hne
        obtain ⟨h1, h2⟩ := hm.one b hb
        exact ⟨by simp only [Sg.push]; rw [if_neg e]; exact h1, by simp only [Sg.push]; rw [if_neg hne]; exact h2⟩
theorem Inv.turn (hi : Inv B0 S0 w H σ) {id l : Nat} {L : Loop} {es : List (Key × AV)} (hH : H id = some (.mp (.loop l L) 0 es)) :
    ∃ tmps : Array Value, w.heap[l]? = some (.loop { L with tmps := tmps }) ∧ tmps.size = es.length ∧ RepL σ w (es.map (·.2)) (fun i => tmps[i]?) ∧
      ∀ L' : Loop, Le σ σ w (w.putObj l (.loop { L' with tmps := tmps })) ∧ Inv B0 S0 (w.putObj l (.loop { L' with tmps := tmps })) (updH H id (.mp (.loop l L') 0 es)) σ ∧ Below B0 w (w.putObj l (.loop { L' with tmps := tmps })) := by
  have hm := hi.mp id _ _ _ hH
  obtain ⟨b, clock, xs, a1, a2, a3, a4, ⟨a5, a5'⟩, a6⟩ := hm.cur
  have hb : b = l := a5'
  subst hb
  have hlt := hi.own_lt b id a2
  have hl : xs.size = es.length := by have := congrArg List.length a5; simpa using this
  refine ⟨xs.map (fun e : MapEntry => e.val), a4, by simp [hl], ?_, fun L' => ?_⟩
  · refine RepL.congr (fun i _ => ?_) a6
    simp
  · have hoth : ∀ k, k ≠ b → (w.putObj b (.loop { L' with tmps := xs.map (·.val) })).heap[k]? = w.heap[k]? := fun k hk => World.putObj_heap_other hk
    have hr := hi.remap (w' := w.putObj b (.loop { L' with tmps := xs.map (·.val) })) (kt' := .loop b L') hH rfl rfl (fun _ h => h) (clock := clock) a1 (World.putObj_heap_same hlt.2) World.putObj_size hoth a5 a6
    exact ⟨hr.1, hr.2, rfl, rfl, rfl, by simp, fun k hk => hoth k (by omega)⟩
theorem Inv.shut (hi : Inv B0 S0 w H σ) {id l : Nat} {ds : Option (List Deferred)} {es : List (Key × AV)} (hH : H id = some (.mp (.dfr l ds) 0 es)) :
    w.heap[l]? = some (.deferred ds) ∧ ∀ ds' : Option (List Deferred), Le σ σ w (w.putObj l (.deferred ds')) ∧ Inv B0 S0 (w.putObj l (.deferred ds')) (updH H id (.mp (.dfr l ds') 0 es)) σ ∧ Below B0 w (w.putObj l (.deferred ds')) := by
  have hm := hi.mp id _ _ _ hH
  obtain ⟨b, clock, xs, a1, a2, a3, a4, ⟨a5, a5'⟩, a6⟩ := hm.cur
  have hb : b = l := a5'
  subst hb
  have hlt := hi.own_lt b id a2
  refine ⟨a4, fun ds' => ?_⟩
  have hoth : ∀ k, k ≠ b → (w.putObj b (.deferred ds')).heap[k]? = w.heap[k]? := fun k hk => World.putObj_heap_other hk
  have hr := hi.remap (w' := w.putObj b (.deferred ds')) (kt' := .dfr b ds') hH rfl rfl (fun _ h => h) (clock := clock) a1 (World.putObj_heap_same hlt.2) World.putObj_size hoth a5 a6
  exact ⟨hr.1, hr.2, rfl, rfl, rfl, by simp, fun k hk => hoth k (by omega)⟩
end
def keepT (N : Nat) (tm : Nat → AV) : List (Key × AV) := (List.range N).map fun t => (Key.str ByteArray.empty, tm t)
def keepX (tmps : Array Value) : Array MapEntry := tmps.map fun v => ⟨.string ByteArray.empty, v, 0⟩
theorem keepX_val (tmps : Array Value) : (keepX tmps).map (·.val) = tmps := by
  apply Array.ext
  · simp [keepX]
  · intro i h1 h2; simp [keepX]
theorem keepX_key (tmps : Array Value) {N : Nat} {tm : Nat → AV} (h : tmps.size = N) : (keepX tmps).toList.map (·.key) = (keepT N tm).map (fun e => e.1.val) := by
  apply List.ext_getElem
  · simp [keepX, keepT, h]
  · intro i h1 h2; simp [keepX, keepT, Key.val]
theorem keepX_rep {σ : Sg} {w : World} {tmps : Array Value} {N : Nat} {tm : Nat → AV} (h : tmps.size = N) (hr : ∀ t, Rep σ w (tm t) (tmps.getD t undef)) : RepL σ w ((keepT N tm).map (·.2)) (fun i => ((keepX tmps)[i]?).map (·.val)) := by
  rw [repL_iff]
  intro i hi
  have hi' : i < tmps.size := by simpa [keepT, h] using hi
  refine ⟨tmps[i], by simp [keepX, hi'], ?_⟩
  have := hr i
  simp only [keepT, List.map_map, List.getElem_map, List.getElem_range, Function.comp]
  rwa [Array.getD_eq_getD_getElem?, Array.getElem?_eq_getElem hi'] at this
theorem keepT_length (N : Nat) (tm : Nat → AV) : (keepT N tm).length = N := by simp [keepT]
def cutT (N : Nat) (tm : Nat → AV) : Nat → AV := fun t => if t < N then tm t else .junk
def tmP (tm : Nat → AV) : List (Nat × AV) → Nat → AV
  | [] => tm
  | (p, x) :: r => tmP (upd tm p x) r
theorem keepT_rep {σ : Sg} {w : World} {tmps : Array Value} {N : Nat} {tm : Nat → AV} (hs : tmps.size = N) (hr : RepL σ w ((keepT N tm).map (·.2)) (fun i => tmps[i]?)) (t : Nat) : Rep σ w (cutT N tm t) (tmps.getD t undef) := by
  unfold cutT
  split
  · rename_i ht
    rw [repL_iff] at hr
    obtain ⟨u, hu, h⟩ := hr t (by simpa [keepT] using ht)
    rw [Array.getD_eq_getD_getElem?, hu]
    simpa [keepT] using h
  · trivial
theorem tmP_rep {σ : Sg} {w : World} : ∀ (pv : List (Nat × Value)) (pa : List (Nat × AV)) (tmps : Array Value) (tm : Nat → AV), (∀ t, Rep σ w (tm t) (tmps.getD t undef)) → pv.length = pa.length → (∀ p ∈ pv, p.1 < tmps.size) →
    (∀ (i : Nat) (h : i < pv.length) (h' : i < pa.length), pv[i].1 = pa[i].1 ∧ Rep σ w pa[i].2 pv[i].2) → ∀ t, Rep σ w (tmP tm pa t) ((pv.foldl (fun tmps x => tmps.setIfInBounds x.1 x.2) tmps).getD t undef)
  | [], [], tmps, tm, h, _, _, _ => h
  | (p, v) :: pv, (q, x) :: pa, tmps, tm, h, hl, hb, hr => by
    intro t
    simp only [List.foldl_cons, tmP]
    have h0 := hr 0 (by simp) (by simp)
    simp only [List.getElem_cons_zero] at h0
    obtain ⟨h0, h1⟩ := h0
    subst h0
    refine tmP_rep pv pa _ _ (fun u => ?_) (by simpa using hl) (fun y hy => by simpa using hb y (by simp [hy])) (fun i hi hi' => ?_) t
    · rw [getD_set _ _ _ _ (hb (p, v) (by simp))]
      unfold upd
      split
      · exact h1
      · exact h u
    · have := hr (i + 1) (by simp; omega) (by simp; omega)
      simpa using this
  | [], _ :: _, _, _, _, hl, _, _ => by simp at hl
  | _ :: _, [], _, _, _, hl, _, _ => by simp at hl
def YOK (C : Cx) (l : Nat) (args : List AV) (H : Nat → Option AO) (nx : Nat) (Q : Bool → (Nat → Option AO) → Nat → Prop) : Prop :=
  ∀ (S0 : Fr) (w0 w : World) (σ : Sg) (vals : Array Value), C.E w0 → Inv w0.heap.size S0 w H σ → (∀ id, nx ≤ id → H id = none) → Below w0.heap.size w0 w → vals.size = args.length → RepL σ w args (fun i => vals[i]?) →
    ∃ f tmps assign body, (Instr.yield l vals).run C.P w = .ok (.round l f tmps assign body) w ∧ RoundIn Fence.wide 0 C.P l f tmps assign body w fun e w' =>
      ∃ b σ' H' nx', e = .returned (.bool b) ∧ Q b H' nx' ∧ Below w0.heap.size w0 w' ∧ Inv w0.heap.size S0 w' H' σ' ∧ (∀ id, nx' ≤ id → H' id = none) ∧ Le σ σ' w w'
def Cx.rnd (C : Cx) (l : Nat) : Cx := { C with F' := ⟨Fence.wide.inRound l, .inr ⟨l, rfl⟩⟩ }
def roundQ (id l : Nat) (L : Loop) (es : List (Key × AV)) (Q : Bool → (Nat → Option AO) → Nat → Prop) : Exit → St → Prop
  | .normal, s => s.H id = some (.mp (.loop l { L with state := .busy }) 0 es) ∧ Q true (updH s.H id (.mp (.loop l { L with state := .ready, pending := none }) 0 es)) s.nx
  | .ret, s => s.H id = some (.mp (.loop l { L with state := .busy }) 0 es) ∧ Q false (updH s.H id (.mp (.loop l { L with state := .done, pending := some .ret }) 0 es)) s.nx
  | .exit i, s => s.H id = some (.mp (.loop l { L with state := .busy }) 0 es) ∧ Q false (updH s.H id (.mp (.loop l { L with state := .done, pending := some (.exit i) }) 0 es)) s.nx
  | _, _ => False
theorem updH_nx {H : Nat → Option AO} {id nx : Nat} {o : AO} (h : ∀ i, nx ≤ i → H i = none) (hid : H id ≠ none) : ∀ i, nx ≤ i → updH H id o i = none := fun i hi => by
  simp only [updH]
  split
  · rename_i e; subst e; exact absurd (h i hi) hid
  · exact h i hi
theorem YOK.of_body {C : Cx} {l id : Nat} {L : Loop} {tm : Nat → AV} {N : Nat} {H : Nat → Option AO} {nx : Nat} {args : List AV} {Q : Bool → (Nat → Option AO) → Nat → Prop}
    (hH : H id = some (.mp (.loop l L) 0 (keepT N tm))) (hst : L.state = .ready) (hp : L.params.size = args.length) (hpN : ∀ p ∈ L.params.toList, p < N)
    (h : AW (C.rnd l) N L.assign (fun e s1 => match e with
      | .normal => s1.H id = some (.mp (.loop l L) 0 (keepT N tm)) ∧ AW (C.rnd l) N L.body (roundQ id l L (keepT N tm) Q) { s1 with H := updH s1.H id (.mp (.loop l { L with state := .busy }) 0 (keepT N tm)) }
      | _ => False) { tm := tmP (cutT N tm) (L.params.toList.zip args), H := H, nx := nx }) : YOK C l args H nx Q := by
  intro S0 w0 w σ vals hE hi hnx hbel hsz hrep
  obtain ⟨tmps, b1, b2, b3, b4⟩ := hi.turn hH
  rw [keepT_length] at b2
  refine ⟨_, _, _, _, run_yield b1 (by rw [hsz]; exact hp.symm), ?_⟩
  refine roundIn_of_wpIn trivial ?_
  have hfold : (L.params.zip vals).foldl (fun tmps (t, a) => tmps.setIfInBounds t a) tmps = (L.params.toList.zip vals.toList).foldl (fun tmps x => tmps.setIfInBounds x.1 x.2) tmps := by
    rw [← Array.foldl_toList, Array.toList_zip]
  have hs : Sim (S0.from σ w) w0 N { tmps := (L.params.zip vals).foldl (fun tmps (t, a) => tmps.setIfInBounds t a) tmps, defers := [] } w { tm := tmP (cutT N tm) (L.params.toList.zip args), H := H, nx := nx } := by
    have hsize : ∀ (pv : List (Nat × Value)) (tmps : Array Value), (pv.foldl (fun tmps x => tmps.setIfInBounds x.1 x.2) tmps).size = tmps.size := by
      intro pv
      induction pv with
      | nil => intro t; rfl
      | cons p pv ih => intro t; simp only [List.foldl_cons]; rw [ih]; simp
    refine ⟨σ, hi.from, hnx, fun t => ?_, ?_, rfl, hbel⟩
    · show Rep σ w _ (((L.params.zip vals).foldl (fun tmps (t, a) => tmps.setIfInBounds t a) tmps).getD t undef)
      rw [hfold]
      refine tmP_rep _ _ _ _ (keepT_rep b2 b3) ?_ ?_ ?_ t
      · simp [hsz]
      · intro p hp
        rw [b2]
        exact hpN _ (List.of_mem_zip hp).1
      · intro i h1 h2
        simp only [List.length_zip] at h1 h2
        have hia : i < args.length := by omega
        rw [repL_iff] at hrep
        obtain ⟨u, hu, hr⟩ := hrep i hia
        have hiv : i < vals.size := by omega
        rw [Array.getElem?_eq_getElem hiv] at hu
        injection hu with hu
        subst hu
        exact ⟨by simp, by simpa using hr⟩
    · show ((L.params.zip vals).foldl (fun tmps (t, a) => tmps.setIfInBounds t a) tmps).size = N
      rw [hfold, hsize, b2]
  have h2 := h (S0.from σ w) w0 _ w hE hs
  refine wpIn_mono (show L.assign.wpIn (Fence.wide.inRound l) 0 C.P _ _ _ from h2) ?_
  rintro e a1 w1 ⟨s1, hs1, hq⟩
  cases e <;> try exact hq.elim
  obtain ⟨hH1, hq⟩ := hq
  obtain ⟨σ1, hs1⟩ := hs1
  obtain ⟨tmps1, c1, c2, c3, c4⟩ := hs1.inv.turn hH1
  obtain ⟨d1, d2, d3⟩ := c4 { L with state := .busy }
  refine ⟨_, run_beginRound c1 hst, ?_⟩
  have h3 := hq (S0.from σ w) w0 a1 _ hE ⟨σ1, d2, updH_nx hs1.nx (by rw [hH1]; simp), fun t => Rep.mono d1 _ _ (hs1.tm t), hs1.N, hs1.d, hs1.below.trans d3⟩
  refine wpIn_mono (show L.body.wpIn (Fence.wide.inRound l) 0 C.P _ _ _ from h3) ?_
  rintro e a2 w2 ⟨s2, ⟨σ2, hs2⟩, hq2⟩
  have fin : ∀ jump : Option Code, s2.H id = some (.mp (.loop l { L with state := .busy }) 0 (keepT N tm)) → Q jump.isNone (updH s2.H id (.mp (.loop l { L with state := if jump.isNone then .ready else .done, pending := jump }) 0 (keepT N tm))) s2.nx →
      ∃ v w', (Instr.endRound l jump).run C.P w2 = .ok v w' ∧ ∃ b σ' H' nx', Ending.returned v = .returned (.bool b) ∧ Q b H' nx' ∧ Below w0.heap.size w0 w' ∧ Inv w0.heap.size S0 w' H' σ' ∧ (∀ id, nx' ≤ id → H' id = none) ∧ Le σ σ' w w' := by
    intro jump hH2 hq
    obtain ⟨tmps2, e1, e2, e3, e4⟩ := hs2.inv.turn hH2
    obtain ⟨f1, f2, f3⟩ := e4 { L with state := if jump.isNone then .ready else .done, pending := jump }
    obtain ⟨g1, g2⟩ := f2.unfrom
    exact ⟨_, _, run_endRound jump e1, jump.isNone, σ2, _, s2.nx, rfl, hq, hs2.below.trans f3, g1, updH_nx hs2.nx (by rw [hH2]; simp), g2⟩
  cases e with
  | normal => exact fin none hq2.1 hq2.2
  | ret => exact fin (some .ret) hq2.1 hq2.2
  | exit i => exact fin (some (.exit i)) hq2.1 hq2.2
  | goto t => exact hq2.elim
  | panic c => exact hq2.elim
  | outgrown => exact hq2.elim
section
variable {C : Cx} {N : Nat} {Q : Exit → St → Prop} {s : St} {ops : Array Oper} {rest : List Oper} {o : Oper}
theorem AWL.yield (hg : o.guard = none) {d : Nat} (hd : o.dst = some d) (hN : d < N) {fo : Operand} {args : Array Operand} {tys : Array TypeId} (ho : o.op = .call { callee := .value fo, args := args, argTypes := tys })
    {l : Nat} (hf : s.ev fo = .v (.func (.yield l) #[] #[])) {Qr : Bool → (Nat → Option AO) → Nat → Prop} (hok : YOK C l (evsA args.toList s.ev) s.H s.nx Qr)
    (k : ∀ b H' nx', Qr b H' nx' → AWL C N ops Q rest { tm := upd s.tm d (.v (.bool b)), H := H', nx := nx' }) : AWL C N ops Q (o :: rest) s := by
  rintro S0 w0 a w hE ⟨σ, hσ⟩
  have hfo := hσ.ev fo
  rw [hf] at hfo
  simp only [Rep] at hfo
  have hargs : RepL σ w (evsA args.toList s.ev) (fun i => (args.map a.eval)[i]?) := repL_evs (σ := σ) (w := w) (fun x => hσ.ev x) args
  obtain ⟨f, tmps, assign, body, hy, hr⟩ := hok S0 w0 w σ (args.map a.eval) hE hσ.inv hσ.nx hσ.below (by simp [evsA_map]) hargs
  refine wpListIn_plain hg fun K hK => ?_
  refine ⟨fun f _ => C.hF.fn f, ?_⟩
  have hs : o.semAt C.F.round a.eval = execOp a.eval o := by
    cases hr : C.F.round with
    | none => rfl
    | some l => exact Oper.semAt_some l _ o (fun c e => by rw [ho] at e; cases e)
  rw [hs]
  have hexec : (execOp a.eval o).run C.P w = .ok (.round l f tmps assign body) w := by
    simp only [execOp, ho, resolve, hfo, Deferred.ofValue, Sem.run_bind, Sem.run_pure, Result.andThen_ok, invoke]
    simpa using hy
  rw [hexec, Oper.uponIn_round]
  refine ⟨fun hq => (by rw [C.hF.depth] at hq; cases hq), C.hF.roundIn.2 (RoundIn.mono hr ?_)⟩
  rintro e w' ⟨b, σ', H', nx', rfl, hQ, hb, hi', hn', hle⟩
  dsimp only
  rw [hd]
  refine hK _ _ (k b H' nx' hQ S0 w0 _ w' hE ⟨σ', hi', hn', fun t => ?_, by simp [Act.put, hσ.N], hσ.d, hb⟩)
  simp only [Act.put]
  rw [getD_set _ _ _ _ (by rw [hσ.N]; exact hN)]
  show Rep σ' w' (upd s.tm d _ t) _
  unfold upd
  split
  · exact rfl
  · exact Rep.mono hle _ _ (hσ.tm t)
end
end Go.Pg

namespace Go.Pg
open Go Go.RowKit
def mark (D : Nat) : Deferred := { target := .collected D, args := #[] }
def Marks (bs : List (Nat × Nat)) (H : Nat → Option AO) : Prop := (bs.map (·.2)).Nodup ∧ ∀ p ∈ bs, H p.2 = some (.mp (.dfr p.1 (some [])) 0 [])
def AWx (C : Cx) (N : Nat) (c : Code) (Q : Exit → St → Prop) (s : St) : Prop :=
  ∀ S0 w0 a w, S0.ds = [] → C.E w0 → Sim S0 w0 N a w s → c.wpIn C.F 0 C.P (fun e a' w' => ∃ s' bs, Sim { S0 with ds := bs.map (fun p => mark p.1) } w0 N a' w' s' ∧ Marks bs s'.H ∧ Q e s') a w
section
variable {C : Cx} {N : Nat} {Q : Exit → St → Prop} {s : St}
theorem Fr.no_ds {S0 : Fr} (h : S0.ds = []) : { S0 with ds := (([] : List (Nat × Nat)).map (fun p => mark p.1)) } = S0 := by
  obtain ⟨S, K, m, ds⟩ := S0
  simp only at h
  subst h; rfl
theorem AWx.of {c : Code} (h : AW C N c Q s) : AWx C N c Q s := by
  intro S0 w0 a w hds hE hs
  refine wpIn_mono (h S0 w0 a w hE hs) ?_
  rintro e a' w' ⟨s', h1, h2⟩
  exact ⟨s', [], by rw [Fr.no_ds hds]; exact h1, ⟨by simp, by simp⟩, h2⟩
theorem AWx.seq {x y : Code} (h : AW C N x (thenQ (AWx C N y Q) Q) s) : AWx C N (.seq x y) Q s := by
  intro S0 w0 a w hds hE hs
  refine wpIn_seq (wpIn_mono (h S0 w0 a w hE hs) ?_)
  rintro e a' w' ⟨s', h1, h3⟩
  cases e <;> simp only [thenQ, Exit.then] at h3 ⊢
  · exact h3 S0 w0 a' w' hds hE h1
  all_goals exact ⟨s', [], by rw [Fr.no_ds hds]; exact h1, ⟨by simp, by simp⟩, h3⟩
def afterR (C : Cx) (N : Nat) (tail : Code) (bid : Nat) (Q : Exit → St → Prop) : Option Code → St → Prop
  | none, s => AW C N tail Q s
  | some .ret, s => Q .ret s
  | some (.exit i), s => if i = bid then AW C N tail Q s else Q (.exit i) s
  | _, _ => False
def AWk (C : Cx) (N : Nat) (y z : Code) (Q : Exit → St → Prop) (s : St) : Prop :=
  ∀ S0 w0 a w, S0.ds = [] → C.E w0 → Sim S0 w0 N a w s → y.wpIn C.F 0 C.P (Exit.then (z.wpIn C.F 0 C.P fun e a' w' => ∃ s' bs, Sim { S0 with ds := bs.map (fun p => mark p.1) } w0 N a' w' s' ∧ Marks bs s'.H ∧ Q e s')
    (fun e a' w' => ∃ s' bs, Sim { S0 with ds := bs.map (fun p => mark p.1) } w0 N a' w' s' ∧ Marks bs s'.H ∧ Q e s')) a w
theorem AWx.ofk {y z : Code} (h : AWk C N y z Q s) : AWx C N (.seq y z) Q s := fun S0 w0 a w hds hE hs => wpIn_seq (h S0 w0 a w hds hE hs)
def Stop (p : Prop) : Prop := p
theorem Stop.mk {p : Prop} (h : p) : Stop p := h
theorem Stop.get {p : Prop} (h : Stop p) : p := h
attribute [irreducible] Stop
theorem AWx.seqS {x y : Code} (h : AW C N x (thenQ (fun s => Stop (AWx C N y Q s)) Q) s) : AWx C N (.seq x y) Q s :=
  AWx.seq (AW.mono h fun e s' hq => by cases e <;> first | exact hq.get | exact hq)
theorem AWk.seqS {x y z : Code} (h : AW C N x (thenQ (fun s => Stop (AWk C N y z Q s)) Q) s) : AWk C N (.seq x y) z Q s := by
  intro S0 w0 a w hds hE hs
  refine wpIn_seq (wpIn_mono (h S0 w0 a w hE hs) ?_)
  rintro e a' w' ⟨s', h1, h3⟩
  cases e <;> simp only [thenQ, Exit.then] at h3 ⊢
  · exact h3.get S0 w0 a' w' hds hE h1
  all_goals exact ⟨s', [], by rw [Fr.no_ds hds]; exact h1, ⟨by simp, by simp⟩, h3⟩
theorem AWk.range [hW : C.Wide] {g : Operand} {ps : Array Tmp} {assign body tail : Code} {bid : Nat} {f : FuncId} {caps : List AV} (hg : s.ev g = .clo f caps)
    (hok : ∀ (D l : Nat) (fn : FuncId), OKm C f (.v (.func (.yield l) #[] #[]) :: caps)
      (updH (updH s.H s.nx (.mp (.dfr D (some [])) 0 [])) (s.nx + 1) (.mp (.loop l { state := .ready, pending := none, fn := fn, tmps := #[], params := ps, assign := assign, body := body, defers := D }) 0 (keepT N s.tm))) (s.nx + 2)
      (fun _ H' nx' => ∃ L', H' (s.nx + 1) = some (.mp (.loop l L') 0 (keepT N s.tm)) ∧ L'.state ≠ .busy ∧
        afterR C N tail bid (fun e s' => s'.H s.nx = some (.mp (.dfr D (some [])) 0 []) ∧ Q e s') L'.pending { tm := s.tm, H := updH H' (s.nx + 1) (.mp (.loop l { L' with state := .exhausted }) 0 (keepT N s.tm)), nx := nx' })) :
    AWk C N (.block bid (.rangeFunc g ps assign body)) tail Q s := by
  rintro S0 w0 a w hds hE ⟨σ, hσ⟩
  rw [hW.h]
  refine wpIn_block (wpIn_rangeFunc fun fn _ => ?_)
  obtain ⟨hle1, hi1⟩ := hσ.inv.pushK (kt0 := .dfr w.heap.size (some [])) (es0 := []) (xs0 := #[]) (hσ.nx s.nx (Nat.le_refl _)) hσ.size rfl rfl rfl trivial
  have hb1 : Below w0.heap.size w (w.alloc (.deferred (some []))) := (Below.refl _ _).alloc hσ.size _
  have hnx1 : ∀ i, s.nx + 1 ≤ i → updH s.H s.nx (.mp (.dfr w.heap.size (some [])) 0 []) i = none := fun i h => by
    simp only [updH]; rw [if_neg (by omega)]; exact hσ.nx i (by omega)
  obtain ⟨hle2, hi2⟩ := hi1.pushK (id := s.nx + 1) (kt0 := .loop (w.heap.size + 1) { state := .ready, pending := none, fn := fn, tmps := #[], params := ps, assign := assign, body := body, defers := w.heap.size }) (es0 := keepT N s.tm) (xs0 := keepX a.tmps)
    (hnx1 _ (Nat.le_refl _)) (by simp [MK.obj]; have := hσ.size; omega) rfl (keepX_key _ hσ.N) (by simp [MK.obj, MK.at]) (keepX_rep hσ.N fun t => Rep.mono hle1 _ _ (hσ.tm t))
  have hle := hle1.trans hle2
  simp only [MK.obj, keepX_val] at hi2 hle
  have hb2 : Below w0.heap.size w ((w.alloc (.deferred (some []))).alloc (.loop { state := .ready, pending := none, fn := fn, tmps := a.tmps, params := ps, assign := assign, body := body, defers := w.heap.size })) := hb1.alloc (Nat.le_trans hσ.size (by simp)) _
  generalize hW2 : (w.alloc (.deferred (some []))).alloc (.loop { state := .ready, pending := none, fn := fn, tmps := a.tmps, params := ps, assign := assign, body := body, defers := w.heap.size }) = W2 at hi2 hb2 hle
  obtain ⟨⟨fn', hfn, hname, hbody⟩, hcall⟩ := hok w.heap.size (w.heap.size + 1) fn
  have hfo := hσ.ev g
  rw [hg] at hfo
  simp only [Rep] at hfo
  obtain ⟨ca, hca, hcs, hcr⟩ := hfo
  have hc := hcall S0 w0 _ _ (#[.func (.yield (w.heap.size + 1)) #[] #[]] ++ ca) hE hi2 (fun i h => by
      simp only [updH]; rw [if_neg (by omega), if_neg (by omega)]; exact hσ.nx i (by omega)) (hσ.below.trans hb2) (by simp [hcs]; omega) (by
      rw [repL_iff'] at hcr ⊢
      intro i c hc
      rw [Array.getElem?_append]
      cases i with
      | zero => simp only [List.getElem?_cons_zero, Option.some.injEq] at hc; subst hc; exact ⟨_, by simp, rfl⟩
      | succ i =>
        simp only [List.getElem?_cons_succ] at hc
        obtain ⟨u, hu, hr⟩ := hcr i c hc
        refine ⟨u, ?_, Rep.mono hle _ _ hr⟩
        simpa using hu)
  have he := run_enterLoop_outer (P := C.P) (w := w) fn a.tmps ps assign body
  have hres : (resolve a.eval (rangeCall g (w.heap.size + 1)) 0).run C.P W2 = .ok { target := .fn (.func f) ca, args := #[.func (.yield (w.heap.size + 1)) #[] #[]] } W2 := by
    simp only [resolve, rangeCall, hca, Deferred.ofValue, Sem.run_bind, Sem.run_pure, Result.andThen_ok]
    simp [Act.eval]
  have hinv : (invoke (.fn (.func f) ca) #[.func (.yield (w.heap.size + 1)) #[] #[]]).run C.P W2 = .ok (.enter f (#[.func (.yield (w.heap.size + 1)) #[] #[]] ++ ca)) W2 := by
    have hb : (fn'.name == "runtime.NumGoroutine") ≠ true := by simp [hname]
    simp only [invoke, callFunc, run_program, Sem.run_bind, Sem.run_pure, Result.andThen_ok, hfn, if_neg hb, hbody, Bool.false_eq_true, if_false]
  rw [hW2] at he
  refine ⟨w.heap.size + 1, [{ target := .collected w.heap.size, args := #[] }], W2, { target := .fn (.func f) ca, args := #[.func (.yield (w.heap.size + 1)) #[] #[]] }, W2, f, #[.func (.yield (w.heap.size + 1)) #[] #[]] ++ ca, W2, ?_⟩
  refine ⟨he, hres, fun _ _ => trivial, hinv, fun h => (by cases h), ?_⟩
  refine callsIn_wide.2 (hc.mono ?_)
  rintro e w' ⟨v, r, σ', H', nx', rfl, ⟨L', hL, hst, hq⟩, hb, hi', hn', hle', _⟩
  obtain ⟨tmps, e1, e2, e3, e4⟩ := hi'.turn hL
  obtain ⟨f1, f2, f3⟩ := e4 { L' with state := .exhausted }
  have hs4 : Sim { S0 with ds := [mark w.heap.size] } w0 N { a with defers := [{ target := .collected w.heap.size, args := #[] }] ++ a.defers } (w'.putObj (w.heap.size + 1) (.loop { L' with state := .exhausted, tmps := tmps }))
      { tm := s.tm, H := updH H' (s.nx + 1) (.mp (.loop (w.heap.size + 1) { L' with state := .exhausted }) 0 (keepT N s.tm)), nx := nx' } := by
    refine ⟨σ', ⟨f2.al, f2.fresh, f2.S_lt, f2.own_lt, f2.row, f2.mp, f2.fr⟩, updH_nx hn' (by rw [hL]; simp), fun t => Rep.mono ((hle.trans hle').trans f1) _ _ (hσ.tm t), hσ.N, ?_, hb.trans f3⟩
    show [mark w.heap.size] ++ a.defers = [mark w.heap.size]
    rw [hσ.d, hds]; rfl
  have hfin : ∀ e a' w'' s', Sim { S0 with ds := [mark w.heap.size] } w0 N a' w'' s' → (s'.H s.nx = some (.mp (.dfr w.heap.size (some [])) 0 []) ∧ Q e s') →
      ∃ s' bs, Sim { S0 with ds := bs.map (fun p => mark p.1) } w0 N a' w'' s' ∧ Marks bs s'.H ∧ Q e s' := fun e a' w'' s' h1 h2 =>
    ⟨s', [(w.heap.size, s.nx)], h1, ⟨by simp, by simpa using h2.1⟩, h2.2⟩
  have htail : AW C N tail (fun e s' => s'.H s.nx = some (.mp (.dfr w.heap.size (some [])) 0 []) ∧ Q e s') { tm := s.tm, H := updH H' (s.nx + 1) (.mp (.loop (w.heap.size + 1) { L' with state := .exhausted }) 0 (keepT N s.tm)), nx := nx' } →
      tail.wpIn Fence.wide 0 C.P (fun e a' w' => ∃ s' bs, Sim { S0 with ds := bs.map (fun p => mark p.1) } w0 N a' w' s' ∧ Marks bs s'.H ∧ Q e s') { a with defers := [{ target := .collected w.heap.size, args := #[] }] ++ a.defers } (w'.putObj (w.heap.size + 1) (.loop { L' with state := .exhausted, tmps := tmps })) := fun h => by
    have h2 := h _ w0 _ _ hE hs4
    rw [hW.h] at h2
    refine wpIn_mono h2 ?_
    rintro e a' w'' ⟨s', g1, g2⟩
    exact hfin e a' w'' s' g1 g2
  have hend : (Instr.endLoop (w.heap.size + 1)).run C.P w' = .ok L'.pending (w'.putObj (w.heap.size + 1) (.loop { L' with state := .exhausted, tmps := tmps })) := run_endLoop e1 hst
  generalize hst4 : ({ tm := s.tm, H := updH H' (s.nx + 1) (.mp (.loop (w.heap.size + 1) { L' with state := .exhausted }) 0 (keepT N s.tm)), nx := nx' } : St) = st at hq hs4 htail
  generalize hw4 : w'.putObj (w.heap.size + 1) (.loop { L' with state := .exhausted, tmps := tmps }) = w4 at hend hs4 htail
  generalize hj : L'.pending = jump at hend hq
  refine ⟨jump, w4, hend, ?_⟩
  cases jump with
  | none => exact htail hq
  | some c =>
    cases c <;> try exact hq.elim
    case ret => exact wpIn_ret (hfin _ _ _ _ hs4 hq)
    case exit i =>
      refine wpIn_exit ?_
      simp only [afterR] at hq
      simp only [Exit.inBlock]
      split at hq
      · rename_i hi; rw [if_pos hi]; exact htail hq
      · rename_i hi; rw [if_neg hi]; exact hfin _ _ _ _ hs4 hq
end
section
variable {C : Cx}
theorem leavesX {S0 : Fr} {B0 : Nat} {fn : Func} {tmps : Array Value} {tm : Nat → AV} {R : Ending → World → Prop} : ∀ (bs : List (Nat × Nat)) (w : World) (H : Nat → Option AO) (σ : Sg), Inv B0 S0 w H σ → (∀ t, Rep σ w (tm t) (tmps.getD t undef)) → Marks bs H →
    (∀ w' H' σ', Inv B0 S0 w' H' σ' → (∀ t, Rep σ' w' (tm t) (tmps.getD t undef)) → Below B0 w w' → (∀ i, rowAt H' i = rowAt H i) → (∀ i, H' i = none ↔ H i = none) → ∃ v, (results fn tmps).run C.P w' = .ok v w' ∧ R (.returned v) w') →
    LeavesInM Fence.wide 0 C.P fn tmps R (bs.map fun p => mark p.1) .returning w
  | [], w, H, σ, hi, ht, _, fin => fin w H σ hi ht (Below.refl _ _) (fun _ => rfl) (fun _ => Iff.rfl)
  | (D, id) :: bs, w, H, σ, hi, ht, hm, fin => by
    obtain ⟨hm1, hm2⟩ := hm
    have hH : H id = some (.mp (.dfr D (some [])) 0 []) := hm2 (D, id) (by simp)
    obtain ⟨g1, g2⟩ := hi.shut hH
    obtain ⟨f1, f2, f3⟩ := g2 none
    simp only [List.map_cons, List.nodup_cons] at hm1
    refine ⟨by simp, .inl ⟨D, _, rfl, run_takeDeferred g1, ?_⟩⟩
    refine leavesX bs _ _ σ f2 (fun t => Rep.mono f1 _ _ (ht t)) ⟨hm1.2, fun p hp => ?_⟩ fun w' H' σ' h1 h2 h3 h4 h5 => fin w' H' σ' h1 h2 (f3.trans h3) (fun i => ?_) (fun i => ?_)
    · have hne : p.2 ≠ id := fun e => hm1.1 (e ▸ List.mem_map_of_mem (f := (·.2)) hp)
      simp only [updH]; rw [if_neg hne]; exact hm2 p (by simp [hp])
    · rw [h4, rowAt_updM]
      split
      · rename_i e; subst e; simp [rowAt, hH]
      · rfl
    · rw [h5]
      simp only [updH]
      split
      · rename_i e; subst e; simp [hH]
      · rfl
def endX (C : Cx) (rs : List ResultVar) (Q : AV → (Nat → Option AO) → Nat → Prop) (e : Exit) (s : St) : Prop :=
  ∀ H', (∀ i, rowAt H' i = rowAt s.H i) → endM C rs Q e { s with H := H' }
theorem OKm.of_bodyX [hW : C.Wide] (hC : C.OK) {f : FuncId} {fn : Func} {c : Code} {args : List AV} {rs : List ResultVar} {H : Nat → Option AO} {nx : Nat} {Q : AV → (Nat → Option AO) → Nat → Prop} (hf : C.P.funcs[f]? = some fn) (hb : fn.body = some c) (hn : (fn.name == "runtime.NumGoroutine") = false)
    (hr : fn.results = rs.toArray) (hN : args.length ≤ fn.ntmps) (h : AWx C fn.ntmps c (endX C rs Q) { tm := fun t => args.getD t .junk, H := H, nx := nx }) : OKm C f args H nx Q := by
  refine ⟨⟨fn, hf, hn, by rw [hb]; rfl⟩, fun S0 w0 w σ vals hE hi hnx hbel hsz hrep => ?_⟩
  refine callsIn_wide.1 (callsIn_of_wp_marks (n := 0) hf hb trivial ?_)
  have hs : Sim (S0.from σ w) w0 fn.ntmps { tmps := vals ++ Array.replicate (fn.ntmps - vals.size) undef, defers := [] } w { tm := fun t => args.getD t .junk, H := H, nx := nx } := by
    refine ⟨σ, hi.from, hnx, fun t => ?_, by simp; omega, rfl, hbel⟩
    show Rep σ w (args.getD t .junk) ((vals ++ Array.replicate (fn.ntmps - vals.size) undef).getD t undef)
    by_cases ht : t < args.length
    · rw [repL_iff] at hrep
      obtain ⟨u, hu, hru⟩ := hrep t ht
      have : (vals ++ Array.replicate (fn.ntmps - vals.size) undef).getD t undef = u := by
        rw [Array.getD_eq_getD_getElem?, Array.getElem?_append_left (by omega), hu]; rfl
      rw [this, List.getD_eq_getElem?_getD, List.getElem?_eq_getElem ht]; exact hru
    · have : args.getD t .junk = .junk := by rw [List.getD_eq_getElem?_getD, List.getElem?_eq_none (by omega)]; rfl
      rw [this]; trivial
  have h2 := h (S0.from σ w) w0 _ w rfl hE hs
  rw [hW.h] at h2
  refine wpIn_mono h2 ?_
  rintro e a' w' ⟨s', bs, ⟨σ', hσ'⟩, hm, hq⟩
  have fin : (∀ H', (∀ i, rowAt H' i = rowAt s'.H i) → ∃ vs, resVs C.T { s' with H := H' } rs = some vs ∧ Q (bundle vs) H' s'.nx) →
      LeavesInM Fence.wide 0 C.P fn a'.tmps (fun e w' => ∃ v r σ' H' nx', e = .returned v ∧ Q r H' nx' ∧ Below w0.heap.size w0 w' ∧ Inv w0.heap.size S0 w' H' σ' ∧ (∀ id, nx' ≤ id → H' id = none) ∧ Le σ σ' w w' ∧ Rep σ' w' r v) a'.defers .returning w' := by
    intro hq
    rw [show a'.defers = bs.map (fun p => mark p.1) from hσ'.d]
    refine leavesX bs w' s'.H σ' hσ'.inv hσ'.tm hm fun w2 H2 σ2 h1 h2 h3 h4 h5 => ?_
    obtain ⟨vs, hvs, hq⟩ := hq H2 h4
    have hs2 : SimG { (S0.from σ w) with ds := bs.map (fun p => mark p.1) } w0 fn.ntmps a' w2 { s' with H := H2 } σ2 := ⟨h1, fun id hid => (h5 id).2 (hσ'.nx id hid), h2, hσ'.N, hσ'.d, hσ'.below.trans h3⟩
    obtain ⟨v, hv, hrv⟩ := run_results_of hC hs2 hr hvs
    have hi2 : Inv w0.heap.size (S0.from σ w) w2 H2 σ2 := ⟨h1.al, h1.fresh, h1.S_lt, h1.own_lt, h1.row, h1.mp, h1.fr⟩
    obtain ⟨hi', hle⟩ := hi2.unfrom
    exact ⟨v, hv, v, _, σ2, H2, s'.nx, rfl, hq, hs2.below, hi', hs2.nx, hle, hrv⟩
  cases e with
  | normal => exact fin hq
  | ret => exact fin hq
  | exit id => exact (hq s'.H fun _ => rfl).elim
  | goto l => exact (hq s'.H fun _ => rfl).elim
  | panic c => exact (hq s'.H fun _ => rfl).elim
  | outgrown => exact (hq s'.H fun _ => rfl).elim
end
section
variable {C : Cx} {N : Nat} {Q : Exit → St → Prop} {s : St} {ops : Array Oper} {rest : List Oper} {ty : TypeId} {ps : String} {af : Array Edge} {d : Nat}
theorem W.yield (hN : d < N) {fo : Operand} {args : Array Operand} {tys : Array TypeId} {l : Nat} (hf : s.ev fo = .v (.func (.yield l) #[] #[])) {va : List AV} (ha : evsA args.toList s.ev = va) {Qr : Bool → (Nat → Option AO) → Nat → Prop} (hok : YOK C l va s.H s.nx Qr)
    (k : ∀ b H' nx', Qr b H' nx' → AWL C N ops Q rest { tm := upd s.tm d (.v (.bool b)), H := H', nx := nx' }) : AWL C N ops Q (⟨some d, .call { callee := .value fo, args := args, argTypes := tys }, ty, ps, af, none⟩ :: rest) s :=
  AWL.yield rfl rfl hN rfl hf (by rw [ha]; exact hok) k
end
end Go.Pg
