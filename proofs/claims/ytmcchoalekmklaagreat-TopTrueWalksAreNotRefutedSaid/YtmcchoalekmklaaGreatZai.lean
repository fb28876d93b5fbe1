/-
  Contracts of functions, proved by going through their code. No conditions.
-/
import Derived.ChangeMaps5
import Derived.LoopNIn
import Derived.Lib.AppendStr
import Derived.Test.YtmcchoalekmklaaGreatZah
set_option linter.unusedVariables false
set_option linter.unusedSimpArgs false
namespace Go.Pg
open Go Go.RowKit
section
variable {B0 : Nat} {S0 : Fr} {w w' : World} {H : Nat → Option AO} {σ : Sg}
theorem Inv.pushM (hi : Inv B0 S0 w H σ) (sh : KSh) {id : Nat} (hf : H id = none) (hB : B0 ≤ w.heap.size) :
    Le σ (σ.push w.heap.size id 0 0 0) w (w.alloc (.map #[] 0)) ∧ Inv B0 S0 (w.alloc (.map #[] 0)) (updH H id (.mp (.map sh) 0 [])) (σ.push w.heap.size id 0 0 0) := by
  have hle := hi.le_push (n := 0) (k := 0) (cap := 0) hf (.map #[] 0)
  have hS : ¬ σ.S w.heap.size := fun h => by have := (hi.S_lt _ h).1; omega
  have hheap : ∀ b, b < w.heap.size → (w.alloc (.map #[] 0)).heap[b]? = w.heap[b]? := fun b hb => Below.heap_alloc w _ b hb
  refine ⟨hle, fun i => ?_, fun i hn => ?_, fun b h => ⟨by have := (hi.S_lt b h).1; simp; omega, (hi.S_lt b h).2⟩, fun b i h => ?_, fun i r' h => ?_, fun i kt et es h => ?_, S0.mono _ _ _ _ hle hi.fr⟩
  · simp only [Sg.push, updH]
    by_cases e : i = id
    · simp [e]
    · simp [e, hi.al]
  · simp only [updH] at hn
    have e : i ≠ id := fun e => by simp [e] at hn
    rw [if_neg e] at hn
    obtain ⟨h1, h2⟩ := hi.fresh i hn
    refine ⟨by simp only [Sg.push]; rw [if_neg e]; exact h1, fun b hb => ?_⟩
    simp only [Sg.push] at hb
    split at hb
    · injection hb with hb; exact e hb.symm
    · exact h2 b hb
  · simp only [Sg.push] at h
    split at h
    · subst b; exact ⟨hB, by simp⟩
    · have := hi.own_lt b i h; exact ⟨this.1, by simp; omega⟩
  · simp only [updH] at h
    by_cases e : i = id
    · subst e; simp at h
    · rw [if_neg e] at h
      have hr := hi.row i r' h
      have hown : ∀ b, (σ.push w.heap.size id 0 0 0).own b = some i → σ.own b = some i ∧ b ≠ w.heap.size := fun b hb => by
        simp only [Sg.push] at hb
        split at hb
        · injection hb with hb; exact absurd hb.symm e
        · exact ⟨hb, by assumption⟩
      have hx : ∀ b, b ≠ w.heap.size → (σ.push w.heap.size id 0 0 0).ext b = σ.ext b := fun b hb => by simp only [Sg.push]; rw [if_neg hb]
      have hcx : (σ.push w.heap.size id 0 0 0).cur i = σ.cur i := by simp only [Sg.push]; rw [if_neg e]
      have hax : ∀ b, b ≠ w.heap.size → (σ.push w.heap.size id 0 0 0).cap b = σ.cap b := fun b hb => by simp only [Sg.push]; rw [if_neg hb]
      refine ⟨by simp only [Sg.push]; rw [if_neg e]; exact hr.len, by simp only [Sg.push]; rw [if_neg e]; exact hr.k, hr.each, hr.lo, fun b hb => ?_, fun hc => hr.empty (by rw [← hcx]; exact hc), fun b hb => ?_, fun b hb j h1 => ?_⟩
      · rw [hcx] at hb
        obtain ⟨a1, a2, a3, a4, ar, a5, a6⟩ := hr.cur b hb
        have hlt := (hi.own_lt b i a1).2
        exact ⟨by simp only [Sg.push]; rw [if_neg (by omega)]; exact a1, by rw [hx b (by omega)]; exact a2, by rw [hax b (by omega)]; exact a3, by rw [hax b (by omega)]; exact a4, ar, (hheap b hlt).trans a5, by rw [hax b (by omega)]; exact a6⟩
      · obtain ⟨h1, h2⟩ := hown b hb
        rw [hx b h2, hcx]; exact hr.own b h1
      · rw [hcx] at hb
        refine RepL.mono hle _ _ _ (fun m u hu => ?_) (hr.con b hb j h1)
        rw [cell_of_heap (w := w) (hheap b (hi.own_lt b i (hr.cur b hb).1).2)]; exact hu
  · simp only [updH] at h
    by_cases e : i = id
    · subst e
      rw [if_pos rfl] at h; injection h with h; injection h with h1 h2 h3; subst h1; subst h3
      refine ⟨by simp [Sg.push], ⟨w.heap.size, 0, #[], by simp [Sg.push], by simp [Sg.push], ⟨fun _ => hS, fun h => (by cases h)⟩, (MapKept.heap_alloc w _).1, ⟨rfl, fun k hk => by simp at hk⟩, by simp [RepL]⟩, fun b hb => ?_⟩
      simp only [Sg.push] at hb
      split at hb
      · rename_i he; subst he; exact ⟨by simp [Sg.push], by simp [Sg.push]⟩
      · exact absurd hb ((hi.fresh i hf).2 b)
    · rw [if_neg e] at h
      have hm := hi.mp i kt et es h
      obtain ⟨b, clock, xs, a1, a2, a3, a4, a5, a6⟩ := hm.cur
      have hlt := (hi.own_lt b i a2).2
      refine ⟨by simp only [Sg.push]; rw [if_neg e]; exact hm.len, ⟨b, clock, xs, by simp only [Sg.push]; rw [if_neg e]; exact a1, by simp only [Sg.push]; rw [if_neg (by omega)]; exact a2, a3, (hheap b hlt).trans a4, a5, RepL.mono hle _ _ _ (fun _ _ h => h) a6⟩, fun b hb => ?_⟩
      simp only [Sg.push] at hb
      split at hb
      · injection hb with hb; exact absurd hb.symm e
      · rename_i hne
        obtain ⟨h1, h2⟩ := hm.one b hb
        exact ⟨by simp only [Sg.push]; rw [if_neg e]; exact h1, by simp only [Sg.push]; rw [if_neg hne]; exact h2⟩
theorem Inv.remap (hi : Inv B0 S0 w H σ) {id : Nat} {kt kt' : MK} {et : TypeId} {es es' : List (Key × AV)} (hH : H id = some (.mp kt et es)) (hlv : kt.live = true) (hlv' : kt'.live = true) (hat : ∀ b, kt.at (es.map (·.1)) b → kt'.at (es'.map (·.1)) b) {b clock : Nat} {xs : Array MapEntry} (hc : σ.cur id = some b)
    (hb : w'.heap[b]? = some (kt'.obj xs clock)) (hsz : w'.heap.size = w.heap.size) (hother : ∀ k, k ≠ b → w'.heap[k]? = w.heap[k]?) (hk : xs.toList.map (·.key) = es'.map (fun e => e.1.val))
    (hv : RepL σ w (es'.map (·.2)) (fun i => (xs[i]?).map (·.val))) : Le σ σ w w' ∧ Inv B0 S0 w' (updH H id (.mp kt' et es')) σ := by
  have hm := hi.mp id kt et es hH
  obtain ⟨b', clock', xs', a1, a2, a3, a4, a5, a6⟩ := hm.cur
  rw [hc] at a1; injection a1 with a1; subst a1
  have hne : ∀ k i, i ≠ id → σ.own k = some i → k ≠ b := fun k i e hk hkb => by subst hkb; rw [a2] at hk; injection hk with hk; exact e hk.symm
  have hle : Le σ σ w w' := ⟨fun _ h => h, fun k h => hother k (fun e => a3.1 hlv (e ▸ h)), fun _ _ h => ⟨hi.al_of_own h, h, rfl, Nat.le_refl _⟩, fun _ h => h, fun _ _ => .inl ⟨rfl, rfl, fun _ _ => rfl⟩⟩
  refine ⟨hle, fun i => ?_, fun i hn => ?_, fun k h => ?_, fun k i h => ?_, fun i r' h => ?_, fun i kt2 et' es2 h => ?_, S0.mono _ _ _ _ hle hi.fr⟩
  · rw [hi.al]
    unfold updH
    split
    · rename_i e; subst e; simp [hH]
    · rfl
  · refine hi.fresh i ?_
    unfold updH at hn
    split at hn
    · cases hn
    · exact hn
  · rw [hsz]; exact hi.S_lt k h
  · rw [hsz]; exact hi.own_lt k i h
  · unfold updH at h
    split at h
    · cases h
    · rename_i e
      have hr := hi.row i r' h
      refine ⟨hr.len, hr.k, hr.each, hr.lo, fun k hk => ?_, hr.empty, hr.own, fun k hk j h1 => ?_⟩
      · obtain ⟨c1, c2, c3, c4, ar, c5, c6⟩ := hr.cur k hk
        exact ⟨c1, c2, c3, c4, ar, (hother k (hne k i e c1)).trans c5, c6⟩
      · refine RepL.mono hle _ _ _ (fun m u hu => ?_) (hr.con k hk j h1)
        rw [cell_of_heap (w := w) (hother k (hne k i e (hr.cur k hk).1))]; exact hu
  · unfold updH at h
    split at h
    · rename_i e; subst e
      injection h with h; injection h with h1 h2 h3; subst h1; subst h3
      exact ⟨hm.len, ⟨b, clock, xs, hc, a2, ⟨fun _ => a3.1 hlv, fun h => by rw [hlv'] at h; cases h⟩, hb, ⟨hk, hat _ a5.2⟩, RepL.mono hle _ _ _ (fun _ _ h => h) hv⟩, hm.one⟩
    · rename_i e
      have hm2 := hi.mp i kt2 et' es2 h
      obtain ⟨b2, clock2, xs2, c1, c2, c3, c4, c5, c6⟩ := hm2.cur
      exact ⟨hm2.len, ⟨b2, clock2, xs2, c1, c2, c3, (hother b2 (hne b2 i e c2)).trans c4, c5, RepL.mono hle _ _ _ (fun _ _ h => h) c6⟩, hm2.one⟩
end
theorem putM_keys (k : Key) (x : AV) : ∀ es : List (Key × AV), ∀ d ∈ (putM k x es).map (·.1), d = k ∨ d ∈ es.map (·.1)
  | [], d, h => by simp only [putM, List.map_cons, List.map_nil, List.mem_singleton] at h; exact .inl h
  | e :: es, d, h => by
    unfold putM at h
    split at h
    · simp only [List.map_cons, List.mem_cons] at h ⊢
      rcases h with h | h
      · exact .inl h
      · exact .inr (.inr h)
    · simp only [List.map_cons, List.mem_cons] at h ⊢
      rcases h with h | h
      · exact .inr (.inl h)
      · rcases putM_keys k x es d h with h | h
        · exact .inl h
        · exact .inr (.inr h)
def mapUpdA (T : TypeId → Option Ty) (eqT : TypeId → Bool) (H : Nat → Option AO) (t : TypeId) (m k x : AV) : Option (Nat × AO) :=
  match T t, m with
  | some { d := .map kt _, .. }, .map id => match keyA T eqT kt k, H id with
    | some key, some (.mp (.map sh) b es) => if key.sh = sh then some (id, .mp (.map sh) b (putM key x es)) else none
    | _, _ => none
  | _, _ => none
def makeMapA (T : TypeId → Option Ty) (t : TypeId) : Option KSh :=
  match T t with
  | some { d := .map kt _, .. } => shA T kt
  | _ => none
section
variable {C : Cx} {N : Nat} {Q : Exit → St → Prop} {s : St} {ops : Array Oper} {rest : List Oper} {o : Oper}
theorem AWL.makeMap (hC : C.OK) (hg : o.guard = none) {d : Nat} (hd : o.dst = some d) (hN : d < N) {t : TypeId} (ho : o.op = .makeMap t none) (sh : KSh)
    (k : AWL C N ops Q rest { tm := upd s.tm d (.map s.nx), H := updH s.H s.nx (.mp (.map sh) 0 []), nx := s.nx + 1 }) : AWL C N ops Q (o :: rest) s := by
  rintro S0 w0 a w hE ⟨σ, hσ⟩
  obtain ⟨hle, hinv⟩ := hσ.inv.pushM sh (hσ.nx s.nx (Nat.le_refl _)) hσ.size
  refine wpListIn_plain hg fun K hK => Oper.wpIn_of_wp C.hF (fun c e => by rw [ho] at e; cases e) ?_
  have hrun : (execOp a.eval o).run C.P w = .ok (.value (.map (some w.heap.size))) (w.alloc (.map #[] 0)) := by
    simp only [execOp, ho, Option.map_none, Sem.run_bind, run_makeMap, Result.andThen_ok, Sem.run_pure]
  simp only [Oper.wp, hrun, Oper.upon]
  rw [hd]
  refine hK _ _ (k S0 w0 _ _ hE ⟨σ.push w.heap.size s.nx 0 0 0, hσ.put hN (s' := { tm := upd s.tm d (.map s.nx), H := updH s.H s.nx (.mp (.map sh) 0 []), nx := s.nx + 1 }) hinv (fun id hid => ?_) hle ((Below.refl _ _).alloc hσ.size _) ?_ rfl⟩)
  · have hid' : s.nx + 1 ≤ id := hid
    simp only [updH]; rw [if_neg (by omega)]; exact hσ.nx id (by omega)
  · simp only [Rep]; exact ⟨_, rfl, by simp [Sg.push]⟩
theorem keyThatStays_same {P : Program} (k : Key) (w : World) : (Instr.keyThatStays k.val k.val).run P w = .ok k.val w := by
  have h : Instr.sameBits 10000 k.val k.val = true := by
    cases k with
    | str s => simp only [Key.val, Instr.sameBits]; rw [beq_bytes]; simp
    | int n => simp [Key.val, Instr.sameBits]
    | pair a b => simp [Key.val, Instr.sameBits]
  simp [Instr.keyThatStays, h]
theorem AWL.mapUpdate (hC : C.OK) (hg : o.guard = none) (hd : o.dst = none) {t : TypeId} {m kk x : Operand} (ho : o.op = .mapUpdate t m kk x) {id : Nat} {ao : AO} (h : mapUpdA C.T C.eqT s.H t (s.ev m) (s.ev kk) (s.ev x) = some (id, ao))
    (k : AWL C N ops Q rest { s with H := updH s.H id ao }) : AWL C N ops Q (o :: rest) s := by
  rintro S0 w0 a w hE ⟨σ, hσ⟩
  unfold mapUpdA at h
  split at h
  · rename_i sz by_ z kt et id' ht hm
    split at h
    · rename_i key sh kb es hkey hH
      split at h
      · rename_i hsh
        injection h with h; injection h with h1 h2; subst h1; subst h2
        have hmv := hσ.ev m
        rw [hm] at hmv
        obtain ⟨hkv, hko⟩ := keyA_sound hC.T hC.eqT (hσ.ev kk) hkey
        obtain ⟨b, clock, xs, hmb, a1, a2, a3, a4, a5, a5', a6⟩ := map_block hσ.inv hH hmv
        have hu := (hC.T t _ ht).map rfl
        have hobj : (getObj b).run C.P w = .ok (.map xs clock) w := MapKept.run_getObj_map a4
        obtain ⟨f1, f2⟩ := findKey_case hko w a5 (fun d hd => (a5' d hd).trans hsh.symm)
        have key : ∃ (xs' : Array MapEntry) (clock' : Nat), (Instr.mapUpdate t (a.eval m) (a.eval kk) (a.eval x)).run C.P w = .ok () (ChangeMaps.setBlock w b (.map xs' clock')) ∧
            xs'.toList.map (·.key) = (putM key (s.ev x) es).map (fun e => e.1.val) ∧ RepL σ w ((putM key (s.ev x) es).map (·.2)) (fun i => (xs'[i]?).map (·.val)) := by
          rcases keys_case key (s.ev x) xs.toList es 0 a5 with ⟨_, b3, b4⟩ | ⟨j, y, e, _, b3, b4, b5, ⟨d', b6, b6'⟩, b6'', b7, b8, _⟩
          · refine ⟨xs.push ⟨key.val, a.eval x, clock⟩, clock + 1, ?_, by rw [b3]; simp [a5], ?_⟩
            · rw [hmb, hkv]
              simp [Instr.mapUpdate, run_underlying hu, hobj, hko.check, f1 b4, MapKept.run_setObj_map _ a4, ChangeMaps.setBlock]
            · rw [b3, List.map_append]
              have hl : xs.size = (es.map (·.2)).length := by
                have := congrArg List.length a5
                simpa using this
              rw [repL_iff'] at a6 ⊢
              intro i c hc
              rw [List.getElem?_append] at hc
              rw [Array.getElem?_push]
              split at hc
              · rename_i hi
                rw [if_neg (by omega)]; exact a6 i c hc
              · rename_i hi
                have hi0 : i = (es.map (·.2)).length := by
                  have := (List.getElem?_eq_some_iff.1 hc).1
                  simp at this; simp; simp at hi; omega
                subst hi0
                simp only [Nat.sub_self, List.map_cons, List.map_nil, List.getElem?_cons_zero, Option.some.injEq] at hc
                subst hc
                rw [if_pos (by omega)]
                exact ⟨_, rfl, hσ.ev x⟩
          · refine ⟨xs.modify j fun e => { e with key := key.val, val := a.eval x }, clock, ?_, ?_, ?_⟩
            · have hj : xs[j]? = some e := by simpa using b3
              rw [hmb, hkv]
              simp [Instr.mapUpdate, run_underlying hu, hobj, hko.check, f2 j e d' b3 b6 b6' b6'', hj, b5, keyThatStays_same, MapKept.run_setObj_map _ a4, ChangeMaps.setBlock]
            · have hj : xs[j]? = some e := by simpa using b3
              rw [b7, ← a5]
              apply List.ext_getElem?
              intro i
              simp only [List.getElem?_map, Array.getElem?_toList, Array.getElem?_modify]
              split
              · rename_i hi; subst hi; simp [hj, b5]
              · rfl
            · have hj : xs[j]? = some e := by simpa using b3
              rw [b8]
              rw [repL_iff'] at a6 ⊢
              intro i c hc
              rw [List.getElem?_set] at hc
              rw [Array.getElem?_modify]
              split at hc
              · rename_i hi
                subst hi
                split at hc
                · injection hc with hc; subst hc
                  rw [if_pos rfl]
                  exact ⟨_, by rw [hj]; rfl, hσ.ev x⟩
                · cases hc
              · rename_i hi
                rw [if_neg hi]; exact a6 i c hc
        obtain ⟨xs', clock', hrun, hk1, hk2⟩ := key
        have hsame : (ChangeMaps.setBlock w b (.map xs' clock')).heap[b]? = some (.map xs' clock') := ChangeMaps.heap_setBlock_same a4 _
        have hoth : ∀ k, k ≠ b → (ChangeMaps.setBlock w b (.map xs' clock')).heap[k]? = w.heap[k]? := fun k hk => ChangeMaps.heap_setBlock_other a4 _ hk
        have hsz : (ChangeMaps.setBlock w b (.map xs' clock')).heap.size = w.heap.size := by simp [ChangeMaps.setBlock]
        obtain ⟨hle, hinv⟩ := hσ.inv.remap (kt' := .map sh) hH rfl rfl (fun b hb d hd => by
          rcases putM_keys _ _ _ d hd with rfl | hd
          · exact hsh
          · exact hb d hd) a1 hsame hsz hoth hk1 hk2
        refine wpListIn_plain hg fun K hK => Oper.wpIn_of_wp C.hF (fun c e => by rw [ho] at e; cases e) ?_
        have hrun' : (execOp a.eval o).run C.P w = .ok .skip (ChangeMaps.setBlock w b (.map xs' clock')) := by
          simp only [execOp, ho, Sem.run_bind, hrun, Result.andThen_ok, Sem.run_pure]
        simp only [Oper.wp, hrun', Oper.upon, hd]
        refine hK _ _ (k S0 w0 _ _ hE ⟨σ, hinv, fun i' hi' => ?_, fun t' => Rep.mono hle _ _ (hσ.tm t'), hσ.N, hσ.d, hσ.below.trans ⟨rfl, rfl, rfl, by rw [hsz]; exact Nat.le_refl _, fun k' hk' => hoth k' (fun e => ?_)⟩⟩)
        · simp only [updH]
          split
          · rename_i e; subst e; rw [hσ.nx i' hi'] at hH; cases hH
          · exact hσ.nx i' hi'
        · subst e; have := (hσ.inv.own_lt k' id' a2).1; omega
      · cases h
    · cases h
  · cases h
variable {ty : TypeId} {ps : String} {af : Array Edge} {d : Nat}
theorem W.makeMap (hC : C.OK) {t : TypeId} {sh : KSh} (hsh : makeMapA C.T t = some sh) (hN : d < N) (k : AWL C N ops Q rest { tm := upd s.tm d (.map s.nx), H := updH s.H s.nx (.mp (.map sh) 0 []), nx := s.nx + 1 }) :
    AWL C N ops Q (⟨some d, .makeMap t none, ty, ps, af, none⟩ :: rest) s := AWL.makeMap hC rfl rfl hN rfl sh k
theorem W.mapUpdate (hC : C.OK) {t : TypeId} {m kk x : Operand} {id : Nat} {ao : AO} (h : mapUpdA C.T C.eqT s.H t (s.ev m) (s.ev kk) (s.ev x) = some (id, ao)) (k : AWL C N ops Q rest { s with H := updH s.H id ao }) :
    AWL C N ops Q (⟨none, .mapUpdate t m kk x, ty, ps, af, none⟩ :: rest) s := AWL.mapUpdate hC rfl rfl rfl h k
end
end Go.Pg

namespace Go.Pg
open Go Go.RowKit
def OKm (C : Cx) (f : FuncId) (args : List AV) (H : Nat → Option AO) (nx : Nat) (Q : AV → (Nat → Option AO) → Nat → Prop) : Prop :=
  Enters C.P f ∧ ∀ (S0 : Fr) (w0 w : World) (σ : Sg) (vals : Array Value), C.E w0 → Inv w0.heap.size S0 w H σ → (∀ id, nx ≤ id → H id = none) → Below w0.heap.size w0 w → vals.size = args.length → RepL σ w args (fun i => vals[i]?) →
    Calls C.P f vals w fun e w' => ∃ v r σ' H' nx', e = .returned v ∧ Q r H' nx' ∧ Below w0.heap.size w0 w' ∧ Inv w0.heap.size S0 w' H' σ' ∧ (∀ id, nx' ≤ id → H' id = none) ∧ Le σ σ' w w' ∧ Rep σ' w' r v
def bundle : List AV → AV
  | [x] => x
  | xs => .tup xs
def endM (C : Cx) (rs : List ResultVar) (Q : AV → (Nat → Option AO) → Nat → Prop) : Exit → St → Prop
  | .normal, s => ∃ vs, resVs C.T s rs = some vs ∧ Q (bundle vs) s.H s.nx
  | .ret, s => ∃ vs, resVs C.T s rs = some vs ∧ Q (bundle vs) s.H s.nx
  | _, _ => False
def Fr.from (S0 : Fr) (σ : Sg) (w : World) : Fr :=
  ⟨S0.S, fun σ' w' => S0.K σ' w' ∧ Le σ σ' w w', fun _ _ _ _ hle h => ⟨S0.mono _ _ _ _ hle h.1, h.2.trans hle⟩, []⟩
theorem Inv.from {B0 : Nat} {S0 : Fr} {w : World} {H : Nat → Option AO} {σ : Sg} (h : Inv B0 S0 w H σ) : Inv B0 (S0.from σ w) w H σ :=
  ⟨h.al, h.fresh, h.S_lt, h.own_lt, h.row, h.mp, ⟨h.fr, Le.refl _ _ fun _ _ ho => h.al_of_own ho⟩⟩
theorem Inv.unfrom {B0 : Nat} {S0 : Fr} {w w' : World} {H : Nat → Option AO} {σ σ' : Sg} (h : Inv B0 (S0.from σ w) w' H σ') : Inv B0 S0 w' H σ' ∧ Le σ σ' w w' :=
  ⟨⟨h.al, h.fresh, h.S_lt, h.own_lt, h.row, h.mp, h.fr.1⟩, h.fr.2⟩
theorem resVs_len {T : TypeId → Option Ty} {s : St} : ∀ (rs : List ResultVar) (vs : List AV), resVs T s rs = some vs → vs.length = rs.length
  | [], vs, h => by simp only [resVs, Option.some.injEq] at h; subst h; rfl
  | r :: rs, vs, h => by
    simp only [resVs] at h
    split at h
    · rename_i h1 h2; injection h with h; subst h; simp [resVs_len rs _ h2]
    · cases h
section
variable {C : Cx}
theorem run_results_of (hC : C.OK) {S0 : Fr} {w0 w : World} {N : Nat} {a : Act} {s : St} {σ : Sg} (hσ : SimG S0 w0 N a w s σ) {fn : Func} {rs : List ResultVar} {vs : List AV} (hr : fn.results = rs.toArray) (h : resVs C.T s rs = some vs) :
    ∃ v, (results fn a.tmps).run C.P w = .ok v w ∧ Rep σ w (bundle vs) v := by
  obtain ⟨us, g1, g2, g3⟩ := run_resVs hC hσ rs vs h
  have hl := resVs_len rs vs h
  refine ⟨if h : us.toArray.size = 1 then us.toArray[0] else .tuple us.toArray, ?_, ?_⟩
  · simp only [results, hr, Array.mapM_eq_mapM_toList, Sem.run_bind, Sem.run_map, Sem.run_pure]
    exact (congrArg (fun r => (Result.andThen (Result.andThen r fun a w' => Result.ok a.toArray w') fun a w' => Result.ok (if h : a.size = 1 then a[0] else Value.tuple a) w')) g1).trans rfl
  · match vs, us, g2 with
    | [x], [u], _ => simpa [RepL, bundle] using g3
    | [], [], _ => simp only [bundle]; simp [Rep, RepL]
    | x :: y :: vs, u :: v :: us, g2 =>
      have : ¬ ((u :: v :: us).toArray.size = 1) := by simp
      rw [dif_neg this]
      simp only [bundle, Rep]
      exact ⟨_, rfl, by simpa using g2, by simpa using g3⟩
    | [x], u :: v :: us, g2 => simp at g2
    | x :: y :: vs, [u], g2 => simp at g2
theorem OKm.of_body [hW : C.Wide] (hC : C.OK) {f : FuncId} {fn : Func} {c : Code} {args : List AV} {rs : List ResultVar} {H : Nat → Option AO} {nx : Nat} {Q : AV → (Nat → Option AO) → Nat → Prop} (hf : C.P.funcs[f]? = some fn) (hb : fn.body = some c) (hn : (fn.name == "runtime.NumGoroutine") = false)
    (hr : fn.results = rs.toArray) (hN : args.length ≤ fn.ntmps) (h : AW C fn.ntmps c (endM C rs Q) { tm := fun t => args.getD t .junk, H := H, nx := nx }) : OKm C f args H nx Q := by
  refine ⟨⟨fn, hf, hn, by rw [hb]; rfl⟩, fun S0 w0 w σ vals hE hi hnx hbel hsz hrep => ?_⟩
  refine calls_of_wp hf hb ?_
  have hs : Sim (S0.from σ w) w0 fn.ntmps { tmps := vals ++ Array.replicate (fn.ntmps - vals.size) undef, defers := [] } w { tm := fun t => args.getD t .junk, H := H, nx := nx } := by
    refine ⟨σ, hi.from, hnx, fun t => ?_, by simp; omega, rfl, hbel⟩
    show Rep σ w (args.getD t .junk) ((vals ++ Array.replicate (fn.ntmps - vals.size) undef).getD t undef)
    by_cases ht : t < args.length
    · rw [repL_iff] at hrep
      obtain ⟨u, hu, hru⟩ := hrep t ht
      have : (vals ++ Array.replicate (fn.ntmps - vals.size) undef).getD t undef = u := by
        rw [Array.getD_eq_getD_getElem?, Array.getElem?_append_left (by omega), hu]; rfl
      rw [this, List.getD_eq_getElem?_getD, List.getElem?_eq_getElem ht]; exact hru
    · have : args.getD t .junk = .junk := by rw [List.getD_eq_getElem?_getD, List.getElem?_eq_none (by omega)]; rfl
      rw [this]; trivial
  have h2 := h (S0.from σ w) w0 _ w hE hs
  rw [hW.h] at h2
  refine wp_mono (wpIn_wide.1 h2) ?_
  have fin : ∀ a' w' s', Sim (S0.from σ w) w0 fn.ntmps a' w' s' → (∃ vs, resVs C.T s' rs = some vs ∧ Q (bundle vs) s'.H s'.nx) →
      a'.defers = [] ∧ ∃ v, (results fn a'.tmps).run C.P w' = .ok v w' ∧ (∃ v1 r σ' H' nx', Ending.returned v = .returned v1 ∧ Q r H' nx' ∧ Below w0.heap.size w0 w' ∧ Inv w0.heap.size S0 w' H' σ' ∧ (∀ id, nx' ≤ id → H' id = none) ∧ Le σ σ' w w' ∧ Rep σ' w' r v1) := by
    rintro a' w' s' ⟨σ', hσ'⟩ ⟨vs, hvs, hq⟩
    obtain ⟨v, hv, hrv⟩ := run_results_of hC hσ' hr hvs
    obtain ⟨hi', hle⟩ := hσ'.inv.unfrom
    exact ⟨hσ'.d, v, hv, v, _, σ', s'.H, s'.nx, rfl, hq, hσ'.below, hi', hσ'.nx, hle, hrv⟩
  rintro e a' w' ⟨s', hs', hq⟩
  cases e with
  | normal => exact fin a' w' s' hs' hq
  | ret => exact fin a' w' s' hs' hq
  | exit id => exact hq.elim
  | goto l => exact hq.elim
  | panic c => exact hq.elim
  | outgrown => exact hq.elim
theorem OKm.toAt {f : FuncId} {args : List AV} {Q : AV → (Nat → Option AO) → Nat → Prop} {Q' : AV → Prop} (h : OKm C f args (fun _ => none) 0 Q) (hq : ∀ r H nx, Q r H nx → ∃ r', viewA H r = some r' ∧ Q' r') : OKat C f args Q' := by
  refine ⟨h.1, fun w S vals hE hS hsz hrep => ?_⟩
  have hi : Inv w.heap.size (Fr.of S) w (fun _ => none) (pureSg S) :=
    ⟨fun id => by simp [pureSg], fun id _ => ⟨rfl, fun b h => by simp [pureSg] at h⟩, fun b h => ⟨hS b h, .inl h⟩, fun b id h => by simp [pureSg] at h, fun id r h => by simp at h, fun id kt et es h => by simp at h, trivial⟩
  refine (h.2 (Fr.of S) w w (pureSg S) vals hE hi (fun _ _ => rfl) (Below.refl _ _) hsz hrep).mono ?_
  rintro e w' ⟨v, r, σ', H', nx', rfl, hQ, hb, hi', _, _, hr⟩
  obtain ⟨r', hv, hq'⟩ := hq r H' nx' hQ
  refine ⟨hb, v, r', rfl, hq', ?_⟩
  refine viewA_sound hi' (fun b hb => ?_) r v r' hv (fun id _ b hb => .inr (hi'.own_lt b id hb)) hr
  have := hi'.S_lt b hb
  rcases this.2 with h | h
  · exact .inl h
  · exact .inr ⟨h, this.1⟩
theorem OKm.mono {f : FuncId} {args : List AV} {H : Nat → Option AO} {nx : Nat} {Q Q' : AV → (Nat → Option AO) → Nat → Prop} (h : OKm C f args H nx Q) (hq : ∀ r H nx, Q r H nx → Q' r H nx) : OKm C f args H nx Q' :=
  ⟨h.1, fun S0 w0 w σ vals hE hi hnx hbel hsz hrep => (h.2 S0 w0 w σ vals hE hi hnx hbel hsz hrep).mono (fun _ _ ⟨v, r, σ', H', nx', h1, h2, h3⟩ => ⟨v, r, σ', H', nx', h1, hq _ _ _ h2, h3⟩)⟩
variable {N : Nat} {Q : Exit → St → Prop} {s : St} {ops : Array Oper} {rest : List Oper} {o : Oper}
theorem AWL.callm (hC : C.OK) (hg : o.guard = none) {d : Nat} (hd : o.dst = some d) (hN : d < N) {fo : Operand} {args : Array Operand} {tys : Array TypeId} (ho : o.op = .call { callee := .value fo, args := args, argTypes := tys })
    {f : FuncId} {caps : List AV} (hf : s.ev fo = .clo f caps) {Qr : AV → (Nat → Option AO) → Nat → Prop} (hok : OKm C f (evsA args.toList s.ev ++ caps) s.H s.nx Qr)
    (k : ∀ r H' nx', Qr r H' nx' → AWL C N ops Q rest { tm := upd s.tm d r, H := H', nx := nx' }) : AWL C N ops Q (o :: rest) s := by
  rintro S0 w0 a w hE ⟨σ, hσ⟩
  obtain ⟨⟨fn, hfn, hname, hbody⟩, hcall⟩ := hok
  have hfo := hσ.ev fo
  rw [hf] at hfo
  simp only [Rep] at hfo
  obtain ⟨ca, hca, hcs, hcr⟩ := hfo
  have hargs : RepL σ w (evsA args.toList s.ev ++ caps) (fun i => ((args.map a.eval) ++ ca)[i]?) := by
    have h1 := repL_evs (σ := σ) (w := w) (fun x => hσ.ev x) args
    rw [repL_iff'] at h1 hcr ⊢
    intro i c hc
    rw [List.getElem?_append] at hc
    rw [Array.getElem?_append]
    have hl : (evsA args.toList s.ev).length = (args.map a.eval).size := by simp [evsA_map]
    rw [hl] at hc
    split at hc
    · rename_i hi; rw [if_pos hi]; exact h1 i c hc
    · rename_i hi; rw [if_neg hi]; exact hcr _ c hc
  have hsz : ((args.map a.eval) ++ ca).size = (evsA args.toList s.ev ++ caps).length := by simp [evsA_map, hcs]
  have hc := hcall S0 w0 w σ ((args.map a.eval) ++ ca) hE hσ.inv hσ.nx hσ.below hsz hargs
  refine wpListIn_plain hg fun K hK => Oper.wpIn_of_wp C.hF (fun c e => by rw [ho] at e; cases e) ?_
  have hexec : (execOp a.eval o).run C.P w = .ok (.enter f ((args.map a.eval) ++ ca)) w := by
    have hb : (fn.name == "runtime.NumGoroutine") ≠ true := by simp [hname]
    simp only [execOp, ho, resolve, hca, Deferred.ofValue, Sem.run_bind, Sem.run_pure, Result.andThen_ok, invoke, callFunc, run_program, hfn, if_neg hb, hbody, Bool.false_eq_true, if_false]
    simp
  simp only [Oper.wp, hexec, Oper.upon]
  refine hc.mono ?_
  rintro e w' ⟨v, r, σ', H', nx', rfl, hQ, hb, hi', hn', hle, hr⟩
  dsimp only
  rw [hd]
  refine hK _ _ (k r H' nx' hQ S0 w0 _ w' hE ⟨σ', hi', hn', fun t => ?_, by simp [Act.put, hσ.N], hσ.d, hb⟩)
  simp only [Act.put]
  rw [getD_set _ _ _ _ (by rw [hσ.N]; exact hN)]
  show Rep σ' w' (upd s.tm d r t) _
  unfold upd
  split
  · exact hr
  · exact Rep.mono hle _ _ (hσ.tm t)
variable {ty : TypeId} {ps : String} {af : Array Edge} {d : Nat}
theorem W.callm (hC : C.OK) (hN : d < N) {fo : Operand} {args : Array Operand} {tys : Array TypeId} {f : FuncId} {caps : List AV} (hf : s.ev fo = .clo f caps) {Qr : AV → (Nat → Option AO) → Nat → Prop} (hok : OKm C f (evsA args.toList s.ev ++ caps) s.H s.nx Qr)
    (k : ∀ r H' nx', Qr r H' nx' → AWL C N ops Q rest { tm := upd s.tm d r, H := H', nx := nx' }) : AWL C N ops Q (⟨some d, .call { callee := .value fo, args := args, argTypes := tys }, ty, ps, af, none⟩ :: rest) s :=
  AWL.callm hC rfl rfl hN rfl hf hok k
end
end Go.Pg

namespace Go.Pg
open Go Go.RowKit
section
variable {C : Cx} {N : Nat} {Q : Exit → St → Prop} {s : St} {ops : Array Oper} {rest : List Oper} {o : Oper}
theorem AW.adopt {c : Code} (t k : Nat) (e : TypeId) (ht : s.tm t = .v (.slice none 0 0)) (h : AW C N c Q { tm := upd s.tm t (.ref s.nx 0 0), H := updH s.H s.nx (.row { k := k, es := [], ty := e }), nx := s.nx + 1 }) : AW C N c Q s := by
  rintro S0 w0 a w hE ⟨σ, hσ⟩
  obtain ⟨hle, hinv⟩ := hσ.inv.adopt (hσ.nx s.nx (Nat.le_refl _)) { k := k, es := [], ty := e } rfl rfl rfl
  refine h S0 w0 a w hE ⟨σ.adopt s.nx k, hinv, fun id hid => ?_, fun u => ?_, hσ.N, hσ.d, hσ.below⟩
  · have hid' : s.nx + 1 ≤ id := hid
    simp only [updH]; rw [if_neg (by omega)]; exact hσ.nx id (by omega)
  · show Rep _ w (upd s.tm t (.ref s.nx 0 0) u) _
    unfold upd
    split
    · rename_i he
      subst he
      have hr := hσ.tm u
      rw [ht] at hr
      simp only [Rep] at hr
      rw [hr]
      simp only [Rep]
      exact ⟨.inl rfl, none, 0, rfl, Nat.le_refl _, by simp [maxLen], fun h => absurd rfl h, fun _ _ => .inl (by simp [Sg.adopt])⟩
    · exact Rep.mono hle _ _ (hσ.tm u)
theorem AW.fresh {c : Code} (h : (∀ id, s.nx ≤ id → s.H id = none) → AW C N c Q s) : AW C N c Q s := by
  rintro S0 w0 a w hE ⟨σ, hσ⟩
  exact h hσ.nx S0 w0 a w hE ⟨σ, hσ⟩
variable {op : Op} {ty : TypeId} {ps : String} {af : Array Edge} {d j t : Nat} {want bb : Bool}
theorem W.append (hC : C.OK) (hN : d < N) {x1 x2 : Operand} {t e : TypeId} {tt y : Ty} (ht : C.T t = some tt) (hte : tt.d = .slice e) (hy : C.T e = some y) (hk0 : 0 < y.size) {id nx : Nat} {r : Row}
    (hdst : dstA s s.nx (s.ev x1) y e = some (id, r, nx)) {es news : List (List AV)} (hsrc : srcA s.H (s.ev x2) = some es) (hv : viewLL s.H es = some news) (hlen : ∀ e ∈ es, e.length = y.size) (hid : idsLL es = [])
    (hb : (r.es.length + es.length) * y.bytes ≤ 140737488355328) (hm : r.es.length + es.length ≤ 140737488355328)
    (k : AWL C N ops Q rest { tm := upd s.tm d (.ref id 0 (r.es.length + es.length)), H := updH s.H id (.row (appRow r es.length news)), nx := nx }) :
    AWL C N ops Q (⟨some d, .call { callee := .builtin .append, args := #[x1, x2], argTypes := #[t, t] }, ty, ps, af, none⟩ :: rest) s := by
  refine AWL.append hC rfl rfl hN rfl ht hte hy hk0 (.inl rfl) hdst hsrc hlen hv (by rw [hid]; simp) hb hm ?_
  have : frz' s.H (idsLL es) = s.H := by rw [hid]; rfl
  rw [this]; exact k
theorem dstA_congr {s s' : St} (h1 : s'.H = s.H) (h2 : s'.nx = s.nx) (key : Nat) (x : AV) (y : Ty) (e : TypeId) : dstA s' key x y e = dstA s key x y e := by
  unfold dstA; rw [h1, h2]
variable {H0 : Nat → Option AO} {b : Nat} {tg mk av : List Nat} {Fin : St → Prop} {i : Nat}
theorem D.append (hC : C.OK) (hN : d < N) (hi : i ∈ tg) {x1 x2 : Operand} {t e : TypeId} {tt y : Ty} (ht : C.T t = some tt) (hte : tt.d = .slice e) (hy : C.T e = some y) (hk0 : 0 < y.size) {id nx : Nat} {r : Row}
    (hdst : dstA s s.nx (s.ev x1) y e = some (id, r, nx)) {es news : List (List AV)} (hsrc : srcA s.H (s.ev x2) = some es) (hv : viewLL s.H es = some news) (hlen : ∀ e ∈ es, e.length = y.size) (hid : idsLL es = [])
    (hb : (r.es.length + es.length) * y.bytes ≤ 140737488355328) (hm : r.es.length + es.length ≤ 140737488355328) (hav : mk = [] ∨ id ∈ av)
    (k : DW C N ops H0 b tg mk av Fin (i + 1) rest { tm := upd s.tm d (.ref id 0 (r.es.length + es.length)), H := updH s.H id (.row (appRow r es.length news)), nx := nx }) :
    DW C N ops H0 b tg mk av Fin i (⟨some d, .call { callee := .builtin .append, args := #[x1, x2], argTypes := #[t, t] }, ty, ps, af, none⟩ :: rest) s := by
  refine ⟨.ref id 0 (r.es.length + es.length), { tm := upd s.tm d (.ref id 0 (r.es.length + es.length)), H := updH s.H id (.row (appRow r es.length news)), nx := nx }, rfl, ?_, k⟩
  rw [if_pos hi]
  refine ⟨fun s' h1 h2 hl => ?_, ?_⟩
  · have hev := ev_congr hl
    have e1 : s'.ev x1 = s.ev x1 := hev x1 (by simp [Op.operands, Call.operands])
    have e2 : s'.ev x2 = s.ev x2 := hev x2 (by simp [Op.operands, Call.operands])
    refine one_of_AWL (W.append (id := id) (r := r) (nx := nx) (es := es) (news := news) hC hN ht hte hy hk0 (by rw [dstA_congr h1 h2, h2, e1]; exact hdst) (by rw [h1, e2]; exact hsrc) (by rw [h1]; exact hv) hlen hid hb hm (AWL.nil ⟨rfl, ?_⟩))
    rw [h1]; rfl
  · rcases hav with h | h
    · exact .inl h
    · refine .inr fun id' x hid' hx => ?_
      show updH s.H id _ id' = some x
      simp only [updH]
      rw [if_neg (fun e => by rw [e] at hid'; exact hid' h)]; exact hx
theorem D.mapUpdate (hC : C.OK) (hi : i ∈ tg) {t : TypeId} {m kk x : Operand} {id : Nat} {ao : AO} (h : mapUpdA C.T C.eqT s.H t (s.ev m) (s.ev kk) (s.ev x) = some (id, ao)) (hav : mk = [] ∨ id ∈ av)
    (k : DW C N ops H0 b tg mk av Fin (i + 1) rest { s with H := updH s.H id ao }) : DW C N ops H0 b tg mk av Fin i (⟨none, .mapUpdate t m kk x, ty, ps, af, none⟩ :: rest) s := by
  refine ⟨.junk, { s with H := updH s.H id ao }, rfl, ?_, k⟩
  rw [if_pos hi]
  refine ⟨fun s' h1 h2 ht => ?_, ?_⟩
  · have hev := ev_congr ht
    refine one_of_AWL (W.mapUpdate (id := id) (ao := ao) hC (by rw [hev m (by simp [Op.operands]), hev kk (by simp [Op.operands]), hev x (by simp [Op.operands]), h1]; exact h) (AWL.nil ⟨rfl, ?_⟩))
    rw [h1, h2]; rfl
  · rcases hav with h | h
    · exact .inl h
    · refine .inr fun id' x hid hx => ?_
      show updH s.H id _ id' = some x
      simp only [updH]
      rw [if_neg (fun e => by rw [e] at hid; exact hid h)]; exact hx
end
theorem OKat.of_bodyM {C : Cx} [hW : C.Wide] {Q : AV → Prop} (hC : C.OK) {f : FuncId} {fn : Func} {c : Code} {args : List AV} {rs : List ResultVar} (hf : C.P.funcs[f]? = some fn) (hb : fn.body = some c) (hn : (fn.name == "runtime.NumGoroutine") = false)
    (hr : fn.results = rs.toArray) (hN : args.length ≤ fn.ntmps) (h : AW C fn.ntmps c (endM C rs (fun r H _ => ∃ r', viewA H r = some r' ∧ Q r')) (startSt args)) : OKat C f args Q :=
  OKm.toAt (OKm.of_body hC hf hb hn hr hN h) (fun _ _ _ h => h)
theorem W.retM {C : Cx} {Q : AV → Prop} {rs : List ResultVar} {s : St} {vs : List AV} {r : AV} (h1 : resVs C.T s rs = some vs) (h2 : viewA s.H (bundle vs) = some r) (hq : Q r) : endM C rs (fun r H _ => ∃ r', viewA H r = some r' ∧ Q r') .ret s := ⟨vs, h1, r, h2, hq⟩
theorem updH_at (H : Nat → Option AO) (i : Nat) (o : AO) (j : Nat) : updH H i o j = if j = i then some o else H j := rfl
theorem rowAt_updM (H : Nat → Option AO) (i : Nat) (k : MK) (e : TypeId) (es : List (Key × AV)) (j : Nat) : rowAt (updH H i (.mp k e es)) j = if j = i then none else rowAt H j := by
  unfold rowAt updH
  split <;> rename_i h <;> split at h <;> simp_all
theorem viewLL_nil (H : Nat → Option AO) : viewLL H [] = some [] := rfl
theorem viewLL_cons (H : Nat → Option AO) (e : List AV) (es : List (List AV)) : viewLL H (e :: es) = (match viewL H e, viewLL H es with | some d, some ds => some (d :: ds) | _, _ => none) := rfl
theorem idsLL_nil : idsLL [] = [] := rfl
theorem idsLL_cons (e : List AV) (es : List (List AV)) : idsLL (e :: es) = idsL e ++ idsLL es := rfl
theorem viewLL_map {α : Type} (H : Nat → Option AO) (f : α → List AV) (h : ∀ a, viewL H (f a) = some (f a)) : ∀ l : List α, viewLL H (l.map f) = some (l.map f)
  | [] => rfl
  | a :: l => by simp only [List.map_cons, viewLL_cons, h a, viewLL_map H f h l]
theorem idsLL_map {α : Type} (f : α → List AV) (h : ∀ a, idsL (f a) = []) : ∀ l : List α, idsLL (l.map f) = []
  | [] => rfl
  | a :: l => by simp only [List.map_cons, idsLL_cons, h a, idsLL_map f h l, List.append_nil]
end Go.Pg

namespace Go.Pg
open Go Go.RowKit
section
variable {P : Program} {B0 : Nat} {S0 : Fr} {w : World} {H : Nat → Option AO} {σ : Sg}
theorem rowAt_mask (av : List Nat) (H : Nat → Option AO) (j : Nat) : rowAt (mask av H) j = if j ∈ av then none else rowAt H j := by
  unfold rowAt mask
  split <;> rename_i h <;> split at h <;> simp_all
theorem upd_twice (H : Nat → Option AO) (id n : Nat) (a b c : AO) : updH (updH (updH H id a) n b) id c = updH (updH H n b) id c := by
  funext i
  simp only [updH]
  split
  · rfl
  · split
    · rfl
    · rfl
end
section
variable {C : Cx} {N : Nat} {Q : Exit → St → Prop} {s : St} {ops : Array Oper} {rest : List Oper} {o : Oper}
variable {op : Op} {ty : TypeId} {ps : String} {af : Array Edge} {d j t : Nat} {want bb : Bool} {H0 : Nat → Option AO} {b : Nat} {tg mk av : List Nat} {Fin : St → Prop} {i : Nat}
theorem W.retX {rs : List ResultVar} {Qx : AV → (Nat → Option AO) → Nat → Prop} {vs : List AV} (h1 : resVs C.T s rs = some vs) (hq : Qx (bundle vs) s.H s.nx) : endM C rs Qx .ret s := ⟨vs, h1, hq⟩
theorem W.endX {rs : List ResultVar} {Qx : AV → (Nat → Option AO) → Nat → Prop} {vs : List AV} (h1 : resVs C.T s rs = some vs) (hq : Qx (bundle vs) s.H s.nx) : endM C rs Qx .normal s := ⟨vs, h1, hq⟩
end
end Go.Pg

namespace Go.Pg
open Go Go.RowKit
section
variable {C : Cx} {N : Nat} {Q : Exit → St → Prop} {s : St} {ops : Array Oper} {rest : List Oper}
variable {ty : TypeId} {ps : String} {af : Array Edge} {d : Nat} {H0 : Nat → Option AO} {b : Nat} {tg mk av : List Nat} {Fin : St → Prop} {i : Nat}
end
theorem INTS : ((!true) = false ∧ (!false) = true ∧ (∀ b : Bool, ((!b) = true) = (b = false)) ∧ (∀ b : Bool, ((!b) = false) = (b = true)) ∧ (∀ (p : Prop) [Decidable p], (decide p = true) = p) ∧ (∀ (p : Prop) [Decidable p], (decide p = false) = ¬ p)) ∧
    ((∀ a b : Bool, ((a && b) = true) = (a = true ∧ b = true)) ∧ (∀ a b : Bool, ((a && b) = false) = (a = false ∨ b = false)) ∧ (∀ a b : Bool, ((a || b) = true) = (a = true ∨ b = true)) ∧ (∀ a b : Bool, ((a || b) = false) = (a = false ∧ b = false))) ∧
    ((∀ a b : Int, (¬ a < b) = (b ≤ a)) ∧ (∀ a b : Int, (¬ a ≤ b) = (b < a)) ∧ (∀ (α : Type) [BEq α] [LawfulBEq α] (a b : α), ((a == b) = true) = (a = b)) ∧ (∀ (α : Type) [BEq α] [LawfulBEq α] (a b : α), ((a == b) = false) = (a ≠ b)) ∧
      (∀ (α : Type) [BEq α] [LawfulBEq α] (a b : α), ((a != b) = true) = (a ≠ b)) ∧ (∀ (α : Type) [BEq α] [LawfulBEq α] (a b : α), ((a != b) = false) = (a = b)) ∧ (∀ (α : Type) (a b : α), (a ≠ b) = ¬ (a = b)) ∧ (∀ (p : Prop) [Decidable p], (¬ ¬ p) = p)) := by
  refine ⟨⟨rfl, rfl, ?_, ?_, ?_, ?_⟩, ⟨?_, ?_, ?_, ?_⟩, ⟨?_, ?_, ?_, ?_, ?_, ?_, ?_, ?_⟩⟩ <;> intros <;> first | (simp [Int.not_lt, Int.not_le]; done) | (rename_i a b; cases a <;> cases b <;> simp)
attribute [push_cast] EVS LST stepA binA intBinA strBinA unA convA loadA rdPtr partA TyD.isAgg fieldAddrA fieldA offA extractA lenA minA cellsA Value.oneCell' builtA fillA fillE listA evsA spliceL normC sliceA boundA indexAddrA indexA storeA appRow view_ref view_ptr pureL pureA
attribute [push_cast] nxL nxR nxC nxA if_true if_false Bool.false_eq_true Bool.not_true Bool.not_false Bool.and_true Bool.true_and Bool.and_self Option.isSome_some Option.getD_some Nat.zero_add Nat.add_zero Nat.lt_irrefl Nat.le_refl and_self and_true true_and List.replicate_one List.replicate_zero List.replicate_succ
attribute [push_cast] dstA srcA viewLL_nil viewLL_cons idsLL_nil idsLL_cons lookupA keyA shA makeMapA Key.sh Key.same mapUpdA findM putM updH_at rowAt_updM resVs resV bundle
attribute [push_cast] List.length_map Int.natCast_nonneg Int.toNat_natCast decide_true decide_false ne_eq eq_self not_false_eq_true not_true_eq_false Bool.cond_true Bool.cond_false
end Go.Pg

namespace Go.Pg
open Go Go.RowKit
section
variable {B0 : Nat} {S0 : Fr} {w : World} {H : Nat → Option AO} {σ : Sg}
theorem Inv.retell (hi : Inv B0 S0 w H σ) {id : Nat} {r : Row} {es' : List (List AV)} (hH : H id = some (.row r)) (hl : es'.length = r.es.length) (each : ∀ e ∈ es', e.length = r.k ∧ ∀ c ∈ e, c.cell = true)
    (hcon : ∀ b, σ.cur id = some b → ∀ i (h : i < es'.length), RepL σ w es'[i] (fun j => w.cell? ⟨b, i * r.k + j, none⟩)) : Inv B0 S0 w (updH H id (.row { r with es := es' })) σ := by
  have hr := hi.row id r hH
  refine ⟨fun i => ?_, fun i hn => ?_, hi.S_lt, hi.own_lt, fun i r' h => ?_, fun i kt et es h => ?_, hi.fr⟩
  · rw [hi.al]
    simp only [updH]
    split
    · rename_i e; subst e; simp [hH]
    · rfl
  · simp only [updH] at hn
    split at hn
    · cases hn
    · exact hi.fresh i hn
  · simp only [updH] at h
    split at h
    · rename_i e; subst e
      injection h with h; injection h with h; subst h
      refine ⟨by rw [hr.len]; exact hl.symm, hr.k, each, by show r.lo ≤ es'.length; rw [hl]; exact hr.lo, fun b hb => ?_, fun hc => ?_, fun b hb => ?_, fun b hb j hj => hcon b hb j hj⟩
      · obtain ⟨a1, a2, a3, a4, arr, a5, a6⟩ := hr.cur b hb
        exact ⟨a1, by show σ.ext b = es'.length; rw [hl]; exact a2, by show es'.length ≤ _; rw [hl]; exact a3, a4, arr, a5, a6⟩
      · have := hr.empty hc
        show es' = []
        rw [this] at hl
        exact List.eq_nil_of_length_eq_zero (by simpa using hl)
      · obtain ⟨a1, a2, a3, a4⟩ := hr.own b hb
        exact ⟨a1, by show σ.ext b ≤ es'.length; rw [hl]; exact a2, a3, a4⟩
    · exact hi.row i r' h
  · simp only [updH] at h
    split at h
    · cases h
    · exact hi.mp i kt et es h
end
section
variable {C : Cx} {N : Nat} {Q : Exit → St → Prop} {s : St}
theorem AW.adoptCell {c : Code} (B i j k : Nat) (e : TypeId) {r : Row} (hr : rowAt s.H B = some r) (hc : (r.es[i]?).bind (·[j]?) = some (.v (.slice none 0 0)))
    (h : AW C N c Q { tm := s.tm, H := updH (updH s.H s.nx (.row { k := k, es := [], ty := e })) B (.row { r with es := r.es.set i ((r.es.getD i []).set j (.ref s.nx 0 0)) }), nx := s.nx + 1 }) : AW C N c Q s := by
  rintro S0 w0 a w hE ⟨σ, hσ⟩
  have hH := rowAt_eq hr
  obtain ⟨hle, hinv⟩ := hσ.inv.adopt (hσ.nx s.nx (Nat.le_refl _)) { k := k, es := [], ty := e } rfl rfl rfl
  have hne : B ≠ s.nx := fun e => by have := hσ.nx s.nx (Nat.le_refl _); rw [e, this] at hH; cases hH
  have hH' : updH s.H s.nx (.row { k := k, es := [], ty := e }) B = some (.row r) := by simp only [updH]; rw [if_neg hne]; exact hH
  obtain ⟨ei, hei, hej⟩ := Option.bind_eq_some_iff.1 hc
  obtain ⟨hil, rfl⟩ := List.getElem?_eq_some_iff.1 hei
  have hgd : r.es.getD i [] = r.es[i] := by rw [List.getD_eq_getElem?_getD, List.getElem?_eq_getElem hil]; rfl
  have hR := hinv.row B r hH'
  have hnew : ∀ (w : World), Rep (σ.adopt s.nx k) w (.ref s.nx 0 0) (.slice none 0 0) := fun w => by
    simp only [Rep]
    exact ⟨.inl rfl, none, 0, rfl, Nat.le_refl _, by simp [maxLen], fun h => absurd rfl h, fun _ _ => .inl (by simp [Sg.adopt])⟩
  have hinv2 := hinv.retell (es' := r.es.set i ((r.es.getD i []).set j (.ref s.nx 0 0))) hH' (by simp) (fun x hx => by
    rcases List.mem_or_eq_of_mem_set hx with hx | rfl
    · exact hR.each x hx
    · rw [hgd]
      obtain ⟨e1, e2⟩ := hR.each _ (List.getElem_mem hil)
      refine ⟨by simpa using e1, fun c hc => ?_⟩
      rcases List.mem_or_eq_of_mem_set hc with hc | rfl
      · exact e2 c hc
      · rfl) (fun b hb i' hi' => by
    have hi2 : i' < r.es.length := by simpa using hi'
    have hcon := hR.con b hb i' hi2
    rw [List.getElem_set]
    split
    · rename_i he; subst he
      rw [hgd]
      rw [repL_iff'] at hcon ⊢
      intro m c hm
      rw [List.getElem?_set] at hm
      split at hm
      · rename_i hjm; subst hjm
        split at hm
        · injection hm with hm; subst hm
          obtain ⟨u, hu, hru⟩ := hcon j _ hej
          simp only [Rep] at hru
          subst hru
          exact ⟨_, hu, hnew w⟩
        · cases hm
      · exact hcon m c hm
    · exact hcon)
  refine h S0 w0 a w hE ⟨σ.adopt s.nx k, hinv2, fun id hid => ?_, fun u => Rep.mono hle _ _ (hσ.tm u), hσ.N, hσ.d, hσ.below⟩
  have hid' : s.nx + 1 ≤ id := hid
  have h0 := hσ.nx id (by omega)
  show updH (updH s.H s.nx _) B _ id = none
  simp only [updH]
  rw [if_neg (fun e => by subst e; rw [hH] at h0; cases h0), if_neg (by omega)]; exact h0
end
end Go.Pg

namespace Go.Pg
open Go Go.RowKit
def pur (c : AV) : AV := if pureA c = true then c else .junk
theorem pur_rep {σ : Sg} {w : World} {c : AV} {u : Value} (h : Rep σ w c u) : Rep (pureSg σ.S) w (pur c) u := by
  unfold pur
  split
  · rename_i hp; exact Rep.pure_ c u hp h
  · trivial
section
variable {C : Cx} {N : Nat} {ops : Array Oper} {d : Nat} {op : Op} {ty : TypeId} {ps : String} {af : Array Edge} {tg mk av : List Nat} {H0 : Nat → Option AO} {b i : Nat} {Fin : St → Prop} {rest : List Oper} {s : St}
theorem one_buildL (hC : C.OK) (hN : d < N) {s' : St} {n : Nat} {row : Row} (h : stepA C.T C.eqT (fun _ => none) (fun x => pur (s'.ev x)) 0 op = some (.ref 0 0 n, some row)) (hp : row.es.all pureL = true) (hn : row.es.length = n) (hlo : row.lo ≤ n) :
    One C N ops ⟨some d, op, ty, ps, af, none⟩ s' ⟨upd s'.tm d (.lst row.es), s'.H, s'.nx⟩ := by
  rintro S0 w0 a w K Q hE ⟨σ, hσ⟩ hK
  have hi0 : Inv w.heap.size (Fr.of σ.S) w (fun _ => none) (pureSg σ.S) :=
    ⟨fun id => by simp [pureSg], fun id _ => ⟨rfl, fun b h => by simp [pureSg] at h⟩, fun b h => ⟨(hσ.inv.S_lt b h).1, .inl h⟩, fun b id h => by simp [pureSg] at h, fun id r h => by simp at h, fun id kt et es h => by simp at h, trivial⟩
  obtain ⟨v, w', σ', h1, h2, h3, h4, h5⟩ := stepA_sound (o := ⟨some d, op, ty, ps, af, none⟩) hC.T hC.eqT hi0 (Nat.le_refl _) rfl (fun x => pur_rep (hσ.ev x)) h
  rw [if_pos (by simp [Region.wanted])]
  refine Oper.wpIn_of_wp C.hF (stepA_nodefer h) ?_
  simp only [Oper.wp, Oper.upon, h1]
  have hv : viewA (putH (fun _ => none) 0 (some row)) (.ref 0 0 n) = some (.lst row.es) := by
    have hr : rowAt (putH (fun _ => none) 0 (some row)) 0 = some row := by simp [putH, rowAt, updH]
    unfold viewA
    rw [hr]
    simp only [Nat.zero_add]
    rw [if_pos ⟨hlo, by omega, hp⟩, List.drop_zero, List.take_of_length_le (by omega)]
  have hr := viewA_sound h4 (S' := (σ.more w.heap.size w'.heap.size).S) (fun b hb => by
    have := h4.S_lt b hb
    rcases this.2 with hq | hq
    · exact .inl hq
    · exact .inr ⟨hq, this.1⟩) _ _ _ hv (fun id _ b hb => .inr (h4.own_lt b id hb)) h5
  have hmore := hσ.inv.more hσ.size h2
  have hlem := hσ.inv.le_more h2
  exact hK _ _ ⟨_, hσ.put hN (s' := ⟨upd s'.tm d (.lst row.es), s'.H, s'.nx⟩) hmore hσ.nx hlem (h2.mono hσ.size) hr.lift rfl⟩
theorem D.buildL (hC : C.OK) (hN : d < N) (hi : i ∉ tg ∧ i ∈ mk) {n : Nat} {row : Row} (h : stepA C.T C.eqT (fun _ => none) (fun x => pur (s.ev x)) 0 op = some (.ref 0 0 n, some row)) (hp : row.es.all pureL = true) (hn : row.es.length = n) (hlo : row.lo ≤ n)
    (k : DW C N ops H0 b tg mk av Fin (i + 1) rest ⟨upd s.tm d (.lst row.es), s.H, s.nx⟩) :
    DW C N ops H0 b tg mk av Fin i (⟨some d, op, ty, ps, af, none⟩ :: rest) s := by
  refine ⟨.lst row.es, ⟨upd s.tm d (.lst row.es), s.H, s.nx⟩, rfl, ?_, k⟩
  rw [if_neg hi.1]
  refine ⟨none, rfl, rfl, .inl rfl, fun s' hx _ ht => ?_⟩
  exact one_buildL hC hN (stepA_mono (fun _ _ h => h) (fun x hx => congrArg pur (ev_congr ht x hx).symm) h) hp hn hlo
end
end Go.Pg
