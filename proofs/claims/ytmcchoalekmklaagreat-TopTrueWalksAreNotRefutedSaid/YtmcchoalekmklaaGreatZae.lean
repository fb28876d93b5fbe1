/-
  Contracts of functions, proved by going through their code. No conditions.
-/
import Derived.Test.YtmcchoalekmklaaGreatZad
set_option linter.unusedVariables false
set_option linter.unusedSimpArgs false
namespace Go.Pg
open Go Go.RowKit
mutual
def viewA (H : Nat → Option AO) : AV → Option AV
  | .ref id off n => match rowAt H id with
    | some r => if r.lo ≤ off + n ∧ off + n ≤ r.es.length ∧ r.es.all pureL = true then some (.lst ((r.es.drop off).take n)) else none
    | none => none
  | .ptr id i j tag => match rowAt H id with
    | some r => if r.lo ≤ tag ∧ i < r.es.length ∧ pureL (r.es.getD i []) = true then some (.iptr (r.es.getD i []) j) else none
    | none => none
  | .agg cs => (viewL H cs).map .agg
  | .tup cs => (viewL H cs).map .tup
  | .clo f cs => (viewL H cs).map (.clo f)
  | .bnd f cs => (viewL H cs).map (.bnd f)
  | .map _ => none
  | .v (.slice none 0 0) => some (.lst [])
  | x => some x
def viewL (H : Nat → Option AO) : List AV → Option (List AV)
  | [] => some []
  | c :: cs => match viewA H c, viewL H cs with
    | some d, some ds => some (d :: ds)
    | _, _ => none
end
mutual
def idsA : AV → List Nat
  | .ref id _ _ => [id]
  | .ptr id _ _ _ => [id]
  | .agg cs => idsL cs
  | .tup cs => idsL cs
  | .clo _ cs => idsL cs
  | .bnd _ cs => idsL cs
  | _ => []
def idsL : List AV → List Nat
  | [] => []
  | c :: cs => idsA c ++ idsL cs
end
mutual
def flatA : AV → Bool
  | .junk => true
  | .v _ => true
  | .agg cs => flatL cs
  | .tup cs => flatL cs
  | _ => false
def flatL : List AV → Bool
  | [] => true
  | c :: cs => flatA c && flatL cs
end
mutual
theorem Rep.flat {σ σ' : Sg} {w w' : World} : ∀ (c : AV) (u : Value), flatA c = true → Rep σ w c u → Rep σ' w' c u
  | .junk, _, _, _ => trivial
  | .v _, _, _, h => h
  | .agg cs, u, hp, h => by
    simp only [Rep] at h ⊢
    obtain ⟨arr, rfl, h1, h2, h3⟩ := h
    exact ⟨arr, rfl, h1, h2, RepL.flat cs _ (by simpa [flatA] using hp) h3⟩
  | .tup cs, u, hp, h => by
    simp only [Rep] at h ⊢
    obtain ⟨arr, rfl, h1, h3⟩ := h
    exact ⟨arr, rfl, h1, RepL.flat cs _ (by simpa [flatA] using hp) h3⟩
  | .lst es, u, hp, _ => by simp [flatA] at hp
  | .iptr e j, u, hp, _ => by simp [flatA] at hp
  | .ref id off n, _, hp, _ => by simp [flatA] at hp
  | .ptr id i j tag, _, hp, _ => by simp [flatA] at hp
  | .clo f cs, _, hp, _ => by simp [flatA] at hp
  | .bnd f cs, _, hp, _ => by simp [flatA] at hp
  | .map id, _, hp, _ => by simp [flatA] at hp
  | .lmap a b c, _, hp, _ => by simp [flatA] at hp
theorem RepL.flat {σ σ' : Sg} {w w' : World} : ∀ (cs : List AV) (f : Nat → Option Value), flatL cs = true → RepL σ w cs f → RepL σ' w' cs f
  | [], _, _, _ => trivial
  | c :: cs, f, hp, h => by
    simp only [RepL] at h ⊢
    simp only [flatL, Bool.and_eq_true] at hp
    obtain ⟨⟨u, hu, hr⟩, ht⟩ := h
    exact ⟨⟨u, hu, Rep.flat c u hp.1 hr⟩, RepL.flat cs _ hp.2 ht⟩
end
section
variable {B0 : Nat} {S0 : Fr} {S' : Nat → Prop} {w : World} {H : Nat → Option AO} {σ : Sg}
theorem Le.pure_mono {w : World} (h : ∀ b, σ.S b → S' b) : Le (pureSg σ.S) (pureSg S') w w := Le.pure_ h fun _ _ => rfl
mutual
theorem viewA_sound (hi : Inv B0 S0 w H σ) (hS : ∀ b, σ.S b → S' b) : ∀ (c : AV) (u : Value) (c' : AV), viewA H c = some c' → (∀ id ∈ idsA c, ∀ b, σ.own b = some id → S' b) → Rep σ w c u → Rep (pureSg S') w c' u
  | .junk, u, c', h, _, _ => by simp only [viewA, Option.some.injEq] at h; subst h; trivial
  | .v x, u, c', h, _, hr => by
    simp only [Rep] at hr; subst hr
    unfold viewA at h
    split at h <;> try contradiction
    · rename_i he
      injection he with he; subst he
      injection h with h; subst h
      simp only [Rep]
      exact ⟨none, 0, 0, rfl, by simp, by simp [maxLen], by simp, by simp⟩
    · injection h with h; subst h; rfl
  | .agg cs, u, c', h, hids, hr => by
    simp only [viewA, Option.map_eq_some_iff] at h
    obtain ⟨ds, hds, rfl⟩ := h
    simp only [Rep] at hr ⊢
    obtain ⟨arr, rfl, h1, h2, h3⟩ := hr
    obtain ⟨g1, g2, g3⟩ := viewL_sound hi hS cs _ ds hds (by simpa [idsA] using hids) h3
    exact ⟨arr, rfl, by rw [h1, g1], g2 h2, g3⟩
  | .tup cs, u, c', h, hids, hr => by
    simp only [viewA, Option.map_eq_some_iff] at h
    obtain ⟨ds, hds, rfl⟩ := h
    simp only [Rep] at hr ⊢
    obtain ⟨arr, rfl, h1, h3⟩ := hr
    obtain ⟨g1, g2, g3⟩ := viewL_sound hi hS cs _ ds hds (by simpa [idsA] using hids) h3
    exact ⟨arr, rfl, by rw [h1, g1], g3⟩
  | .clo f cs, u, c', h, hids, hr => by
    simp only [viewA, Option.map_eq_some_iff] at h
    obtain ⟨ds, hds, rfl⟩ := h
    simp only [Rep] at hr ⊢
    obtain ⟨arr, rfl, h1, h3⟩ := hr
    obtain ⟨g1, g2, g3⟩ := viewL_sound hi hS cs _ ds hds (by simpa [idsA] using hids) h3
    exact ⟨arr, rfl, by rw [h1, g1], g3⟩
  | .bnd f cs, u, c', h, hids, hr => by
    simp only [viewA, Option.map_eq_some_iff] at h
    obtain ⟨ds, hds, rfl⟩ := h
    simp only [Rep] at hr ⊢
    obtain ⟨arr, rfl, h1, h3⟩ := hr
    obtain ⟨g1, g2, g3⟩ := viewL_sound hi hS cs _ ds hds (by simpa [idsA] using hids) h3
    exact ⟨arr, rfl, by rw [h1, g1], g3⟩
  | .lst es, u, c', h, _, hr => by
    simp only [viewA, Option.some.injEq] at h; subst h
    exact Rep.mono (Le.pure_mono hS) _ _ (Rep.pure_ _ _ rfl hr)
  | .iptr e j, u, c', h, _, hr => by
    simp only [viewA, Option.some.injEq] at h; subst h
    exact Rep.mono (Le.pure_mono hS) _ _ (Rep.pure_ _ _ rfl hr)
  | .ref id off n, u, c', h, hids, hr => by
    simp only [viewA] at h
    split at h
    · rename_i r hrow
      split at h
      · rename_i hc
        obtain ⟨c1, c2, c3⟩ := hc
        injection h with h; subst h
        have hR := hi.row id r (rowAt_eq hrow)
        simp only [Rep] at hr ⊢
        obtain ⟨hal, A, cap, rfl, g1, g2, g3, g4⟩ := hr
        have hlen : ((r.es.drop off).take n).length = n := by simp; omega
        refine ⟨A, cap, r.k, by rw [hlen], by rw [hlen]; exact g1, g2, fun e he => hR.each e (List.mem_of_mem_drop (List.mem_of_mem_take he)), fun hne => ?_⟩
        have hn : n ≠ 0 := fun e => hne (List.eq_nil_of_length_eq_zero (by rw [hlen, e]))
        obtain ⟨b, rfl, hown, hext⟩ := g3 hn
        have hcur : σ.cur id = some b := by
          rcases (hR.own b hown).1 with h | h
          · exact h
          · omega
        refine ⟨b, off * σ.k id, rfl, hids id (by simp [idsA]) b hown, ?_⟩
        rw [repLL_iff]
        intro i hi'
        rw [hlen] at hi'
        have he : ((r.es.drop off).take n)[i] = r.es[off + i]'(by omega) := by simp
        rw [he]
        have hcon := hR.con b hcur (off + i) (by omega)
        have hp := List.all_eq_true.1 c3 _ (List.getElem_mem (show off + i < r.es.length by omega))
        refine RepL.mono (Le.pure_mono hS) _ _ _ (fun j v hv => ?_) (RepL.pure_ _ _ hp hcon)
        rw [← hv]
        congr 2
        rw [hR.k, Nat.add_mul]
      · cases h
    · cases h
  | .ptr id i j tag, u, c', h, hids, hr => by
    simp only [viewA] at h
    split at h
    · rename_i r hrow
      split at h
      · rename_i hc
        obtain ⟨c1, c2, c3⟩ := hc
        injection h with h; subst h
        have hR := hi.row id r (rowAt_eq hrow)
        simp only [Rep] at hr ⊢
        obtain ⟨b, rfl, hown, g1, g2⟩ := hr
        have hcur : σ.cur id = some b := by
          rcases (hR.own b hown).1 with h | h
          · exact h
          · omega
        have hg : r.es.getD i [] = r.es[i] := by rw [List.getD_eq_getElem?_getD, List.getElem?_eq_getElem c2, Option.getD_some]
        refine ⟨b, i * σ.k id, rfl, hids id (by simp [idsA]) b hown, ?_, ?_⟩
        · rw [hg]; exact (hR.each _ (List.getElem_mem _)).2
        · rw [hg] at c3 ⊢
          refine RepL.mono (Le.pure_mono hS) _ _ _ (fun j v hv => ?_) (RepL.pure_ _ _ c3 (hR.con b hcur i c2))
          rw [← hv, hR.k]
      · cases h
    · cases h
  | .map id, _, _, h, _, _ => by simp [viewA] at h
  | .lmap a b c, u, c', h, _, hr => by
    simp only [viewA, Option.some.injEq] at h; subst h
    exact Rep.mono (Le.pure_mono hS) _ _ (Rep.pure_ _ _ rfl hr)
theorem viewL_sound (hi : Inv B0 S0 w H σ) (hS : ∀ b, σ.S b → S' b) : ∀ (cs : List AV) (f : Nat → Option Value) (ds : List AV), viewL H cs = some ds → (∀ id ∈ idsL cs, ∀ b, σ.own b = some id → S' b) → RepL σ w cs f →
    cs.length = ds.length ∧ ((∀ c ∈ cs, c.cell = true) → ∀ c ∈ ds, c.cell = true) ∧ RepL (pureSg S') w ds f
  | [], f, ds, h, _, _ => by simp only [viewL, Option.some.injEq] at h; subst h; exact ⟨rfl, fun h => h, trivial⟩
  | c :: cs, f, ds, h, hids, hr => by
    simp only [viewL] at h
    split at h
    · rename_i d ds' h1 h2
      injection h with h; subst h
      simp only [RepL] at hr ⊢
      obtain ⟨⟨u, hu, hrc⟩, ht⟩ := hr
      obtain ⟨g1, g2, g3⟩ := viewL_sound hi hS cs _ ds' h2 (fun id hid => hids id (by simp [idsL, hid])) ht
      refine ⟨by simp [g1], fun hc => ?_, ⟨u, hu, viewA_sound hi hS c u d h1 (fun id hid => hids id (by simp [idsL, hid])) hrc⟩, g3⟩
      intro x hx
      simp only [List.mem_cons] at hx
      rcases hx with rfl | hx
      · have hcc := hc c (by simp)
        cases c <;> simp only [AV.cell] at hcc <;> try contradiction
        all_goals (unfold viewA at h1)
        · split at h1 <;> try contradiction
          · injection h1 with h1; subst h1; rfl
          · injection h1 with h1; subst h1; exact hcc
        · injection h1 with h1; subst h1; rfl
        · injection h1 with h1; subst h1; rfl
        · split at h1
          · split at h1
            · injection h1 with h1; subst h1; rfl
            · cases h1
          · cases h1
        · split at h1
          · split at h1
            · injection h1 with h1; subst h1; rfl
            · cases h1
          · cases h1
        · simp only [Option.map_eq_some_iff] at h1
          obtain ⟨_, _, rfl⟩ := h1; rfl
        · simp only [Option.map_eq_some_iff] at h1
          obtain ⟨_, _, rfl⟩ := h1; rfl
        · injection h1 with h1; subst h1; rfl
      · exact g2 (fun c hc' => hc c (by simp [hc'])) x hx
    · cases h
end
def frz (H : Nat → Option AO) (ids : List Nat) : Nat → Option AO := fun i =>
  if i ∈ ids then (match H i with | some (.row r) => some (.row { r with fro := true }) | o => o) else H i
def Sg.frz (σ : Sg) (ids : List Nat) : Sg := { σ with S := fun b => σ.S b ∨ ∃ id, id ∈ ids ∧ σ.own b = some id }
theorem Inv.le_frz (hi : Inv B0 S0 w H σ) (ids : List Nat) : Le σ (σ.frz ids) w w :=
  ⟨fun _ h => .inl h, fun _ _ => rfl, fun _ _ h => ⟨hi.al_of_own h, h, rfl, Nat.le_refl _⟩, fun _ h => h, fun _ _ => .inl ⟨rfl, rfl, fun _ _ => rfl⟩⟩
theorem Inv.frz (hi : Inv B0 S0 w H σ) {ids : List Nat} (hrow : ∀ id ∈ ids, ∃ r, rowAt H id = some r) : Inv B0 S0 w (frz H ids) (σ.frz ids) := by
  have hle := hi.le_frz ids
  refine ⟨fun id => ?_, fun id hn => ?_, fun b h => ?_, hi.own_lt, fun id r h => ?_, fun id kt et es h => ?_, S0.mono _ _ _ _ hle hi.fr⟩
  · rw [show (σ.frz ids).al id ↔ σ.al id from Iff.rfl, hi.al]
    unfold Pg.frz
    split
    · split <;> simp_all
    · rfl
  · refine hi.fresh id ?_
    unfold Pg.frz at hn
    split at hn
    · split at hn
      · cases hn
      · exact hn
    · exact hn
  · rcases h with h | ⟨id, _, h⟩
    · exact hi.S_lt b h
    · have := hi.own_lt b id h; exact ⟨this.2, .inr this.1⟩
  · unfold Pg.frz at h
    split at h
    · rename_i hin
      obtain ⟨r0, hr0⟩ := hrow id hin
      rw [rowAt_eq hr0] at h
      injection h with h; injection h with h; subst h
      have hr := hi.row id r0 (rowAt_eq hr0)
      exact ⟨hr.len, hr.k, hr.each, hr.lo, hr.cur, hr.empty, fun b ho => ⟨(hr.own b ho).1, (hr.own b ho).2.1, fun _ => .inr ⟨id, hin, ho⟩, fun h => (by cases h)⟩, fun b hc i h1 => RepL.mono hle _ _ _ (fun _ _ h => h) (hr.con b hc i h1)⟩
    · rename_i hin
      have hr := hi.row id r h
      refine ⟨hr.len, hr.k, hr.each, hr.lo, hr.cur, hr.empty, fun b ho => ⟨(hr.own b ho).1, (hr.own b ho).2.1, fun h => .inl ((hr.own b ho).2.2.1 h), fun h => ?_⟩, fun b hc i h1 => RepL.mono hle _ _ _ (fun _ _ h => h) (hr.con b hc i h1)⟩
      rintro (h' | ⟨id', hid', ho'⟩)
      · exact (hr.own b ho).2.2.2 h h'
      · have ho2 : σ.own b = some id := ho
        rw [ho2] at ho'; injection ho' with ho'; subst ho'; exact hin hid'
  · have hH : H id = some (.mp kt et es) ∧ id ∉ ids := by
      unfold Pg.frz at h
      split at h
      · rename_i hin
        obtain ⟨r0, hr0⟩ := hrow id hin
        rw [rowAt_eq hr0] at h; cases h
      · rename_i hin; exact ⟨h, hin⟩
    have hm := hi.mp id kt et es hH.1
    obtain ⟨b, clock, xs, a1, a2, a3, a4, a5, a6⟩ := hm.cur
    refine ⟨hm.len, ⟨b, clock, xs, a1, a2, ⟨fun hl => ?_, fun hl => .inl (a3.2 hl)⟩, a4, a5, RepL.mono hle _ _ _ (fun _ _ h => h) a6⟩, hm.one⟩
    rintro (h' | ⟨id', hid', ho'⟩)
    · exact a3.1 hl h'
    · rw [a2] at ho'; injection ho' with ho'; subst ho'; exact hH.2 hid'
end
def Enters (P : Program) (f : FuncId) : Prop := ∃ fn, P.funcs[f]? = some fn ∧ (fn.name == "runtime.NumGoroutine") = false ∧ fn.body.isNone = false
def OKat (C : Cx) (f : FuncId) (args : List AV) (Q : AV → Prop) : Prop :=
  Enters C.P f ∧ ∀ (w : World) (S : Nat → Prop) (vals : Array Value), C.E w → (∀ b, S b → b < w.heap.size) → vals.size = args.length → RepL (pureSg S) w args (fun i => vals[i]?) →
    Calls C.P f vals w fun e w' => Below w.heap.size w w' ∧ ∃ v r, e = .returned v ∧ Q r ∧ Rep (pureSg fun b => S b ∨ (w.heap.size ≤ b ∧ b < w'.heap.size)) w' r v
def OKv (C : Cx) (f : FuncId) (args : List AV) (R : AV) : Prop := OKat C f args (· = R)
def afterH (H : Nat → Option AO) (ids : List Nat) (r : AV) : Nat → Option AO := if flatA r then H else (if ids.isEmpty then H else frz H ids)
mutual
theorem idsA_row {H : Nat → Option AO} : ∀ (c c' : AV), viewA H c = some c' → ∀ id ∈ idsA c, ∃ r, rowAt H id = some r
  | .junk, c', _, id, hid => by simp [idsA] at hid
  | .v x, c', _, id, hid => by simp [idsA] at hid
  | .lst es, c', _, id, hid => by simp [idsA] at hid
  | .iptr e j, c', _, id, hid => by simp [idsA] at hid
  | .map i, c', _, id, hid => by simp [idsA] at hid
  | .lmap a b c, c', _, id, hid => by simp [idsA] at hid
  | .agg cs, c', h, id, hid => by
    simp only [viewA, Option.map_eq_some_iff] at h; obtain ⟨ds, hds, _⟩ := h; exact idsL_row cs ds hds id (by simpa [idsA] using hid)
  | .tup cs, c', h, id, hid => by
    simp only [viewA, Option.map_eq_some_iff] at h; obtain ⟨ds, hds, _⟩ := h; exact idsL_row cs ds hds id (by simpa [idsA] using hid)
  | .clo f cs, c', h, id, hid => by
    simp only [viewA, Option.map_eq_some_iff] at h; obtain ⟨ds, hds, _⟩ := h; exact idsL_row cs ds hds id (by simpa [idsA] using hid)
  | .bnd f cs, c', h, id, hid => by
    simp only [viewA, Option.map_eq_some_iff] at h; obtain ⟨ds, hds, _⟩ := h; exact idsL_row cs ds hds id (by simpa [idsA] using hid)
  | .ref i off n, c', h, id, hid => by
    simp only [idsA, List.mem_singleton] at hid; subst hid
    simp only [viewA] at h
    split at h
    · rename_i r hr; exact ⟨r, hr⟩
    · cases h
  | .ptr i a b t, c', h, id, hid => by
    simp only [idsA, List.mem_singleton] at hid; subst hid
    simp only [viewA] at h
    split at h
    · rename_i r hr; exact ⟨r, hr⟩
    · cases h
theorem idsL_row {H : Nat → Option AO} : ∀ (cs ds : List AV), viewL H cs = some ds → ∀ id ∈ idsL cs, ∃ r, rowAt H id = some r
  | [], ds, _, id, hid => by simp [idsL] at hid
  | c :: cs, ds, h, id, hid => by
    simp only [viewL] at h
    split at h
    · rename_i d ds' h1 h2
      simp only [idsL, List.mem_append] at hid
      rcases hid with hid | hid
      · exact idsA_row c d h1 id hid
      · exact idsL_row cs ds' h2 id hid
    · cases h
end
section
variable {C : Cx} {N : Nat} {Q : Exit → St → Prop} {s : St} {ops : Array Oper} {rest : List Oper} {o : Oper}
def St.back (s : St) (d : Nat) (r : AV) (ids : List Nat) : St := { tm := upd s.tm d r, H := afterH s.H ids r, nx := s.nx }
theorem afterH_none {H : Nat → Option AO} {ids : List Nat} {r : AV} {i : Nat} (h : H i = none) : afterH H ids r i = none := by
  unfold afterH
  split
  · exact h
  · split
    · exact h
    · unfold frz
      split
      · rw [h]
      · exact h
theorem AWL.call (hC : C.OK) (hg : o.guard = none) {d : Nat} (hd : o.dst = some d) (hN : d < N) {fo : Operand} {args : Array Operand} {tys : Array TypeId} (ho : o.op = .call { callee := .value fo, args := args, argTypes := tys })
    {f : FuncId} {caps vs : List AV} (hf : s.ev fo = .clo f caps) (hv : viewL s.H (evsA args.toList s.ev ++ caps) = some vs) {Qr : AV → Prop} (hok : OKat C f vs Qr)
    (k : ∀ r, Qr r → AWL C N ops Q rest (s.back d r (idsL (evsA args.toList s.ev ++ caps)))) : AWL C N ops Q (o :: rest) s := by
  rintro S0 w0 a w hE ⟨σ, hσ⟩
  obtain ⟨⟨fn, hfn, hname, hbody⟩, hcall⟩ := hok
  have hfo := hσ.ev fo
  rw [hf] at hfo
  simp only [Rep] at hfo
  obtain ⟨ca, hca, hcs, hcr⟩ := hfo
  let ids := idsL (evsA args.toList s.ev ++ caps)
  let S' : Nat → Prop := fun b => σ.S b ∨ ∃ id, id ∈ ids ∧ σ.own b = some id
  have hargs : RepL σ w (evsA args.toList s.ev ++ caps) (fun i => ((args.map a.eval) ++ ca)[i]?) := by
    have h1 := repL_evs (σ := σ) (w := w) (fun x => hσ.ev x) args
    rw [repL_iff'] at h1 hcr ⊢
    intro i c hc
    rw [List.getElem?_append] at hc
    rw [Array.getElem?_append]
    have hl : (evsA args.toList s.ev).length = (args.map a.eval).size := by simp [evsA_map]
    rw [hl] at hc
    split at hc
    · rename_i hi; rw [if_pos hi]; exact h1 i c hc
    · rename_i hi; rw [if_neg hi]; exact hcr _ c hc
  obtain ⟨g1, _, g3⟩ := viewL_sound hσ.inv (S' := S') (fun b h => .inl h) _ _ vs hv (fun id hid b hb => .inr ⟨id, hid, hb⟩) hargs
  have hEw : C.E w := hC.E _ _ hσ.below hE
  have hS' : ∀ b, S' b → b < w.heap.size := fun b h => by
    rcases h with h | ⟨id, _, h⟩
    · exact (hσ.inv.S_lt b h).1
    · exact (hσ.inv.own_lt b id h).2
  have hsz : ((args.map a.eval) ++ ca).size = vs.length := by rw [← g1]; simp [evsA_map, hcs]
  have hc := hcall w S' ((args.map a.eval) ++ ca) hEw hS' hsz g3
  refine wpListIn_plain hg fun K hK => Oper.wpIn_of_wp C.hF (fun c e => by rw [ho] at e; cases e) ?_
  have hexec : (execOp a.eval o).run C.P w = .ok (.enter f ((args.map a.eval) ++ ca)) w := by
    have hb : (fn.name == "runtime.NumGoroutine") ≠ true := by simp [hname]
    simp only [execOp, ho, resolve, hca, Deferred.ofValue, Sem.run_bind, Sem.run_pure, Result.andThen_ok, invoke, callFunc, run_program, hfn, if_neg hb, hbody, Bool.false_eq_true, if_false]
    simp
  simp only [Oper.wp, hexec, Oper.upon]
  refine hc.mono ?_
  rintro e w' ⟨hb, v, r, rfl, hQ, hr⟩
  dsimp only
  rw [hd]
  refine hK _ _ (k r hQ S0 w0 _ w' hE ?_)
  have hbel : Below w0.heap.size w w' := hb.mono hσ.size
  have hmore := hσ.inv.more hσ.size hb
  have hlem := hσ.inv.le_more hb
  have hnx : ∀ id, (s.back d r ids).nx ≤ id → (s.back d r ids).H id = none := fun id h => afterH_none (hσ.nx id h)
  by_cases hfl : flatA r = true
  · refine ⟨_, hσ.put hN (s' := s.back d r ids) ?_ hnx hlem hbel (Rep.flat r v hfl hr) rfl⟩
    simp only [St.back, afterH, hfl, if_true]
    exact hmore
  · by_cases hem : ids.isEmpty = true
    · refine ⟨_, hσ.put hN (s' := s.back d r ids) ?_ hnx hlem hbel ?_ rfl⟩
      · simp only [St.back, afterH, hfl, hem, if_true, Bool.false_eq_true, if_false]
        exact hmore
      · have he : ids = [] := by simpa using hem
        have : S' = σ.S := by funext b; simp [S', he]
        rw [this] at hr
        exact hr.lift
    · have hrow : ∀ id ∈ ids, ∃ r, rowAt s.H id = some r := idsL_row _ _ hv
      have hfr := hmore.frz hrow
      have hlf := hmore.le_frz ids
      have hle2 : Le σ ((σ.more w.heap.size w'.heap.size).frz ids) w w' := by
        refine ⟨fun b h => .inl (.inl h), hlem.heap, fun b id h => ?_, hlem.al, hlem.obj⟩
        exact hlem.own b id h
      refine ⟨_, hσ.put hN (s' := s.back d r ids) (σ' := (σ.more w.heap.size w'.heap.size).frz ids) ?_ hnx hle2 hbel ?_ rfl⟩
      · simp only [St.back, afterH, hfl, hem, Bool.false_eq_true, if_false]
        exact hfr
      · refine (Rep.mono (Le.pure_ (fun b h => ?_) (fun _ _ => rfl)) _ _ hr).lift
        rcases h with (h | ⟨id, h1, h2⟩) | h
        · exact .inl (.inl h)
        · exact .inr ⟨id, h1, h2⟩
        · exact .inl (.inr h)
end
end Go.Pg

namespace Go.Pg
open Go Go.RowKit
section
variable {B0 : Nat} {S0 : Fr} {w w' : World} {H : Nat → Option AO} {σ : Sg}
def Sg.renew (σ : Sg) (g id n cap : Nat) : Sg :=
  { σ with own := fun x => if x = g then some id else σ.own x, ext := fun x => if x = g then n else σ.ext x, cur := fun i => if i = id then some g else σ.cur i, len := fun i => if i = id then n else σ.len i, cap := fun x => if x = g then cap else σ.cap x }
theorem Inv.renew (hi : Inv B0 S0 w H σ) {id : Nat} {r r' : Row} (hH : H id = some (.row r)) (hk : r'.k = r.k) (hf : r.fro = false) (hf' : r'.fro = false) {g cap : Nat} {arr : Array Value}
    (hg : σ.cur id = some g ∨ (w.heap.size ≤ g ∧ B0 ≤ g)) (hgw : w'.heap[g]? = some (.cells arr r'.ty (0, 0))) (hsz : w.heap.size ≤ w'.heap.size)
    (hother : ∀ k, k < w.heap.size → σ.cur id ≠ some k → k ≠ g → w'.heap[k]? = w.heap[k]?)
    (hgrow : (r.es.length < r'.es.length ∧ r'.lo = r'.es.length) ∨ (r'.es.length = r.es.length ∧ r'.lo = r.lo ∧ σ.cur id = some g ∧ σ.cap g = cap))
    (hcap : r'.es.length ≤ cap) (hmax : cap ≤ maxLen) (harr : arr.size = cap * r'.k) (each : ∀ e ∈ r'.es, e.length = r'.k ∧ ∀ c ∈ e, c.cell = true)
    (hcon : ∀ i (h : i < r'.es.length), RepL σ w r'.es[i] (fun j => arr[i * r'.k + j]?)) :
    Le σ (σ.renew g id r'.es.length cap) w w' ∧ Inv B0 S0 w' (updH H id (.row r')) (σ.renew g id r'.es.length cap) := by
  have hR := hi.row id r hH
  have hgS : ¬ σ.S g := by
    rcases hg with h | ⟨h, _⟩
    · exact (hR.own g (hR.cur g h).1).2.2.2 hf
    · intro h'; have := (hi.S_lt g h').1; omega
  have hcS : ∀ k, σ.cur id = some k → ¬ σ.S k := fun k h => (hR.own k (hR.cur k h).1).2.2.2 hf
  have hgo : ∀ i, σ.own g = some i → i = id := fun i h => by
    rcases hg with h' | ⟨h', _⟩
    · have := (hR.cur g h').1; rw [this] at h; injection h with h; exact h.symm
    · have := (hi.own_lt g i h).2; omega
  have hgB : B0 ≤ g ∧ g < w'.heap.size := by
    refine ⟨?_, (Array.getElem?_eq_some_iff.1 hgw).1⟩
    rcases hg with h | ⟨_, h⟩
    · exact (hi.own_lt g id (hR.cur g h).1).1
    · exact h
  have hS' : ∀ k, σ.S k → w'.heap[k]? = w.heap[k]? := fun k h => hother k (hi.S_lt k h).1 (fun e => hcS k e h) (fun e => hgS (e ▸ h))
  have hal : σ.al id := by rw [hi.al, hH]; simp
  have hle : Le σ (σ.renew g id r'.es.length cap) w w' := by
    refine ⟨fun _ h => h, hS', fun b i h => ⟨hi.al_of_own h, ?_, rfl, ?_⟩, fun _ h => h, fun i ha => ?_⟩
    · simp only [Sg.renew]
      split
      · rename_i e; rw [hgo i (e ▸ h)]
      · exact h
    · simp only [Sg.renew]
      split
      · rename_i e; subst e
        have := hgo i h; subst this
        have := (hR.own b h).2.1
        rcases hgrow with ⟨h1, _⟩ | ⟨h1, _⟩ <;> omega
      · exact Nat.le_refl _
    · by_cases e : i = id
      · subst e
        rcases hgrow with ⟨h1, _⟩ | ⟨h1, _, h2, h3⟩
        · right
          refine ⟨by simp only [Sg.renew, if_true]; rw [hR.len]; exact h1, fun b hb => by rw [hR.len]; exact (hR.own b hb).2.1⟩
        · left
          refine ⟨by simp only [Sg.renew, if_true]; rw [hR.len, h1], by simp only [Sg.renew, if_true]; rw [h2], fun b hb => ?_⟩
          rw [h2] at hb; injection hb with hb; subst hb
          simp only [Sg.renew, if_true]; exact h3.symm
      · left
        refine ⟨by simp only [Sg.renew]; rw [if_neg e], by simp only [Sg.renew]; rw [if_neg e], fun b hb => ?_⟩
        have hbg : b ≠ g := by
          intro hbg; subst hbg
          cases ho : H i with
          | none => exact (hi.al i).1 ha ho
          | some o =>
            cases o with
            | row r2 => exact e (hgo i ((hi.row i r2 ho).cur b hb).1)
            | mp kt et es =>
              obtain ⟨b', _, _, a1, a2, _⟩ := (hi.mp i kt et es ho).cur
              rw [a1] at hb; injection hb with hb; subst hb
              exact e (hgo i a2)
        simp only [Sg.renew]; rw [if_neg hbg]
  refine ⟨hle, ?_⟩
  refine ⟨fun i => ?_, fun i hn => ?_, fun b h => ⟨Nat.lt_of_lt_of_le (hi.S_lt b h).1 hsz, (hi.S_lt b h).2⟩, fun b i h => ?_, fun i r2 h => ?_, fun i kt et es h => ?_, S0.mono _ _ _ _ hle hi.fr⟩
  · simp only [Sg.renew, updH]
    by_cases e : i = id
    · subst e; simp [hal]
    · simp [e, hi.al]
  · simp only [updH] at hn
    have e : i ≠ id := fun e => by simp [e] at hn
    rw [if_neg e] at hn
    obtain ⟨h1, h2⟩ := hi.fresh i hn
    refine ⟨by simp only [Sg.renew]; rw [if_neg e]; exact h1, fun b hb => ?_⟩
    simp only [Sg.renew] at hb
    split at hb
    · injection hb with hb; exact e hb.symm
    · exact h2 b hb
  · simp only [Sg.renew] at h
    split at h
    · subst b; exact hgB
    · have := hi.own_lt b i h; exact ⟨this.1, by omega⟩
  · simp only [updH] at h
    by_cases e : i = id
    · subst e
      rw [if_pos rfl] at h; injection h with h; injection h with h; subst h
      refine ⟨by simp [Sg.renew], by simp only [Sg.renew]; rw [hk]; exact hR.k, each, ?_, fun b hb => ?_, fun hc => by simp [Sg.renew] at hc, fun b hb => ?_, fun b hb j h1 => ?_⟩
      · rcases hgrow with ⟨_, h2⟩ | ⟨h1, h2, _⟩
        · omega
        · rw [h1, h2]; exact hR.lo
      · simp only [Sg.renew, if_true] at hb; injection hb with hb; subst hb
        exact ⟨by simp [Sg.renew], by simp [Sg.renew], by simpa [Sg.renew] using hcap, by simpa [Sg.renew] using hmax, arr, hgw, by simpa [Sg.renew] using harr⟩
      · by_cases hbg : b = g
        · subst hbg
          exact ⟨.inl (by simp [Sg.renew]), by simp [Sg.renew], fun h => (by rw [hf'] at h; cases h), fun _ => hgS⟩
        · have hb' : σ.own b = some i := by simp only [Sg.renew] at hb; rw [if_neg hbg] at hb; exact hb
          have ho := hR.own b hb'
          have hx : (σ.renew g i r'.es.length cap).ext b = σ.ext b := by simp only [Sg.renew]; rw [if_neg hbg]
          rw [hx]
          rcases hgrow with ⟨h1, h2⟩ | ⟨h1, h2, h3, _⟩
          · exact ⟨.inr (by omega), by omega, fun h => (by rw [hf'] at h; cases h), fun _ => ho.2.2.2 hf⟩
          · refine ⟨.inr ?_, by omega, fun h => (by rw [hf'] at h; cases h), fun _ => ho.2.2.2 hf⟩
            rcases ho.1 with h | h
            · rw [h3] at h; injection h with h; exact absurd h.symm hbg
            · omega
      · simp only [Sg.renew, if_true] at hb; injection hb with hb; subst hb
        refine RepL.mono hle _ _ _ (fun m u hu => ?_) (hcon j h1)
        simp only [World.cell?, hgw]
        exact hu
    · rw [if_neg e] at h
      have hr := hi.row i r2 h
      have hown : ∀ b, (σ.renew g id r'.es.length cap).own b = some i → σ.own b = some i ∧ b ≠ g := fun b hb => by
        simp only [Sg.renew] at hb
        split at hb
        · injection hb with hb; exact absurd hb.symm e
        · exact ⟨hb, by assumption⟩
      have hne : ∀ b, σ.own b = some i → b ≠ g := fun b hb hbg => e (hgo i (hbg ▸ hb))
      have hheap : ∀ b, σ.own b = some i → w'.heap[b]? = w.heap[b]? := fun b hb => hother b (hi.own_lt b i hb).2 (fun hc => by
        have := (hR.cur b hc).1; rw [hb] at this; injection this with this; exact e this) (hne b hb)
      have hx : ∀ b, b ≠ g → (σ.renew g id r'.es.length cap).ext b = σ.ext b := fun b hb => by simp only [Sg.renew]; rw [if_neg hb]
      have hcx : (σ.renew g id r'.es.length cap).cur i = σ.cur i := by simp only [Sg.renew]; rw [if_neg e]
      have hax : ∀ b, b ≠ g → (σ.renew g id r'.es.length cap).cap b = σ.cap b := fun b hb => by simp only [Sg.renew]; rw [if_neg hb]
      refine ⟨by simp only [Sg.renew]; rw [if_neg e]; exact hr.len, hr.k, hr.each, hr.lo, fun b hb => ?_, fun hc => hr.empty (by rw [← hcx]; exact hc), fun b hb => ?_, fun b hb j h1 => ?_⟩
      · rw [hcx] at hb
        obtain ⟨a1, a2, a3, a4, ar, a5, a6⟩ := hr.cur b hb
        have hn := hne b a1
        exact ⟨by simp only [Sg.renew]; rw [if_neg hn]; exact a1, by rw [hx b hn]; exact a2, by rw [hax b hn]; exact a3, by rw [hax b hn]; exact a4, ar, (hheap b a1).trans a5, by rw [hax b hn]; exact a6⟩
      · obtain ⟨h1, h2⟩ := hown b hb
        rw [hx b h2, hcx]; exact hr.own b h1
      · rw [hcx] at hb
        refine RepL.mono hle _ _ _ (fun m u hu => ?_) (hr.con b hb j h1)
        rw [cell_of_heap (w := w) (hheap b (hr.cur b hb).1)]; exact hu
  · simp only [updH] at h
    by_cases e : i = id
    · subst e; simp at h
    · rw [if_neg e] at h
      have hm := hi.mp i kt et es h
      obtain ⟨b, clock, xs, a1, a2, a3, a4, a5, a6⟩ := hm.cur
      have hbg : b ≠ g := fun hbg => e (hgo i (hbg ▸ a2))
      have hhb : w'.heap[b]? = w.heap[b]? := hother b (hi.own_lt b i a2).2 (fun hc => by
        have := (hR.cur b hc).1; rw [a2] at this; injection this with this; exact e this) hbg
      refine ⟨by simp only [Sg.renew]; rw [if_neg e]; exact hm.len, ⟨b, clock, xs, by simp only [Sg.renew]; rw [if_neg e]; exact a1, by simp only [Sg.renew]; rw [if_neg hbg]; exact a2, a3, hhb.trans a4, a5, RepL.mono hle _ _ _ (fun _ _ h => h) a6⟩, fun b hb => ?_⟩
      simp only [Sg.renew] at hb
      split at hb
      · injection hb with hb; exact absurd hb.symm e
      · rename_i hne
        obtain ⟨h1, h2⟩ := hm.one b hb
        exact ⟨by simp only [Sg.renew]; rw [if_neg e]; exact h1, by simp only [Sg.renew]; rw [if_neg hne]; exact h2⟩
end
def storeA (T : TypeId → Option Ty) (H : Nat → Option AO) (t : TypeId) (p x : AV) : Option (Nat × Row) :=
  match T t, p, cellsA x with
  | some y, .ptr id i j tag, some cs => match rowAt H id with
    | some r => if cs.length = y.size ∧ r.lo ≤ tag ∧ r.fro = false ∧ i < r.es.length ∧ j + y.size ≤ r.k then some (id, { r with es := r.es.set i (spliceL (r.es.getD i []) j cs) }) else none
    | none => none
  | _, _, _ => none
section
variable {C : Cx} {N : Nat} {Q : Exit → St → Prop} {s : St} {ops : Array Oper} {rest : List Oper} {o : Oper}
theorem AWL.store (hC : C.OK) (hg : o.guard = none) (hd : o.dst = none) {t : TypeId} {p x : Operand} (ho : o.op = .store t p x) {id : Nat} {r : Row} (h : storeA C.T s.H t (s.ev p) (s.ev x) = some (id, r))
    (k : AWL C N ops Q rest { s with H := updH s.H id (.row r) }) : AWL C N ops Q (o :: rest) s := by
  rintro S0 w0 a w hE ⟨σ, hσ⟩
  unfold storeA at h
  split at h
  · rename_i y id' i j tag cs hy hp hcs
    split at h
    · rename_i r0 hrow
      split at h
      · rename_i hc
        obtain ⟨c1, c2, c3, c4, c5⟩ := hc
        injection h with h; injection h with h1 h2; subst h1; subst h2
        have hpv := hσ.ev p
        rw [hp] at hpv
        simp only [Rep] at hpv
        obtain ⟨b, hpv, hown, g1, g2⟩ := hpv
        obtain ⟨e1, e2, e3, e4⟩ := cellsA_spec hcs (hσ.ev x)
        have hH := rowAt_eq hrow
        have hR := hσ.inv.row id' r0 hH
        have hcur : σ.cur id' = some b := by
          rcases (hR.own b hown).1 with h | h
          · exact h
          · omega
        obtain ⟨a1, a2, a3, a4, arr, a5, a6⟩ := hR.cur b hcur
        have hf := hC.T t y hy
        have hgd : r0.es.getD i [] = r0.es[i] := by rw [List.getD_eq_getElem?_getD, List.getElem?_eq_getElem c4, Option.getD_some]
        have hel : (r0.es[i]).length = r0.k := (hR.each _ (List.getElem_mem c4)).1
        have hik : i * r0.k + r0.k ≤ arr.size := by
          rw [a6]
          have : (i + 1) * r0.k ≤ σ.cap b * r0.k := Nat.mul_le_mul_right _ (by omega)
          rw [Nat.add_mul] at this; omega
        have hvl : (a.eval x).cells.toList.length = y.size := by rw [Array.length_toList, e1, c1]
        have hst := run_storeCells_at (P := C.P) b (i * r0.k + j) r0.ty (a.eval x).cells.toList 0 arr w a5 (by rw [hvl]; omega) e4
        simp only [Nat.add_zero] at hst
        generalize hnew : (arr.toList.take (i * r0.k + j) ++ (a.eval x).cells.toList ++ arr.toList.drop (i * r0.k + j + (a.eval x).cells.toList.length)).toArray = arr' at hst
        have hget : ∀ m, arr'[m]? = if i * r0.k + j ≤ m ∧ m < i * r0.k + j + y.size then (a.eval x).cells[m - (i * r0.k + j)]? else arr[m]? := by
          intro m
          rw [← hnew, List.getElem?_toArray, List.append_assoc, List.getElem?_append]
          have ht : (arr.toList.take (i * r0.k + j)).length = i * r0.k + j := by simp; omega
          rw [ht]
          by_cases h1 : m < i * r0.k + j
          · rw [if_pos h1, if_neg (by omega), List.getElem?_take, if_pos h1, Array.getElem?_toList]
          · rw [if_neg h1, List.getElem?_append, hvl]
            by_cases h2 : m < i * r0.k + j + y.size
            · rw [if_pos (by omega), if_pos (by omega), Array.getElem?_toList]
            · rw [if_neg (by omega), if_neg (by omega), List.getElem?_drop, Array.getElem?_toList]
              congr 1; omega
        have hsz' : arr'.size = arr.size := by rw [← hnew]; simp [hvl]; omega
        have hrun : (execOp a.eval o).run C.P w = .ok .skip (w.setRow b arr') := by
          simp only [execOp, ho, Instr.storeAt, Instr.sureAddr, hpv, storeVar, Sem.run_bind, Sem.run_pure, Result.andThen_ok, hf.run_size]
          rw [if_neg (by rw [e1, c1]; simp)]
          rw [hR.k]
          simp only [Sem.run_bind, Sem.run_pure, Result.andThen_ok, hst]
        have hlen : (r0.es.set i (spliceL (r0.es.getD i []) j cs)).length = r0.es.length := by simp
        have hrn := hσ.inv.renew (w' := w.setRow b arr') (r' := { r0 with es := r0.es.set i (spliceL (r0.es.getD i []) j cs) }) (g := b) (cap := σ.cap b) (arr := arr') hH rfl c3 c3 (.inl hcur) (setRow_heap w b arr arr' r0.ty (0, 0) a5)
          (by simp [World.setRow]) (fun k' _ _ hk => setRow_other w b k' arr' hk) (.inr ⟨hlen, rfl, hcur, rfl⟩) (by rw [hlen]; exact a3) a4 (by rw [hsz']; exact a6)
          (fun e he => by
            rcases List.mem_or_eq_of_mem_set he with he | rfl
            · exact hR.each e he
            · rw [hgd]
              refine ⟨by simp [spliceL, hel]; omega, fun c hc => ?_⟩
              simp only [spliceL, List.mem_append] at hc
              rcases hc with (hc | hc) | hc
              · exact (hR.each _ (List.getElem_mem c4)).2 c (List.mem_of_mem_take hc)
              · exact e2 c hc
              · exact (hR.each _ (List.getElem_mem c4)).2 c (List.mem_of_mem_drop hc))
          (fun m hm => by
            simp only [List.length_set] at hm
            have hold := hR.con b hcur m hm
            have hcell : ∀ q, w.cell? ⟨b, m * r0.k + q, none⟩ = arr[m * r0.k + q]? := fun q => cell_of_row w b _ arr r0.ty (0, 0) a5
            simp only [List.getElem_set]
            split
            · rename_i hmi
              subst hmi
              rw [hgd]
              rw [repL_iff'] at hold e3 ⊢
              intro q c hc
              rw [spliceL_get _ _ _ (by rw [hel, c1]; exact c5)] at hc
              rw [hget]
              split at hc
              · rename_i hq
                obtain ⟨u, hu, hr⟩ := e3 _ c hc
                refine ⟨u, ?_, hr⟩
                rw [if_pos (by omega), ← hu]
                congr 1; omega
              · rename_i hq
                obtain ⟨u, hu, hr⟩ := hold _ c hc
                refine ⟨u, ?_, hr⟩
                rw [if_neg (by omega), ← hcell]; exact hu
            · rename_i hmi
              refine RepL.congr (fun q hq => ?_) hold
              rw [(hR.each _ (List.getElem_mem hm)).1] at hq
              rw [hcell, hget, if_neg]
              intro ⟨b1, b2⟩
              rcases Nat.lt_or_gt_of_ne hmi with hlt | hgt
              · have : (i + 1) * r0.k ≤ m * r0.k := Nat.mul_le_mul_right _ hlt
                rw [Nat.add_mul] at this; omega
              · have : (m + 1) * r0.k ≤ i * r0.k := Nat.mul_le_mul_right _ hgt
                rw [Nat.add_mul] at this; omega)
        refine wpListIn_plain hg fun K hK => Oper.wpIn_of_wp C.hF (fun c e => by rw [ho] at e; cases e) ?_
        simp only [Oper.wp, hrun, Oper.upon, hd]
        refine hK _ _ (k S0 w0 _ _ hE ⟨σ.renew b id' (r0.es.set i (spliceL (r0.es.getD i []) j cs)).length (σ.cap b), ?_⟩)
        refine ⟨hrn.2, fun i' hi' => ?_, fun t' => Rep.mono hrn.1 _ _ (hσ.tm t'), hσ.N, hσ.d, hσ.below.trans ⟨rfl, rfl, rfl, by simp [World.setRow], fun k' hk' => setRow_other w b k' arr' (by have := (hσ.inv.own_lt b id' hown).1; omega)⟩⟩
        simp only [updH]
        split
        · rename_i e; subst e; rw [hσ.nx i' hi'] at hH; cases hH
        · exact hσ.nx i' hi'
      · cases h
    · cases h
  · cases h
end
end Go.Pg
