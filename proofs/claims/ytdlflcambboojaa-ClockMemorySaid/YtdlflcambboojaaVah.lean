/-
  Contracts of functions, proved by going through their code. No conditions.
-/
import Derived.Test.YtdlflcambboojaaVaa
import Derived.Test.YtdlflcambboojaaVag
set_option linter.unusedVariables false
set_option linter.unusedSimpArgs false
namespace Go.Pg
open Go Go.RowKit
section
variable {C : Cx} {N : Nat} {Q : Exit → St → Prop} {s : St} {l : List Oper}
theorem Sim.grow {S0 : Fr} {w0 w : World} {a : Act} {s s' : St} (h : Sim S0 w0 N a w s) {w' : World} (hb : Below w.heap.size w w') (h1 : s'.tm = s.tm) (h2 : s'.H = s.H) (h3 : s.nx ≤ s'.nx) : Sim S0 w0 N a w' s' := by
  obtain ⟨σ, hσ⟩ := h
  have hm := hσ.inv.more hσ.size hb
  have hl := hσ.inv.le_more hb
  exact ⟨_, ⟨by rw [h2]; exact hm, fun id hid => by rw [h2]; exact hσ.nx id (Nat.le_trans h3 hid), fun t => by rw [h1]; exact Rep.mono hl _ _ (hσ.tm t), hσ.N, hσ.d, hσ.below.trans (hb.mono hσ.size)⟩⟩
theorem mem_ready {listed : Array Bool} {i : Nat} (hn : listed.size = l.length) :
    i ∈ Region.ready .any l.toArray listed ↔ ∃ o, l[i]? = some o ∧ listed.getD i false = false ∧ ∀ j ∈ bnd o, listed.getD j false = true := by
  unfold Region.ready
  simp only [List.mem_filter, List.mem_range, List.size_toArray, Bool.and_eq_true, Bool.not_eq_true']
  constructor
  · rintro ⟨h1, h2, h3⟩
    have hg : l.toArray[i]? = some l[i] := by simp [h1]
    rw [hg] at h3
    simp only [Option.map_some, Option.getD_some, Array.all_eq_true, Bool.or_eq_true, Bool.not_eq_true'] at h3
    refine ⟨l[i], by simp [h1], ?_, fun j hj => ?_⟩
    · rw [Array.getD_eq_getD_getElem?] at h2 ⊢
      rw [Array.getElem?_eq_getElem (by omega)] at h2 ⊢
      exact h2
    · unfold bnd at hj
      simp only [List.mem_map, List.mem_filter, Array.mem_toList_iff] at hj
      obtain ⟨e, ⟨he, hbe⟩, rfl⟩ := hj
      obtain ⟨k, hk, rfl⟩ := Array.mem_iff_getElem.1 he
      rcases h3 k hk with h | h
      · rw [hbe] at h; cases h
      · exact h
  · rintro ⟨o, h1, h2, h3⟩
    have hlt : i < l.length := (List.getElem?_eq_some_iff.1 h1).1
    refine ⟨hlt, ?_, ?_⟩
    · rw [Array.getD_eq_getD_getElem?] at h2 ⊢
      rw [Array.getElem?_eq_getElem (by omega)] at h2 ⊢
      exact h2
    · have hg : l.toArray[i]? = some o := by simpa using h1
      rw [hg]
      simp only [Option.map_some, Option.getD_some, Array.all_eq_true, Bool.or_eq_true, Bool.not_eq_true']
      intro k hk
      by_cases hb : Region.binds .any o.after[k] = true
      · refine .inr (h3 _ ?_)
        unfold bnd
        simp only [List.mem_map, List.mem_filter, Array.mem_toList_iff]
        exact ⟨_, ⟨Array.getElem_mem hk, hb⟩, rfl⟩
      · exact .inl (by simpa using hb)
theorem filter_len_lt {α : Type} {p q : α → Bool} : ∀ (l : List α) (x : α), x ∈ l → p x = true → q x = false → (∀ y, q y = true → p y = true) → (l.filter q).length < (l.filter p).length
  | [], _, h, _, _, _ => by cases h
  | y :: l, x, h, hp, hq, hm => by
    have hle : (l.filter q).length ≤ (l.filter p).length := by
      clear h
      induction l with
      | nil => simp
      | cons z l ih =>
        simp only [List.filter_cons]
        by_cases h1 : q z = true
        · rw [if_pos h1, if_pos (hm z h1)]; simp only [List.length_cons]; omega
        · rw [if_neg h1]; split
          · simp only [List.length_cons]; omega
          · exact ih
    simp only [List.mem_cons] at h
    simp only [List.filter_cons]
    rcases h with rfl | h
    · rw [if_pos hp, if_neg (by simp [hq])]; simp; omega
    · have ih := filter_len_lt l x h hp hq hm
      by_cases h1 : q y = true
      · rw [if_pos h1, if_pos (hm y h1)]; simp only [List.length_cons]; omega
      · rw [if_neg h1]; split
        · simp only [List.length_cons]; omega
        · exact ih
theorem AW.draw (hm : C.P.follows .mixedOrders = true) {id : Nat} (tg mk av : List Nat) (x : Nat) (hok : drawOK l tg mk = true)
    (h : DW C N l.toArray s.H s.nx tg mk av (fun s' => Q .normal s') 0 l { s with nx := s.nx + x }) : AW C N (.region id l.toArray true) Q s := by
  have hO := ordOK_of hok
  obtain ⟨tr, h0, hT, hF⟩ := DW.trace l 0 _ h
  simp only [Nat.zero_add] at hT hF
  intro S0 w0 a w hE hs
  refine wpIn_region_any hm ?_
  let d : Nat → Option Nat := fun k => (l[k]?).bind (·.dst)
  let b := s.nx
  let LL : Array Bool → Nat → Bool := fun listed k => listed.getD k false
  let stD : (Nat → Bool) → St := fun L => ⟨accT tr d L l.length, (accH tr tg b L l.length).1, (accH tr tg b L l.length).2⟩
  have hs0 : (tr.st 0).H = s.H ∧ (tr.st 0).nx = s.nx + x ∧ (tr.st 0).tm = s.tm := by rw [h0]; exact ⟨rfl, rfl, rfl⟩
  have hget : ∀ {k}, k < l.length → ∃ o, l[k]? = some o := fun {k} h => ⟨_, List.getElem?_eq_getElem h⟩
  have hlt : ∀ {k o}, l[k]? = some o → k < l.length := fun {k o} h => (List.getElem?_eq_some_iff.1 h).1
  have hstep : ∀ k, k < l.length → (tr.st (k + 1)).tm = updO (tr.st k).tm (d k) (tr.r k) := fun k hk => by
    obtain ⟨o, ho⟩ := hget hk
    have := (hT k o ho).1
    rw [this]; simp [d, ho]
  have hloose : ∀ k, k < l.length → k ∉ tg → (tr.st (k + 1)).H = putH (tr.st k).H (b + k) (tr.nr k) ∧ (tr.st (k + 1)).nx = (tr.st k).nx := fun k hk hkt => by
    obtain ⟨o, ho⟩ := hget hk
    have := (hT k o ho).2
    rw [if_neg hkt] at this
    exact ⟨this.1, this.2.1⟩
  have halloc : ∀ k, k < l.length → k ∉ tg → tr.nr k ≠ none → k ∉ mk ∧ s.H (b + k) = none ∧ b + k < (tr.st k).nx := fun k hk hkt hn => by
    obtain ⟨o, ho⟩ := hget hk
    have := (hT k o ho).2
    rw [if_neg hkt] at this
    rcases this.2.2.1 with h | h
    · exact absurd h hn
    · exact h
  -- the ancestors are done
  have hanc : ∀ {L : Nat → Bool}, Closed l L → ∀ {i o k}, l[i]? = some o → ((ancs l []).getD i 0).testBit k = true → (∀ j ∈ bnd o, L j = true) → L k = true := fun {L} hL {i o k} ho hk hj =>
    ancs_spec hL l [] (by simp) (by simp) (by simp) hO.back i o ho k hk hj
  have hancL : ∀ {L : Nat → Bool}, Closed l L → ∀ {i o k}, l[i]? = some o → ((ancs l []).getD i 0).testBit k = true → L i = true → L k = true := fun {L} hL {i o k} ho hk hi =>
    hanc hL ho hk (hL i o ho hi)
  -- an ancestor comes before
  have hancLt : ∀ {i o k}, l[i]? = some o → ((ancs l []).getD i 0).testBit k = true → k < i := by
    intro i o k ho hk
    have hc : Closed l (fun j => decide (j < i)) := fun i' o' ho' hi' j hj => by
      have := hO.back i' o' ho' j hj
      simp only [decide_eq_true_eq] at hi' ⊢; omega
    have := hanc hc ho hk (fun j hj => by simpa using hO.back i o ho j hj)
    simpa using this
  have main : ∀ (fuel : Nat) (listed : Array Bool) (a : Act) (w : World), listed.size = l.length → Closed l (LL listed) → ((List.range l.length).filter (fun i => !(LL listed i))).length ≤ fuel → Sim S0 w0 N a w (stD (LL listed)) →
      wpAnyIn C.F 0 C.P .any l.toArray (fun e a' w' => ∃ s', Sim S0 w0 N a' w' s' ∧ Q e s') fuel listed a w := by
    -- all is done
    have hend : ∀ (listed : Array Bool) (a : Act) (w : World), (∀ k, k < l.length → LL listed k = true) → Sim S0 w0 N a w (stD (LL listed)) → ∃ s', Sim S0 w0 N a w s' ∧ Q .normal s' := by
      intro listed a w hall hsim
      refine ⟨_, hsim, ?_⟩
      have e1 := accT_all (L := LL listed) hstep hall l.length (Nat.le_refl _)
      have e2 := accH_at (L := LL listed) hloose (fun k hk _ => hall k hk) l.length (Nat.le_refl _)
      have : stD (LL listed) = tr.st l.length := by
        show St.mk _ _ _ = _
        rw [e1, e2]
      rw [this]; exact hF
    have hready : ∀ (listed : Array Bool), listed.size = l.length → Region.ready .any l.toArray listed = [] → ∀ k, k < l.length → LL listed k = true := by
      intro listed hsz hr k
      induction k using Nat.strongRecOn with
      | ind k ih =>
        intro hk
        obtain ⟨o, ho⟩ := hget hk
        cases hL : LL listed k with
        | true => rfl
        | false =>
          have : k ∈ Region.ready .any l.toArray listed := (mem_ready hsz).2 ⟨o, ho, hL, fun j hj => ih j (hO.back k o ho j hj) (by have := hO.back k o ho j hj; omega)⟩
          rw [hr] at this; cases this
    intro fuel
    induction fuel with
    | zero =>
      intro listed a w hsz hcl hcnt hsim
      have hall : ∀ k, k < l.length → LL listed k = true := by
        intro k hk
        cases hL : LL listed k with
        | true => rfl
        | false =>
          have : k ∈ (List.range l.length).filter (fun i => !(LL listed i)) := by simp [hk, hL]
          have := List.length_pos_of_mem this
          omega
      refine ⟨?_, hend listed a w hall hsim⟩
      apply List.eq_nil_iff_forall_not_mem.2
      intro i hi
      obtain ⟨o, h1, h2, _⟩ := (mem_ready hsz).1 hi
      have := hall i (hlt h1)
      rw [show LL listed i = listed.getD i false from rfl, h2] at this; cases this
    | succ fuel ih =>
      intro listed a w hsz hcl hcnt hsim
      refine ⟨fun hr => hend listed a w (hready listed hsz hr) hsim, fun i hi => ?_⟩
      obtain ⟨o, ho, hLi, hbo⟩ := (mem_ready hsz).1 hi
      have hil := hlt ho
      have hL' : LL (listed.setIfInBounds i true) = setL (LL listed) i := by
        funext k
        show (listed.setIfInBounds i true).getD k false = setL (LL listed) i k
        unfold setL
        rw [Array.getD_eq_getD_getElem?, Array.getElem?_setIfInBounds]
        by_cases hk : i = k
        · subst hk; simp [hsz, hil]
        · rw [if_neg hk, if_neg (fun e => hk e.symm)]; rw [← Array.getD_eq_getD_getElem?]
      have hbo' : ∀ j ∈ bnd o, LL listed j = true := hbo
      have hcl' : Closed l (LL (listed.setIfInBounds i true)) := by
        rw [hL']
        intro i' o' ho' hi' j hj
        unfold setL at hi' ⊢
        by_cases hji : j = i
        · rw [if_pos hji]
        · rw [if_neg hji]
          by_cases hii : i' = i
          · subst hii; rw [ho] at ho'; injection ho' with ho'; subst ho'; exact hbo' j hj
          · rw [if_neg hii] at hi'; exact hcl i' o' ho' hi' j hj
      have hLi' : LL listed i = false := hLi
      have hcnt' : ((List.range l.length).filter (fun k => !(LL (listed.setIfInBounds i true) k))).length ≤ fuel := by
        have := filter_len_lt (p := fun k => !(LL listed k)) (q := fun k => !(LL (listed.setIfInBounds i true) k)) (List.range l.length) i (by simp [hil]) (by simp [hLi']) (by rw [hL']; simp [setL])
          (fun y hy => by rw [hL'] at hy; unfold setL at hy; by_cases h : y = i <;> simp_all)
        omega
      -- one step
      have hone : One C N l.toArray o (stD (LL listed)) (stD (LL (listed.setIfInBounds i true))) := by
        have hTi := hT i o ho
        have hdi : d i = o.dst := by simp [d, ho]
        -- the temporaries
        have htm : accT tr d (LL (listed.setIfInBounds i true)) l.length = updO (accT tr d (LL listed) l.length) o.dst (tr.r i) := by
          rw [hL', accT_set hLi' (fun k t hk hdk hdi' => by
            have hkl : k < l.length := by
              rcases Nat.lt_or_ge k l.length with h | h
              · exact h
              · simp [d, List.getElem?_eq_none h] at hdk
            obtain ⟨p, hp⟩ := hget hkl
            have h1 : p.dst = some t := by simpa [d, hp] using hdk
            exact hO.dsts i o k p t ho hp hk h1 (by rw [← hdi]; exact hdi')), if_neg (by omega), hdi]
        have huse : ∀ t ∈ o.looksAt l.toArray, accT tr d (LL listed) l.length t = (tr.st i).tm t := by
          intro t ht
          have := accT_uses (tr := tr) (d := d) (L := LL listed) (i := i) (t := t) hstep (fun k hk hdk => by
            obtain ⟨p, hp⟩ := hget hk
            have h1 : p.dst = some t := by simpa [d, hp] using hdk
            rcases hO.uses i o k p t ho hp h1 ht with h | h
            · exact ⟨fun _ => hancLt ho h, fun _ => hanc hcl ho h hbo'⟩
            · have hik := hancLt hp h
              refine ⟨fun hLk => ?_, fun hki => by omega⟩
              have := hancL hcl hp h hLk
              rw [hLi'] at this; cases this) l.length (Nat.le_refl _) (by omega)
          rw [this, Nat.min_eq_right (by omega)]
        by_cases hit : i ∈ tg
        · -- it has its place
          obtain ⟨_, hTi⟩ := hTi
          rw [if_pos hit] at hTi
          have hbefore : ∀ k, k < l.length → k ∉ mk → k ∉ tg → LL listed k = true := fun k hk hkm hkt => by
            obtain ⟨p, hp⟩ := hget hk
            exact hanc hcl ho (hO.loose i o k p ho hp hit hkt hkm) hbo'
          have hafter : ∀ k, i ≤ k → LL listed k = true → k ∉ tg ∧ tr.nr k = none := by
            intro k hk hLk
            have hkl : k < l.length := by
              rcases Nat.lt_or_ge k l.length with h | h
              · exact h
              · have hg : listed.getD k false = true := hLk
                rw [Array.getD_eq_getD_getElem?, Array.getElem?_eq_none (by omega)] at hg; cases hg
            obtain ⟨p, hp⟩ := hget hkl
            have hkt : k ∉ tg := by
              intro hkt
              rcases hO.tight i o k p ho hp hit hkt with h | h | h
              · subst h; rw [hLi'] at hLk; cases hLk
              · have := hancLt ho h; omega
              · have := hancL hcl hp h hLk; rw [hLi'] at this; cases this
            refine ⟨hkt, ?_⟩
            cases hn : tr.nr k with
            | none => rfl
            | some r =>
              have hal := halloc k hkl hkt (by rw [hn]; simp)
              have := hancLt ho (hO.loose i o k p ho hp hit hkt hal.1)
              omega
          have hat : accH tr tg b (LL listed) l.length = ((tr.st i).H, (tr.st i).nx) := by
            rw [accH_stay (i := i) l.length (by omega) (fun j h1 h2 h3 => hafter j h1 h3)]
            exact accH_at (n := i) (fun k hk => hloose k (by omega)) (fun k hk h => by
              obtain ⟨p, hp⟩ := hget (show k < l.length by omega)
              by_cases hkt : k ∈ tg
              · rcases hO.tight i o k p ho hp hit hkt with h | h | h
                · omega
                · exact hanc hcl ho h hbo'
                · have := hancLt hp h; omega
              · rcases h with h | h
                · exact absurd h hkt
                · exact hbefore k (by omega) (halloc k (by omega) hkt h).1 hkt) i (Nat.le_refl _)
          have hset : accH tr tg b (LL (listed.setIfInBounds i true)) l.length = ((tr.st (i + 1)).H, (tr.st (i + 1)).nx) := by
            rw [hL']
            exact accH_set_tight hLi' hit (fun k hk hLk => hafter k (by omega) hLk) l.length hil
          have := hTi.1 (stD (LL listed)) (by show (accH tr tg b (LL listed) l.length).1 = _; rw [hat]) (by show (accH tr tg b (LL listed) l.length).2 = _; rw [hat]) huse
          show One C N l.toArray o (stD (LL listed)) ⟨accT tr d (LL (listed.setIfInBounds i true)) l.length, (accH tr tg b (LL (listed.setIfInBounds i true)) l.length).1, (accH tr tg b (LL (listed.setIfInBounds i true)) l.length).2⟩
          rw [htm, hset]
          exact this
        · obtain ⟨_, hTi⟩ := hTi
          rw [if_neg hit] at hTi
          obtain ⟨_, _, hnr, hcert⟩ := hTi
          -- none that has its place is done before one that they all wait for
          have hnot : i ∉ mk → ∀ k, k ∈ tg → LL listed k = false := by
            intro hmi k hkt
            cases hLk : LL listed k with
            | false => rfl
            | true =>
              have hkl : k < l.length := by
                rcases Nat.lt_or_ge k l.length with h | h
                · exact h
                · have hg : listed.getD k false = true := hLk
                  rw [Array.getD_eq_getD_getElem?, Array.getElem?_eq_none (by omega)] at hg; cases hg
              obtain ⟨p, hp⟩ := hget hkl
              have := hancL hcl hp (hO.loose k p i o hp ho hkt hit hmi) hLk
              rw [hLi'] at this; cases this
          have hset : accH tr tg b (LL (listed.setIfInBounds i true)) l.length = (putH (accH tr tg b (LL listed) l.length).1 (b + i) (tr.nr i), (accH tr tg b (LL listed) l.length).2) := by
            rw [hL', accH_set_loose hLi' hit (by
              rcases hnr with h | h
              · exact .inl h
              · exact .inr (fun k hk => hnot h.1 k hk)) l.length, if_neg (by omega)]
          have hfreshK : ∀ k, k < l.length → k ∉ tg → tr.nr k ≠ none → s.H (b + k) = none := fun k hk hkt hn => (halloc k hk hkt hn).2.1
          have hext : Ext (if i ∈ mk then mask av s.H else s.H) (accH tr tg b (LL listed) l.length).1 := by
            by_cases hmi : i ∈ mk
            · rw [if_pos hmi]
              -- what is not written stays in the order of the text
              have hst : ∀ k, k ≤ l.length → Ext (mask av s.H) (tr.st k).H := by
                intro k
                induction k with
                | zero => intro _ id x hx; rw [hs0.1]; unfold mask at hx; split at hx <;> first | cases hx | exact hx
                | succ k ih2 =>
                  intro hk
                  have ih3 := ih2 (by omega)
                  obtain ⟨p, hp⟩ := hget (show k < l.length by omega)
                  by_cases hkt : k ∈ tg
                  · have := (hT k p hp).2
                    rw [if_pos hkt] at this
                    intro id x hx
                    have hav : id ∉ av := by unfold mask at hx; split at hx <;> simp_all
                    rcases this.2 with h | h
                    · rw [h] at hmi; cases hmi
                    · exact h id x hav (ih3 id x hx)
                  · rw [(hloose k (by omega) hkt).1]
                    cases hn : tr.nr k with
                    | none => exact ih3
                    | some r =>
                      intro id x hx
                      have hf := hfreshK k (by omega) hkt (by rw [hn]; simp)
                      simp only [putH, updH]
                      rw [if_neg (fun e => by subst e; unfold mask at hx; split at hx <;> simp_all)]
                      exact ih3 id x hx
              refine accH_ext (n := l.length) (hst 0 (by omega)) (fun k hk hkt hn => ?_) (fun k hk _ _ => hst (k + 1) (by omega)) l.length (Nat.le_refl _)
              have := hfreshK k hk hkt hn
              unfold mask; split <;> first | rfl | exact this
            · rw [if_neg hmi]
              exact accH_ext (n := l.length) (fun id x hx => by rw [hs0.1]; exact hx) (fun k hk hkt hn => hfreshK k hk hkt hn) (fun k hk hkt hLk => by rw [hnot hmi k hkt] at hLk; cases hLk) l.length (Nat.le_refl _)
          have hkey : tr.nr i = none ∨ ((stD (LL listed)).H (b + i) = none ∧ b + i < (stD (LL listed)).nx) := by
            rcases hnr with h | ⟨h1, h2, h3⟩
            · exact .inl h
            · refine .inr ⟨?_, ?_⟩
              · refine accH_fresh (n := l.length) (by rw [hs0.1]; exact h2) (fun k hk hkt => hnot h1 k hkt) (fun k hk hLk e => ?_) l.length (Nat.le_refl _)
                have : k = i := by omega
                subst this; rw [hLi'] at hLk; cases hLk
              · show b + i < (accH tr tg b (LL listed) l.length).2
                rw [accH_nx (n := l.length) (fun k hk hkt => hnot h1 k hkt) l.length (Nat.le_refl _)]
                have hbefore : ∀ k, k < i → k ∉ tg := by
                  intro k hk hkt
                  obtain ⟨p, hp⟩ := hget (show k < l.length by omega)
                  have := hancLt hp (hO.loose k p i o hp ho hkt hit h1)
                  omega
                have : ∀ k, k ≤ i → (tr.st k).nx = (tr.st 0).nx := by
                  intro k
                  induction k with
                  | zero => intro _; rfl
                  | succ k ih2 => intro hk; rw [(hloose k (by omega) (hbefore k (by omega))).2]; exact ih2 (by omega)
                rw [← this i (Nat.le_refl _)]; exact h3
          have := hcert (stD (LL listed)) hext hkey huse
          show One C N l.toArray o (stD (LL listed)) ⟨accT tr d (LL (listed.setIfInBounds i true)) l.length, (accH tr tg b (LL (listed.setIfInBounds i true)) l.length).1, (accH tr tg b (LL (listed.setIfInBounds i true)) l.length).2⟩
          rw [htm, hset]
          exact this
      unfold wpOpIn
      have hg : l.toArray[i]? = some o := by simpa using ho
      rw [hg]
      dsimp only
      have h9 := hone S0 w0 a w (wpAnyIn C.F 0 C.P .any l.toArray (fun e a' w' => ∃ s', Sim S0 w0 N a' w' s' ∧ Q e s') fuel (listed.setIfInBounds i true)) (fun e a' w' => ∃ s', Sim S0 w0 N a' w' s' ∧ Q e s') hE hsim (fun a' w' hs' => ih _ a' w' (by simp [hsz]) hcl' hcnt' hs')
      split
      · rename_i hw; rw [if_pos hw] at h9; exact h9
      · rename_i hw; rw [if_neg hw] at h9; exact ⟨fun f _ => C.hF.fn f, h9⟩
  refine main _ _ _ _ (by simp) ?_ ?_ ?_
  · intro i o ho hi
    exfalso
    have : (Array.replicate l.toArray.size false).getD i false = true := hi
    rw [Array.getD_eq_getD_getElem?] at this
    simp [Array.getElem?_replicate] at this
    split at this <;> simp at this
  · refine Nat.le_trans (List.length_filter_le _ _) (by simp)
  · have hnone : ∀ k, LL (Array.replicate l.toArray.size false) k = false := fun k => by
      show (Array.replicate l.toArray.size false).getD k false = false
      rw [Array.getD_eq_getD_getElem?]
      simp only [Array.getElem?_replicate]
      split <;> rfl
    have e1 : ∀ k, accT tr d (LL (Array.replicate l.toArray.size false)) k = s.tm := by
      intro k; induction k with
      | zero => exact hs0.2.2
      | succ k ih => simp only [accT, hnone, Bool.false_eq_true, if_false, ih]
    have e2 : ∀ k, accH tr tg b (LL (Array.replicate l.toArray.size false)) k = (s.H, s.nx + x) := by
      intro k; induction k with
      | zero => show ((tr.st 0).H, (tr.st 0).nx) = _; rw [hs0.1, hs0.2.1]
      | succ k ih => simp only [accH, hnone, Bool.false_eq_true, if_false, ih]
    refine hs.grow (s' := stD _) (w' := { w with drawn := w.drawn + 1 }) ⟨rfl, rfl, rfl, Nat.le_refl _, fun _ _ => rfl⟩ (e1 _) ?_ ?_
    · show (accH tr tg b _ _).1 = _; rw [e2]
    · show s.nx ≤ (accH tr tg b _ _).2; rw [e2]; exact Nat.le_add_right _ _
end
end Go.Pg

namespace Go.Pg
open Go Go.RowKit
section
variable {H H' : Nat → Option AO}
theorem rowAt_mono (h : Ext H H') {id : Nat} {r : Row} (hr : rowAt H id = some r) : rowAt H' id = some r := by
  have := h id _ (rowAt_eq hr)
  unfold rowAt; rw [this]
theorem rdPtr_mono (h : Ext H H') {p : AV} {x : List AV × Nat} (hr : rdPtr H p = some x) : rdPtr H' p = some x := by
  cases p <;> simp only [rdPtr] at hr ⊢ <;> try exact hr
  split at hr
  · rename_i r hrow; rw [rowAt_mono h hrow]; exact hr
  · cases hr
theorem loadA_mono (h : Ext H H') {T : TypeId → Option Ty} {t : TypeId} {p x : AV} (hr : loadA T H t p = some x) : loadA T H' t p = some x := by
  unfold loadA at hr ⊢
  split at hr
  · rename_i h1 h2; rw [h1, rdPtr_mono h h2]; exact hr
  · cases hr
theorem indexAddrA_mono (h : Ext H H') {T : TypeId → Option Ty} {t : TypeId} {p i x : AV} (hr : indexAddrA T H t p i = some x) : indexAddrA T H' t p i = some x := by
  cases p <;> try exact hr
  rename_i id off n
  cases hrow : rowAt H id with
  | none =>
    exfalso
    simp only [indexAddrA, hrow] at hr
    repeat' split at hr
    all_goals first | (cases hr; done) | (simp [offA] at hr; done)
  | some r =>
    simp only [indexAddrA, hrow] at hr
    simp only [indexAddrA, rowAt_mono h hrow]
    exact hr
theorem sliceA_mono (h : Ext H H') {T : TypeId → Option Ty} {t : TypeId} {p x : AV} {lo hi : Option AV} (hr : sliceA T H t p lo hi = some x) : sliceA T H' t p lo hi = some x := by
  by_cases hp : ∃ id off n, p = .ref id off n
  · obtain ⟨id, off, n, rfl⟩ := hp
    cases hT : T t with
    | none => simp [sliceA, hT] at hr
    | some y =>
      obtain ⟨sz, bs, z, d⟩ := y
      cases d <;> simp only [sliceA, hT] at hr ⊢ <;> try (cases hr; done)
      cases hrow : rowAt H id with
      | none => simp [hrow] at hr
      | some r =>
        simp only [hrow] at hr
        simp only [rowAt_mono h hrow]
        exact hr
  · unfold sliceA at hr ⊢
    split at hr <;> simp_all
theorem lookupA_mono (h : Ext H H') {T : TypeId → Option Ty} {eqT : TypeId → Bool} {t : TypeId} {p i x : AV} {ok : Bool} (hr : lookupA T eqT H t p i ok = some x) : lookupA T eqT H' t p i ok = some x := by
  unfold lookupA at hr ⊢
  split at hr
  · split at hr
    · rename_i h1 h2 h3
      simp only [h1, h2, h _ _ h3]
      exact hr
    · cases hr
  · exact hr
  · cases hr
theorem evsA_congr {ev ev' : Operand → AV} : ∀ {l : List Operand}, (∀ x ∈ l, ev x = ev' x) → evsA l ev = evsA l ev'
  | [], _ => rfl
  | x :: l, h => by simp only [evsA]; rw [h x (by simp), evsA_congr (fun y hy => h y (by simp [hy]))]
theorem listA_congr {ev ev' : Operand → AV} : ∀ {l : List (Nat × Operand)}, (∀ x ∈ l.map (·.2), ev x = ev' x) → listA l ev = listA l ev'
  | [], _ => rfl
  | x :: l, h => by simp only [listA]; rw [h x.2 (by simp), listA_congr (fun y hy => h y (by simp only [List.map_cons, List.mem_cons]; exact .inr hy))]
theorem map_some_mono {α β : Type} {f : α → β} {x y : Option α} {z : β} (h : ∀ a, x = some a → y = some a) (hx : x.map f = some z) : y.map f = some z := by
  simp only [Option.map_eq_some_iff] at hx ⊢
  obtain ⟨a, h1, h2⟩ := hx
  exact ⟨a, h a h1, h2⟩
theorem stepA_mono {T : TypeId → Option Ty} {eqT : TypeId → Bool} {ev ev' : Operand → AV} {key : Nat} {op : Op} {res : AV × Option Row} (hH : Ext H H') (hev : ∀ x ∈ op.operands, ev x = ev' x)
    (h : stepA T eqT H ev key op = some res) : stepA T eqT H' ev' key op = some res := by
  cases op
  case slice t x lo hi mx =>
    cases mx
    · simp only [stepA] at h ⊢
      rw [← hev x (by simp [Op.operands])]
      have e1 : lo.map ev' = lo.map ev := by
        cases lo with
        | none => rfl
        | some u => rw [Option.map_some, Option.map_some, hev u (by simp [Op.operands])]
      have e2 : hi.map ev' = hi.map ev := by
        cases hi with
        | none => rfl
        | some u => rw [Option.map_some, Option.map_some, hev u (by simp [Op.operands])]
      rw [e1, e2]
      exact map_some_mono (fun _ h => sliceA_mono hH h) h
    · simp [stepA] at h
  case makeFunc f first cs =>
    cases f <;> simp only [stepA] at h ⊢ <;> try (cases h; done)
    rw [← evsA_congr (ev := ev) (ev' := ev') (l := cs.toList) (fun y hy => hev y (by simp only [Op.operands, Array.mem_append]; exact .inr (by simpa using hy))),
      ← evsA_congr (ev := ev) (ev' := ev') (l := first.toList) (fun y hy => hev y (by simp only [Op.operands, Array.mem_append]; exact .inl (by simpa using hy)))]
    exact h
  case call c =>
    obtain ⟨callee, args, tys⟩ := c
    have hargs : evsA args.toList ev = evsA args.toList ev' := evsA_congr (fun y hy => hev y (by simp only [Op.operands, Call.operands, Array.mem_append]; exact .inr (by simpa using hy)))
    cases callee <;> simp only [stepA] at h ⊢ <;> try (cases h; done)
    rename_i b
    cases b <;> simp only at h ⊢ <;> try (cases h; done)
    · split at h
      · rename_i x t h1 h2
        rw [h1] at hargs
        simp only [evsA] at hargs
        injection hargs with hargs
        simp only [h1, h2, ← hargs]; exact h
      · cases h
    all_goals (rw [← hargs]; exact h)
  case build t ps =>
    simp only [stepA] at h ⊢
    rw [← listA_congr (ev := ev) (ev' := ev') (l := ps.toList) (fun y hy => hev y (by simpa [Op.operands] using hy))]; exact h
  case buildSlice t n ps =>
    simp only [stepA] at h ⊢
    rw [← listA_congr (ev := ev) (ev' := ev') (l := ps.toList) (fun y hy => hev y (by simpa [Op.operands] using hy))]; exact h
  case pick c x y =>
    simp only [stepA] at h ⊢
    rw [← hev c (by simp [Op.operands]), ← hev x (by simp [Op.operands]), ← hev y (by simp [Op.operands])]; exact h
  case load t x =>
    simp only [stepA] at h ⊢
    rw [← hev x (by simp [Op.operands])]
    exact map_some_mono (fun _ h => loadA_mono hH h) h
  case indexAddr t x i =>
    simp only [stepA] at h ⊢
    rw [← hev x (by simp [Op.operands]), ← hev i (by simp [Op.operands])]
    exact map_some_mono (fun _ h => indexAddrA_mono hH h) h
  case lookup t x i ok =>
    simp only [stepA] at h ⊢
    rw [← hev x (by simp [Op.operands]), ← hev i (by simp [Op.operands])]
    exact map_some_mono (fun _ h => lookupA_mono hH h) h
  case makeSlice t x i =>
    simp only [stepA] at h ⊢
    rw [← hev x (by simp [Op.operands]), ← hev i (by simp [Op.operands])]; exact h
  case binOp op t x y yt =>
    simp only [stepA] at h ⊢
    rw [← hev x (by simp [Op.operands]), ← hev y (by simp [Op.operands])]; exact h
  case index t x y =>
    simp only [stepA] at h ⊢
    rw [← hev x (by simp [Op.operands]), ← hev y (by simp [Op.operands])]; exact h
  all_goals first
    | (simp only [stepA] at h ⊢; exact h)
    | (simp only [stepA] at h ⊢; rename_i x; rw [← hev x (by simp [Op.operands])]; exact h)
    | (simp only [stepA] at h ⊢; rename_i x _; rw [← hev x (by simp [Op.operands])]; exact h)
    | (simp only [stepA] at h ⊢; rename_i x _ _; rw [← hev x (by simp [Op.operands])]; exact h)
    | (simp [stepA] at h; done)
mutual
theorem viewA_mono (h : Ext H H') : ∀ (c c' : AV), viewA H c = some c' → viewA H' c = some c'
  | .junk, c', hc => hc
  | .v x, c', hc => by
    unfold viewA at hc ⊢
    split at hc <;> try contradiction
    · rename_i he; injection he with he
    · exact hc
  | .agg cs, c', hc => by
    simp only [viewA, Option.map_eq_some_iff] at hc ⊢
    obtain ⟨ds, h1, h2⟩ := hc
    exact ⟨ds, viewL_mono h cs ds h1, h2⟩
  | .tup cs, c', hc => by
    simp only [viewA, Option.map_eq_some_iff] at hc ⊢
    obtain ⟨ds, h1, h2⟩ := hc
    exact ⟨ds, viewL_mono h cs ds h1, h2⟩
  | .clo f cs, c', hc => by
    simp only [viewA, Option.map_eq_some_iff] at hc ⊢
    obtain ⟨ds, h1, h2⟩ := hc
    exact ⟨ds, viewL_mono h cs ds h1, h2⟩
  | .bnd f cs, c', hc => by
    simp only [viewA, Option.map_eq_some_iff] at hc ⊢
    obtain ⟨ds, h1, h2⟩ := hc
    exact ⟨ds, viewL_mono h cs ds h1, h2⟩
  | .lst es, c', hc => hc
  | .iptr e j, c', hc => hc
  | .ref id off n, c', hc => by
    simp only [viewA] at hc ⊢
    split at hc
    · rename_i r hr; rw [rowAt_mono h hr]; exact hc
    · cases hc
  | .ptr id i j tag, c', hc => by
    simp only [viewA] at hc ⊢
    split at hc
    · rename_i r hr; rw [rowAt_mono h hr]; exact hc
    · cases hc
  | .map id, c', hc => by simp [viewA] at hc
  | .lmap a b c, c', hc => hc
theorem viewL_mono (h : Ext H H') : ∀ (cs ds : List AV), viewL H cs = some ds → viewL H' cs = some ds
  | [], ds, hc => hc
  | c :: cs, ds, hc => by
    simp only [viewL] at hc ⊢
    split at hc
    · rename_i d ds' h1 h2
      rw [viewA_mono h c d h1, viewL_mono h cs ds' h2]; exact hc
    · cases hc
end
end
theorem ev_congr {s s' : St} {ops : Array Oper} {o : Oper} (h : ∀ t ∈ o.looksAt ops, s.tm t = s'.tm t) : ∀ x ∈ o.op.operands, s.ev x = s'.ev x := by
  intro x hx
  cases x with
  | tmp t => exact h t (List.mem_append_left _ (List.mem_filterMap.2 ⟨.tmp t, by simpa using hx, rfl⟩))
  | _ => rfl
theorem one_guard {C : Cx} {N : Nat} {ops : Array Oper} {o : Oper} {s s' : St} {j t : Nat} {want : Bool} (hg : o.guard = some (j, want)) (ht : (ops[j]?).bind (·.dst) = some t) (hb : s.tm t = .v (.bool want)) (h : One C N ops { o with guard := none } s s') : One C N ops o s s' := by
  intro S0 w0 a w K Q hE hs hK
  have := h S0 w0 a w K Q hE hs hK
  obtain ⟨σ, hσ⟩ := hs
  have hy := yielded_of (ops := ops) hσ ht hb
  rw [if_pos (by simp [Region.wanted])] at this
  rw [if_pos (by simp [Region.wanted, hg, hy])]
  exact this
theorem one_skip {C : Cx} {N : Nat} {ops : Array Oper} {o : Oper} {s : St} {j t d : Nat} {want : Bool} (hg : o.guard = some (j, want)) (ht : (ops[j]?).bind (·.dst) = some t) (hb : s.tm t = .v (.bool (!want))) (hd : o.dst = some d) (hN : d < N) : One C N ops o s ⟨upd s.tm d (.v undef), s.H, s.nx⟩ := by
  intro S0 w0 a w K Q hE hs hK
  obtain ⟨σ, hσ⟩ := hs
  have hy := yielded_of (ops := ops) hσ ht hb
  rw [if_neg (by simp [Region.wanted, hg, hy])]
  rw [hd]
  refine hK _ _ ⟨σ, ?_⟩
  exact hσ.put hN (s' := { s with tm := upd s.tm d (.v undef) }) (r := .v undef) hσ.inv hσ.nx (hσ.inv.le_heap (fun _ _ => rfl)) (Below.refl _ _) rfl rfl
theorem one_skipU {C : Cx} {N : Nat} {ops : Array Oper} {o : Oper} {s : St} {j t d : Nat} {want : Bool} (hg : o.guard = some (j, want)) (ht : (ops[j]?).bind (·.dst) = some t) (hb : s.tm t = .v undef) (hd : o.dst = some d) (hN : d < N) : One C N ops o s ⟨upd s.tm d (.v undef), s.H, s.nx⟩ := by
  intro S0 w0 a w K Q hE hs hK
  obtain ⟨σ, hσ⟩ := hs
  have hy := yielded_undef (ops := ops) hσ ht hb
  rw [if_neg (by simp [Region.wanted, hg, hy])]
  rw [hd]
  refine hK _ _ ⟨σ, ?_⟩
  exact hσ.put hN (s' := { s with tm := upd s.tm d (.v undef) }) (r := .v undef) hσ.inv hσ.nx (hσ.inv.le_heap (fun _ _ => rfl)) (Below.refl _ _) rfl rfl
theorem looks_guard {ops : Array Oper} {o : Oper} {j t : Nat} {want : Bool} (hg : o.guard = some (j, want)) (ht : (ops[j]?).bind (·.dst) = some t) : t ∈ o.looksAt ops := by
  unfold Oper.looksAt
  rw [hg]
  simp only [ht]
  exact List.mem_append_right _ (by simp)
theorem looks_sub {ops : Array Oper} {o : Oper} {t : Nat} (h : t ∈ ({ o with guard := none } : Oper).looksAt ops) : t ∈ o.looksAt ops := by
  unfold Oper.looksAt at h ⊢
  rcases List.mem_append.1 h with h | h
  · exact List.mem_append_left _ h
  · cases h
section
variable {C : Cx} {N : Nat} {ops : Array Oper} {H0 : Nat → Option AO} {b : Nat} {tg mk av : List Nat} {Fin : St → Prop} {s : St} {i : Nat} {rest : List Oper}
variable {op : Op} {ty : TypeId} {ps : String} {af : Array Edge} {d j t : Nat} {want bb : Bool}
theorem stepA_put {T : TypeId → Option Ty} {eqT : TypeId → Bool} {H : Nat → Option AO} {ev : Operand → AV} {k1 k2 : Nat} {op : Op} {r : AV} (h : stepA T eqT H ev k1 op = some (r, none)) : stepA T eqT H ev k2 op = some (r, none) := by
  cases op <;> try exact h
  case call c => obtain ⟨callee, args, tys⟩ := c; cases callee <;> try exact h
                 rename_i b; cases b <;> exact h
  case slice t x lo hi mx => cases mx <;> exact h
  case makeFunc f first cs => cases f <;> exact h
  all_goals (simp only [stepA] at h)
  all_goals (repeat' split at h)
  all_goals (try cases h)
  all_goals (simp only [Option.map_eq_some_iff] at h; obtain ⟨_, _, h⟩ := h; cases h)
theorem D.step (hC : C.OK) (hN : d < N) (hi : i ∉ tg ∧ i ∉ mk) {r : AV} (h : stepA C.T C.eqT H0 s.ev 0 op = some (r, none)) (k : DW C N ops H0 b tg mk av Fin (i + 1) rest (s.put d r none)) :
    DW C N ops H0 b tg mk av Fin i (⟨some d, op, ty, ps, af, none⟩ :: rest) s := by
  refine ⟨r, s.put d r none, rfl, ?_, k⟩
  rw [if_neg hi.1, if_neg hi.2]
  refine ⟨none, rfl, rfl, .inl rfl, fun s' hx _ ht => one_of_AWL (AWL.step (d := d) (r := r) (nr := none) hC rfl rfl hN ?_ (AWL.nil ⟨rfl, rfl⟩))⟩
  exact stepA_put (stepA_mono hx (fun x hx => (ev_congr ht x hx).symm) h)
theorem D.stepm (hC : C.OK) (hN : d < N) (hi : i ∉ tg ∧ i ∈ mk) {r : AV} (h : stepA C.T C.eqT (mask av H0) s.ev 0 op = some (r, none)) (k : DW C N ops H0 b tg mk av Fin (i + 1) rest (s.put d r none)) :
    DW C N ops H0 b tg mk av Fin i (⟨some d, op, ty, ps, af, none⟩ :: rest) s := by
  refine ⟨r, s.put d r none, rfl, ?_, k⟩
  rw [if_neg hi.1, if_pos hi.2]
  refine ⟨none, rfl, rfl, .inl rfl, fun s' hx _ ht => one_of_AWL (AWL.step (d := d) (r := r) (nr := none) hC rfl rfl hN ?_ (AWL.nil ⟨rfl, rfl⟩))⟩
  exact stepA_put (stepA_mono hx (fun x hx => (ev_congr ht x hx).symm) h)
theorem D.stept (hC : C.OK) (hN : d < N) (hi : i ∈ tg) {r : AV} (h : stepA C.T C.eqT s.H s.ev 0 op = some (r, none)) (k : DW C N ops H0 b tg mk av Fin (i + 1) rest (s.put d r none)) :
    DW C N ops H0 b tg mk av Fin i (⟨some d, op, ty, ps, af, none⟩ :: rest) s := by
  refine ⟨r, s.put d r none, rfl, ?_, k⟩
  rw [if_pos hi]
  refine ⟨fun s' h1 h2 ht => one_of_AWL (AWL.step (d := d) (r := r) (nr := none) hC rfl rfl hN ?_ (AWL.nil ⟨rfl, ?_⟩)), .inr fun id x _ hx => hx⟩
  · have := stepA_put (k2 := s'.nx) (stepA_mono (H' := s'.H) (fun id x hx => by rw [h1]; exact hx) (fun x hx => (ev_congr ht x hx).symm) h)
    exact this
  · show St.mk _ _ _ = _
    rw [show putH s'.H s'.nx none = s'.H from rfl, h1, h2]; rfl
theorem one_alloc (hC : C.OK) (hN : d < N) {s' : St} {key : Nat} {r : AV} {row : Row} (h : stepA C.T C.eqT s'.H s'.ev key op = some (r, some row)) (hH : s'.H key = none) (hn : key < s'.nx) :
    One C N ops ⟨some d, op, ty, ps, af, none⟩ s' ⟨upd s'.tm d r, updH s'.H key (.row row), s'.nx⟩ := by
  rintro S0 w0 a w K Q hE ⟨σ, hσ⟩ hK
  obtain ⟨v, w', σ', h1, h2, h3, h4, h5⟩ := stepA_sound (o := ⟨some d, op, ty, ps, af, none⟩) hC.T hC.eqT hσ.inv hσ.size hH (fun x => hσ.ev x) h
  rw [if_pos (by simp [Region.wanted])]
  refine Oper.wpIn_of_wp C.hF (stepA_nodefer h) ?_
  simp only [Oper.wp, Oper.upon, h1]
  refine hK _ _ ⟨σ', hσ.put hN (s' := ⟨upd s'.tm d r, updH s'.H key (.row row), s'.nx⟩) h4 (fun id hid => ?_) h3 h2 h5 rfl⟩
  show updH s'.H key _ id = none
  simp only [updH]
  rw [if_neg (by have : s'.nx ≤ id := hid; omega)]
  exact hσ.nx id hid
theorem D.alloc (hC : C.OK) (hN : d < N) (hi : i ∉ tg ∧ i ∉ mk) {r : AV} {row : Row} (h : stepA C.T C.eqT H0 s.ev (b + i) op = some (r, some row)) (hH : H0 (b + i) = none) (hn : b + i < s.nx)
    (k : DW C N ops H0 b tg mk av Fin (i + 1) rest ⟨upd s.tm d r, updH s.H (b + i) (.row row), s.nx⟩) :
    DW C N ops H0 b tg mk av Fin i (⟨some d, op, ty, ps, af, none⟩ :: rest) s := by
  refine ⟨r, ⟨upd s.tm d r, updH s.H (b + i) (.row row), s.nx⟩, rfl, ?_, k⟩
  rw [if_neg hi.1, if_neg hi.2]
  refine ⟨some row, rfl, rfl, .inr ⟨hi.2, hH, hn⟩, fun s' hx hk ht => ?_⟩
  rcases hk with hk | hk
  · cases hk
  · exact one_alloc hC hN (stepA_mono hx (fun x hx => (ev_congr ht x hx).symm) h) hk.1 hk.2
theorem D.gY (hj : (ops[j]?).bind (·.dst) = some t) (hb : s.tm t = .v (.bool want)) (k : DW C N ops H0 b tg mk av Fin i (⟨some d, op, ty, ps, af, none⟩ :: rest) s) :
    DW C N ops H0 b tg mk av Fin i (⟨some d, op, ty, ps, af, some (j, want)⟩ :: rest) s := by
  obtain ⟨r, s', h1, h2, h3⟩ := k
  have ht := looks_guard (o := ⟨some d, op, ty, ps, af, some (j, want)⟩) rfl hj
  refine ⟨r, s', h1, ?_, h3⟩
  by_cases hi : i ∈ tg
  · rw [if_pos hi] at h2 ⊢
    refine ⟨fun s1 g1 g2 g3 => ?_, h2.2⟩
    exact one_guard rfl hj (by rw [g3 t ht]; exact hb) (h2.1 s1 g1 g2 (fun u hu => g3 u (looks_sub hu)))
  · rw [if_neg hi] at h2 ⊢
    obtain ⟨nr, g1, g2, g3, g4⟩ := h2
    refine ⟨nr, g1, g2, g3, fun s1 e1 e2 e3 => ?_⟩
    exact one_guard rfl hj (by rw [e3 t ht]; exact hb) (g4 s1 e1 e2 (fun u hu => e3 u (looks_sub hu)))
theorem D.gN (hj : (ops[j]?).bind (·.dst) = some t) (hN : d < N) (hi : i ∉ tg) (hb : s.tm t = .v (.bool (!want))) (k : DW C N ops H0 b tg mk av Fin (i + 1) rest (s.put d (.v undef) none)) :
    DW C N ops H0 b tg mk av Fin i (⟨some d, op, ty, ps, af, some (j, want)⟩ :: rest) s := by
  have ht := looks_guard (o := ⟨some d, op, ty, ps, af, some (j, want)⟩) rfl hj
  refine ⟨.v undef, s.put d (.v undef) none, rfl, ?_, k⟩
  rw [if_neg hi]
  exact ⟨none, rfl, rfl, .inl rfl, fun s1 _ _ e3 => one_skip rfl hj (by rw [e3 t ht]; exact hb) rfl hN⟩
theorem D.gU (hj : (ops[j]?).bind (·.dst) = some t) (hN : d < N) (hi : i ∉ tg) (hb : s.tm t = .v undef) (k : DW C N ops H0 b tg mk av Fin (i + 1) rest (s.put d (.v undef) none)) :
    DW C N ops H0 b tg mk av Fin i (⟨some d, op, ty, ps, af, some (j, want)⟩ :: rest) s := by
  have ht := looks_guard (o := ⟨some d, op, ty, ps, af, some (j, want)⟩) rfl hj
  refine ⟨.v undef, s.put d (.v undef) none, rfl, ?_, k⟩
  rw [if_neg hi]
  exact ⟨none, rfl, rfl, .inl rfl, fun s1 _ _ e3 => one_skipU rfl hj (by rw [e3 t ht]; exact hb) rfl hN⟩
theorem D.gS (hj : (ops[j]?).bind (·.dst) = some t) (hN : d < N) (hi : i ∉ tg) (hb : s.tm t = .v (.bool bb)) (k1 : bb = want → DW C N ops H0 b tg mk av Fin i (⟨some d, op, ty, ps, af, none⟩ :: rest) (s.put t (.v (.bool want)) none))
    (k2 : bb = !want → DW C N ops H0 b tg mk av Fin (i + 1) rest ((s.put t (.v (.bool (!want))) none).put d (.v undef) none)) :
    DW C N ops H0 b tg mk av Fin i (⟨some d, op, ty, ps, af, some (j, want)⟩ :: rest) s := by
  by_cases hw : bb = want
  · have := k1 hw
    rw [put_same_tm (by rw [hb, hw])] at this
    exact D.gY hj (by rw [hb, hw]) this
  · have hw' : bb = !want := by cases bb <;> cases want <;> simp_all
    have := k2 hw'
    rw [put_same_tm (t := t) (by rw [hb, hw'])] at this
    exact D.gN hj hN hi (by rw [hb, hw']) this
theorem D.callv (hC : C.OK) (hN : d < N) (hi : i ∉ tg ∧ i ∉ mk) {fo : Operand} {args : Array Operand} {tys : Array TypeId} {f : FuncId} {caps vs : List AV} {R : AV} (hf : s.ev fo = .clo f caps) (hv : viewL H0 (evsA args.toList s.ev ++ caps) = some vs) (hok : OKv C f vs R)
    (hfl : (flatA R || (idsL (evsA args.toList s.ev ++ caps)).isEmpty) = true) (k : DW C N ops H0 b tg mk av Fin (i + 1) rest (s.put d R none)) :
    DW C N ops H0 b tg mk av Fin i (⟨some d, .call { callee := .value fo, args := args, argTypes := tys }, ty, ps, af, none⟩ :: rest) s := by
  refine ⟨R, s.put d R none, rfl, ?_, k⟩
  rw [if_neg hi.1, if_neg hi.2]
  refine ⟨none, rfl, rfl, .inl rfl, fun s' hx _ ht => ?_⟩
  have hev := ev_congr ht
  have e1 : s'.ev fo = .clo f caps := by rw [hev fo (by simp [Op.operands, Call.operands])]; exact hf
  have e2 : evsA args.toList s'.ev = evsA args.toList s.ev := evsA_congr (fun x hx => hev x (by simp only [Op.operands, Call.operands, Array.mem_append]; exact .inr (by simpa using hx)))
  refine one_of_AWL (W.callv (R := R) hC hN e1 (by rw [e2]; exact viewL_mono hx _ _ hv) hok (AWL.nil ⟨rfl, ?_⟩))
  rw [e2]
  unfold St.back
  have : afterH s'.H (idsL (evsA args.toList s.ev ++ caps)) R = s'.H := by
    cases hq : flatA R <;> simp_all [afterH]
  rw [this]; rfl
theorem D.store (hC : C.OK) (hi : i ∈ tg) {tp : TypeId} {p x : Operand} {id : Nat} {r : Row} (h : storeA C.T s.H tp (s.ev p) (s.ev x) = some (id, r)) (hav : mk = [] ∨ id ∈ av)
    (k : DW C N ops H0 b tg mk av Fin (i + 1) rest { s with H := updH s.H id (.row r) }) : DW C N ops H0 b tg mk av Fin i (⟨none, .store tp p x, ty, ps, af, none⟩ :: rest) s := by
  refine ⟨.junk, { s with H := updH s.H id (.row r) }, rfl, ?_, k⟩
  rw [if_pos hi]
  refine ⟨fun s' h1 h2 ht => ?_, ?_⟩
  · have hev := ev_congr ht
    refine one_of_AWL (W.store (id := id) (r := r) hC (by rw [hev p (by simp [Op.operands]), hev x (by simp [Op.operands]), h1]; exact h) (AWL.nil ⟨rfl, ?_⟩))
    rw [h1, h2]; rfl
  · rcases hav with h | h
    · exact .inl h
    · refine .inr fun id' x hid hx => ?_
      show updH s.H id _ id' = some x
      simp only [updH]
      rw [if_neg (fun e => by rw [e] at hid; exact hid h)]; exact hx
theorem D.nil (h : Fin s) : DW C N ops H0 b tg mk av Fin i [] s := h
end
end Go.Pg

namespace Go.Pg
open Go Go.RowKit
theorem back_H0 (s : St) (d : Nat) (x : Value) (ids : List Nat) : (s.back d (.v x) ids).H = s.H := rfl
theorem idsA_ref (id off n : Nat) : idsA (.ref id off n) = [id] := rfl
theorem idsA_ptr (id i j n : Nat) : idsA (.ptr id i j n) = [id] := rfl
theorem idsA_iptr (e : List AV) (j : Nat) : idsA (.iptr e j) = [] := rfl
theorem idsA_tup (cs : List AV) : idsA (.tup cs) = idsL cs := rfl
theorem idsA_clo (f : FuncId) (cs : List AV) : idsA (.clo f cs) = idsL cs := rfl
theorem view_iptr (H : Nat → Option AO) (e : List AV) (j : Nat) : viewA H (.iptr e j) = some (.iptr e j) := rfl
theorem view_ref (H : Nat → Option AO) (id off n : Nat) : viewA H (.ref id off n) = (match rowAt H id with
    | some r => if r.lo ≤ off + n ∧ off + n ≤ r.es.length ∧ r.es.all pureL = true then some (.lst ((r.es.drop off).take n)) else none
    | none => none) := rfl
theorem view_ptr (H : Nat → Option AO) (id i j tag : Nat) : viewA H (.ptr id i j tag) = (match rowAt H id with
    | some r => if r.lo ≤ tag ∧ i < r.es.length ∧ pureL (r.es.getD i []) = true then some (.iptr (r.es.getD i []) j) else none
    | none => none) := rfl
theorem nxL (a b : Nat) : (a = a + b) = (b = 0) := by rw [eq_iff_iff]; omega
theorem nxR (a b : Nat) : (a + b = a) = (b = 0) := by rw [eq_iff_iff]; omega
theorem nxC (a b c : Nat) : (a + b = a + c) = (b = c) := by rw [eq_iff_iff]; omega
theorem nxA (a : Nat) : a + 1 + 1 = a + 2 := rfl
theorem EVS : 
    ((∀ (s : St) (d : Nat) (r : AV) (nr : Option Row) (t : Nat), (s.put d r nr).tm t = if t = d then r else s.tm t) ∧
    (∀ (s : St) (d : Nat) (r : AV), (s.put d r none).H = s.H) ∧
    (∀ (s : St) (d : Nat) (r : AV) (row : Row), (s.put d r (some row)).H = updH s.H s.nx (.row row)) ∧
    (∀ (s : St) (d : Nat) (r : AV), (s.put d r none).nx = s.nx) ∧
    (∀ (s : St) (d : Nat) (r : AV) (row : Row), (s.put d r (some row)).nx = s.nx + 1) ∧
    (∀ (s : St) (d : Nat) (r : AV) (ids : List Nat) (t : Nat), (s.back d r ids).tm t = if t = d then r else s.tm t) ∧
    (∀ (s : St) (d : Nat) (r : AV) (ids : List Nat), (s.back d r ids).nx = s.nx) ∧
    (∀ (s : St) (d : Nat) (x : Value) (ids : List Nat), (s.back d (.v x) ids).H = s.H) ∧
    (∀ (s : St) (d : Nat) (r : AV) (ids : List Nat), (s.back d r ids).H = afterH s.H ids r) ∧
    (∀ (H : Nat → Option AO) (r : AV), afterH H [] r = H) ∧
    (∀ (f : Nat → AV) (d : Nat) (r : AV) (t : Nat), upd f d r t = if t = d then r else f t) ∧
    (∀ (args : List AV) (t : Nat), (startSt args).tm t = args.getD t .junk) ∧
    (∀ (args : List AV), (startSt args).H = fun _ => none) ∧
    (∀ (args : List AV), (startSt args).nx = 0)) ∧
    ((∀ (H : Nat → Option AO) (i : Nat) (r : Row) (j : Nat), rowAt (updH H i (.row r)) j = if j = i then some r else rowAt H j) ∧
    (∀ (j : Nat), rowAt (fun _ => none) j = none) ∧
    (∀ (s : St) (t : Nat), s.ev (.tmp t) = s.tm t) ∧
    (∀ (s : St) (x : Value), s.ev (.const x) = constA x) ∧
    (∀ (s : St) (f : FuncId), s.ev (.func f) = .clo f []) ∧
    (∀ (k : IntKind) (n : Int), constA (.int k n) = .v (.int k n)) ∧
    (∀ (b : Bool), constA (.bool b) = .v (.bool b)) ∧
    (∀ (b : ByteArray), constA (.string b) = .v (.string b)) ∧
    (constA (.slice none 0 0) = .v (.slice none 0 0))) ∧
    ((∀ (H : Nat → Option AO) (k : IntKind) (n : Int), viewA H (.v (.int k n)) = some (.v (.int k n))) ∧
    (∀ (H : Nat → Option AO) (b : Bool), viewA H (.v (.bool b)) = some (.v (.bool b))) ∧
    (∀ (H : Nat → Option AO) (b : ByteArray), viewA H (.v (.string b)) = some (.v (.string b))) ∧
    (∀ (H : Nat → Option AO), viewA H (.v (.slice none 0 0)) = some (.lst [])) ∧
    (∀ (H : Nat → Option AO) (es : List (List AV)), viewA H (.lst es) = some (.lst es)) ∧
    (∀ (H : Nat → Option AO) (cs : List AV), viewA H (.agg cs) = (viewL H cs).map .agg) ∧
    (∀ (H : Nat → Option AO) (cs : List AV), viewA H (.tup cs) = (viewL H cs).map .tup) ∧
    (∀ (H : Nat → Option AO) (f : FuncId) (cs : List AV), viewA H (.clo f cs) = (viewL H cs).map (.clo f)) ∧
    (∀ (H : Nat → Option AO) (e : List AV) (j : Nat), viewA H (.iptr e j) = some (.iptr e j)) ∧
    (∀ (H : Nat → Option AO), viewL H [] = some []) ∧
    (∀ (H : Nat → Option AO) (c : AV) (cs : List AV), viewL H (c :: cs) = (match viewA H c, viewL H cs with | some d, some ds => some (d :: ds) | _, _ => none))) ∧
    ((∀ (x : Value), idsA (.v x) = []) ∧
    (∀ (es : List (List AV)), idsA (.lst es) = []) ∧
    (∀ (cs : List AV), idsA (.agg cs) = idsL cs) ∧
    (∀ (cs : List AV), idsA (.tup cs) = idsL cs) ∧
    (∀ (f : FuncId) (cs : List AV), idsA (.clo f cs) = idsL cs) ∧
    (∀ (id off n : Nat), idsA (.ref id off n) = [id]) ∧
    (∀ (id i j n : Nat), idsA (.ptr id i j n) = [id]) ∧
    (∀ (e : List AV) (j : Nat), idsA (.iptr e j) = []) ∧
    (idsL [] = []) ∧
    (∀ (c : AV) (cs : List AV), idsL (c :: cs) = idsA c ++ idsL cs)) :=
  ⟨⟨put_tm, put_H0, put_H1, put_nx0, put_nx1, back_tm, back_nx, back_H0, back_H, afterH_nil, upd_at, start_tm, start_H, start_nx⟩,
   ⟨rowAt_upd, rowAt_none, ev_tmp, ev_const, ev_func, constA_int, constA_bool, constA_str, constA_nil⟩,
   ⟨view_v_int, view_v_bool, view_v_str, view_nil, view_lst, view_agg, view_tup, view_clo, view_iptr, viewL_nil, viewL_cons⟩,
   ⟨idsA_v, idsA_lst, idsA_agg, idsA_tup, idsA_clo, idsA_ref, idsA_ptr, idsA_iptr, idsL_nil, idsL_cons⟩⟩
theorem LST : 
    ((∀ (α : Type) (a d : α) (l : List α), (a :: l).getD 0 d = a) ∧ (∀ (α : Type) (a d : α) (l : List α) (n : Nat), (a :: l).getD (n + 1) d = l.getD n d) ∧ (∀ (α : Type) (d : α) (n : Nat), ([] : List α).getD n d = d) ∧
    (∀ (α β : Type) (f : α → β) (a : α), Option.map f (some a) = some (f a)) ∧ (∀ (α β : Type) (f : α → β), Option.map f none = none) ∧
    (∀ (α : Type) (a : α) (l : List α), (a :: l)[0]? = some a) ∧ (∀ (α : Type) (a : α) (l : List α) (n : Nat), (a :: l)[n + 1]? = l[n]?) ∧ (∀ (α : Type) (n : Nat), ([] : List α)[n]? = none)) ∧
    ((∀ (α : Type) (a : α) (l : List α), (a :: l).length = l.length + 1) ∧ (∀ (α : Type), ([] : List α).length = 0) ∧ (∀ (α : Type) (a : α) (l : List α) (n : Nat), (a :: l).drop (n + 1) = l.drop n) ∧ (∀ (α : Type) (l : List α), l.drop 0 = l) ∧
    (∀ (α : Type) (a : α) (l : List α) (n : Nat), (a :: l).take (n + 1) = a :: l.take n) ∧ (∀ (α : Type) (l : List α), l.take 0 = []) ∧ (∀ (α : Type) (n : Nat), ([] : List α).drop n = []) ∧ (∀ (α : Type) (n : Nat), ([] : List α).take n = []) ∧
    (∀ (α : Type) (l : List α), l ++ [] = l) ∧ (∀ (α : Type) (l : List α), [] ++ l = l) ∧ (∀ (α : Type) (a : α) (l m : List α), (a :: l) ++ m = a :: (l ++ m)) ∧
    (∀ (α : Type) (p : α → Bool) (a : α) (l : List α), (a :: l).all p = (p a && l.all p)) ∧ (∀ (α : Type) (p : α → Bool), [].all p = true) ∧
    (∀ (α β : Type) (f : α → β) (a : α) (l : List α), (a :: l).map f = f a :: l.map f) ∧ (∀ (α β : Type) (f : α → β), [].map f = []) ∧
    (∀ (α : Type) (a b : α) (l : List α), (a :: l).set 0 b = b :: l) ∧ (∀ (α : Type) (a b : α) (l : List α) (n : Nat), (a :: l).set (n + 1) b = a :: l.set n b)) :=
  ⟨⟨fun _ _ _ _ => rfl, fun _ _ _ _ _ => rfl, fun _ _ _ => rfl, fun _ _ _ _ => rfl, fun _ _ _ => rfl, fun _ _ _ => rfl, fun _ _ _ _ => rfl, fun _ _ => rfl⟩,
   ⟨fun _ _ _ => rfl, fun _ => rfl, fun _ _ _ _ => rfl, fun _ _ => rfl, fun _ _ _ _ => rfl, fun _ _ => rfl, fun _ n => by cases n <;> rfl, fun _ n => by cases n <;> rfl, fun _ _ => List.append_nil _, fun _ _ => rfl, fun _ _ _ _ => rfl,
    fun _ _ _ _ => rfl, fun _ _ => rfl, fun _ _ _ _ _ => rfl, fun _ _ _ => rfl, fun _ _ _ _ => rfl, fun _ _ _ _ _ => rfl⟩⟩
theorem W.draw {C : Cx} {N : Nat} {Q : Exit → St → Prop} {s : St} {l : List Oper} {id : Nat} (hm : C.P.follows .mixedOrders = true) (hok : drawOK l [] [] = true)
    (h : DW C N l.toArray s.H s.nx [] [] [] (fun s' => Q .normal s') 0 l s) : AW C N (.region id l.toArray true) Q s := AW.draw hm [] [] [] 0 hok h
end Go.Pg
