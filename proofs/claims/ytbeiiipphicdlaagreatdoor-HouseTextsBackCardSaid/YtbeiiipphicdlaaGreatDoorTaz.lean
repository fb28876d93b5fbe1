/-
  Contracts of functions, proved by going through their code. No conditions.
-/
import Derived.Test.YtbeiiipphicdlaaGreatDoorTak
set_option linter.unusedVariables false
set_option linter.unusedSimpArgs false
set_option maxHeartbeats 4000000
namespace Go.Pg
open Go Go.RowKit
def nrX (a : Nat) (row : Row) : Nat → Option Row := fun k => if k = a then some row else none
def StepX (C : Cx) (N : Nat) (ops : Array Oper) (H0 : Nat → Option AO) (b : Nat) (tg mk av : List Nat) (c a : Nat) (row : Row) (s s' : St) (r : AV) (i : Nat) (o : Oper) : Prop :=
  s'.tm = updO s.tm o.dst r ∧
    (if i ∈ tg then TCert C N ops o s.H s.nx s.tm r s'.H s'.nx ∧ (∀ id x, id ∉ av → s.H id = some x → s'.H id = some x) ∧
        (i = c → TCert C N ops o (putH s.H (b + a) (some row)) s.nx s.tm r (putH s'.H (b + a) (some row)) s'.nx ∧ s'.H (b + a) = none ∧ s.nx ≤ s'.nx)
     else s'.H = putH s.H (b + i) (nrX a row i) ∧ s'.nx = s.nx ∧ LCert C N ops o (if i ∈ mk ∨ i = a then mask av H0 else H0) s.tm (b + i) r (nrX a row i))
def DX (C : Cx) (N : Nat) (ops : Array Oper) (H0 : Nat → Option AO) (b : Nat) (tg mk av : List Nat) (c a : Nat) (row : Row) (Fin : St → Prop) : Nat → List Oper → St → Prop
  | _, [], s => Fin s
  | i, o :: l, s => ∃ (r : AV) (s' : St), StepX C N ops H0 b tg mk av c a row s s' r i o ∧ DX C N ops H0 b tg mk av c a row Fin (i + 1) l s'
def lateOK (l : List Oper) (tg mk : List Nat) (c a : Nat) : Bool :=
  decide (c < a) && tg.contains c && !(tg.contains a) && !(mk.contains a) && tg.all fun k => k == c || ((ancs l []).getD k 0).testBit a
theorem lateOK_of {l : List Oper} {tg mk : List Nat} {c a : Nat} (h : lateOK l tg mk c a = true) : c < a ∧ c ∈ tg ∧ a ∉ tg ∧ a ∉ mk ∧ ∀ k, k ∈ tg → k = c ∨ ((ancs l []).getD k 0).testBit a = true := by
  unfold lateOK at h
  simp only [Bool.and_eq_true, decide_eq_true_eq, Bool.not_eq_true', List.contains_eq_mem, decide_eq_false_iff_not, List.all_eq_true, Bool.or_eq_true, beq_iff_eq] at h
  obtain ⟨⟨⟨⟨h1, h2⟩, h3⟩, h4⟩, h5⟩ := h
  exact ⟨h1, h2, h3, h4, h5⟩
section
variable {C : Cx} {N : Nat} {ops : Array Oper} {H0 : Nat → Option AO} {b : Nat} {tg mk av : List Nat} {c a : Nat} {row : Row} {Fin : St → Prop}
theorem DX.trace : ∀ (l : List Oper) (i : Nat) (s : St), DX C N ops H0 b tg mk av c a row Fin i l s → ∃ tr : Tr, tr.st i = s ∧ tr.nr = nrX a row ∧ (∀ j o, l[j]? = some o → StepX C N ops H0 b tg mk av c a row (tr.st (i + j)) (tr.st (i + j + 1)) (tr.r (i + j)) (i + j) o) ∧ Fin (tr.st (i + l.length))
  | [], i, s, h => ⟨⟨fun _ => s, fun _ => .junk, nrX a row⟩, rfl, rfl, fun j o h => by simp at h, h⟩
  | o :: l, i, s, h => by
    obtain ⟨r, s', h1, h3⟩ := h
    obtain ⟨tr, g1, gn, g2, g3⟩ := DX.trace l (i + 1) s' h3
    refine ⟨⟨fun k => if k ≤ i then s else tr.st k, fun k => if k = i then r else tr.r k, nrX a row⟩, by simp, rfl, ?_, ?_⟩
    · intro j o' hj
      cases j with
      | zero =>
        simp only [List.getElem?_cons_zero, Option.some.injEq] at hj
        subst hj
        have e : ¬ (i + 1 ≤ i) := by omega
        simp only [Nat.add_zero, Nat.le_refl, if_true, if_neg e, g1]
        exact h1
      | succ j =>
        simp only [List.getElem?_cons_succ] at hj
        have := g2 j o' hj
        have e1 : i + 1 + j = i + (j + 1) := by omega
        rw [e1] at this
        show StepX C N ops H0 b tg mk av c a row (if i + (j + 1) ≤ i then s else tr.st (i + (j + 1))) (if i + (j + 1) + 1 ≤ i then s else tr.st (i + (j + 1) + 1)) (if i + (j + 1) = i then r else tr.r (i + (j + 1))) _ _
        rw [if_neg (by omega), if_neg (by omega), if_neg (by omega)]
        exact this
    · show Fin (if i + (l.length + 1) ≤ i then s else tr.st (i + (l.length + 1)))
      rw [if_neg (by omega)]
      have e : i + 1 + l.length = i + (l.length + 1) := by omega
      rw [← e]; exact g3
end
section
variable {tr : Tr} {L : Nat → Bool} {i : Nat} {tg : List Nat} {b : Nat}
theorem accH_set_looseX (hi : L i = false) (hit : i ∉ tg) (ht : ∀ k, i < k → k ∈ tg → L k = false) : ∀ k, accH tr tg b (setL L i) k = if k ≤ i then accH tr tg b L k else (putH (accH tr tg b L k).1 (b + i) (tr.nr i), (accH tr tg b L k).2)
  | 0 => by simp [accH]
  | k + 1 => by
    have ih := accH_set_looseX hi hit ht k
    rcases Nat.lt_trichotomy k i with h | h | h
    · rw [if_pos (by omega)]
      rw [if_pos (by omega)] at ih
      simp only [accH, setL, if_neg (show ¬ k = i by omega), ih]
    · subst h
      rw [if_neg (by omega)]
      rw [if_pos (Nat.le_refl _)] at ih
      simp only [accH, setL, if_true, ih, hi, Bool.false_eq_true, if_false, hit]
    · rw [if_neg (by omega)]
      rw [if_neg (by omega)] at ih
      simp only [accH, setL, if_neg (show ¬ k = i by omega), ih]
      split
      · rename_i hL
        split
        · rename_i hk
          rw [ht k h hk] at hL; cases hL
        · rw [putH_comm (by omega)]
      · rfl
end
section
variable {C : Cx} {N : Nat} {Q : Exit → St → Prop} {s : St} {l : List Oper}
theorem AW.drawX (hm : C.P.follows .mixedOrders = true) {id : Nat} (tg mk av : List Nat) (x c a0 : Nat) (row : Row) (hok : drawOK l tg (a0 :: mk) = true) (hlate : lateOK l tg mk c a0 = true) (hax : a0 < x) (hfr : s.H (s.nx + a0) = none)
    (h : DX C N l.toArray s.H s.nx tg mk av c a0 row (fun s' => Q .normal s') 0 l { s with nx := s.nx + x }) : AW C N (.region id l.toArray true) Q s := by
  have hO := ordOK_of hok
  obtain ⟨hca, hct, hat0, ham0, hla⟩ := lateOK_of hlate
  obtain ⟨tr, h0, hnrX, hT, hF⟩ := DX.trace l 0 _ h
  have hnrN : ∀ k, k ≠ a0 → tr.nr k = none := fun k hk => by rw [hnrX]; exact if_neg hk
  have hnrA : tr.nr a0 = some row := by rw [hnrX]; exact if_pos rfl
  simp only [Nat.zero_add] at hT hF
  intro S0 w0 a w hE hs
  refine wpIn_region_any hm ?_
  let d : Nat → Option Nat := fun k => (l[k]?).bind (·.dst)
  let b := s.nx
  let LL : Array Bool → Nat → Bool := fun listed k => listed.getD k false
  let stD : (Nat → Bool) → St := fun L => ⟨accT tr d L l.length, (accH tr tg b L l.length).1, (accH tr tg b L l.length).2⟩
  have hs0 : (tr.st 0).H = s.H ∧ (tr.st 0).nx = s.nx + x ∧ (tr.st 0).tm = s.tm := by rw [h0]; exact ⟨rfl, rfl, rfl⟩
  have hget : ∀ {k}, k < l.length → ∃ o, l[k]? = some o := fun {k} h => ⟨_, List.getElem?_eq_getElem h⟩
  have hlt : ∀ {k o}, l[k]? = some o → k < l.length := fun {k o} h => (List.getElem?_eq_some_iff.1 h).1
  have hstep : ∀ k, k < l.length → (tr.st (k + 1)).tm = updO (tr.st k).tm (d k) (tr.r k) := fun k hk => by
    obtain ⟨o, ho⟩ := hget hk
    have := (hT k o ho).1
    rw [this]; simp [d, ho]
  have hloose : ∀ k, k < l.length → k ∉ tg → (tr.st (k + 1)).H = putH (tr.st k).H (b + k) (tr.nr k) ∧ (tr.st (k + 1)).nx = (tr.st k).nx := fun k hk hkt => by
    obtain ⟨o, ho⟩ := hget hk
    have := (hT k o ho).2
    rw [if_neg hkt] at this
    exact ⟨by rw [hnrX]; exact this.1, this.2.1⟩
  have halloc : ∀ k, tr.nr k ≠ none → k = a0 := fun k hn => by
    by_cases hk : k = a0
    · exact hk
    · exact absurd (hnrN k hk) hn
  -- the ancestors are done
  have hanc : ∀ {L : Nat → Bool}, Closed l L → ∀ {i o k}, l[i]? = some o → ((ancs l []).getD i 0).testBit k = true → (∀ j ∈ bnd o, L j = true) → L k = true := fun {L} hL {i o k} ho hk hj =>
    ancs_spec hL l [] (by simp) (by simp) (by simp) hO.back i o ho k hk hj
  have hancL : ∀ {L : Nat → Bool}, Closed l L → ∀ {i o k}, l[i]? = some o → ((ancs l []).getD i 0).testBit k = true → L i = true → L k = true := fun {L} hL {i o k} ho hk hi =>
    hanc hL ho hk (hL i o ho hi)
  -- an ancestor comes before
  have hancLt : ∀ {i o k}, l[i]? = some o → ((ancs l []).getD i 0).testBit k = true → k < i := by
    intro i o k ho hk
    have hc : Closed l (fun j => decide (j < i)) := fun i' o' ho' hi' j hj => by
      have := hO.back i' o' ho' j hj
      simp only [decide_eq_true_eq] at hi' ⊢; omega
    have := hanc hc ho hk (fun j hj => by simpa using hO.back i o ho j hj)
    simpa using this
  have main : ∀ (fuel : Nat) (listed : Array Bool) (a : Act) (w : World), listed.size = l.length → Closed l (LL listed) → ((List.range l.length).filter (fun i => !(LL listed i))).length ≤ fuel → Sim S0 w0 N a w (stD (LL listed)) →
      wpAnyIn C.F 0 C.P .any l.toArray (fun e a' w' => ∃ s', Sim S0 w0 N a' w' s' ∧ Q e s') fuel listed a w := by
    -- all is done
    have hend : ∀ (listed : Array Bool) (a : Act) (w : World), (∀ k, k < l.length → LL listed k = true) → Sim S0 w0 N a w (stD (LL listed)) → ∃ s', Sim S0 w0 N a w s' ∧ Q .normal s' := by
      intro listed a w hall hsim
      refine ⟨_, hsim, ?_⟩
      have e1 := accT_all (L := LL listed) hstep hall l.length (Nat.le_refl _)
      have e2 := accH_at (L := LL listed) hloose (fun k hk _ => hall k hk) l.length (Nat.le_refl _)
      have : stD (LL listed) = tr.st l.length := by
        show St.mk _ _ _ = _
        rw [e1, e2]
      rw [this]; exact hF
    have hready : ∀ (listed : Array Bool), listed.size = l.length → Region.ready .any l.toArray listed = [] → ∀ k, k < l.length → LL listed k = true := by
      intro listed hsz hr k
      induction k using Nat.strongRecOn with
      | ind k ih =>
        intro hk
        obtain ⟨o, ho⟩ := hget hk
        cases hL : LL listed k with
        | true => rfl
        | false =>
          have : k ∈ Region.ready .any l.toArray listed := (mem_ready hsz).2 ⟨o, ho, hL, fun j hj => ih j (hO.back k o ho j hj) (by have := hO.back k o ho j hj; omega)⟩
          rw [hr] at this; cases this
    intro fuel
    induction fuel with
    | zero =>
      intro listed a w hsz hcl hcnt hsim
      have hall : ∀ k, k < l.length → LL listed k = true := by
        intro k hk
        cases hL : LL listed k with
        | true => rfl
        | false =>
          have : k ∈ (List.range l.length).filter (fun i => !(LL listed i)) := by simp [hk, hL]
          have := List.length_pos_of_mem this
          omega
      refine ⟨?_, hend listed a w hall hsim⟩
      apply List.eq_nil_iff_forall_not_mem.2
      intro i hi
      obtain ⟨o, h1, h2, _⟩ := (mem_ready hsz).1 hi
      have := hall i (hlt h1)
      rw [show LL listed i = listed.getD i false from rfl, h2] at this; cases this
    | succ fuel ih =>
      intro listed a w hsz hcl hcnt hsim
      refine ⟨fun hr => hend listed a w (hready listed hsz hr) hsim, fun i hi => ?_⟩
      obtain ⟨o, ho, hLi, hbo⟩ := (mem_ready hsz).1 hi
      have hil := hlt ho
      have hL' : LL (listed.setIfInBounds i true) = setL (LL listed) i := by
        funext k
        show (listed.setIfInBounds i true).getD k false = setL (LL listed) i k
        unfold setL
        rw [Array.getD_eq_getD_getElem?, Array.getElem?_setIfInBounds]
        by_cases hk : i = k
        · subst hk; simp [hsz, hil]
        · rw [if_neg hk, if_neg (fun e => hk e.symm)]; rw [← Array.getD_eq_getD_getElem?]
      have hbo' : ∀ j ∈ bnd o, LL listed j = true := hbo
      have hcl' : Closed l (LL (listed.setIfInBounds i true)) := by
        rw [hL']
        intro i' o' ho' hi' j hj
        unfold setL at hi' ⊢
        by_cases hji : j = i
        · rw [if_pos hji]
        · rw [if_neg hji]
          by_cases hii : i' = i
          · subst hii; rw [ho] at ho'; injection ho' with ho'; subst ho'; exact hbo' j hj
          · rw [if_neg hii] at hi'; exact hcl i' o' ho' hi' j hj
      have hLi' : LL listed i = false := hLi
      have hcnt' : ((List.range l.length).filter (fun k => !(LL (listed.setIfInBounds i true) k))).length ≤ fuel := by
        have := filter_len_lt (p := fun k => !(LL listed k)) (q := fun k => !(LL (listed.setIfInBounds i true) k)) (List.range l.length) i (by simp [hil]) (by simp [hLi']) (by rw [hL']; simp [setL])
          (fun y hy => by rw [hL'] at hy; unfold setL at hy; by_cases h : y = i <;> simp_all)
        omega
      -- one step
      have hone : One C N l.toArray o (stD (LL listed)) (stD (LL (listed.setIfInBounds i true))) := by
        have hTi := hT i o ho
        have hdi : d i = o.dst := by simp [d, ho]
        -- the temporaries
        have htm : accT tr d (LL (listed.setIfInBounds i true)) l.length = updO (accT tr d (LL listed) l.length) o.dst (tr.r i) := by
          rw [hL', accT_set hLi' (fun k t hk hdk hdi' => by
            have hkl : k < l.length := by
              rcases Nat.lt_or_ge k l.length with h | h
              · exact h
              · simp [d, List.getElem?_eq_none h] at hdk
            obtain ⟨p, hp⟩ := hget hkl
            have h1 : p.dst = some t := by simpa [d, hp] using hdk
            exact hO.dsts i o k p t ho hp hk h1 (by rw [← hdi]; exact hdi')), if_neg (by omega), hdi]
        have huse : ∀ t ∈ o.looksAt l.toArray, accT tr d (LL listed) l.length t = (tr.st i).tm t := by
          intro t ht
          have := accT_uses (tr := tr) (d := d) (L := LL listed) (i := i) (t := t) hstep (fun k hk hdk => by
            obtain ⟨p, hp⟩ := hget hk
            have h1 : p.dst = some t := by simpa [d, hp] using hdk
            rcases hO.uses i o k p t ho hp h1 ht with h | h
            · exact ⟨fun _ => hancLt ho h, fun _ => hanc hcl ho h hbo'⟩
            · have hik := hancLt hp h
              refine ⟨fun hLk => ?_, fun hki => by omega⟩
              have := hancL hcl hp h hLk
              rw [hLi'] at this; cases this) l.length (Nat.le_refl _) (by omega)
          rw [this, Nat.min_eq_right (by omega)]
        have hLlt : ∀ k, LL listed k = true → k < l.length := fun k hLk => by
          rcases Nat.lt_or_ge k l.length with h | h
          · exact h
          · have hg : listed.getD k false = true := hLk
            rw [Array.getD_eq_getD_getElem?, Array.getElem?_eq_none (by omega)] at hg; cases hg
        -- what is not written stays in the order of the text
        have hst : ∀ k, k ≤ l.length → Ext (mask av s.H) (tr.st k).H := by
          intro k
          induction k with
          | zero => intro _ id x hx; rw [hs0.1]; unfold mask at hx; split at hx <;> first | cases hx | exact hx
          | succ k ih2 =>
            intro hk
            have ih3 := ih2 (by omega)
            obtain ⟨p, hp⟩ := hget (show k < l.length by omega)
            by_cases hkt : k ∈ tg
            · have := (hT k p hp).2
              rw [if_pos hkt] at this
              intro id x hx
              have hav : id ∉ av := by unfold mask at hx; split at hx <;> simp_all
              exact this.2.1 id x hav (ih3 id x hx)
            · rw [(hloose k (by omega) hkt).1]
              cases hn : tr.nr k with
              | none => exact ih3
              | some r =>
                have hka := halloc k (by rw [hn]; simp)
                intro id x hx
                simp only [putH, updH]
                rw [if_neg (fun e => by subst e; rw [hka] at hx; unfold mask at hx; split at hx <;> first | cases hx | (rw [hfr] at hx; cases hx))]
                exact ih3 id x hx
        have hmask : ∀ k, mask av s.H k = none ∨ mask av s.H k = s.H k := fun k => by unfold mask; split <;> simp
        have hextM : Ext (mask av s.H) (accH tr tg b (LL listed) l.length).1 := by
          refine accH_ext (n := l.length) (hst 0 (by omega)) (fun k hk hkt hn => ?_) (fun k hk _ _ => hst (k + 1) (by omega)) l.length (Nat.le_refl _)
          rw [halloc k hn]
          rcases hmask (b + a0) with h | h
          · exact h
          · rw [h]; exact hfr
        have hnx0 : ∀ k, k ≤ c → k ≤ l.length → (tr.st k).nx = s.nx + x := by
          intro k
          induction k with
          | zero => intro _ _; exact hs0.2.1
          | succ k ih2 =>
            intro hk hkl
            have hkt : k ∉ tg := fun hkt => by
              rcases hla k hkt with h | h
              · omega
              · obtain ⟨p, hp⟩ := hget (show k < l.length by omega)
                have := hancLt hp h; omega
            rw [(hloose k (by omega) hkt).2]; exact ih2 (by omega) (by omega)
        by_cases hit : i ∈ tg
        · -- it has its place
          obtain ⟨_, hTi⟩ := hTi
          rw [if_pos hit] at hTi
          have hbefore : ∀ k, k < l.length → k ∉ mk → k ≠ a0 → k ∉ tg → LL listed k = true := fun k hk hkm hka hkt => by
            obtain ⟨p, hp⟩ := hget hk
            exact hanc hcl ho (hO.loose i o k p ho hp hit hkt (by simp [hka, hkm])) hbo'
          have haftT : ∀ k, i ≤ k → LL listed k = true → k ∉ tg := by
            intro k hk hLk hkt
            obtain ⟨p, hp⟩ := hget (hLlt k hLk)
            rcases hO.tight i o k p ho hp hit hkt with h | h | h
            · subst h; rw [hLi'] at hLk; cases hLk
            · have := hancLt ho h; omega
            · have := hancL hcl hp h hLk; rw [hLi'] at this; cases this
          by_cases hic : i = c
          · -- the call
            subst hic
            have hnone : ∀ k, k ∈ tg → LL listed k = false := by
              intro k hkt
              cases hLk : LL listed k with
              | false => rfl
              | true =>
                have hkl := hLlt k hLk
                rcases hla k hkt with h | h
                · subst h; rw [hLi'] at hLk; cases hLk
                · obtain ⟨p, hp⟩ := hget hkl
                  have hak := hancLt hp h
                  exact absurd hkt (haftT k (by omega) hLk)
            have hH0 : ∀ k, k ≤ i → (tr.st k).H = s.H := by
              intro k
              induction k with
              | zero => intro _; exact hs0.1
              | succ k ih2 =>
                intro hk
                have hkt : k ∉ tg := fun hkt => by
                  rcases hla k hkt with h | h
                  · omega
                  · obtain ⟨p, hp⟩ := hget (show k < l.length by omega)
                    have := hancLt hp h; omega
                rw [(hloose k (by omega) hkt).1, hnrN k (by omega)]; exact ih2 (by omega)
            have hacc : ∀ k, k ≤ l.length → accH tr tg b (LL listed) k = (if k ≤ a0 then s.H else if LL listed a0 = true then putH s.H (b + a0) (some row) else s.H, s.nx + x) := by
              intro k
              induction k with
              | zero => intro _; simp only [accH, Nat.zero_le, if_true]; rw [hs0.1, hs0.2.1]
              | succ k ih2 =>
                intro hk
                have ih3 := ih2 (by omega)
                simp only [accH]
                by_cases hLk : LL listed k = true
                · have hkt : k ∉ tg := fun hkt => by rw [hnone k hkt] at hLk; cases hLk
                  rw [if_pos hLk, if_neg hkt, ih3]
                  by_cases hka : k = a0
                  · subst hka
                    rw [hnrA, if_pos (Nat.le_refl _), if_neg (show ¬ (k + 1 ≤ k) by omega), if_pos hLk]
                  · rw [hnrN k hka]
                    simp only [putH]
                    by_cases hka2 : k ≤ a0
                    · rw [if_pos hka2, if_pos (by omega)]
                    · rw [if_neg hka2, if_neg (show ¬ (k + 1 ≤ a0) by omega)]
                · rw [if_neg hLk, ih3]
                  by_cases hka : k = a0
                  · subst hka
                    rw [if_pos (Nat.le_refl _), if_neg (show ¬ (k + 1 ≤ k) by omega), if_neg hLk]
                  · by_cases hka2 : k ≤ a0
                    · rw [if_pos hka2, if_pos (by omega)]
                    · rw [if_neg hka2, if_neg (show ¬ (k + 1 ≤ a0) by omega)]
            have hset : ∀ k, i < k → k ≤ l.length → accH tr tg b (setL (LL listed) i) k = (if k ≤ a0 then (tr.st (i + 1)).H else if LL listed a0 = true then putH (tr.st (i + 1)).H (b + a0) (some row) else (tr.st (i + 1)).H, (tr.st (i + 1)).nx) := by
              intro k
              induction k with
              | zero => intro h; omega
              | succ k ih2 =>
                intro hk hkl
                by_cases hki : k = i
                · subst hki; simp only [accH, setL, if_true, hit]; rw [if_pos (by omega)]
                · have ih3 := ih2 (by omega) (by omega)
                  simp only [accH, setL, if_neg hki]
                  have e3 : accH tr tg b (fun j => if j = i then true else LL listed j) k = accH tr tg b (setL (LL listed) i) k := rfl
                  rw [ih3]
                  by_cases hLk : LL listed k = true
                  · have hkt : k ∉ tg := fun hkt => by rw [hnone k hkt] at hLk; cases hLk
                    rw [if_pos hLk, if_neg hkt]
                    by_cases hka : k = a0
                    · subst hka
                      rw [hnrA, if_pos (Nat.le_refl _), if_neg (show ¬ (k + 1 ≤ k) by omega), if_pos hLk]
                    · rw [hnrN k hka]
                      simp only [putH]
                      by_cases hka2 : k ≤ a0
                      · rw [if_pos hka2, if_pos (by omega)]
                      · rw [if_neg hka2, if_neg (show ¬ (k + 1 ≤ a0) by omega)]
                  · rw [if_neg hLk]
                    by_cases hka : k = a0
                    · subst hka
                      rw [if_pos (Nat.le_refl _), if_neg (show ¬ (k + 1 ≤ k) by omega), if_neg hLk]
                    · by_cases hka2 : k ≤ a0
                      · rw [if_pos hka2, if_pos (by omega)]
                      · rw [if_neg hka2, if_neg (show ¬ (k + 1 ≤ a0) by omega)]
            have h1 := hacc l.length (Nat.le_refl _)
            have h2 := hset l.length hil (Nat.le_refl _)
            have hst1 := hH0 i (Nat.le_refl _)
            have hnx1 := hnx0 i (Nat.le_refl _) (by omega)
            show One C N l.toArray o (stD (LL listed)) ⟨accT tr d (LL (listed.setIfInBounds i true)) l.length, (accH tr tg b (LL (listed.setIfInBounds i true)) l.length).1, (accH tr tg b (LL (listed.setIfInBounds i true)) l.length).2⟩
            rw [htm, hL', h2]
            by_cases hLa : LL listed a0 = true
            · have hal := hLlt a0 hLa
              rw [if_neg (by omega), if_pos hLa] at h1 ⊢
              exact (hTi.2.2 rfl).1 (stD (LL listed)) (by show (accH tr tg b (LL listed) l.length).1 = _; rw [h1, hst1]) (by show (accH tr tg b (LL listed) l.length).2 = _; rw [h1, hnx1]) huse
            · rw [if_neg hLa] at h1 ⊢
              have e1 : (if l.length ≤ a0 then s.H else s.H) = s.H := by split <;> rfl
              have e2 : (if l.length ≤ a0 then (tr.st (i + 1)).H else (tr.st (i + 1)).H) = (tr.st (i + 1)).H := by split <;> rfl
              rw [e1] at h1
              rw [e2]
              exact hTi.1 (stD (LL listed)) (by show (accH tr tg b (LL listed) l.length).1 = _; rw [h1, hst1]) (by show (accH tr tg b (LL listed) l.length).2 = _; rw [h1, hnx1]) huse
          · have hai : ((ancs l []).getD i 0).testBit a0 = true := by
              rcases hla i hit with h | h
              · exact absurd h hic
              · exact h
            have haLt := hancLt ho hai
            have hafter : ∀ k, i ≤ k → LL listed k = true → k ∉ tg ∧ tr.nr k = none := fun k hk hLk => ⟨haftT k hk hLk, hnrN k (by omega)⟩
            have hat : accH tr tg b (LL listed) l.length = ((tr.st i).H, (tr.st i).nx) := by
              rw [accH_stay (i := i) l.length (by omega) (fun j h1 h2 h3 => hafter j h1 h3)]
              exact accH_at (n := i) (fun k hk => hloose k (by omega)) (fun k hk h => by
                obtain ⟨p, hp⟩ := hget (show k < l.length by omega)
                by_cases hkt : k ∈ tg
                · rcases hO.tight i o k p ho hp hit hkt with h | h | h
                  · omega
                  · exact hanc hcl ho h hbo'
                  · have := hancLt hp h; omega
                · rcases h with h | h
                  · exact absurd h hkt
                  · rw [halloc k h]; exact hanc hcl ho hai hbo') i (Nat.le_refl _)
            have hset : accH tr tg b (LL (listed.setIfInBounds i true)) l.length = ((tr.st (i + 1)).H, (tr.st (i + 1)).nx) := by
              rw [hL']
              exact accH_set_tight hLi' hit (fun k hk hLk => hafter k (by omega) hLk) l.length hil
            have := hTi.1 (stD (LL listed)) (by show (accH tr tg b (LL listed) l.length).1 = _; rw [hat]) (by show (accH tr tg b (LL listed) l.length).2 = _; rw [hat]) huse
            show One C N l.toArray o (stD (LL listed)) ⟨accT tr d (LL (listed.setIfInBounds i true)) l.length, (accH tr tg b (LL (listed.setIfInBounds i true)) l.length).1, (accH tr tg b (LL (listed.setIfInBounds i true)) l.length).2⟩
            rw [htm, hset]
            exact this
        · obtain ⟨_, hTi⟩ := hTi
          rw [if_neg hit] at hTi
          obtain ⟨_, _, hcert⟩ := hTi
          rw [← hnrX] at hcert
          by_cases hia : i = a0
          · -- the new object
            subst hia
            have hlater : ∀ k, k ∈ tg → k ≠ c → LL listed k = false := by
              intro k hkt hkc
              cases hLk : LL listed k with
              | false => rfl
              | true =>
                obtain ⟨p, hp⟩ := hget (hLlt k hLk)
                rcases hla k hkt with h | h
                · exact absurd h hkc
                · have := hancL hcl hp h hLk
                  rw [hLi'] at this; cases this
            have hset : accH tr tg b (LL (listed.setIfInBounds i true)) l.length = (putH (accH tr tg b (LL listed) l.length).1 (b + i) (tr.nr i), (accH tr tg b (LL listed) l.length).2) := by
              rw [hL', accH_set_looseX hLi' hit (fun k hk hkt => hlater k hkt (by omega)) l.length, if_neg (by omega)]
            rw [if_pos (.inr rfl)] at hcert
            have hkey : (stD (LL listed)).H (b + i) = none ∧ b + i < (stD (LL listed)).nx := by
              cases hLc : LL listed c with
              | false =>
                have hnot : ∀ k, k ∈ tg → LL listed k = false := fun k hkt => by
                  by_cases hkc : k = c
                  · rw [hkc]; exact hLc
                  · exact hlater k hkt hkc
                refine ⟨accH_fresh (n := l.length) (by rw [hs0.1]; exact hfr) (fun k hk hkt => hnot k hkt) (fun k hk hLk e => ?_) l.length (Nat.le_refl _), ?_⟩
                · have : k = i := by omega
                  subst this; rw [hLi'] at hLk; cases hLk
                · show b + i < (accH tr tg b (LL listed) l.length).2
                  rw [accH_nx (n := l.length) (fun k hk hkt => hnot k hkt) l.length (Nat.le_refl _), hs0.2.1]
                  exact Nat.add_lt_add_left hax s.nx
              | true =>
                have hcl0 := hLlt c hLc
                obtain ⟨p, hp⟩ := hget hcl0
                have hTc := (hT c p hp).2
                rw [if_pos hct] at hTc
                obtain ⟨_, hT2, hT3⟩ := hTc.2.2 rfl
                have hacc : accH tr tg b (LL listed) l.length = ((tr.st (c + 1)).H, (tr.st (c + 1)).nx) := by
                  rw [accH_stay (tr := tr) (L := LL listed) (tg := tg) (b := b) (i := c + 1) l.length (by omega) (fun j h1 h2 h3 => ⟨fun hjt => (by rw [hlater j hjt (by omega)] at h3; cases h3), hnrN j (fun e => by rw [e, hLi'] at h3; cases h3)⟩)]
                  simp only [accH, hLc, if_true, hct]
                refine ⟨?_, ?_⟩
                · show (accH tr tg b (LL listed) l.length).1 (b + i) = none
                  rw [hacc]; exact hT2
                · show b + i < (accH tr tg b (LL listed) l.length).2
                  rw [hacc]
                  have := hnx0 c (Nat.le_refl _) (by omega)
                  show s.nx + i < (tr.st (c + 1)).nx
                  rw [this] at hT3; omega
            have := hcert (stD (LL listed)) hextM (.inr hkey) huse
            show One C N l.toArray o (stD (LL listed)) ⟨accT tr d (LL (listed.setIfInBounds i true)) l.length, (accH tr tg b (LL (listed.setIfInBounds i true)) l.length).1, (accH tr tg b (LL (listed.setIfInBounds i true)) l.length).2⟩
            rw [htm, hset]
            exact this
          · have hnot : i ∉ mk → ∀ k, k ∈ tg → LL listed k = false := by
              intro hmi k hkt
              cases hLk : LL listed k with
              | false => rfl
              | true =>
                obtain ⟨p, hp⟩ := hget (hLlt k hLk)
                have := hancL hcl hp (hO.loose k p i o hp ho hkt hit (by simp [hia, hmi])) hLk
                rw [hLi'] at this; cases this
            have hset : accH tr tg b (LL (listed.setIfInBounds i true)) l.length = (putH (accH tr tg b (LL listed) l.length).1 (b + i) (tr.nr i), (accH tr tg b (LL listed) l.length).2) := by
              rw [hL', accH_set_loose hLi' hit (.inl (hnrN i hia)) l.length, if_neg (by omega)]
            have hext : Ext (if i ∈ mk ∨ i = a0 then mask av s.H else s.H) (accH tr tg b (LL listed) l.length).1 := by
              by_cases hmi : i ∈ mk
              · rw [if_pos (.inl hmi)]; exact hextM
              · rw [if_neg (fun h => h.elim hmi hia)]
                exact accH_ext (n := l.length) (fun id x hx => by rw [hs0.1]; exact hx) (fun k hk hkt hn => by rw [halloc k hn]; exact hfr) (fun k hk hkt hLk => by rw [hnot hmi k hkt] at hLk; cases hLk) l.length (Nat.le_refl _)
            have := hcert (stD (LL listed)) hext (.inl (hnrN i hia)) huse
            show One C N l.toArray o (stD (LL listed)) ⟨accT tr d (LL (listed.setIfInBounds i true)) l.length, (accH tr tg b (LL (listed.setIfInBounds i true)) l.length).1, (accH tr tg b (LL (listed.setIfInBounds i true)) l.length).2⟩
            rw [htm, hset]
            exact this
      unfold wpOpIn
      have hg : l.toArray[i]? = some o := by simpa using ho
      rw [hg]
      dsimp only
      have h9 := hone S0 w0 a w (wpAnyIn C.F 0 C.P .any l.toArray (fun e a' w' => ∃ s', Sim S0 w0 N a' w' s' ∧ Q e s') fuel (listed.setIfInBounds i true)) (fun e a' w' => ∃ s', Sim S0 w0 N a' w' s' ∧ Q e s') hE hsim (fun a' w' hs' => ih _ a' w' (by simp [hsz]) hcl' hcnt' hs')
      split
      · rename_i hw; rw [if_pos hw] at h9; exact h9
      · rename_i hw; rw [if_neg hw] at h9; exact ⟨fun f _ => C.hF.fn f, h9⟩
  refine main _ _ _ _ (by simp) ?_ ?_ ?_
  · intro i o ho hi
    exfalso
    have : (Array.replicate l.toArray.size false).getD i false = true := hi
    rw [Array.getD_eq_getD_getElem?] at this
    simp [Array.getElem?_replicate] at this
    split at this <;> simp at this
  · refine Nat.le_trans (List.length_filter_le _ _) (by simp)
  · have hnone : ∀ k, LL (Array.replicate l.toArray.size false) k = false := fun k => by
      show (Array.replicate l.toArray.size false).getD k false = false
      rw [Array.getD_eq_getD_getElem?]
      simp only [Array.getElem?_replicate]
      split <;> rfl
    have e1 : ∀ k, accT tr d (LL (Array.replicate l.toArray.size false)) k = s.tm := by
      intro k; induction k with
      | zero => exact hs0.2.2
      | succ k ih => simp only [accT, hnone, Bool.false_eq_true, if_false, ih]
    have e2 : ∀ k, accH tr tg b (LL (Array.replicate l.toArray.size false)) k = (s.H, s.nx + x) := by
      intro k; induction k with
      | zero => show ((tr.st 0).H, (tr.st 0).nx) = _; rw [hs0.1, hs0.2.1]
      | succ k ih => simp only [accH, hnone, Bool.false_eq_true, if_false, ih]
    refine hs.grow (s' := stD _) (w' := { w with drawn := w.drawn + 1 }) ⟨rfl, rfl, rfl, Nat.le_refl _, fun _ _ => rfl⟩ (e1 _) ?_ ?_
    · show (accH tr tg b _ _).1 = _; rw [e2]
    · show s.nx ≤ (accH tr tg b _ _).2; rw [e2]; exact Nat.le_add_right _ _
end
section
variable {C : Cx} {N : Nat} {ops : Array Oper} {H0 : Nat → Option AO} {b : Nat} {tg mk av : List Nat} {c a : Nat} {row : Row} {Fin : St → Prop} {s : St} {i : Nat} {rest : List Oper}
variable {op : Op} {ty : TypeId} {ps : String} {af : Array Edge} {d : Nat}
theorem DX.nil (h : Fin s) : DX C N ops H0 b tg mk av c a row Fin i [] s := h
theorem X.step (hC : C.OK) (hN : d < N) (hi : i ∉ tg ∧ i ∉ mk ∧ i ≠ a) {r : AV} (h : stepA C.T C.eqT H0 s.ev 0 op = some (r, none)) (k : DX C N ops H0 b tg mk av c a row Fin (i + 1) rest (s.put d r none)) :
    DX C N ops H0 b tg mk av c a row Fin i (⟨some d, op, ty, ps, af, none⟩ :: rest) s := by
  refine ⟨r, s.put d r none, ⟨rfl, ?_⟩, k⟩
  rw [if_neg hi.1, if_neg (fun h => h.elim hi.2.1 hi.2.2), show nrX a row i = none from if_neg hi.2.2]
  refine ⟨rfl, rfl, fun s' hx _ ht => one_of_AWL (AWL.step (d := d) (r := r) (nr := none) hC rfl rfl hN ?_ (AWL.nil ⟨rfl, rfl⟩))⟩
  exact stepA_put (stepA_mono hx (fun x hx => (ev_congr ht x hx).symm) h)
theorem X.stepm (hC : C.OK) (hN : d < N) (hi : i ∉ tg ∧ i ∈ mk ∧ i ≠ a) {r : AV} (h : stepA C.T C.eqT (mask av H0) s.ev 0 op = some (r, none)) (k : DX C N ops H0 b tg mk av c a row Fin (i + 1) rest (s.put d r none)) :
    DX C N ops H0 b tg mk av c a row Fin i (⟨some d, op, ty, ps, af, none⟩ :: rest) s := by
  refine ⟨r, s.put d r none, ⟨rfl, ?_⟩, k⟩
  rw [if_neg hi.1, if_pos (.inl hi.2.1), show nrX a row i = none from if_neg hi.2.2]
  refine ⟨rfl, rfl, fun s' hx _ ht => one_of_AWL (AWL.step (d := d) (r := r) (nr := none) hC rfl rfl hN ?_ (AWL.nil ⟨rfl, rfl⟩))⟩
  exact stepA_put (stepA_mono hx (fun x hx => (ev_congr ht x hx).symm) h)
theorem X.stept (hC : C.OK) (hN : d < N) (hi : i ∈ tg ∧ i ≠ c) {r : AV} (h : stepA C.T C.eqT s.H s.ev 0 op = some (r, none)) (k : DX C N ops H0 b tg mk av c a row Fin (i + 1) rest (s.put d r none)) :
    DX C N ops H0 b tg mk av c a row Fin i (⟨some d, op, ty, ps, af, none⟩ :: rest) s := by
  refine ⟨r, s.put d r none, ⟨rfl, ?_⟩, k⟩
  rw [if_pos hi.1]
  refine ⟨fun s' h1 h2 ht => one_of_AWL (AWL.step (d := d) (r := r) (nr := none) hC rfl rfl hN ?_ (AWL.nil ⟨rfl, ?_⟩)), fun id x _ hx => hx, fun e => absurd e hi.2⟩
  · have := stepA_put (k2 := s'.nx) (stepA_mono (H' := s'.H) (fun id x hx => by rw [h1]; exact hx) (fun x hx => (ev_congr ht x hx).symm) h)
    exact this
  · show St.mk _ _ _ = _
    rw [show putH s'.H s'.nx none = s'.H from rfl, h1, h2]; rfl
theorem X.alloc (hC : C.OK) (hN : d < N) (hi : i ∉ tg ∧ i = a) {r : AV} (h : stepA C.T C.eqT (mask av H0) s.ev (b + i) op = some (r, some row))
    (k : DX C N ops H0 b tg mk av c a row Fin (i + 1) rest ⟨upd s.tm d r, updH s.H (b + i) (.row row), s.nx⟩) :
    DX C N ops H0 b tg mk av c a row Fin i (⟨some d, op, ty, ps, af, none⟩ :: rest) s := by
  refine ⟨r, ⟨upd s.tm d r, updH s.H (b + i) (.row row), s.nx⟩, ⟨rfl, ?_⟩, k⟩
  rw [if_neg hi.1, if_pos (.inr hi.2), show nrX a row i = some row from if_pos hi.2]
  refine ⟨rfl, rfl, fun s' hx hk ht => ?_⟩
  rcases hk with hk | hk
  · cases hk
  · exact one_alloc hC hN (stepA_mono hx (fun x hx => (ev_congr ht x hx).symm) h) hk.1 hk.2
theorem X.store (hC : C.OK) (hi : i ∈ tg ∧ i ≠ c) {tp : TypeId} {p x : Operand} {id : Nat} {r : Row} (h : storeA C.T s.H tp (s.ev p) (s.ev x) = some (id, r)) (hav : id ∈ av)
    (k : DX C N ops H0 b tg mk av c a row Fin (i + 1) rest { s with H := updH s.H id (.row r) }) : DX C N ops H0 b tg mk av c a row Fin i (⟨none, .store tp p x, ty, ps, af, none⟩ :: rest) s := by
  refine ⟨.junk, { s with H := updH s.H id (.row r) }, ⟨rfl, ?_⟩, k⟩
  rw [if_pos hi.1]
  refine ⟨fun s' h1 h2 ht => ?_, fun id' x hid hx => ?_, fun e => absurd e hi.2⟩
  · have hev := ev_congr ht
    refine one_of_AWL (W.store (id := id) (r := r) hC (by rw [hev p (by simp [Op.operands]), hev x (by simp [Op.operands]), h1]; exact h) (AWL.nil ⟨rfl, ?_⟩))
    rw [h1, h2]; rfl
  · show updH s.H id _ id' = some x
    simp only [updH]
    rw [if_neg (fun e => by rw [e] at hid; exact hid hav)]; exact hx
theorem X.callm (hC : C.OK) (hN : d < N) (hi : i ∈ tg) {fo : Operand} {args : Array Operand} {tys : Array TypeId} {f : FuncId} {caps : List AV} (hf : s.ev fo = .clo f caps) {R : AV} {H' : Nat → Option AO} {nx' : Nat}
    (hok : OKm C f (evsA args.toList s.ev ++ caps) s.H s.nx (fun r h n => r = R ∧ h = H' ∧ n = nx'))
    (hok2 : OKm C f (evsA args.toList s.ev ++ caps) (updH s.H (b + a) (.row row)) s.nx (fun r h n => r = R ∧ h = updH H' (b + a) (.row row) ∧ n = nx'))
    (hn : H' (b + a) = none) (hnx : s.nx ≤ nx') (hav : ∀ id x, id ∉ av → s.H id = some x → H' id = some x)
    (k : DX C N ops H0 b tg mk av c a row Fin (i + 1) rest { tm := upd s.tm d R, H := H', nx := nx' }) :
    DX C N ops H0 b tg mk av c a row Fin i (⟨some d, .call { callee := .value fo, args := args, argTypes := tys }, ty, ps, af, none⟩ :: rest) s := by
  refine ⟨R, { tm := upd s.tm d R, H := H', nx := nx' }, ⟨rfl, ?_⟩, k⟩
  rw [if_pos hi]
  have key : ∀ (H1 H2 : Nat → Option AO), OKm C f (evsA args.toList s.ev ++ caps) H1 s.nx (fun r h n => r = R ∧ h = H2 ∧ n = nx') → TCert C N ops ⟨some d, .call { callee := .value fo, args := args, argTypes := tys }, ty, ps, af, none⟩ H1 s.nx s.tm R H2 nx' := by
    intro H1 H2 ho s' h1 h2 hl
    have hev := ev_congr hl
    have e1 : s'.ev fo = .clo f caps := by rw [hev fo (by simp [Op.operands, Call.operands])]; exact hf
    have e2 : evsA args.toList s'.ev = evsA args.toList s.ev := evsA_congr (fun x hx => hev x (by simp only [Op.operands, Call.operands, Array.mem_append]; exact .inr (by simpa using hx)))
    refine one_of_AWL (W.callm hC hN e1 (Qr := fun r h n => r = R ∧ h = H2 ∧ n = nx') (by rw [e2, h1, h2]; exact ho) ?_)
    rintro r h n ⟨rfl, rfl, rfl⟩
    exact AWL.nil ⟨rfl, rfl⟩
  exact ⟨key _ _ hok, hav, fun _ => ⟨key _ _ hok2, hn, hnx⟩⟩
end
end Go.Pg
