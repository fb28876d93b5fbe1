/-
  Contracts of functions, proved by going through their code. No conditions.
-/
import Derived.OrdersIn
import Derived.Test.YtmcchoalekmklaaGreatZaf
set_option linter.unusedVariables false
set_option linter.unusedSimpArgs false
namespace Go.Pg
open Go Go.RowKit
section
variable {P : Program} {ops : Array Oper} {Q Q' : Exit → Act → World → Prop} {o : Oper} {a : Act} {w : World} {K K' : Act → World → Prop}
theorem Oper.wpIn_mono2 {F : Fence} {n : Nat} (hk : ∀ a w, K a w → K' a w) (hq : ∀ e a w, e ≠ .normal → Q e a w → Q' e a w) (hl : LetsOut Q → LetsOut Q') (hh : o.wpIn F n P a w K Q) : o.wpIn F n P a w K' Q' := by
  unfold Oper.wpIn at *
  refine ⟨hh.1, ?_⟩
  have hh := hh.2
  generalize (o.semAt F.round a.eval).run P w = r at *
  cases r with
  | ok n w' =>
    cases n <;> simp only [Oper.uponIn] at hh ⊢ <;>
      first
        | exact hk _ _ hh
        | exact ⟨hh.1, CallsIn.mono hh.2 (fun e w'' he => by cases e <;> first | exact hk _ _ he | exact hq _ _ _ (by simp) he | exact hl he)⟩
        | exact ⟨hh.1, RowsIn.mono hh.2 (fun _ _ he => hk _ _ he)⟩
        | exact ⟨hh.1, RoundIn.mono hh.2 (fun e w'' he => by cases e <;> first | exact hk _ _ he | exact hq _ _ _ (by simp) he | exact hl he)⟩
  | halt x w' => cases x <;> simp only [Oper.uponIn] at hh ⊢ <;> first | exact hq _ _ _ (by simp) hh | exact hh
end
def One (C : Cx) (N : Nat) (ops : Array Oper) (o : Oper) (s s' : St) : Prop :=
  ∀ (S0 : Fr) (w0 : World) (a : Act) (w : World) (K : Act → World → Prop) (Q : Exit → Act → World → Prop), C.E w0 → Sim S0 w0 N a w s → (∀ a' w', Sim S0 w0 N a' w' s' → K a' w') →
    if Region.wanted o (yielded ops a.tmps) then o.wpIn C.F 0 C.P a w K Q else K (a.put o.dst undef) w
def onlyQ (s' : St) : Exit → St → Prop := fun e s => e = .normal ∧ s = s'
theorem letsOut_sim {C : Cx} {S0 : Fr} {w0 : World} {N : Nat} {s' : St} (h : LetsOut (fun e a' w' => ∃ s, Sim S0 w0 N a' w' s ∧ onlyQ s' e s)) : False := by
  obtain ⟨a, w, h⟩ := h
  obtain ⟨_, _, h, _⟩ := h
  cases h
theorem one_of_AWL {C : Cx} {N : Nat} {ops : Array Oper} {o : Oper} {s s' : St} (h : AWL C N ops (onlyQ s') [o] s) : One C N ops o s s' := by
  intro S0 w0 a w K Q hE hs hK
  have := h S0 w0 a w hE hs
  unfold wpListIn at this
  have hk : ∀ a' w', wpListIn C.F 0 C.P ops (fun e a' w' => ∃ s, Sim S0 w0 N a' w' s ∧ onlyQ s' e s) [] a' w' → K a' w' := by
    rintro a' w' ⟨s, h1, _, rfl⟩
    exact hK _ _ h1
  split at this
  · rename_i hw
    rw [if_pos hw]
    refine Oper.wpIn_mono2 hk ?_ (fun h => (letsOut_sim (C := C) h).elim) this
    rintro e a w he ⟨_, _, h, _⟩
    exact absurd h he
  · rename_i hw
    rw [if_neg hw]
    exact hk _ _ this.2
def updO (f : Nat → AV) (d : Option Nat) (x : AV) : Nat → AV := match d with
  | some t => upd f t x
  | none => f
def Ext (H1 H2 : Nat → Option AO) : Prop := ∀ id x, H1 id = some x → H2 id = some x
def mask (av : List Nat) (H : Nat → Option AO) : Nat → Option AO := fun id => if id ∈ av then none else H id
def LCert (C : Cx) (N : Nat) (ops : Array Oper) (o : Oper) (H : Nat → Option AO) (tm : Nat → AV) (key : Nat) (r : AV) (nr : Option Row) : Prop :=
  ∀ s : St, Ext H s.H → (nr = none ∨ (s.H key = none ∧ key < s.nx)) → (∀ t ∈ o.looksAt ops, s.tm t = tm t) → One C N ops o s ⟨updO s.tm o.dst r, putH s.H key nr, s.nx⟩
def TCert (C : Cx) (N : Nat) (ops : Array Oper) (o : Oper) (H : Nat → Option AO) (nx : Nat) (tm : Nat → AV) (r : AV) (H' : Nat → Option AO) (nx' : Nat) : Prop :=
  ∀ s : St, s.H = H → s.nx = nx → (∀ t ∈ o.looksAt ops, s.tm t = tm t) → One C N ops o s ⟨updO s.tm o.dst r, H', nx'⟩
def DW (C : Cx) (N : Nat) (ops : Array Oper) (H0 : Nat → Option AO) (b : Nat) (tg mk av : List Nat) (Fin : St → Prop) : Nat → List Oper → St → Prop
  | _, [], s => Fin s
  | i, o :: l, s =>
    ∃ (r : AV) (s' : St), s'.tm = updO s.tm o.dst r ∧
      (if i ∈ tg then TCert C N ops o s.H s.nx s.tm r s'.H s'.nx ∧ (mk = [] ∨ ∀ id x, id ∉ av → s.H id = some x → s'.H id = some x)
       else ∃ nr, s'.H = putH s.H (b + i) nr ∧ s'.nx = s.nx ∧ (nr = none ∨ (i ∉ mk ∧ H0 (b + i) = none ∧ b + i < s.nx)) ∧ LCert C N ops o (if i ∈ mk then mask av H0 else H0) s.tm (b + i) r nr) ∧
      DW C N ops H0 b tg mk av Fin (i + 1) l s'
def bnd (o : Oper) : List Nat := (o.after.toList.filter (fun e => Region.binds .any e)).map (·.on)
def ancOf (tab : List Nat) (o : Oper) : Nat := (bnd o).foldl (fun m j => m ||| (1 <<< j) ||| tab.getD j 0) 0
def ancs : List Oper → List Nat → List Nat
  | [], tab => tab
  | o :: l, tab => ancs l (tab ++ [ancOf tab o])
def dstIn (p : Option Nat) (l : List Nat) : Bool := match p with
  | some t => l.contains t
  | none => false
def pairOK (ops : Array Oper) (tab : List Nat) (tg mk : List Nat) (i : Nat) (o : Oper) (k : Nat) (p : Oper) : Bool :=
  (!(dstIn p.dst (o.looksAt ops)) || (tab.getD i 0).testBit k || (tab.getD k 0).testBit i) &&
  (k == i || p.dst == none || p.dst != o.dst) &&
  (!(tg.contains i) || (if tg.contains k then (k == i || (tab.getD i 0).testBit k || (tab.getD k 0).testBit i) else (mk.contains k || (tab.getD i 0).testBit k)))
def drawOK (ops : List Oper) (tg mk : List Nat) : Bool :=
  let tab := ancs ops []
  (ops.zipIdx).all fun (o, i) => (bnd o).all (fun j => decide (j < i)) && (ops.zipIdx).all fun (p, k) => pairOK ops.toArray tab tg mk i o k p
def Closed (ops : List Oper) (L : Nat → Bool) : Prop := ∀ i o, ops[i]? = some o → L i = true → ∀ j ∈ bnd o, L j = true
theorem testBit_foldl (tab : List Nat) (k : Nat) : ∀ (l : List Nat) (m : Nat), (l.foldl (fun m j => m ||| (1 <<< j) ||| tab.getD j 0) m).testBit k = true →
    m.testBit k = true ∨ ∃ j ∈ l, j = k ∨ (tab.getD j 0).testBit k = true
  | [], m, h => .inl h
  | j :: l, m, h => by
    simp only [List.foldl_cons] at h
    rcases testBit_foldl tab k l _ h with h | ⟨j', hj', h⟩
    · simp only [Nat.testBit_or, Bool.or_eq_true, Nat.one_shiftLeft] at h
      rcases h with (h | h) | h
      · exact .inl h
      · rw [Nat.testBit_two_pow] at h
        exact .inr ⟨j, by simp, .inl (by simpa using h)⟩
      · exact .inr ⟨j, by simp, .inr h⟩
    · exact .inr ⟨j', by simp [hj'], h⟩
theorem ancOf_spec {tab : List Nat} {o : Oper} {k : Nat} (h : (ancOf tab o).testBit k = true) : ∃ j ∈ bnd o, j = k ∨ (tab.getD j 0).testBit k = true := by
  rcases testBit_foldl tab k _ _ h with h | h
  · simp at h
  · exact h
theorem ancs_spec {ops : List Oper} {L : Nat → Bool} (hL : Closed ops L) : ∀ (l : List Oper) (tab : List Nat), ops.drop tab.length = l → tab.length ≤ ops.length →
    (∀ i, i < tab.length → ∀ o, ops[i]? = some o → ∀ k, (tab.getD i 0).testBit k = true → (∀ j ∈ bnd o, L j = true) → L k = true) →
    (∀ i o, ops[i]? = some o → ∀ j ∈ bnd o, j < i) →
    ∀ i o, ops[i]? = some o → ∀ k, ((ancs l tab).getD i 0).testBit k = true → (∀ j ∈ bnd o, L j = true) → L k = true
  | [], tab, hd, hl, hp, hb => by
    intro i o ho k hk hj
    have : i < tab.length := by
      have h1 := List.drop_eq_nil_iff.1 hd
      have h2 := (List.getElem?_eq_some_iff.1 ho).1
      omega
    exact hp i this o ho k hk hj
  | o :: l, tab, hd, hl, hp, hb => by
    have hlt : tab.length < ops.length := by
      have : (ops.drop tab.length).length = (o :: l).length := by rw [hd]
      simp at this; omega
    have hget : ops[tab.length]? = some o := by
      have : (ops.drop tab.length)[0]? = some o := by rw [hd]; rfl
      simpa using this
    refine ancs_spec hL l _ ?_ (by simp; omega) ?_ hb
    · have : ops.drop (tab.length + 1) = (ops.drop tab.length).drop 1 := by simp
      simp only [List.length_append, List.length_singleton, this, hd, List.drop_succ_cons, List.drop_zero]
    · intro i hi o' ho' k hk hj
      simp only [List.length_append, List.length_singleton] at hi
      rcases Nat.lt_or_ge i tab.length with h | h
      · refine hp i h o' ho' k ?_ hj
        rwa [List.getD_eq_getElem?_getD, List.getElem?_append_left h, ← List.getD_eq_getElem?_getD] at hk
      · have he : i = tab.length := by omega
        subst he
        rw [hget] at ho'; injection ho' with ho'; subst ho'
        rw [List.getD_eq_getElem?_getD, List.getElem?_append_right (Nat.le_refl _)] at hk
        simp only [Nat.sub_self, List.getElem?_cons_zero, Option.getD_some] at hk
        obtain ⟨j, hjm, h⟩ := ancOf_spec hk
        rcases h with rfl | h
        · exact hj _ hjm
        · have hji := hb _ _ hget j hjm
          obtain ⟨oj, hoj⟩ : ∃ oj, ops[j]? = some oj := ⟨_, List.getElem?_eq_getElem (by omega)⟩
          exact hp j hji oj hoj k h (hL j oj hoj (hj j hjm))
structure OrdOK (ops : List Oper) (tg mk : List Nat) : Prop where
  back : ∀ i o, ops[i]? = some o → ∀ j ∈ bnd o, j < i
  uses : ∀ i o k p t, ops[i]? = some o → ops[k]? = some p → p.dst = some t → t ∈ o.looksAt ops.toArray → ((ancs ops []).getD i 0).testBit k = true ∨ ((ancs ops []).getD k 0).testBit i = true
  dsts : ∀ (i : Nat) (o : Oper) (k : Nat) (p : Oper) (t : Nat), ops[i]? = some o → ops[k]? = some p → k ≠ i → p.dst = some t → o.dst ≠ some t
  tight : ∀ i o k p, ops[i]? = some o → ops[k]? = some p → i ∈ tg → k ∈ tg → k = i ∨ ((ancs ops []).getD i 0).testBit k = true ∨ ((ancs ops []).getD k 0).testBit i = true
  loose : ∀ i o k p, ops[i]? = some o → ops[k]? = some p → i ∈ tg → k ∉ tg → k ∉ mk → ((ancs ops []).getD i 0).testBit k = true
theorem ordOK_of {ops : List Oper} {tg mk : List Nat} (h : drawOK ops tg mk = true) : OrdOK ops tg mk := by
  unfold drawOK at h
  simp only [List.all_eq_true, Bool.and_eq_true, decide_eq_true_eq, Prod.forall] at h
  have hmem : ∀ {i o}, ops[i]? = some o → (o, i) ∈ ops.zipIdx := fun {i o} h => by
    rw [List.mem_zipIdx_iff_getElem?]; exact h
  have hp : ∀ i o k p, ops[i]? = some o → ops[k]? = some p → pairOK ops.toArray (ancs ops []) tg mk i o k p = true := fun i o k p h1 h2 => (h o i (hmem h1)).2 p k (hmem h2)
  refine ⟨fun i o ho j hj => (h o i (hmem ho)).1 j hj, ?_, ?_, ?_, ?_⟩
  · intro i o k p t h1 h2 h3 h4
    have := hp i o k p h1 h2
    simp only [pairOK, Bool.and_eq_true, Bool.or_eq_true, Bool.not_eq_true', h3, dstIn] at this
    rcases this.1.1 with (h | h) | h
    · simp at h; exact absurd h4 h
    · exact .inl h
    · exact .inr h
  · intro i o k p t h1 h2 h3 h4 h5
    have := hp i o k p h1 h2
    simp only [pairOK, Bool.and_eq_true, Bool.or_eq_true, beq_iff_eq, bne_iff_ne, h4, h5] at this
    rcases this.1.2 with (h | h) | h
    · exact h3 h
    · cases h
    · exact h rfl
  · intro i o k p h1 h2 h3 h4
    have := hp i o k p h1 h2
    simp only [pairOK, Bool.and_eq_true, Bool.or_eq_true, Bool.not_eq_true', List.contains_eq_mem, decide_eq_true_eq, decide_eq_false_iff_not, h3, h4, not_true, false_or, if_true, beq_iff_eq] at this
    rcases this.2 with (h | h) | h
    · exact .inl h
    · exact .inr (.inl h)
    · exact .inr (.inr h)
  · intro i o k p h1 h2 h3 h4 h5
    have := hp i o k p h1 h2
    simp only [pairOK, Bool.and_eq_true, Bool.or_eq_true, Bool.not_eq_true', List.contains_eq_mem, decide_eq_true_eq, decide_eq_false_iff_not, h3, h4, h5, not_true, false_or, if_false] at this
    exact this.2
end Go.Pg

namespace Go.Pg
open Go Go.RowKit
structure Tr where
  st : Nat → St
  r : Nat → AV
  nr : Nat → Option Row
def TrOK (C : Cx) (N : Nat) (ops : Array Oper) (H0 : Nat → Option AO) (b : Nat) (tg mk av : List Nat) (tr : Tr) (i : Nat) (o : Oper) : Prop :=
  (tr.st (i + 1)).tm = updO (tr.st i).tm o.dst (tr.r i) ∧
    (if i ∈ tg then TCert C N ops o (tr.st i).H (tr.st i).nx (tr.st i).tm (tr.r i) (tr.st (i + 1)).H (tr.st (i + 1)).nx ∧ (mk = [] ∨ ∀ id x, id ∉ av → (tr.st i).H id = some x → (tr.st (i + 1)).H id = some x)
     else (tr.st (i + 1)).H = putH (tr.st i).H (b + i) (tr.nr i) ∧ (tr.st (i + 1)).nx = (tr.st i).nx ∧ (tr.nr i = none ∨ (i ∉ mk ∧ H0 (b + i) = none ∧ b + i < (tr.st i).nx)) ∧
       LCert C N ops o (if i ∈ mk then mask av H0 else H0) (tr.st i).tm (b + i) (tr.r i) (tr.nr i))
section
variable {C : Cx} {N : Nat} {ops : Array Oper} {H0 : Nat → Option AO} {b : Nat} {tg mk av : List Nat} {Fin : St → Prop}
theorem TrOK.congr {tr tr' : Tr} {i : Nat} {o : Oper} (h : TrOK C N ops H0 b tg mk av tr i o) (h1 : tr'.st i = tr.st i) (h2 : tr'.st (i + 1) = tr.st (i + 1)) (h3 : tr'.r i = tr.r i) (h4 : tr'.nr i = tr.nr i) :
    TrOK C N ops H0 b tg mk av tr' i o := by
  unfold TrOK at h ⊢
  rw [h1, h2, h3, h4]; exact h
theorem DW.trace : ∀ (l : List Oper) (i : Nat) (s : St), DW C N ops H0 b tg mk av Fin i l s → ∃ tr : Tr, tr.st i = s ∧ (∀ j o, l[j]? = some o → TrOK C N ops H0 b tg mk av tr (i + j) o) ∧ Fin (tr.st (i + l.length))
  | [], i, s, h => ⟨⟨fun _ => s, fun _ => .junk, fun _ => none⟩, rfl, fun j o h => by simp at h, h⟩
  | o :: l, i, s, h => by
    obtain ⟨r, s', h1, h2, h3⟩ := h
    obtain ⟨tr, g1, g2, g3⟩ := DW.trace l (i + 1) s' h3
    have key : ∃ nr : Option Row, (if i ∈ tg then TCert C N ops o s.H s.nx s.tm r s'.H s'.nx ∧ (mk = [] ∨ ∀ id x, id ∉ av → s.H id = some x → s'.H id = some x)
       else s'.H = putH s.H (b + i) nr ∧ s'.nx = s.nx ∧ (nr = none ∨ (i ∉ mk ∧ H0 (b + i) = none ∧ b + i < s.nx)) ∧ LCert C N ops o (if i ∈ mk then mask av H0 else H0) s.tm (b + i) r nr) := by
      by_cases hi : i ∈ tg
      · rw [if_pos hi] at h2; exact ⟨none, by rw [if_pos hi]; exact h2⟩
      · rw [if_neg hi] at h2; obtain ⟨nr, h⟩ := h2; exact ⟨nr, by rw [if_neg hi]; exact h⟩
    obtain ⟨nr, hk⟩ := key
    refine ⟨⟨fun k => if k ≤ i then s else tr.st k, fun k => if k = i then r else tr.r k, fun k => if k = i then nr else tr.nr k⟩, by simp, ?_, ?_⟩
    · intro j o' hj
      cases j with
      | zero =>
        simp only [List.getElem?_cons_zero, Option.some.injEq] at hj
        subst hj
        unfold TrOK
        have e : ¬ (i + 1 ≤ i) := by omega
        simp only [Nat.add_zero, Nat.le_refl, if_true, if_neg e, g1]
        exact ⟨h1, hk⟩
      | succ j =>
        simp only [List.getElem?_cons_succ] at hj
        have := g2 j o' hj
        have e1 : i + 1 + j = i + (j + 1) := by omega
        rw [e1] at this
        refine this.congr ?_ ?_ ?_ ?_
        · show (if i + (j + 1) ≤ i then s else tr.st (i + (j + 1))) = _; rw [if_neg (by omega)]
        · show (if i + (j + 1) + 1 ≤ i then s else tr.st (i + (j + 1) + 1)) = _; rw [if_neg (by omega)]
        · show (if i + (j + 1) = i then r else tr.r (i + (j + 1))) = _; rw [if_neg (by omega)]
        · show (if i + (j + 1) = i then nr else tr.nr (i + (j + 1))) = _; rw [if_neg (by omega)]
    · show Fin (if i + (l.length + 1) ≤ i then s else tr.st (i + (l.length + 1)))
      rw [if_neg (by omega)]
      have e : i + 1 + l.length = i + (l.length + 1) := by omega
      rw [← e]; exact g3
end
def setL (L : Nat → Bool) (i : Nat) : Nat → Bool := fun j => if j = i then true else L j
def accT (tr : Tr) (d : Nat → Option Nat) (L : Nat → Bool) : Nat → Nat → AV
  | 0 => (tr.st 0).tm
  | k + 1 => if L k = true then updO (accT tr d L k) (d k) (tr.r k) else accT tr d L k
def accH (tr : Tr) (tg : List Nat) (b : Nat) (L : Nat → Bool) : Nat → (Nat → Option AO) × Nat
  | 0 => ((tr.st 0).H, (tr.st 0).nx)
  | k + 1 => if L k = true then (if k ∈ tg then ((tr.st (k + 1)).H, (tr.st (k + 1)).nx) else (putH (accH tr tg b L k).1 (b + k) (tr.nr k), (accH tr tg b L k).2)) else accH tr tg b L k
theorem updO_comm {f : Nat → AV} {d e : Option Nat} {x y : AV} (h : ∀ t, d = some t → e ≠ some t) : updO (updO f d x) e y = updO (updO f e y) d x := by
  cases d with
  | none => rfl
  | some t =>
    cases e with
    | none => rfl
    | some u =>
      have hne : t ≠ u := fun he => h t rfl (by rw [he])
      funext v
      simp only [updO, upd]
      by_cases h1 : v = u <;> by_cases h2 : v = t <;> simp [h1, h2] <;> first | (intro he; exact absurd he.symm hne) | (intro he; exact absurd he hne) | omega | skip
theorem updO_ne {f : Nat → AV} {d : Option Nat} {x : AV} {t : Nat} (h : d ≠ some t) : updO f d x t = f t := by
  cases d with
  | none => rfl
  | some u => simp only [updO, upd]; rw [if_neg (fun e => h (by rw [e]))]
section
variable {tr : Tr} {d : Nat → Option Nat} {L : Nat → Bool} {i : Nat} {tg : List Nat} {b : Nat}
theorem accT_set (hi : L i = false) (hd : ∀ k t, k ≠ i → d k = some t → d i ≠ some t) : ∀ k, accT tr d (setL L i) k = if k ≤ i then accT tr d L k else updO (accT tr d L k) (d i) (tr.r i)
  | 0 => by simp [accT]
  | k + 1 => by
    have ih := accT_set hi hd k
    rcases Nat.lt_trichotomy k i with h | h | h
    · rw [if_pos (by omega)]
      rw [if_pos (by omega)] at ih
      simp only [accT, setL, if_neg (show ¬ k = i by omega), ih]
    · subst h
      rw [if_neg (by omega)]
      rw [if_pos (Nat.le_refl _)] at ih
      simp only [accT, setL, if_true, ih, hi, Bool.false_eq_true, if_false]
    · rw [if_neg (by omega)]
      rw [if_neg (by omega)] at ih
      simp only [accT, setL, if_neg (show ¬ k = i by omega), ih]
      split
      · exact updO_comm (fun t h1 h2 => hd k t (by omega) h2 h1)
      · rfl
theorem accT_uses {t : Nat} {n : Nat} (hs : ∀ k, k < n → (tr.st (k + 1)).tm = updO (tr.st k).tm (d k) (tr.r k)) (h : ∀ k, k < n → d k = some t → (L k = true ↔ k < i)) :
    ∀ k, k ≤ n → i ≤ n → accT tr d L k t = (tr.st (min k i)).tm t
  | 0, _, _ => by simp [accT]
  | k + 1, hk, hin => by
    have ih := accT_uses hs h k (by omega) hin
    by_cases hd : d k = some t
    · have hL := h k (by omega) hd
      by_cases hki : k < i
      · have : L k = true := hL.2 hki
        simp only [accT, this, if_true]
        rw [show min (k + 1) i = k + 1 by omega, hs k (by omega), hd]
        simp [updO, upd]
      · have : ¬ L k = true := fun h => hki (hL.1 h)
        simp only [accT, this, if_false, Bool.false_eq_true]
        rw [ih, show min k i = min (k + 1) i by omega]
    · have e1 : accT tr d L (k + 1) t = accT tr d L k t := by
        simp only [accT]
        split
        · exact updO_ne hd
        · rfl
      rw [e1, ih]
      by_cases hki : k < i
      · rw [show min (k + 1) i = k + 1 by omega, show min k i = k by omega, hs k (by omega), updO_ne hd]
      · rw [show min k i = min (k + 1) i by omega]
theorem accT_all {n : Nat} (hs : ∀ k, k < n → (tr.st (k + 1)).tm = updO (tr.st k).tm (d k) (tr.r k)) (h : ∀ k, k < n → L k = true) : ∀ k, k ≤ n → accT tr d L k = (tr.st k).tm
  | 0, _ => rfl
  | k + 1, hk => by
    simp only [accT, h k (by omega), if_true, accT_all hs h k (by omega)]
    exact (hs k (by omega)).symm
theorem putH_comm {H : Nat → Option AO} {k1 k2 : Nat} {a c : Option Row} (h : k1 ≠ k2) : putH (putH H k1 a) k2 c = putH (putH H k2 c) k1 a := by
  cases a <;> cases c <;> simp only [putH]
  funext id
  simp only [updH]
  by_cases h1 : id = k1 <;> by_cases h2 : id = k2 <;> simp [h1, h2] <;> omega
theorem accH_set_loose (hi : L i = false) (hit : i ∉ tg) (ht : tr.nr i = none ∨ ∀ k, k ∈ tg → L k = false) : ∀ k, accH tr tg b (setL L i) k = if k ≤ i then accH tr tg b L k else (putH (accH tr tg b L k).1 (b + i) (tr.nr i), (accH tr tg b L k).2)
  | 0 => by simp [accH]
  | k + 1 => by
    have ih := accH_set_loose hi hit ht k
    rcases Nat.lt_trichotomy k i with h | h | h
    · rw [if_pos (by omega)]
      rw [if_pos (by omega)] at ih
      simp only [accH, setL, if_neg (show ¬ k = i by omega), ih]
    · subst h
      rw [if_neg (by omega)]
      rw [if_pos (Nat.le_refl _)] at ih
      simp only [accH, setL, if_true, ih, hi, Bool.false_eq_true, if_false, hit]
    · rw [if_neg (by omega)]
      rw [if_neg (by omega)] at ih
      simp only [accH, setL, if_neg (show ¬ k = i by omega), ih]
      split
      · rename_i hL
        split
        · rename_i hk
          rcases ht with ht | ht
          · rw [ht]; rfl
          · rw [ht k hk] at hL; cases hL
        · rw [putH_comm (by omega)]
      · rfl
theorem accH_set_tight (hi : L i = false) (hit : i ∈ tg) (ht : ∀ k, i < k → L k = true → k ∉ tg ∧ tr.nr k = none) : ∀ k, i < k → accH tr tg b (setL L i) k = ((tr.st (i + 1)).H, (tr.st (i + 1)).nx)
  | 0, h => by omega
  | k + 1, h => by
    by_cases hk : k = i
    · subst hk; simp only [accH, setL, if_true, hit]
    · have ih := accH_set_tight hi hit ht k (by omega)
      simp only [accH, setL, if_neg hk, ih]
      split
      · rename_i hL
        have := ht k (by omega) hL
        rw [if_neg this.1, this.2]; rfl
      · rfl
theorem accH_at {n : Nat} (hs : ∀ k, k < n → k ∉ tg → (tr.st (k + 1)).H = putH (tr.st k).H (b + k) (tr.nr k) ∧ (tr.st (k + 1)).nx = (tr.st k).nx) (h : ∀ k, k < n → (k ∈ tg ∨ tr.nr k ≠ none) → L k = true) :
    ∀ k, k ≤ n → accH tr tg b L k = ((tr.st k).H, (tr.st k).nx)
  | 0, _ => rfl
  | k + 1, hk => by
    have ih := accH_at hs h k (by omega)
    simp only [accH, ih]
    by_cases ht : k ∈ tg
    · rw [if_pos (h k (by omega) (.inl ht)), if_pos ht]
    · have h1 := hs k (by omega) ht
      by_cases hn : tr.nr k = none
      · rw [hn] at h1 ⊢
        simp only [putH] at h1 ⊢
        rw [h1.1, h1.2]; split <;> simp
      · rw [if_pos (h k (by omega) (.inr hn)), if_neg ht, h1.1, h1.2]
theorem accH_stay {i : Nat} : ∀ k, i ≤ k → (∀ j, i ≤ j → j < k → L j = true → j ∉ tg ∧ tr.nr j = none) → accH tr tg b L k = accH tr tg b L i
  | 0, h, _ => by have : i = 0 := by omega
                  subst this; rfl
  | k + 1, h, hn => by
    by_cases hk : i = k + 1
    · rw [hk]
    · have ih := accH_stay k (by omega) (fun j h1 h2 => hn j h1 (by omega))
      simp only [accH]
      split
      · rename_i hL
        have := hn k (by omega) (by omega) hL
        rw [if_neg this.1, this.2, ← ih]; rfl
      · exact ih
theorem accH_ext {H1 : Nat → Option AO} {n : Nat} (h0 : Ext H1 (tr.st 0).H) (ha : ∀ k, k < n → k ∉ tg → tr.nr k ≠ none → H1 (b + k) = none) (ht : ∀ k, k < n → k ∈ tg → L k = true → Ext H1 (tr.st (k + 1)).H) :
    ∀ k, k ≤ n → Ext H1 (accH tr tg b L k).1
  | 0, _ => h0
  | k + 1, hk => by
    have ih := accH_ext h0 ha ht k (by omega)
    simp only [accH]
    split
    · rename_i hL
      split
      · rename_i hkt; exact ht k (by omega) hkt hL
      · rename_i hkt
        cases hn : tr.nr k with
        | none => exact ih
        | some r =>
          intro id x hx
          have := ha k (by omega) hkt (by rw [hn]; simp)
          simp only [putH, updH]
          rw [if_neg (fun e => by rw [e] at hx; rw [this] at hx; cases hx)]
          exact ih id x hx
    · exact ih
theorem accH_nx {n : Nat} (h : ∀ k, k < n → k ∈ tg → L k = false) : ∀ k, k ≤ n → (accH tr tg b L k).2 = (tr.st 0).nx
  | 0, _ => rfl
  | k + 1, hk => by
    simp only [accH]
    split
    · rename_i hL
      rw [if_neg (fun hkt => by rw [h k (by omega) hkt] at hL; cases hL)]
      exact accH_nx h k (by omega)
    · exact accH_nx h k (by omega)
theorem accH_fresh {n key : Nat} (h0 : (tr.st 0).H key = none) (h : ∀ k, k < n → k ∈ tg → L k = false) (hk : ∀ k, k < n → L k = true → b + k ≠ key) : ∀ k, k ≤ n → (accH tr tg b L k).1 key = none
  | 0, _ => h0
  | k + 1, hkn => by
    have ih := accH_fresh h0 h hk k (by omega)
    simp only [accH]
    split
    · rename_i hL
      rw [if_neg (fun hkt => by rw [h k (by omega) hkt] at hL; cases hL)]
      cases tr.nr k with
      | none => exact ih
      | some r =>
        simp only [putH, updH]
        rw [if_neg (fun e => hk k (by omega) hL e.symm)]
        exact ih
    · exact ih
end
end Go.Pg

namespace Go.Pg
open Go Go.RowKit
section
variable {C : Cx} {N : Nat} {Q : Exit → St → Prop} {s : St} {l : List Oper}
theorem Sim.grow {S0 : Fr} {w0 w : World} {a : Act} {s s' : St} (h : Sim S0 w0 N a w s) {w' : World} (hb : Below w.heap.size w w') (h1 : s'.tm = s.tm) (h2 : s'.H = s.H) (h3 : s.nx ≤ s'.nx) : Sim S0 w0 N a w' s' := by
  obtain ⟨σ, hσ⟩ := h
  have hm := hσ.inv.more hσ.size hb
  have hl := hσ.inv.le_more hb
  exact ⟨_, ⟨by rw [h2]; exact hm, fun id hid => by rw [h2]; exact hσ.nx id (Nat.le_trans h3 hid), fun t => by rw [h1]; exact Rep.mono hl _ _ (hσ.tm t), hσ.N, hσ.d, hσ.below.trans (hb.mono hσ.size)⟩⟩
theorem mem_ready {listed : Array Bool} {i : Nat} (hn : listed.size = l.length) :
    i ∈ Region.ready .any l.toArray listed ↔ ∃ o, l[i]? = some o ∧ listed.getD i false = false ∧ ∀ j ∈ bnd o, listed.getD j false = true := by
  unfold Region.ready
  simp only [List.mem_filter, List.mem_range, List.size_toArray, Bool.and_eq_true, Bool.not_eq_true']
  constructor
  · rintro ⟨h1, h2, h3⟩
    have hg : l.toArray[i]? = some l[i] := by simp [h1]
    rw [hg] at h3
    simp only [Option.map_some, Option.getD_some, Array.all_eq_true, Bool.or_eq_true, Bool.not_eq_true'] at h3
    refine ⟨l[i], by simp [h1], ?_, fun j hj => ?_⟩
    · rw [Array.getD_eq_getD_getElem?] at h2 ⊢
      rw [Array.getElem?_eq_getElem (by omega)] at h2 ⊢
      exact h2
    · unfold bnd at hj
      simp only [List.mem_map, List.mem_filter, Array.mem_toList_iff] at hj
      obtain ⟨e, ⟨he, hbe⟩, rfl⟩ := hj
      obtain ⟨k, hk, rfl⟩ := Array.mem_iff_getElem.1 he
      rcases h3 k hk with h | h
      · rw [hbe] at h; cases h
      · exact h
  · rintro ⟨o, h1, h2, h3⟩
    have hlt : i < l.length := (List.getElem?_eq_some_iff.1 h1).1
    refine ⟨hlt, ?_, ?_⟩
    · rw [Array.getD_eq_getD_getElem?] at h2 ⊢
      rw [Array.getElem?_eq_getElem (by omega)] at h2 ⊢
      exact h2
    · have hg : l.toArray[i]? = some o := by simpa using h1
      rw [hg]
      simp only [Option.map_some, Option.getD_some, Array.all_eq_true, Bool.or_eq_true, Bool.not_eq_true']
      intro k hk
      by_cases hb : Region.binds .any o.after[k] = true
      · refine .inr (h3 _ ?_)
        unfold bnd
        simp only [List.mem_map, List.mem_filter, Array.mem_toList_iff]
        exact ⟨_, ⟨Array.getElem_mem hk, hb⟩, rfl⟩
      · exact .inl (by simpa using hb)
theorem filter_len_lt {α : Type} {p q : α → Bool} : ∀ (l : List α) (x : α), x ∈ l → p x = true → q x = false → (∀ y, q y = true → p y = true) → (l.filter q).length < (l.filter p).length
  | [], _, h, _, _, _ => by cases h
  | y :: l, x, h, hp, hq, hm => by
    have hle : (l.filter q).length ≤ (l.filter p).length := by
      clear h
      induction l with
      | nil => simp
      | cons z l ih =>
        simp only [List.filter_cons]
        by_cases h1 : q z = true
        · rw [if_pos h1, if_pos (hm z h1)]; simp only [List.length_cons]; omega
        · rw [if_neg h1]; split
          · simp only [List.length_cons]; omega
          · exact ih
    simp only [List.mem_cons] at h
    simp only [List.filter_cons]
    rcases h with rfl | h
    · rw [if_pos hp, if_neg (by simp [hq])]; simp; omega
    · have ih := filter_len_lt l x h hp hq hm
      by_cases h1 : q y = true
      · rw [if_pos h1, if_pos (hm y h1)]; simp only [List.length_cons]; omega
      · rw [if_neg h1]; split
        · simp only [List.length_cons]; omega
        · exact ih
theorem AW.draw (hm : C.P.follows .mixedOrders = true) {id : Nat} (tg mk av : List Nat) (x : Nat) (hok : drawOK l tg mk = true)
    (h : DW C N l.toArray s.H s.nx tg mk av (fun s' => Q .normal s') 0 l { s with nx := s.nx + x }) : AW C N (.region id l.toArray true) Q s := by
  have hO := ordOK_of hok
  obtain ⟨tr, h0, hT, hF⟩ := DW.trace l 0 _ h
  simp only [Nat.zero_add] at hT hF
  intro S0 w0 a w hE hs
  refine wpIn_region_any hm ?_
  let d : Nat → Option Nat := fun k => (l[k]?).bind (·.dst)
  let b := s.nx
  let LL : Array Bool → Nat → Bool := fun listed k => listed.getD k false
  let stD : (Nat → Bool) → St := fun L => ⟨accT tr d L l.length, (accH tr tg b L l.length).1, (accH tr tg b L l.length).2⟩
  have hs0 : (tr.st 0).H = s.H ∧ (tr.st 0).nx = s.nx + x ∧ (tr.st 0).tm = s.tm := by rw [h0]; exact ⟨rfl, rfl, rfl⟩
  have hget : ∀ {k}, k < l.length → ∃ o, l[k]? = some o := fun {k} h => ⟨_, List.getElem?_eq_getElem h⟩
  have hlt : ∀ {k o}, l[k]? = some o → k < l.length := fun {k o} h => (List.getElem?_eq_some_iff.1 h).1
  have hstep : ∀ k, k < l.length → (tr.st (k + 1)).tm = updO (tr.st k).tm (d k) (tr.r k) := fun k hk => by
    obtain ⟨o, ho⟩ := hget hk
    have := (hT k o ho).1
    rw [this]; simp [d, ho]
  have hloose : ∀ k, k < l.length → k ∉ tg → (tr.st (k + 1)).H = putH (tr.st k).H (b + k) (tr.nr k) ∧ (tr.st (k + 1)).nx = (tr.st k).nx := fun k hk hkt => by
    obtain ⟨o, ho⟩ := hget hk
    have := (hT k o ho).2
    rw [if_neg hkt] at this
    exact ⟨this.1, this.2.1⟩
  have halloc : ∀ k, k < l.length → k ∉ tg → tr.nr k ≠ none → k ∉ mk ∧ s.H (b + k) = none ∧ b + k < (tr.st k).nx := fun k hk hkt hn => by
    obtain ⟨o, ho⟩ := hget hk
    have := (hT k o ho).2
    rw [if_neg hkt] at this
    rcases this.2.2.1 with h | h
    · exact absurd h hn
    · exact h
  -- the ancestors are done
  have hanc : ∀ {L : Nat → Bool}, Closed l L → ∀ {i o k}, l[i]? = some o → ((ancs l []).getD i 0).testBit k = true → (∀ j ∈ bnd o, L j = true) → L k = true := fun {L} hL {i o k} ho hk hj =>
    ancs_spec hL l [] (by simp) (by simp) (by simp) hO.back i o ho k hk hj
  have hancL : ∀ {L : Nat → Bool}, Closed l L → ∀ {i o k}, l[i]? = some o → ((ancs l []).getD i 0).testBit k = true → L i = true → L k = true := fun {L} hL {i o k} ho hk hi =>
    hanc hL ho hk (hL i o ho hi)
  -- an ancestor comes before
  have hancLt : ∀ {i o k}, l[i]? = some o → ((ancs l []).getD i 0).testBit k = true → k < i := by
    intro i o k ho hk
    have hc : Closed l (fun j => decide (j < i)) := fun i' o' ho' hi' j hj => by
      have := hO.back i' o' ho' j hj
      simp only [decide_eq_true_eq] at hi' ⊢; omega
    have := hanc hc ho hk (fun j hj => by simpa using hO.back i o ho j hj)
    simpa using this
  have main : ∀ (fuel : Nat) (listed : Array Bool) (a : Act) (w : World), listed.size = l.length → Closed l (LL listed) → ((List.range l.length).filter (fun i => !(LL listed i))).length ≤ fuel → Sim S0 w0 N a w (stD (LL listed)) →
      wpAnyIn C.F 0 C.P .any l.toArray (fun e a' w' => ∃ s', Sim S0 w0 N a' w' s' ∧ Q e s') fuel listed a w := by
    -- all is done
    have hend : ∀ (listed : Array Bool) (a : Act) (w : World), (∀ k, k < l.length → LL listed k = true) → Sim S0 w0 N a w (stD (LL listed)) → ∃ s', Sim S0 w0 N a w s' ∧ Q .normal s' := by
      intro listed a w hall hsim
      refine ⟨_, hsim, ?_⟩
      have e1 := accT_all (L := LL listed) hstep hall l.length (Nat.le_refl _)
      have e2 := accH_at (L := LL listed) hloose (fun k hk _ => hall k hk) l.length (Nat.le_refl _)
      have : stD (LL listed) = tr.st l.length := by
        show St.mk _ _ _ = _
        rw [e1, e2]
      rw [this]; exact hF
    have hready : ∀ (listed : Array Bool), listed.size = l.length → Region.ready .any l.toArray listed = [] → ∀ k, k < l.length → LL listed k = true := by
      intro listed hsz hr k
      induction k using Nat.strongRecOn with
      | ind k ih =>
        intro hk
        obtain ⟨o, ho⟩ := hget hk
        cases hL : LL listed k with
        | true => rfl
        | false =>
          have : k ∈ Region.ready .any l.toArray listed := (mem_ready hsz).2 ⟨o, ho, hL, fun j hj => ih j (hO.back k o ho j hj) (by have := hO.back k o ho j hj; omega)⟩
          rw [hr] at this; cases this
    intro fuel
    induction fuel with
    | zero =>
      intro listed a w hsz hcl hcnt hsim
      have hall : ∀ k, k < l.length → LL listed k = true := by
        intro k hk
        cases hL : LL listed k with
        | true => rfl
        | false =>
          have : k ∈ (List.range l.length).filter (fun i => !(LL listed i)) := by simp [hk, hL]
          have := List.length_pos_of_mem this
          omega
      refine ⟨?_, hend listed a w hall hsim⟩
      apply List.eq_nil_iff_forall_not_mem.2
      intro i hi
      obtain ⟨o, h1, h2, _⟩ := (mem_ready hsz).1 hi
      have := hall i (hlt h1)
      rw [show LL listed i = listed.getD i false from rfl, h2] at this; cases this
    | succ fuel ih =>
      intro listed a w hsz hcl hcnt hsim
      refine ⟨fun hr => hend listed a w (hready listed hsz hr) hsim, fun i hi => ?_⟩
      obtain ⟨o, ho, hLi, hbo⟩ := (mem_ready hsz).1 hi
      have hil := hlt ho
      have hL' : LL (listed.setIfInBounds i true) = setL (LL listed) i := by
        funext k
        show (listed.setIfInBounds i true).getD k false = setL (LL listed) i k
        unfold setL
        rw [Array.getD_eq_getD_getElem?, Array.getElem?_setIfInBounds]
        by_cases hk : i = k
        · subst hk; simp [hsz, hil]
        · rw [if_neg hk, if_neg (fun e => hk e.symm)]; rw [← Array.getD_eq_getD_getElem?]
      have hbo' : ∀ j ∈ bnd o, LL listed j = true := hbo
      have hcl' : Closed l (LL (listed.setIfInBounds i true)) := by
        rw [hL']
        intro i' o' ho' hi' j hj
        unfold setL at hi' ⊢
        by_cases hji : j = i
        · rw [if_pos hji]
        · rw [if_neg hji]
          by_cases hii : i' = i
          · subst hii; rw [ho] at ho'; injection ho' with ho'; subst ho'; exact hbo' j hj
          · rw [if_neg hii] at hi'; exact hcl i' o' ho' hi' j hj
      have hLi' : LL listed i = false := hLi
      have hcnt' : ((List.range l.length).filter (fun k => !(LL (listed.setIfInBounds i true) k))).length ≤ fuel := by
        have := filter_len_lt (p := fun k => !(LL listed k)) (q := fun k => !(LL (listed.setIfInBounds i true) k)) (List.range l.length) i (by simp [hil]) (by simp [hLi']) (by rw [hL']; simp [setL])
          (fun y hy => by rw [hL'] at hy; unfold setL at hy; by_cases h : y = i <;> simp_all)
        omega
      -- one step
      have hone : One C N l.toArray o (stD (LL listed)) (stD (LL (listed.setIfInBounds i true))) := by
        have hTi := hT i o ho
        have hdi : d i = o.dst := by simp [d, ho]
        -- the temporaries
        have htm : accT tr d (LL (listed.setIfInBounds i true)) l.length = updO (accT tr d (LL listed) l.length) o.dst (tr.r i) := by
          rw [hL', accT_set hLi' (fun k t hk hdk hdi' => by
            have hkl : k < l.length := by
              rcases Nat.lt_or_ge k l.length with h | h
              · exact h
              · simp [d, List.getElem?_eq_none h] at hdk
            obtain ⟨p, hp⟩ := hget hkl
            have h1 : p.dst = some t := by simpa [d, hp] using hdk
            exact hO.dsts i o k p t ho hp hk h1 (by rw [← hdi]; exact hdi')), if_neg (by omega), hdi]
        have huse : ∀ t ∈ o.looksAt l.toArray, accT tr d (LL listed) l.length t = (tr.st i).tm t := by
          intro t ht
          have := accT_uses (tr := tr) (d := d) (L := LL listed) (i := i) (t := t) hstep (fun k hk hdk => by
            obtain ⟨p, hp⟩ := hget hk
            have h1 : p.dst = some t := by simpa [d, hp] using hdk
            rcases hO.uses i o k p t ho hp h1 ht with h | h
            · exact ⟨fun _ => hancLt ho h, fun _ => hanc hcl ho h hbo'⟩
            · have hik := hancLt hp h
              refine ⟨fun hLk => ?_, fun hki => by omega⟩
              have := hancL hcl hp h hLk
              rw [hLi'] at this; cases this) l.length (Nat.le_refl _) (by omega)
          rw [this, Nat.min_eq_right (by omega)]
        by_cases hit : i ∈ tg
        · -- it has its place
          obtain ⟨_, hTi⟩ := hTi
          rw [if_pos hit] at hTi
          have hbefore : ∀ k, k < l.length → k ∉ mk → k ∉ tg → LL listed k = true := fun k hk hkm hkt => by
            obtain ⟨p, hp⟩ := hget hk
            exact hanc hcl ho (hO.loose i o k p ho hp hit hkt hkm) hbo'
          have hafter : ∀ k, i ≤ k → LL listed k = true → k ∉ tg ∧ tr.nr k = none := by
            intro k hk hLk
            have hkl : k < l.length := by
              rcases Nat.lt_or_ge k l.length with h | h
              · exact h
              · have hg : listed.getD k false = true := hLk
                rw [Array.getD_eq_getD_getElem?, Array.getElem?_eq_none (by omega)] at hg; cases hg
            obtain ⟨p, hp⟩ := hget hkl
            have hkt : k ∉ tg := by
              intro hkt
              rcases hO.tight i o k p ho hp hit hkt with h | h | h
              · subst h; rw [hLi'] at hLk; cases hLk
              · have := hancLt ho h; omega
              · have := hancL hcl hp h hLk; rw [hLi'] at this; cases this
            refine ⟨hkt, ?_⟩
            cases hn : tr.nr k with
            | none => rfl
            | some r =>
              have hal := halloc k hkl hkt (by rw [hn]; simp)
              have := hancLt ho (hO.loose i o k p ho hp hit hkt hal.1)
              omega
          have hat : accH tr tg b (LL listed) l.length = ((tr.st i).H, (tr.st i).nx) := by
            rw [accH_stay (i := i) l.length (by omega) (fun j h1 h2 h3 => hafter j h1 h3)]
            exact accH_at (n := i) (fun k hk => hloose k (by omega)) (fun k hk h => by
              obtain ⟨p, hp⟩ := hget (show k < l.length by omega)
              by_cases hkt : k ∈ tg
              · rcases hO.tight i o k p ho hp hit hkt with h | h | h
                · omega
                · exact hanc hcl ho h hbo'
                · have := hancLt hp h; omega
              · rcases h with h | h
                · exact absurd h hkt
                · exact hbefore k (by omega) (halloc k (by omega) hkt h).1 hkt) i (Nat.le_refl _)
          have hset : accH tr tg b (LL (listed.setIfInBounds i true)) l.length = ((tr.st (i + 1)).H, (tr.st (i + 1)).nx) := by
            rw [hL']
            exact accH_set_tight hLi' hit (fun k hk hLk => hafter k (by omega) hLk) l.length hil
          have := hTi.1 (stD (LL listed)) (by show (accH tr tg b (LL listed) l.length).1 = _; rw [hat]) (by show (accH tr tg b (LL listed) l.length).2 = _; rw [hat]) huse
          show One C N l.toArray o (stD (LL listed)) ⟨accT tr d (LL (listed.setIfInBounds i true)) l.length, (accH tr tg b (LL (listed.setIfInBounds i true)) l.length).1, (accH tr tg b (LL (listed.setIfInBounds i true)) l.length).2⟩
          rw [htm, hset]
          exact this
        · obtain ⟨_, hTi⟩ := hTi
          rw [if_neg hit] at hTi
          obtain ⟨_, _, hnr, hcert⟩ := hTi
          -- none that has its place is done before one that they all wait for
          have hnot : i ∉ mk → ∀ k, k ∈ tg → LL listed k = false := by
            intro hmi k hkt
            cases hLk : LL listed k with
            | false => rfl
            | true =>
              have hkl : k < l.length := by
                rcases Nat.lt_or_ge k l.length with h | h
                · exact h
                · have hg : listed.getD k false = true := hLk
                  rw [Array.getD_eq_getD_getElem?, Array.getElem?_eq_none (by omega)] at hg; cases hg
              obtain ⟨p, hp⟩ := hget hkl
              have := hancL hcl hp (hO.loose k p i o hp ho hkt hit hmi) hLk
              rw [hLi'] at this; cases this
          have hset : accH tr tg b (LL (listed.setIfInBounds i true)) l.length = (putH (accH tr tg b (LL listed) l.length).1 (b + i) (tr.nr i), (accH tr tg b (LL listed) l.length).2) := by
            rw [hL', accH_set_loose hLi' hit (by
              rcases hnr with h | h
              · exact .inl h
              · exact .inr (fun k hk => hnot h.1 k hk)) l.length, if_neg (by omega)]
          have hfreshK : ∀ k, k < l.length → k ∉ tg → tr.nr k ≠ none → s.H (b + k) = none := fun k hk hkt hn => (halloc k hk hkt hn).2.1
          have hext : Ext (if i ∈ mk then mask av s.H else s.H) (accH tr tg b (LL listed) l.length).1 := by
            by_cases hmi : i ∈ mk
            · rw [if_pos hmi]
              -- what is not written stays in the order of the text
              have hst : ∀ k, k ≤ l.length → Ext (mask av s.H) (tr.st k).H := by
                intro k
                induction k with
                | zero => intro _ id x hx; rw [hs0.1]; unfold mask at hx; split at hx <;> first | cases hx | exact hx
                | succ k ih2 =>
                  intro hk
                  have ih3 := ih2 (by omega)
                  obtain ⟨p, hp⟩ := hget (show k < l.length by omega)
                  by_cases hkt : k ∈ tg
                  · have := (hT k p hp).2
                    rw [if_pos hkt] at this
                    intro id x hx
                    have hav : id ∉ av := by unfold mask at hx; split at hx <;> simp_all
                    rcases this.2 with h | h
                    · rw [h] at hmi; cases hmi
                    · exact h id x hav (ih3 id x hx)
                  · rw [(hloose k (by omega) hkt).1]
                    cases hn : tr.nr k with
                    | none => exact ih3
                    | some r =>
                      intro id x hx
                      have hf := hfreshK k (by omega) hkt (by rw [hn]; simp)
                      simp only [putH, updH]
                      rw [if_neg (fun e => by subst e; unfold mask at hx; split at hx <;> simp_all)]
                      exact ih3 id x hx
              refine accH_ext (n := l.length) (hst 0 (by omega)) (fun k hk hkt hn => ?_) (fun k hk _ _ => hst (k + 1) (by omega)) l.length (Nat.le_refl _)
              have := hfreshK k hk hkt hn
              unfold mask; split <;> first | rfl | exact this
            · rw [if_neg hmi]
              exact accH_ext (n := l.length) (fun id x hx => by rw [hs0.1]; exact hx) (fun k hk hkt hn => hfreshK k hk hkt hn) (fun k hk hkt hLk => by rw [hnot hmi k hkt] at hLk; cases hLk) l.length (Nat.le_refl _)
          have hkey : tr.nr i = none ∨ ((stD (LL listed)).H (b + i) = none ∧ b + i < (stD (LL listed)).nx) := by
            rcases hnr with h | ⟨h1, h2, h3⟩
            · exact .inl h
            · refine .inr ⟨?_, ?_⟩
              · refine accH_fresh (n := l.length) (by rw [hs0.1]; exact h2) (fun k hk hkt => hnot h1 k hkt) (fun k hk hLk e => ?_) l.length (Nat.le_refl _)
                have : k = i := by omega
                subst this; rw [hLi'] at hLk; cases hLk
              · show b + i < (accH tr tg b (LL listed) l.length).2
                rw [accH_nx (n := l.length) (fun k hk hkt => hnot h1 k hkt) l.length (Nat.le_refl _)]
                have hbefore : ∀ k, k < i → k ∉ tg := by
                  intro k hk hkt
                  obtain ⟨p, hp⟩ := hget (show k < l.length by omega)
                  have := hancLt hp (hO.loose k p i o hp ho hkt hit h1)
                  omega
                have : ∀ k, k ≤ i → (tr.st k).nx = (tr.st 0).nx := by
                  intro k
                  induction k with
                  | zero => intro _; rfl
                  | succ k ih2 => intro hk; rw [(hloose k (by omega) (hbefore k (by omega))).2]; exact ih2 (by omega)
                rw [← this i (Nat.le_refl _)]; exact h3
          have := hcert (stD (LL listed)) hext hkey huse
          show One C N l.toArray o (stD (LL listed)) ⟨accT tr d (LL (listed.setIfInBounds i true)) l.length, (accH tr tg b (LL (listed.setIfInBounds i true)) l.length).1, (accH tr tg b (LL (listed.setIfInBounds i true)) l.length).2⟩
          rw [htm, hset]
          exact this
      unfold wpOpIn
      have hg : l.toArray[i]? = some o := by simpa using ho
      rw [hg]
      dsimp only
      have h9 := hone S0 w0 a w (wpAnyIn C.F 0 C.P .any l.toArray (fun e a' w' => ∃ s', Sim S0 w0 N a' w' s' ∧ Q e s') fuel (listed.setIfInBounds i true)) (fun e a' w' => ∃ s', Sim S0 w0 N a' w' s' ∧ Q e s') hE hsim (fun a' w' hs' => ih _ a' w' (by simp [hsz]) hcl' hcnt' hs')
      split
      · rename_i hw; rw [if_pos hw] at h9; exact h9
      · rename_i hw; rw [if_neg hw] at h9; exact ⟨fun f _ => C.hF.fn f, h9⟩
  refine main _ _ _ _ (by simp) ?_ ?_ ?_
  · intro i o ho hi
    exfalso
    have : (Array.replicate l.toArray.size false).getD i false = true := hi
    rw [Array.getD_eq_getD_getElem?] at this
    simp [Array.getElem?_replicate] at this
    split at this <;> simp at this
  · refine Nat.le_trans (List.length_filter_le _ _) (by simp)
  · have hnone : ∀ k, LL (Array.replicate l.toArray.size false) k = false := fun k => by
      show (Array.replicate l.toArray.size false).getD k false = false
      rw [Array.getD_eq_getD_getElem?]
      simp only [Array.getElem?_replicate]
      split <;> rfl
    have e1 : ∀ k, accT tr d (LL (Array.replicate l.toArray.size false)) k = s.tm := by
      intro k; induction k with
      | zero => exact hs0.2.2
      | succ k ih => simp only [accT, hnone, Bool.false_eq_true, if_false, ih]
    have e2 : ∀ k, accH tr tg b (LL (Array.replicate l.toArray.size false)) k = (s.H, s.nx + x) := by
      intro k; induction k with
      | zero => show ((tr.st 0).H, (tr.st 0).nx) = _; rw [hs0.1, hs0.2.1]
      | succ k ih => simp only [accH, hnone, Bool.false_eq_true, if_false, ih]
    refine hs.grow (s' := stD _) (w' := { w with drawn := w.drawn + 1 }) ⟨rfl, rfl, rfl, Nat.le_refl _, fun _ _ => rfl⟩ (e1 _) ?_ ?_
    · show (accH tr tg b _ _).1 = _; rw [e2]
    · show s.nx ≤ (accH tr tg b _ _).2; rw [e2]; exact Nat.le_add_right _ _
end
end Go.Pg
