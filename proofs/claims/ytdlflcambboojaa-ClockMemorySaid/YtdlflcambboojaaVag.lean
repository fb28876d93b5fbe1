/-
  Contracts of functions, proved by going through their code. No conditions.
-/
import Derived.OrdersIn
import Derived.Test.YtdlflcambboojaaVaa
import Derived.Test.YtdlflcambboojaaVaf
set_option linter.unusedVariables false
set_option linter.unusedSimpArgs false
namespace Go.Pg
open Go Go.RowKit
theorem put_tm (s : St) (d : Nat) (r : AV) (nr : Option Row) (t : Nat) : (s.put d r nr).tm t = if t = d then r else s.tm t := rfl
theorem put_H0 (s : St) (d : Nat) (r : AV) : (s.put d r none).H = s.H := rfl
theorem put_H1 (s : St) (d : Nat) (r : AV) (row : Row) : (s.put d r (some row)).H = updH s.H s.nx (.row row) := rfl
theorem put_nx0 (s : St) (d : Nat) (r : AV) : (s.put d r none).nx = s.nx := rfl
theorem put_nx1 (s : St) (d : Nat) (r : AV) (row : Row) : (s.put d r (some row)).nx = s.nx + 1 := rfl
theorem back_tm (s : St) (d : Nat) (r : AV) (ids : List Nat) (t : Nat) : (s.back d r ids).tm t = if t = d then r else s.tm t := rfl
theorem back_nx (s : St) (d : Nat) (r : AV) (ids : List Nat) : (s.back d r ids).nx = s.nx := rfl
theorem back_H (s : St) (d : Nat) (r : AV) (ids : List Nat) : (s.back d r ids).H = afterH s.H ids r := rfl
theorem upd_at (f : Nat → AV) (d : Nat) (r : AV) (t : Nat) : upd f d r t = if t = d then r else f t := rfl
theorem start_tm (args : List AV) (t : Nat) : (startSt args).tm t = args.getD t .junk := rfl
theorem start_H (args : List AV) : (startSt args).H = fun _ => none := rfl
theorem start_nx (args : List AV) : (startSt args).nx = 0 := rfl
theorem rowAt_upd (H : Nat → Option AO) (i : Nat) (r : Row) (j : Nat) : rowAt (updH H i (.row r)) j = if j = i then some r else rowAt H j := by
  unfold rowAt updH
  split <;> rename_i h <;> split at h <;> simp_all
theorem rowAt_none (j : Nat) : rowAt (fun _ => none) j = none := rfl
theorem afterH_nil (H : Nat → Option AO) (r : AV) : afterH H [] r = H := by simp [afterH]
theorem ev_tmp (s : St) (t : Nat) : s.ev (.tmp t) = s.tm t := rfl
theorem ev_const (s : St) (x : Value) : s.ev (.const x) = constA x := rfl
theorem ev_func (s : St) (f : FuncId) : s.ev (.func f) = .clo f [] := rfl
theorem constA_int (k : IntKind) (n : Int) : constA (.int k n) = .v (.int k n) := rfl
theorem constA_bool (b : Bool) : constA (.bool b) = .v (.bool b) := rfl
theorem constA_str (b : ByteArray) : constA (.string b) = .v (.string b) := rfl
theorem constA_nil : constA (.slice none 0 0) = .v (.slice none 0 0) := rfl
section
variable {C : Cx} {N : Nat} {Q : Exit → St → Prop} {s : St} {ops : Array Oper} {rest : List Oper} {o : Oper}
theorem AWL.guardY {j d t : Nat} {want : Bool} (hg : o.guard = some (j, want)) (ht : (ops[j]?).bind (·.dst) = some t) (hd : o.dst = some d) (hN : d < N) (hb : s.tm t = .v (.bool want))
    (k : AWL C N ops Q ({ o with guard := none } :: rest) s) : AWL C N ops Q (o :: rest) s :=
  AWL.guard hg ht hb hd hN (fun _ => k) (fun h => by cases want <;> cases h)
theorem AWL.guardN {j d t : Nat} {want : Bool} (hg : o.guard = some (j, want)) (ht : (ops[j]?).bind (·.dst) = some t) (hd : o.dst = some d) (hN : d < N) (hb : s.tm t = .v (.bool (!want)))
    (k : AWL C N ops Q rest (s.put d (.v undef) none)) : AWL C N ops Q (o :: rest) s :=
  AWL.guard hg ht hb hd hN (fun h => by cases want <;> cases h) (fun _ => k)
theorem put_same_tm {t : Nat} {x : AV} (h : s.tm t = x) : s.put t x none = s := by
  unfold St.put
  have : upd s.tm t x = s.tm := by funext u; unfold upd; split <;> simp_all
  rw [this]; rfl
theorem AWL.guardS {j d t : Nat} {want b : Bool} (hg : o.guard = some (j, want)) (ht : (ops[j]?).bind (·.dst) = some t) (hd : o.dst = some d) (hN : d < N) (hb : s.tm t = .v (.bool b))
    (k1 : b = want → AWL C N ops Q ({ o with guard := none } :: rest) (s.put t (.v (.bool want)) none)) (k2 : b = !want → AWL C N ops Q rest ((s.put t (.v (.bool (!want))) none).put d (.v undef) none)) : AWL C N ops Q (o :: rest) s :=
  AWL.guard hg ht hb hd hN (fun h => by have := k1 h; rwa [put_same_tm (t := t) (by rw [hb, h])] at this) (fun h => by have := k2 h; rw [put_same_tm (t := t) (x := .v (.bool (!want))) (by rw [hb, h])] at this; exact this)
variable {op : Op} {ty : TypeId} {ps : String} {af : Array Edge} {d j t : Nat} {want b : Bool}
theorem W.step (hC : C.OK) (hN : d < N) {r : AV} {nr : Option Row} (h : stepA C.T C.eqT s.H s.ev s.nx op = some (r, nr)) (k : AWL C N ops Q rest (s.put d r nr)) :
    AWL C N ops Q (⟨some d, op, ty, ps, af, none⟩ :: rest) s := AWL.step hC rfl rfl hN h k
theorem W.gY (ht : (ops[j]?).bind (·.dst) = some t) (hN : d < N) (hb : s.tm t = .v (.bool want)) (k : AWL C N ops Q (⟨some d, op, ty, ps, af, none⟩ :: rest) s) :
    AWL C N ops Q (⟨some d, op, ty, ps, af, some (j, want)⟩ :: rest) s := AWL.guardY (o := ⟨some d, op, ty, ps, af, some (j, want)⟩) rfl ht rfl hN hb k
theorem W.gN (ht : (ops[j]?).bind (·.dst) = some t) (hN : d < N) (hb : s.tm t = .v (.bool (!want))) (k : AWL C N ops Q rest (s.put d (.v undef) none)) :
    AWL C N ops Q (⟨some d, op, ty, ps, af, some (j, want)⟩ :: rest) s := AWL.guardN (o := ⟨some d, op, ty, ps, af, some (j, want)⟩) rfl ht rfl hN hb k
theorem W.gU (ht : (ops[j]?).bind (·.dst) = some t) (hN : d < N) (hb : s.tm t = .v undef) (k : AWL C N ops Q rest (s.put d (.v undef) none)) :
    AWL C N ops Q (⟨some d, op, ty, ps, af, some (j, want)⟩ :: rest) s := AWL.guardU (o := ⟨some d, op, ty, ps, af, some (j, want)⟩) rfl ht hb rfl hN k
theorem W.gS (ht : (ops[j]?).bind (·.dst) = some t) (hN : d < N) (hb : s.tm t = .v (.bool b)) (k1 : b = want → AWL C N ops Q (⟨some d, op, ty, ps, af, none⟩ :: rest) (s.put t (.v (.bool want)) none))
    (k2 : b = !want → AWL C N ops Q rest ((s.put t (.v (.bool (!want))) none).put d (.v undef) none)) :
    AWL C N ops Q (⟨some d, op, ty, ps, af, some (j, want)⟩ :: rest) s := AWL.guardS (o := ⟨some d, op, ty, ps, af, some (j, want)⟩) rfl ht rfl hN hb k1 k2
theorem W.store (hC : C.OK) {tp : TypeId} {p x : Operand} {id : Nat} {r : Row} (h : storeA C.T s.H tp (s.ev p) (s.ev x) = some (id, r)) (k : AWL C N ops Q rest { s with H := updH s.H id (.row r) }) :
    AWL C N ops Q (⟨none, .store tp p x, ty, ps, af, none⟩ :: rest) s := AWL.store hC rfl rfl rfl h k
theorem W.call (hC : C.OK) (hN : d < N) {fo : Operand} {args : Array Operand} {tys : Array TypeId} {f : FuncId} {caps vs : List AV} (hf : s.ev fo = .clo f caps) (hv : viewL s.H (evsA args.toList s.ev ++ caps) = some vs) {Qr : AV → Prop} (hok : OKat C f vs Qr)
    (k : ∀ r, Qr r → AWL C N ops Q rest (s.back d r (idsL (evsA args.toList s.ev ++ caps)))) : AWL C N ops Q (⟨some d, .call { callee := .value fo, args := args, argTypes := tys }, ty, ps, af, none⟩ :: rest) s :=
  AWL.call hC rfl rfl hN rfl hf hv hok k
theorem W.callv (hC : C.OK) (hN : d < N) {fo : Operand} {args : Array Operand} {tys : Array TypeId} {f : FuncId} {caps vs : List AV} {R : AV} (hf : s.ev fo = .clo f caps) (hv : viewL s.H (evsA args.toList s.ev ++ caps) = some vs) (hok : OKv C f vs R)
    (k : AWL C N ops Q rest (s.back d R (idsL (evsA args.toList s.ev ++ caps)))) : AWL C N ops Q (⟨some d, .call { callee := .value fo, args := args, argTypes := tys }, ty, ps, af, none⟩ :: rest) s :=
  AWL.call hC rfl rfl hN rfl hf hv hok (fun r hr => by subst hr; exact k)
end
section
variable {Q : AV → Prop} {s : St}
theorem W.ret1 {t : Nat} {r : AV} (hv : viewA s.H (s.tm t) = some r) (hq : Q r) : endQ [t] Q .ret s := ⟨r, hv, hq⟩
theorem W.end1 {t : Nat} {r : AV} (hv : viewA s.H (s.tm t) = some r) (hq : Q r) : endQ [t] Q .normal s := ⟨r, hv, hq⟩
theorem W.ret2 {t u : Nat} {r : AV} (hv : viewA s.H (.tup [s.tm t, s.tm u]) = some r) (hq : Q r) : endQ [t, u] Q .ret s := ⟨r, hv, hq⟩
theorem W.end2 {t u : Nat} {r : AV} (hv : viewA s.H (.tup [s.tm t, s.tm u]) = some r) (hq : Q r) : endQ [t, u] Q .normal s := ⟨r, hv, hq⟩
theorem W.ret3 {t u v : Nat} {r : AV} (hv : viewA s.H (.tup [s.tm t, s.tm u, s.tm v]) = some r) (hq : Q r) : endQ [t, u, v] Q .ret s := ⟨r, hv, hq⟩
theorem W.end3 {t u v : Nat} {r : AV} (hv : viewA s.H (.tup [s.tm t, s.tm u, s.tm v]) = some r) (hq : Q r) : endQ [t, u, v] Q .normal s := ⟨r, hv, hq⟩
end
theorem view_v_int (H : Nat → Option AO) (k : IntKind) (n : Int) : viewA H (.v (.int k n)) = some (.v (.int k n)) := rfl
theorem view_v_bool (H : Nat → Option AO) (b : Bool) : viewA H (.v (.bool b)) = some (.v (.bool b)) := rfl
theorem view_v_str (H : Nat → Option AO) (b : ByteArray) : viewA H (.v (.string b)) = some (.v (.string b)) := rfl
theorem view_nil (H : Nat → Option AO) : viewA H (.v (.slice none 0 0)) = some (.lst []) := rfl
theorem view_lst (H : Nat → Option AO) (es : List (List AV)) : viewA H (.lst es) = some (.lst es) := rfl
theorem view_agg (H : Nat → Option AO) (cs : List AV) : viewA H (.agg cs) = (viewL H cs).map .agg := rfl
theorem view_tup (H : Nat → Option AO) (cs : List AV) : viewA H (.tup cs) = (viewL H cs).map .tup := rfl
theorem view_clo (H : Nat → Option AO) (f : FuncId) (cs : List AV) : viewA H (.clo f cs) = (viewL H cs).map (.clo f) := rfl
theorem viewL_nil (H : Nat → Option AO) : viewL H [] = some [] := rfl
theorem viewL_cons (H : Nat → Option AO) (c : AV) (cs : List AV) : viewL H (c :: cs) = (match viewA H c, viewL H cs with | some d, some ds => some (d :: ds) | _, _ => none) := rfl
theorem idsA_v (x : Value) : idsA (.v x) = [] := rfl
theorem idsA_lst (es : List (List AV)) : idsA (.lst es) = [] := rfl
theorem idsA_agg (cs : List AV) : idsA (.agg cs) = idsL cs := rfl
theorem idsL_nil : idsL [] = [] := rfl
theorem idsL_cons (c : AV) (cs : List AV) : idsL (c :: cs) = idsA c ++ idsL cs := rfl
end Go.Pg

namespace Go.Pg
open Go Go.RowKit
section
variable {P : Program} {ops : Array Oper} {Q Q' : Exit → Act → World → Prop} {o : Oper} {a : Act} {w : World} {K K' : Act → World → Prop}
theorem Oper.wpIn_mono2 {F : Fence} {n : Nat} (hk : ∀ a w, K a w → K' a w) (hq : ∀ e a w, e ≠ .normal → Q e a w → Q' e a w) (hl : LetsOut Q → LetsOut Q') (hh : o.wpIn F n P a w K Q) : o.wpIn F n P a w K' Q' := by
  unfold Oper.wpIn at *
  refine ⟨hh.1, ?_⟩
  have hh := hh.2
  generalize (o.semAt F.round a.eval).run P w = r at *
  cases r with
  | ok n w' =>
    cases n <;> simp only [Oper.uponIn] at hh ⊢ <;>
      first
        | exact hk _ _ hh
        | exact ⟨hh.1, CallsIn.mono hh.2 (fun e w'' he => by cases e <;> first | exact hk _ _ he | exact hq _ _ _ (by simp) he | exact hl he)⟩
        | exact ⟨hh.1, RowsIn.mono hh.2 (fun _ _ he => hk _ _ he)⟩
        | exact ⟨hh.1, RoundIn.mono hh.2 (fun e w'' he => by cases e <;> first | exact hk _ _ he | exact hq _ _ _ (by simp) he | exact hl he)⟩
  | halt x w' => cases x <;> simp only [Oper.uponIn] at hh ⊢ <;> first | exact hq _ _ _ (by simp) hh | exact hh
end
def One (C : Cx) (N : Nat) (ops : Array Oper) (o : Oper) (s s' : St) : Prop :=
  ∀ (S0 : Fr) (w0 : World) (a : Act) (w : World) (K : Act → World → Prop) (Q : Exit → Act → World → Prop), C.E w0 → Sim S0 w0 N a w s → (∀ a' w', Sim S0 w0 N a' w' s' → K a' w') →
    if Region.wanted o (yielded ops a.tmps) then o.wpIn C.F 0 C.P a w K Q else K (a.put o.dst undef) w
def onlyQ (s' : St) : Exit → St → Prop := fun e s => e = .normal ∧ s = s'
theorem letsOut_sim {C : Cx} {S0 : Fr} {w0 : World} {N : Nat} {s' : St} (h : LetsOut (fun e a' w' => ∃ s, Sim S0 w0 N a' w' s ∧ onlyQ s' e s)) : False := by
  obtain ⟨a, w, h⟩ := h
  obtain ⟨_, _, h, _⟩ := h
  cases h
theorem one_of_AWL {C : Cx} {N : Nat} {ops : Array Oper} {o : Oper} {s s' : St} (h : AWL C N ops (onlyQ s') [o] s) : One C N ops o s s' := by
  intro S0 w0 a w K Q hE hs hK
  have := h S0 w0 a w hE hs
  unfold wpListIn at this
  have hk : ∀ a' w', wpListIn C.F 0 C.P ops (fun e a' w' => ∃ s, Sim S0 w0 N a' w' s ∧ onlyQ s' e s) [] a' w' → K a' w' := by
    rintro a' w' ⟨s, h1, _, rfl⟩
    exact hK _ _ h1
  split at this
  · rename_i hw
    rw [if_pos hw]
    refine Oper.wpIn_mono2 hk ?_ (fun h => (letsOut_sim (C := C) h).elim) this
    rintro e a w he ⟨_, _, h, _⟩
    exact absurd h he
  · rename_i hw
    rw [if_neg hw]
    exact hk _ _ this.2
def updO (f : Nat → AV) (d : Option Nat) (x : AV) : Nat → AV := match d with
  | some t => upd f t x
  | none => f
def Ext (H1 H2 : Nat → Option AO) : Prop := ∀ id x, H1 id = some x → H2 id = some x
def mask (av : List Nat) (H : Nat → Option AO) : Nat → Option AO := fun id => if id ∈ av then none else H id
def LCert (C : Cx) (N : Nat) (ops : Array Oper) (o : Oper) (H : Nat → Option AO) (tm : Nat → AV) (key : Nat) (r : AV) (nr : Option Row) : Prop :=
  ∀ s : St, Ext H s.H → (nr = none ∨ (s.H key = none ∧ key < s.nx)) → (∀ t ∈ o.looksAt ops, s.tm t = tm t) → One C N ops o s ⟨updO s.tm o.dst r, putH s.H key nr, s.nx⟩
def TCert (C : Cx) (N : Nat) (ops : Array Oper) (o : Oper) (H : Nat → Option AO) (nx : Nat) (tm : Nat → AV) (r : AV) (H' : Nat → Option AO) (nx' : Nat) : Prop :=
  ∀ s : St, s.H = H → s.nx = nx → (∀ t ∈ o.looksAt ops, s.tm t = tm t) → One C N ops o s ⟨updO s.tm o.dst r, H', nx'⟩
def DW (C : Cx) (N : Nat) (ops : Array Oper) (H0 : Nat → Option AO) (b : Nat) (tg mk av : List Nat) (Fin : St → Prop) : Nat → List Oper → St → Prop
  | _, [], s => Fin s
  | i, o :: l, s =>
    ∃ (r : AV) (s' : St), s'.tm = updO s.tm o.dst r ∧
      (if i ∈ tg then TCert C N ops o s.H s.nx s.tm r s'.H s'.nx ∧ (mk = [] ∨ ∀ id x, id ∉ av → s.H id = some x → s'.H id = some x)
       else ∃ nr, s'.H = putH s.H (b + i) nr ∧ s'.nx = s.nx ∧ (nr = none ∨ (i ∉ mk ∧ H0 (b + i) = none ∧ b + i < s.nx)) ∧ LCert C N ops o (if i ∈ mk then mask av H0 else H0) s.tm (b + i) r nr) ∧
      DW C N ops H0 b tg mk av Fin (i + 1) l s'
def bnd (o : Oper) : List Nat := (o.after.toList.filter (fun e => Region.binds .any e)).map (·.on)
def ancOf (tab : List Nat) (o : Oper) : Nat := (bnd o).foldl (fun m j => m ||| (1 <<< j) ||| tab.getD j 0) 0
def ancs : List Oper → List Nat → List Nat
  | [], tab => tab
  | o :: l, tab => ancs l (tab ++ [ancOf tab o])
def dstIn (p : Option Nat) (l : List Nat) : Bool := match p with
  | some t => l.contains t
  | none => false
def pairOK (ops : Array Oper) (tab : List Nat) (tg mk : List Nat) (i : Nat) (o : Oper) (k : Nat) (p : Oper) : Bool :=
  (!(dstIn p.dst (o.looksAt ops)) || (tab.getD i 0).testBit k || (tab.getD k 0).testBit i) &&
  (k == i || p.dst == none || p.dst != o.dst) &&
  (!(tg.contains i) || (if tg.contains k then (k == i || (tab.getD i 0).testBit k || (tab.getD k 0).testBit i) else (mk.contains k || (tab.getD i 0).testBit k)))
def drawOK (ops : List Oper) (tg mk : List Nat) : Bool :=
  let tab := ancs ops []
  (ops.zipIdx).all fun (o, i) => (bnd o).all (fun j => decide (j < i)) && (ops.zipIdx).all fun (p, k) => pairOK ops.toArray tab tg mk i o k p
def Closed (ops : List Oper) (L : Nat → Bool) : Prop := ∀ i o, ops[i]? = some o → L i = true → ∀ j ∈ bnd o, L j = true
theorem testBit_foldl (tab : List Nat) (k : Nat) : ∀ (l : List Nat) (m : Nat), (l.foldl (fun m j => m ||| (1 <<< j) ||| tab.getD j 0) m).testBit k = true →
    m.testBit k = true ∨ ∃ j ∈ l, j = k ∨ (tab.getD j 0).testBit k = true
  | [], m, h => .inl h
  | j :: l, m, h => by
    simp only [List.foldl_cons] at h
    rcases testBit_foldl tab k l _ h with h | ⟨j', hj', h⟩
    · simp only [Nat.testBit_or, Bool.or_eq_true, Nat.one_shiftLeft] at h
      rcases h with (h | h) | h
      · exact .inl h
      · rw [Nat.testBit_two_pow] at h
        exact .inr ⟨j, by simp, .inl (by simpa using h)⟩
      · exact .inr ⟨j, by simp, .inr h⟩
    · exact .inr ⟨j', by simp [hj'], h⟩
theorem ancOf_spec {tab : List Nat} {o : Oper} {k : Nat} (h : (ancOf tab o).testBit k = true) : ∃ j ∈ bnd o, j = k ∨ (tab.getD j 0).testBit k = true := by
  rcases testBit_foldl tab k _ _ h with h | h
  · simp at h
  · exact h
theorem ancs_spec {ops : List Oper} {L : Nat → Bool} (hL : Closed ops L) : ∀ (l : List Oper) (tab : List Nat), ops.drop tab.length = l → tab.length ≤ ops.length →
    (∀ i, i < tab.length → ∀ o, ops[i]? = some o → ∀ k, (tab.getD i 0).testBit k = true → (∀ j ∈ bnd o, L j = true) → L k = true) →
    (∀ i o, ops[i]? = some o → ∀ j ∈ bnd o, j < i) →
    ∀ i o, ops[i]? = some o → ∀ k, ((ancs l tab).getD i 0).testBit k = true → (∀ j ∈ bnd o, L j = true) → L k = true
  | [], tab, hd, hl, hp, hb => by
    intro i o ho k hk hj
    have : i < tab.length := by
      have h1 := List.drop_eq_nil_iff.1 hd
      have h2 := (List.getElem?_eq_some_iff.1 ho).1
      omega
    exact hp i this o ho k hk hj
  | o :: l, tab, hd, hl, hp, hb => by
    have hlt : tab.length < ops.length := by
      have : (ops.drop tab.length).length = (o :: l).length := by rw [hd]
      simp at this; omega
    have hget : ops[tab.length]? = some o := by
      have : (ops.drop tab.length)[0]? = some o := by rw [hd]; rfl
      simpa using this
    refine ancs_spec hL l _ ?_ (by simp; omega) ?_ hb
    · have : ops.drop (tab.length + 1) = (ops.drop tab.length).drop 1 := by simp
      simp only [List.length_append, List.length_singleton, this, hd, List.drop_succ_cons, List.drop_zero]
    · intro i hi o' ho' k hk hj
      simp only [List.length_append, List.length_singleton] at hi
      rcases Nat.lt_or_ge i tab.length with h | h
      · refine hp i h o' ho' k ?_ hj
        rwa [List.getD_eq_getElem?_getD, List.getElem?_append_left h, ← List.getD_eq_getElem?_getD] at hk
      · have he : i = tab.length := by omega
        subst he
        rw [hget] at ho'; injection ho' with ho'; subst ho'
        rw [List.getD_eq_getElem?_getD, List.getElem?_append_right (Nat.le_refl _)] at hk
        simp only [Nat.sub_self, List.getElem?_cons_zero, Option.getD_some] at hk
        obtain ⟨j, hjm, h⟩ := ancOf_spec hk
        rcases h with rfl | h
        · exact hj _ hjm
        · have hji := hb _ _ hget j hjm
          obtain ⟨oj, hoj⟩ : ∃ oj, ops[j]? = some oj := ⟨_, List.getElem?_eq_getElem (by omega)⟩
          exact hp j hji oj hoj k h (hL j oj hoj (hj j hjm))
structure OrdOK (ops : List Oper) (tg mk : List Nat) : Prop where
  back : ∀ i o, ops[i]? = some o → ∀ j ∈ bnd o, j < i
  uses : ∀ i o k p t, ops[i]? = some o → ops[k]? = some p → p.dst = some t → t ∈ o.looksAt ops.toArray → ((ancs ops []).getD i 0).testBit k = true ∨ ((ancs ops []).getD k 0).testBit i = true
  dsts : ∀ (i : Nat) (o : Oper) (k : Nat) (p : Oper) (t : Nat), ops[i]? = some o → ops[k]? = some p → k ≠ i → p.dst = some t → o.dst ≠ some t
  tight : ∀ i o k p, ops[i]? = some o → ops[k]? = some p → i ∈ tg → k ∈ tg → k = i ∨ ((ancs ops []).getD i 0).testBit k = true ∨ ((ancs ops []).getD k 0).testBit i = true
  loose : ∀ i o k p, ops[i]? = some o → ops[k]? = some p → i ∈ tg → k ∉ tg → k ∉ mk → ((ancs ops []).getD i 0).testBit k = true
theorem ordOK_of {ops : List Oper} {tg mk : List Nat} (h : drawOK ops tg mk = true) : OrdOK ops tg mk := by
  unfold drawOK at h
  simp only [List.all_eq_true, Bool.and_eq_true, decide_eq_true_eq, Prod.forall] at h
  have hmem : ∀ {i o}, ops[i]? = some o → (o, i) ∈ ops.zipIdx := fun {i o} h => by
    rw [List.mem_zipIdx_iff_getElem?]; exact h
  have hp : ∀ i o k p, ops[i]? = some o → ops[k]? = some p → pairOK ops.toArray (ancs ops []) tg mk i o k p = true := fun i o k p h1 h2 => (h o i (hmem h1)).2 p k (hmem h2)
  refine ⟨fun i o ho j hj => (h o i (hmem ho)).1 j hj, ?_, ?_, ?_, ?_⟩
  · intro i o k p t h1 h2 h3 h4
    have := hp i o k p h1 h2
    simp only [pairOK, Bool.and_eq_true, Bool.or_eq_true, Bool.not_eq_true', h3, dstIn] at this
    rcases this.1.1 with (h | h) | h
    · simp at h; exact absurd h4 h
    · exact .inl h
    · exact .inr h
  · intro i o k p t h1 h2 h3 h4 h5
    have := hp i o k p h1 h2
    simp only [pairOK, Bool.and_eq_true, Bool.or_eq_true, beq_iff_eq, bne_iff_ne, h4, h5] at this
    rcases this.1.2 with (h | h) | h
    · exact h3 h
    · cases h
    · exact h rfl
  · intro i o k p h1 h2 h3 h4
    have := hp i o k p h1 h2
    simp only [pairOK, Bool.and_eq_true, Bool.or_eq_true, Bool.not_eq_true', List.contains_eq_mem, decide_eq_true_eq, decide_eq_false_iff_not, h3, h4, not_true, false_or, if_true, beq_iff_eq] at this
    rcases this.2 with (h | h) | h
    · exact .inl h
    · exact .inr (.inl h)
    · exact .inr (.inr h)
  · intro i o k p h1 h2 h3 h4 h5
    have := hp i o k p h1 h2
    simp only [pairOK, Bool.and_eq_true, Bool.or_eq_true, Bool.not_eq_true', List.contains_eq_mem, decide_eq_true_eq, decide_eq_false_iff_not, h3, h4, h5, not_true, false_or, if_false] at this
    exact this.2
end Go.Pg

namespace Go.Pg
open Go Go.RowKit
structure Tr where
  st : Nat → St
  r : Nat → AV
  nr : Nat → Option Row
def TrOK (C : Cx) (N : Nat) (ops : Array Oper) (H0 : Nat → Option AO) (b : Nat) (tg mk av : List Nat) (tr : Tr) (i : Nat) (o : Oper) : Prop :=
  (tr.st (i + 1)).tm = updO (tr.st i).tm o.dst (tr.r i) ∧
    (if i ∈ tg then TCert C N ops o (tr.st i).H (tr.st i).nx (tr.st i).tm (tr.r i) (tr.st (i + 1)).H (tr.st (i + 1)).nx ∧ (mk = [] ∨ ∀ id x, id ∉ av → (tr.st i).H id = some x → (tr.st (i + 1)).H id = some x)
     else (tr.st (i + 1)).H = putH (tr.st i).H (b + i) (tr.nr i) ∧ (tr.st (i + 1)).nx = (tr.st i).nx ∧ (tr.nr i = none ∨ (i ∉ mk ∧ H0 (b + i) = none ∧ b + i < (tr.st i).nx)) ∧
       LCert C N ops o (if i ∈ mk then mask av H0 else H0) (tr.st i).tm (b + i) (tr.r i) (tr.nr i))
section
variable {C : Cx} {N : Nat} {ops : Array Oper} {H0 : Nat → Option AO} {b : Nat} {tg mk av : List Nat} {Fin : St → Prop}
theorem TrOK.congr {tr tr' : Tr} {i : Nat} {o : Oper} (h : TrOK C N ops H0 b tg mk av tr i o) (h1 : tr'.st i = tr.st i) (h2 : tr'.st (i + 1) = tr.st (i + 1)) (h3 : tr'.r i = tr.r i) (h4 : tr'.nr i = tr.nr i) :
    TrOK C N ops H0 b tg mk av tr' i o := by
  unfold TrOK at h ⊢
  rw [h1, h2, h3, h4]; exact h
theorem DW.trace : ∀ (l : List Oper) (i : Nat) (s : St), DW C N ops H0 b tg mk av Fin i l s → ∃ tr : Tr, tr.st i = s ∧ (∀ j o, l[j]? = some o → TrOK C N ops H0 b tg mk av tr (i + j) o) ∧ Fin (tr.st (i + l.length))
  | [], i, s, h => ⟨⟨fun _ => s, fun _ => .junk, fun _ => none⟩, rfl, fun j o h => by simp at h, h⟩
  | o :: l, i, s, h => by
    obtain ⟨r, s', h1, h2, h3⟩ := h
    obtain ⟨tr, g1, g2, g3⟩ := DW.trace l (i + 1) s' h3
    have key : ∃ nr : Option Row, (if i ∈ tg then TCert C N ops o s.H s.nx s.tm r s'.H s'.nx ∧ (mk = [] ∨ ∀ id x, id ∉ av → s.H id = some x → s'.H id = some x)
       else s'.H = putH s.H (b + i) nr ∧ s'.nx = s.nx ∧ (nr = none ∨ (i ∉ mk ∧ H0 (b + i) = none ∧ b + i < s.nx)) ∧ LCert C N ops o (if i ∈ mk then mask av H0 else H0) s.tm (b + i) r nr) := by
      by_cases hi : i ∈ tg
      · rw [if_pos hi] at h2; exact ⟨none, by rw [if_pos hi]; exact h2⟩
      · rw [if_neg hi] at h2; obtain ⟨nr, h⟩ := h2; exact ⟨nr, by rw [if_neg hi]; exact h⟩
    obtain ⟨nr, hk⟩ := key
    refine ⟨⟨fun k => if k ≤ i then s else tr.st k, fun k => if k = i then r else tr.r k, fun k => if k = i then nr else tr.nr k⟩, by simp, ?_, ?_⟩
    · intro j o' hj
      cases j with
      | zero =>
        simp only [List.getElem?_cons_zero, Option.some.injEq] at hj
        subst hj
        unfold TrOK
        have e : ¬ (i + 1 ≤ i) := by omega
        simp only [Nat.add_zero, Nat.le_refl, if_true, if_neg e, g1]
        exact ⟨h1, hk⟩
      | succ j =>
        simp only [List.getElem?_cons_succ] at hj
        have := g2 j o' hj
        have e1 : i + 1 + j = i + (j + 1) := by omega
        rw [e1] at this
        refine this.congr ?_ ?_ ?_ ?_
        · show (if i + (j + 1) ≤ i then s else tr.st (i + (j + 1))) = _; rw [if_neg (by omega)]
        · show (if i + (j + 1) + 1 ≤ i then s else tr.st (i + (j + 1) + 1)) = _; rw [if_neg (by omega)]
        · show (if i + (j + 1) = i then r else tr.r (i + (j + 1))) = _; rw [if_neg (by omega)]
        · show (if i + (j + 1) = i then nr else tr.nr (i + (j + 1))) = _; rw [if_neg (by omega)]
    · show Fin (if i + (l.length + 1) ≤ i then s else tr.st (i + (l.length + 1)))
      rw [if_neg (by omega)]
      have e : i + 1 + l.length = i + (l.length + 1) := by omega
      rw [← e]; exact g3
end
def setL (L : Nat → Bool) (i : Nat) : Nat → Bool := fun j => if j = i then true else L j
def accT (tr : Tr) (d : Nat → Option Nat) (L : Nat → Bool) : Nat → Nat → AV
  | 0 => (tr.st 0).tm
  | k + 1 => if L k = true then updO (accT tr d L k) (d k) (tr.r k) else accT tr d L k
def accH (tr : Tr) (tg : List Nat) (b : Nat) (L : Nat → Bool) : Nat → (Nat → Option AO) × Nat
  | 0 => ((tr.st 0).H, (tr.st 0).nx)
  | k + 1 => if L k = true then (if k ∈ tg then ((tr.st (k + 1)).H, (tr.st (k + 1)).nx) else (putH (accH tr tg b L k).1 (b + k) (tr.nr k), (accH tr tg b L k).2)) else accH tr tg b L k
theorem updO_comm {f : Nat → AV} {d e : Option Nat} {x y : AV} (h : ∀ t, d = some t → e ≠ some t) : updO (updO f d x) e y = updO (updO f e y) d x := by
  cases d with
  | none => rfl
  | some t =>
    cases e with
    | none => rfl
    | some u =>
      have hne : t ≠ u := fun he => h t rfl (by rw [he])
      funext v
      simp only [updO, upd]
      by_cases h1 : v = u <;> by_cases h2 : v = t <;> simp [h1, h2] <;> first | (intro he; exact absurd he.symm hne) | (intro he; exact absurd he hne) | omega | skip
theorem updO_ne {f : Nat → AV} {d : Option Nat} {x : AV} {t : Nat} (h : d ≠ some t) : updO f d x t = f t := by
  cases d with
  | none => rfl
  | some u => simp only [updO, upd]; rw [if_neg (fun e => h (by rw [e]))]
section
variable {tr : Tr} {d : Nat → Option Nat} {L : Nat → Bool} {i : Nat} {tg : List Nat} {b : Nat}
theorem accT_set (hi : L i = false) (hd : ∀ k t, k ≠ i → d k = some t → d i ≠ some t) : ∀ k, accT tr d (setL L i) k = if k ≤ i then accT tr d L k else updO (accT tr d L k) (d i) (tr.r i)
  | 0 => by simp [accT]
  | k + 1 => by
    have ih := accT_set hi hd k
    rcases Nat.lt_trichotomy k i with h | h | h
    · rw [if_pos (by omega)]
      rw [if_pos (by omega)] at ih
      simp only [accT, setL, if_neg (show ¬ k = i by omega), ih]
    · subst h
      rw [if_neg (by omega)]
      rw [if_pos (Nat.le_refl _)] at ih
      simp only [accT, setL, if_true, ih, hi, Bool.false_eq_true, if_false]
    · rw [if_neg (by omega)]
      rw [if_neg (by omega)] at ih
      simp only [accT, setL, if_neg (show ¬ k = i by omega), ih]
      split
      · exact updO_comm (fun t h1 h2 => hd k t (by omega) h2 h1)
      · rfl
theorem accT_uses {t : Nat} {n : Nat} (hs : ∀ k, k < n → (tr.st (k + 1)).tm = updO (tr.st k).tm (d k) (tr.r k)) (h : ∀ k, k < n → d k = some t → (L k = true ↔ k < i)) :
    ∀ k, k ≤ n → i ≤ n → accT tr d L k t = (tr.st (min k i)).tm t
  | 0, _, _ => by simp [accT]
  | k + 1, hk, hin => by
    have ih := accT_uses hs h k (by omega) hin
    by_cases hd : d k = some t
    · have hL := h k (by omega) hd
      by_cases hki : k < i
      · have : L k = true := hL.2 hki
        simp only [accT, this, if_true]
        rw [show min (k + 1) i = k + 1 by omega, hs k (by omega), hd]
        simp [updO, upd]
      · have : ¬ L k = true := fun h => hki (hL.1 h)
        simp only [accT, this, if_false, Bool.false_eq_true]
        rw [ih, show min k i = min (k + 1) i by omega]
    · have e1 : accT tr d L (k + 1) t = accT tr d L k t := by
        simp only [accT]
        split
        · exact updO_ne hd
        · rfl
      rw [e1, ih]
      by_cases hki : k < i
      · rw [show min (k + 1) i = k + 1 by omega, show min k i = k by omega, hs k (by omega), updO_ne hd]
      · rw [show min k i = min (k + 1) i by omega]
theorem accT_all {n : Nat} (hs : ∀ k, k < n → (tr.st (k + 1)).tm = updO (tr.st k).tm (d k) (tr.r k)) (h : ∀ k, k < n → L k = true) : ∀ k, k ≤ n → accT tr d L k = (tr.st k).tm
  | 0, _ => rfl
  | k + 1, hk => by
    simp only [accT, h k (by omega), if_true, accT_all hs h k (by omega)]
    exact (hs k (by omega)).symm
theorem putH_comm {H : Nat → Option AO} {k1 k2 : Nat} {a c : Option Row} (h : k1 ≠ k2) : putH (putH H k1 a) k2 c = putH (putH H k2 c) k1 a := by
  cases a <;> cases c <;> simp only [putH]
  funext id
  simp only [updH]
  by_cases h1 : id = k1 <;> by_cases h2 : id = k2 <;> simp [h1, h2] <;> omega
theorem accH_set_loose (hi : L i = false) (hit : i ∉ tg) (ht : tr.nr i = none ∨ ∀ k, k ∈ tg → L k = false) : ∀ k, accH tr tg b (setL L i) k = if k ≤ i then accH tr tg b L k else (putH (accH tr tg b L k).1 (b + i) (tr.nr i), (accH tr tg b L k).2)
  | 0 => by simp [accH]
  | k + 1 => by
    have ih := accH_set_loose hi hit ht k
    rcases Nat.lt_trichotomy k i with h | h | h
    · rw [if_pos (by omega)]
      rw [if_pos (by omega)] at ih
      simp only [accH, setL, if_neg (show ¬ k = i by omega), ih]
    · subst h
      rw [if_neg (by omega)]
      rw [if_pos (Nat.le_refl _)] at ih
      simp only [accH, setL, if_true, ih, hi, Bool.false_eq_true, if_false, hit]
    · rw [if_neg (by omega)]
      rw [if_neg (by omega)] at ih
      simp only [accH, setL, if_neg (show ¬ k = i by omega), ih]
      split
      · rename_i hL
        split
        · rename_i hk
          rcases ht with ht | ht
          · rw [ht]; rfl
          · rw [ht k hk] at hL; cases hL
        · rw [putH_comm (by omega)]
      · rfl
theorem accH_set_tight (hi : L i = false) (hit : i ∈ tg) (ht : ∀ k, i < k → L k = true → k ∉ tg ∧ tr.nr k = none) : ∀ k, i < k → accH tr tg b (setL L i) k = ((tr.st (i + 1)).H, (tr.st (i + 1)).nx)
  | 0, h => by omega
  | k + 1, h => by
    by_cases hk : k = i
    · subst hk; simp only [accH, setL, if_true, hit]
    · have ih := accH_set_tight hi hit ht k (by omega)
      simp only [accH, setL, if_neg hk, ih]
      split
      · rename_i hL
        have := ht k (by omega) hL
        rw [if_neg this.1, this.2]; rfl
      · rfl
theorem accH_at {n : Nat} (hs : ∀ k, k < n → k ∉ tg → (tr.st (k + 1)).H = putH (tr.st k).H (b + k) (tr.nr k) ∧ (tr.st (k + 1)).nx = (tr.st k).nx) (h : ∀ k, k < n → (k ∈ tg ∨ tr.nr k ≠ none) → L k = true) :
    ∀ k, k ≤ n → accH tr tg b L k = ((tr.st k).H, (tr.st k).nx)
  | 0, _ => rfl
  | k + 1, hk => by
    have ih := accH_at hs h k (by omega)
    simp only [accH, ih]
    by_cases ht : k ∈ tg
    · rw [if_pos (h k (by omega) (.inl ht)), if_pos ht]
    · have h1 := hs k (by omega) ht
      by_cases hn : tr.nr k = none
      · rw [hn] at h1 ⊢
        simp only [putH] at h1 ⊢
        rw [h1.1, h1.2]; split <;> simp
      · rw [if_pos (h k (by omega) (.inr hn)), if_neg ht, h1.1, h1.2]
theorem accH_stay {i : Nat} : ∀ k, i ≤ k → (∀ j, i ≤ j → j < k → L j = true → j ∉ tg ∧ tr.nr j = none) → accH tr tg b L k = accH tr tg b L i
  | 0, h, _ => by have : i = 0 := by omega
                  subst this; rfl
  | k + 1, h, hn => by
    by_cases hk : i = k + 1
    · rw [hk]
    · have ih := accH_stay k (by omega) (fun j h1 h2 => hn j h1 (by omega))
      simp only [accH]
      split
      · rename_i hL
        have := hn k (by omega) (by omega) hL
        rw [if_neg this.1, this.2, ← ih]; rfl
      · exact ih
theorem accH_ext {H1 : Nat → Option AO} {n : Nat} (h0 : Ext H1 (tr.st 0).H) (ha : ∀ k, k < n → k ∉ tg → tr.nr k ≠ none → H1 (b + k) = none) (ht : ∀ k, k < n → k ∈ tg → L k = true → Ext H1 (tr.st (k + 1)).H) :
    ∀ k, k ≤ n → Ext H1 (accH tr tg b L k).1
  | 0, _ => h0
  | k + 1, hk => by
    have ih := accH_ext h0 ha ht k (by omega)
    simp only [accH]
    split
    · rename_i hL
      split
      · rename_i hkt; exact ht k (by omega) hkt hL
      · rename_i hkt
        cases hn : tr.nr k with
        | none => exact ih
        | some r =>
          intro id x hx
          have := ha k (by omega) hkt (by rw [hn]; simp)
          simp only [putH, updH]
          rw [if_neg (fun e => by rw [e] at hx; rw [this] at hx; cases hx)]
          exact ih id x hx
    · exact ih
theorem accH_nx {n : Nat} (h : ∀ k, k < n → k ∈ tg → L k = false) : ∀ k, k ≤ n → (accH tr tg b L k).2 = (tr.st 0).nx
  | 0, _ => rfl
  | k + 1, hk => by
    simp only [accH]
    split
    · rename_i hL
      rw [if_neg (fun hkt => by rw [h k (by omega) hkt] at hL; cases hL)]
      exact accH_nx h k (by omega)
    · exact accH_nx h k (by omega)
theorem accH_fresh {n key : Nat} (h0 : (tr.st 0).H key = none) (h : ∀ k, k < n → k ∈ tg → L k = false) (hk : ∀ k, k < n → L k = true → b + k ≠ key) : ∀ k, k ≤ n → (accH tr tg b L k).1 key = none
  | 0, _ => h0
  | k + 1, hkn => by
    have ih := accH_fresh h0 h hk k (by omega)
    simp only [accH]
    split
    · rename_i hL
      rw [if_neg (fun hkt => by rw [h k (by omega) hkt] at hL; cases hL)]
      cases tr.nr k with
      | none => exact ih
      | some r =>
        simp only [putH, updH]
        rw [if_neg (fun e => hk k (by omega) hL e.symm)]
        exact ih
    · exact ih
end
end Go.Pg
