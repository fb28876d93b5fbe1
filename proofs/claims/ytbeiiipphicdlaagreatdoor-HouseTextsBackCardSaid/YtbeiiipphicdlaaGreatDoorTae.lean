/-
  Contracts of functions, proved by going through their code. No conditions.
-/
import Derived.Deep.LoopGhost
import Derived.Scope
import Derived.OrdersIn
import Derived.TacticsIn
import Derived.LoopNIn
import Derived.RangeFuncCalls
import Derived.RangeFuncLeaves
import Derived.Maps.AppendAt
import Derived.Test.YtbeiiipphicdlaaGreatDoorTad
set_option linter.unusedVariables false
set_option linter.unusedSimpArgs false
namespace Go
variable {F : Fence} {n : Nat} {P : Program}
def Fence.Open (F : Fence) : Prop := F = Fence.wide ∨ ∃ l, F = Fence.wide.inRound l
theorem Fence.Open.fn {F : Fence} (h : F.Open) (f : FuncId) : F.fn f := by
  rcases h with rfl | ⟨l, rfl⟩ <;> trivial
theorem Fence.Open.depth {F : Fence} (h : F.Open) : F.depth = none := by
  rcases h with rfl | ⟨l, rfl⟩ <;> rfl
theorem Fence.Open.calls {F : Fence} (h : F.Open) {f : FuncId} {args : Array Value} {w : World} {R : Ending → World → Prop} : CallsIn F n P f args w R ↔ Calls P f args w R := by
  rcases h with rfl | ⟨l, rfl⟩
  · exact callsIn_wide
  · exact ⟨fun h => callsIn_wide.1 (CallsIn.outOfRound h), fun h => CallsIn.inRound l (callsIn_wide.2 h)⟩
theorem Fence.Open.roundIn {F : Fence} (h : F.Open) {l : Nat} {f : FuncId} {tmps : Array Value} {assign body : Code} {w : World} {R : Ending → World → Prop} : RoundIn F n P l f tmps assign body w R ↔ RoundIn Fence.wide n P l f tmps assign body w R := by
  rcases h with rfl | ⟨l, rfl⟩ <;> exact Iff.rfl
theorem Oper.wpIn_of_wp (hF : F.Open) {o : Oper} (hd : ∀ c, o.op ≠ .defer c) {a : Act} {w : World} {K : Act → World → Prop} {Q : Exit → Act → World → Prop} (h : o.wp P a w K Q) : o.wpIn F n P a w K Q := by
  refine ⟨fun f _ => hF.fn f, ?_⟩
  have hs : o.semAt F.round a.eval = execOp a.eval o := by
    cases hr : F.round with
    | none => rfl
    | some l => exact Oper.semAt_some l _ o hd
  rw [hs]
  unfold Oper.wp at h
  generalize (execOp a.eval o).run P w = r at *
  have h1 : F.depth.isSome = true → 1 ≤ n := fun hq => by rw [hF.depth] at hq; cases hq
  cases r with
  | ok x w' =>
    cases x <;> simp only [Oper.upon, Oper.uponIn] at h ⊢
    all_goals first
      | exact h
      | exact ⟨h1, hF.calls.2 h⟩
      | exact h.elim
      | skip
    case row row args =>
      refine ⟨h1, ?_⟩
      intro c cs hroom
      obtain ⟨v, w'', hR, hst⟩ := h c cs
      refine ⟨v, w'', hR, ?_⟩
      rcases hF with rfl | ⟨l, rfl⟩
      · exact stepsIn_wide.2 hst
      · exact (show StepsIn (Machine.fenced P Fence.wide) P _ _ from stepsIn_wide.2 hst)
  | halt x w' => cases x <;> simp only [Oper.upon, Oper.uponIn] at h ⊢ <;> first | exact h | exact h.elim
theorem wpIn_loop_ghost {Q : Exit → Act → World → Prop} {a : Act} {w : World} {c : Code} (I : Nat → Act → World → Prop) (n₀ : Nat) (h₀ : I n₀ a w)
    (round : ∀ k a w, I k a w → c.wpIn F n P (Exit.then (fun a' w' => ∃ k', k' < k ∧ I k' a' w') Q) a w) : (Code.loop c).wpIn F n P Q a w := by
  refine wpIn_loop (fun a w => ∃ n, I n a w) (fun a w => leastOf (fun n => I n a w)) ⟨n₀, h₀⟩ ?_
  intro a w hI
  refine wpIn_mono (round _ a w (leastOf_spec hI).1) ?_
  intro e a' w' hq
  cases e with
  | normal =>
    obtain ⟨n', hlt, hI'⟩ := hq
    exact show (∃ n, I n a' w') ∧ leastOf (fun n => I n a' w') < leastOf (fun n => I n a w) from ⟨⟨n', hI'⟩, Nat.lt_of_le_of_lt ((leastOf_spec ⟨n', hI'⟩).2 n' hI') hlt⟩
  | exit id => exact hq
  | goto l => exact hq
  | ret => exact hq
  | panic ch => exact hq
  | outgrown => exact hq
theorem wpIn_scope_wide {Q : Exit → Act → World → Prop} {a : Act} {w : World} {c : Code} (h : c.wpIn Fence.wide n P (Exit.noGoto Q) a w) : (Code.scope c).wpIn Fence.wide n P Q a w := wpIn_wide.2 (wp_scope_straight (wpIn_wide.1 h))
end Go

namespace Go.Pg
open Go Go.RowKit
structure St where
  tm : Nat → AV
  H : Nat → Option AO
  nx : Nat
def upd (f : Nat → AV) (t : Nat) (x : AV) : Nat → AV := fun u => if u = t then x else f u
def St.ev (s : St) : Operand → AV
  | .tmp t => s.tm t
  | .const v => constA v
  | .func f => .clo f []
  | .global _ => .junk
def St.put (s : St) (d : Nat) (r : AV) (nr : Option Row) : St :=
  { tm := upd s.tm d r, H := putH s.H s.nx nr, nx := match nr with | none => s.nx | some _ => s.nx + 1 }
structure Cx where
  P : Program
  T : TypeId → Option Ty
  eqT : TypeId → Bool
  E : World → Prop
  F' : { F : Fence // F.Open } := ⟨Fence.wide, .inl rfl⟩
abbrev Cx.F (C : Cx) : Fence := C.F'.1
theorem Cx.hF (C : Cx) : C.F.Open := C.F'.2
class Cx.Wide (C : Cx) : Prop where
  h : C.F = Fence.wide
structure Cx.OK (C : Cx) : Prop where
  T : TyOK C.P C.T
  eqT : ∀ t, C.eqT t = true → EqFact C.P t
  E : ∀ w w', Below w.heap.size w w' → C.E w → C.E w'
structure SimG (S0 : Fr) (w0 : World) (N : Nat) (a : Act) (w : World) (s : St) (σ : Sg) : Prop where
  inv : Inv w0.heap.size S0 w s.H σ
  nx : ∀ id, s.nx ≤ id → s.H id = none
  tm : ∀ t, Rep σ w (s.tm t) (a.tmps.getD t undef)
  N : a.tmps.size = N
  d : a.defers = S0.ds
  below : Below w0.heap.size w0 w
def Sim (S0 : Fr) (w0 : World) (N : Nat) (a : Act) (w : World) (s : St) : Prop := ∃ σ, SimG S0 w0 N a w s σ
section
variable {S0 : Fr} {w0 : World} {N : Nat} {a : Act} {w : World} {s : St} {σ : Sg}
theorem SimG.ev (h : SimG S0 w0 N a w s σ) (x : Operand) : Rep σ w (s.ev x) (a.eval x) := by
  cases x with
  | tmp t => exact h.tm t
  | const v => exact rep_constA σ w v
  | global g => trivial
  | func f => simp only [St.ev, Act.eval, Rep]; exact ⟨#[], rfl, rfl, trivial⟩
theorem SimG.size (h : SimG S0 w0 N a w s σ) : w0.heap.size ≤ w.heap.size := h.below.size
theorem getD_set (xs : Array Value) (d t : Nat) (v : Value) (hd : d < xs.size) : (xs.setIfInBounds d v).getD t undef = if t = d then v else xs.getD t undef := by
  simp only [Array.getD_eq_getD_getElem?, Array.getElem?_setIfInBounds]
  by_cases h : d = t
  · subst h; simp [hd]
  · rw [if_neg h, if_neg (fun e => h e.symm)]
theorem SimG.put (h : SimG S0 w0 N a w s σ) {d : Nat} (hd : d < N) {w' : World} {σ' : Sg} {s' : St} {r : AV} {v : Value} (hinv : Inv w0.heap.size S0 w' s'.H σ') (hnx : ∀ id, s'.nx ≤ id → s'.H id = none)
    (hle : Le σ σ' w w') (hb : Below w0.heap.size w w') (hr : Rep σ' w' r v) (htm : s'.tm = upd s.tm d r) : SimG S0 w0 N (a.put (some d) v) w' s' σ' := by
  refine ⟨hinv, hnx, fun t => ?_, by simp [Act.put, h.N], h.d, h.below.trans hb⟩
  simp only [Act.put]
  rw [getD_set _ _ _ _ (by rw [h.N]; exact hd), htm]
  unfold upd
  split
  · exact hr
  · exact Rep.mono hle _ _ (h.tm t)
end
def AW (C : Cx) (N : Nat) (c : Code) (Q : Exit → St → Prop) (s : St) : Prop :=
  ∀ S0 w0 a w, C.E w0 → Sim S0 w0 N a w s → c.wpIn C.F 0 C.P (fun e a' w' => ∃ s', Sim S0 w0 N a' w' s' ∧ Q e s') a w
def AWL (C : Cx) (N : Nat) (ops : Array Oper) (Q : Exit → St → Prop) (l : List Oper) (s : St) : Prop :=
  ∀ S0 w0 a w, C.E w0 → Sim S0 w0 N a w s → wpListIn C.F 0 C.P ops (fun e a' w' => ∃ s', Sim S0 w0 N a' w' s' ∧ Q e s') l a w
section
variable {C : Cx} {N : Nat} {Q Q' : Exit → St → Prop} {s : St}
theorem AW.mono {c : Code} (h : AW C N c Q s) (hq : ∀ e s, Q e s → Q' e s) : AW C N c Q' s := by
  intro S0 w0 a w hE hs
  exact wpIn_mono (h S0 w0 a w hE hs) fun e a w ⟨s', h1, h3⟩ => ⟨s', h1, hq _ _ h3⟩
theorem AW.skip (h : Q .normal s) : AW C N .skip Q s := fun _ _ _ _ hE hs => wpIn_skip ⟨s, hs, h⟩
theorem AW.label {l : Nat} (h : Q .normal s) : AW C N (.label l) Q s := fun _ _ _ _ hE hs => wpIn_label ⟨s, hs, h⟩
theorem AW.exit {id : Nat} (h : Q (.exit id) s) : AW C N (.exit id) Q s := fun _ _ _ _ hE hs => wpIn_exit ⟨s, hs, h⟩
theorem AW.ret (h : Q .ret s) : AW C N .ret Q s := fun _ _ _ _ hE hs => wpIn_ret ⟨s, hs, h⟩
def thenQ (K : St → Prop) (Q : Exit → St → Prop) : Exit → St → Prop
  | .normal, s => K s
  | e, s => Q e s
theorem AW.seq {x y : Code} (h : AW C N x (thenQ (AW C N y Q) Q) s) : AW C N (.seq x y) Q s := by
  intro S0 w0 a w hE hs
  refine wpIn_seq (wpIn_mono (h S0 w0 a w hE hs) ?_)
  rintro e a' w' ⟨s', h1, h3⟩
  cases e <;> simp only [thenQ, Exit.then] at h3 ⊢
  · exact h3 S0 w0 a' w' hE h1
  all_goals exact ⟨s', h1, h3⟩
theorem AW.cond {c : Operand} {x y : Code} {b : Bool} (hc : s.ev c = .v (.bool b)) (ht : b = true → AW C N x Q s) (hf : b = false → AW C N y Q s) : AW C N (.cond c x y) Q s := by
  intro S0 w0 a w hE hs
  obtain ⟨σ, hσ⟩ := hs
  have := hσ.ev c
  rw [hc] at this
  simp only [Rep] at this
  refine wpIn_cond_split this (fun h => ht h S0 w0 a w hE ⟨σ, hσ⟩) (fun h => hf h S0 w0 a w hE ⟨σ, hσ⟩)
def blockQ (id : Nat) (Q : Exit → St → Prop) : Exit → St → Prop
  | .exit id', s => if id' = id then Q .normal s else Q (.exit id') s
  | e, s => Q e s
theorem AW.block {id : Nat} {c : Code} (h : AW C N c (blockQ id Q) s) : AW C N (.block id c) Q s := by
  intro S0 w0 a w hE hs
  refine wpIn_block (wpIn_mono (h S0 w0 a w hE hs) ?_)
  rintro e a' w' ⟨s', h1, h3⟩
  cases e <;> simp only [blockQ, Exit.inBlock] at h3 ⊢
  case exit i =>
    split at h3 <;> rename_i hi <;> simp only [hi, if_true, if_false] <;> exact ⟨s', h1, h3⟩
  all_goals exact ⟨s', h1, h3⟩
def scopeQ (Q : Exit → St → Prop) : Exit → St → Prop
  | .goto _, _ => False
  | e, s => Q e s
theorem AW.scope [hW : C.Wide] {c : Code} (h : AW C N c (scopeQ Q) s) : AW C N (.scope c) Q s := by
  intro S0 w0 a w hE hs
  have h2 := h S0 w0 a w hE hs
  rw [hW.h] at h2 ⊢
  refine wpIn_scope_wide (wpIn_mono h2 ?_)
  rintro e a' w' ⟨s', h1, h3⟩
  cases e <;> simp only [scopeQ, Exit.noGoto] at h3 ⊢
  all_goals first | exact h3.elim | exact ⟨s', h1, h3⟩
def loopQ (I : Nat → St → Prop) (n : Nat) (Q : Exit → St → Prop) : Exit → St → Prop
  | .normal, s => ∃ m, m < n ∧ I m s
  | e, s => Q e s
theorem AW.loop {c : Code} (I : Nat → St → Prop) (n : Nat) (h0 : I n s) (h : ∀ n s, I n s → AW C N c (loopQ I n Q) s) : AW C N (.loop c) Q s := by
  intro S0 w0 a w hE hs
  refine wpIn_loop_ghost (fun n a w => ∃ s, Sim S0 w0 N a w s ∧ I n s) n ⟨s, hs, h0⟩ ?_
  rintro n a w ⟨s, hs, hI⟩
  refine wpIn_mono (h n s hI S0 w0 a w hE hs) ?_
  rintro e a' w' ⟨s', h1, h3⟩
  cases e <;> simp only [loopQ, Exit.then] at h3 ⊢
  · obtain ⟨m, hm, hI'⟩ := h3; exact ⟨m, hm, s', h1, hI'⟩
  all_goals exact ⟨s', h1, h3⟩
theorem AW.region {id : Nat} {l : List Oper} (h : AWL C N l.toArray Q l s) : AW C N (.region id l.toArray false) Q s := by
  intro S0 w0 a w hE hs
  exact wpIn_region_lit (h S0 w0 a w hE hs)
variable {ops : Array Oper} {rest : List Oper} {o : Oper} {S0 : Fr} {w0 w : World} {a : Act} {σ : Sg}
theorem AWL.nil (h : Q .normal s) : AWL C N ops Q [] s := fun _ _ _ _ hE hs => wpListIn_nil ⟨s, hs, h⟩
theorem put_nx {H : Nat → Option AO} {nx : Nat} (h : ∀ id, nx ≤ id → H id = none) (nr : Option Row) : ∀ id, (match nr with | none => nx | some _ => nx + 1) ≤ id → putH H nx nr id = none := by
  intro id hid
  cases nr with
  | none => exact h id hid
  | some r => simp only [putH, updH]; rw [if_neg (by simp at hid; omega)]; exact h id (by simp at hid; omega)
theorem stepA_nodefer {T : TypeId → Option Ty} {eqT : TypeId → Bool} {H : Nat → Option AO} {ev : Operand → AV} {key : Nat} {op : Op} {r : AV × Option Row} (h : stepA T eqT H ev key op = some r) : ∀ c, op ≠ .defer c := by
  rintro c rfl; simp [stepA] at h
theorem AWL.step (hC : C.OK) (hg : o.guard = none) {d : Nat} (hd : o.dst = some d) (hN : d < N) {r : AV} {nr : Option Row} (h : stepA C.T C.eqT s.H s.ev s.nx o.op = some (r, nr)) (k : AWL C N ops Q rest (s.put d r nr)) :
    AWL C N ops Q (o :: rest) s := by
  rintro S0 w0 a w hE ⟨σ, hσ⟩
  obtain ⟨v, w', σ', h1, h2, h3, h4, h5⟩ := stepA_sound hC.T hC.eqT hσ.inv hσ.size (hσ.nx _ (Nat.le_refl _)) (fun x => hσ.ev x) h
  refine wpListIn_plain hg fun K hK => Oper.wpIn_of_wp C.hF (stepA_nodefer h) ?_
  simp only [Oper.wp, Oper.upon, h1]
  rw [hd]
  have hs' := hσ.put hN (s' := s.put d r nr) h4 (put_nx hσ.nx nr) h3 h2 h5 rfl
  exact hK _ _ (k S0 w0 _ w' hE ⟨σ', hs'⟩)
def runA (T : TypeId → Option Ty) (eqT : TypeId → Bool) (N : Nat) : List Oper → St → Option St
  | [], s => some s
  | o :: rest, s => match o.guard, o.dst with
    | none, some d => if d < N then (match stepA T eqT s.H s.ev s.nx o.op with
      | some (r, nr) => runA T eqT N rest (s.put d r nr)
      | none => none) else none
    | _, _ => none
theorem AWL.run (hC : C.OK) : ∀ (l : List Oper) (s s' : St), runA C.T C.eqT N l s = some s' → AWL C N ops Q rest s' → AWL C N ops Q (l ++ rest) s
  | [], s, s', h, k => by simp only [runA, Option.some.injEq] at h; subst h; exact k
  | o :: l, s, s', h, k => by
    simp only [runA] at h
    split at h
    · rename_i d hg hd
      split at h
      · rename_i hN
        split at h
        · rename_i r nr hst
          exact AWL.step hC hg hd hN hst (AWL.run hC l _ s' h k)
        · cases h
      · cases h
    · cases h
theorem AWL.take (hC : C.OK) (n : Nat) {l : List Oper} {s' : St} (h : runA C.T C.eqT N (l.take n) s = some s') (k : AWL C N ops Q (l.drop n) s') : AWL C N ops Q l s := by
  have := AWL.run (ops := ops) hC _ _ _ h k
  rwa [List.take_append_drop] at this
theorem yielded_of (hσ : SimG S0 w0 N a w s σ) {j d : Nat} {b : Bool} (hd : (ops[j]?).bind (·.dst) = some d) (hb : s.tm d = .v (.bool b)) : yielded ops a.tmps j = some b := by
  have h := hσ.tm d
  rw [hb] at h
  simp only [Rep, Array.getD_eq_getD_getElem?] at h
  unfold yielded
  rw [hd]
  simp only [Option.bind_some]
  cases hx : a.tmps[d]? with
  | none => rw [hx] at h; simp [undef] at h
  | some u => rw [hx] at h; simp only [Option.getD_some] at h; subst h; rfl
theorem yielded_undef (hσ : SimG S0 w0 N a w s σ) {j d : Nat} (hd : (ops[j]?).bind (·.dst) = some d) (hb : s.tm d = .v undef) : yielded ops a.tmps j = none := by
  have h := hσ.tm d
  rw [hb] at h
  simp only [Rep, Array.getD_eq_getD_getElem?] at h
  unfold yielded
  rw [hd]
  simp only [Option.bind_some]
  cases hx : a.tmps[d]? with
  | none => rfl
  | some u => rw [hx] at h; simp only [Option.getD_some] at h; subst h; rfl
theorem AWL.guardU {j d t : Nat} {want : Bool} (hg : o.guard = some (j, want)) (ht : (ops[j]?).bind (·.dst) = some t) (hb : s.tm t = .v undef) (hd : o.dst = some d) (hN : d < N)
    (k : AWL C N ops Q rest { s with tm := upd s.tm d (.v undef) }) : AWL C N ops Q (o :: rest) s := by
  rintro S0 w0 a w hE ⟨σ, hσ⟩
  have hy := yielded_undef (ops := ops) hσ ht hb
  unfold wpListIn
  rw [if_neg (by simp [Region.wanted, hg, hy])]
  rw [hd]
  refine ⟨fun f _ => C.hF.fn f, k S0 w0 _ w hE ⟨σ, ?_⟩⟩
  exact hσ.put hN (s' := { s with tm := upd s.tm d (.v undef) }) (r := .v undef) hσ.inv hσ.nx (hσ.inv.le_heap (fun _ _ => rfl)) (Below.refl _ _) rfl rfl
theorem AWL.guard {j d t : Nat} {want b : Bool} (hg : o.guard = some (j, want)) (ht : (ops[j]?).bind (·.dst) = some t) (hb : s.tm t = .v (.bool b)) (hd : o.dst = some d) (hN : d < N)
    (k1 : b = want → AWL C N ops Q ({ o with guard := none } :: rest) s) (k2 : b = !want → AWL C N ops Q rest { s with tm := upd s.tm d (.v undef) }) : AWL C N ops Q (o :: rest) s := by
  rintro S0 w0 a w hE ⟨σ, hσ⟩
  have hy := yielded_of (ops := ops) hσ ht hb
  by_cases hbw : b = want
  · have h := k1 hbw S0 w0 a w hE ⟨σ, hσ⟩
    unfold wpListIn at h ⊢
    rw [if_pos (by simp [Region.wanted, hg, hy, hbw])]
    rw [if_pos (by simp [Region.wanted])] at h
    exact h
  · have hbn : b = !want := by cases b <;> cases want <;> simp_all
    unfold wpListIn
    rw [if_neg (by simp [Region.wanted, hg, hy, hbw])]
    rw [hd]
    refine ⟨fun f _ => C.hF.fn f, k2 hbn S0 w0 _ w hE ⟨σ, ?_⟩⟩
    exact hσ.put hN (s' := { s with tm := upd s.tm d (.v undef) }) (r := .v undef) hσ.inv hσ.nx (hσ.inv.le_heap (fun _ _ => rfl)) (Below.refl _ _) rfl rfl
end
end Go.Pg

namespace Go.Pg
open Go Go.RowKit
mutual
def viewA (H : Nat → Option AO) : AV → Option AV
  | .ref id off n => match rowAt H id with
    | some r => if r.lo ≤ off + n ∧ off + n ≤ r.es.length ∧ r.es.all pureL = true then some (.lst ((r.es.drop off).take n)) else none
    | none => none
  | .ptr id i j tag => match rowAt H id with
    | some r => if r.lo ≤ tag ∧ i < r.es.length ∧ pureL (r.es.getD i []) = true then some (.iptr (r.es.getD i []) j) else none
    | none => none
  | .agg cs => (viewL H cs).map .agg
  | .tup cs => (viewL H cs).map .tup
  | .clo f cs => (viewL H cs).map (.clo f)
  | .bnd f cs => (viewL H cs).map (.bnd f)
  | .map _ => none
  | .v (.slice none 0 0) => some (.lst [])
  | x => some x
def viewL (H : Nat → Option AO) : List AV → Option (List AV)
  | [] => some []
  | c :: cs => match viewA H c, viewL H cs with
    | some d, some ds => some (d :: ds)
    | _, _ => none
end
mutual
def idsA : AV → List Nat
  | .ref id _ _ => [id]
  | .ptr id _ _ _ => [id]
  | .agg cs => idsL cs
  | .tup cs => idsL cs
  | .clo _ cs => idsL cs
  | .bnd _ cs => idsL cs
  | _ => []
def idsL : List AV → List Nat
  | [] => []
  | c :: cs => idsA c ++ idsL cs
end
mutual
def flatA : AV → Bool
  | .junk => true
  | .v _ => true
  | .agg cs => flatL cs
  | .tup cs => flatL cs
  | _ => false
def flatL : List AV → Bool
  | [] => true
  | c :: cs => flatA c && flatL cs
end
mutual
theorem Rep.flat {σ σ' : Sg} {w w' : World} : ∀ (c : AV) (u : Value), flatA c = true → Rep σ w c u → Rep σ' w' c u
  | .junk, _, _, _ => trivial
  | .v _, _, _, h => h
  | .agg cs, u, hp, h => by
    simp only [Rep] at h ⊢
    obtain ⟨arr, rfl, h1, h2, h3⟩ := h
    exact ⟨arr, rfl, h1, h2, RepL.flat cs _ (by simpa [flatA] using hp) h3⟩
  | .tup cs, u, hp, h => by
    simp only [Rep] at h ⊢
    obtain ⟨arr, rfl, h1, h3⟩ := h
    exact ⟨arr, rfl, h1, RepL.flat cs _ (by simpa [flatA] using hp) h3⟩
  | .lst es, u, hp, _ => by simp [flatA] at hp
  | .iptr e j, u, hp, _ => by simp [flatA] at hp
  | .ref id off n, _, hp, _ => by simp [flatA] at hp
  | .ptr id i j tag, _, hp, _ => by simp [flatA] at hp
  | .clo f cs, _, hp, _ => by simp [flatA] at hp
  | .bnd f cs, _, hp, _ => by simp [flatA] at hp
  | .map id, _, hp, _ => by simp [flatA] at hp
  | .lmap a b c, _, hp, _ => by simp [flatA] at hp
theorem RepL.flat {σ σ' : Sg} {w w' : World} : ∀ (cs : List AV) (f : Nat → Option Value), flatL cs = true → RepL σ w cs f → RepL σ' w' cs f
  | [], _, _, _ => trivial
  | c :: cs, f, hp, h => by
    simp only [RepL] at h ⊢
    simp only [flatL, Bool.and_eq_true] at hp
    obtain ⟨⟨u, hu, hr⟩, ht⟩ := h
    exact ⟨⟨u, hu, Rep.flat c u hp.1 hr⟩, RepL.flat cs _ hp.2 ht⟩
end
section
variable {B0 : Nat} {S0 : Fr} {S' : Nat → Prop} {w : World} {H : Nat → Option AO} {σ : Sg}
theorem Le.pure_mono {w : World} (h : ∀ b, σ.S b → S' b) : Le (pureSg σ.S) (pureSg S') w w := Le.pure_ h fun _ _ => rfl
mutual
theorem viewA_sound (hi : Inv B0 S0 w H σ) (hS : ∀ b, σ.S b → S' b) : ∀ (c : AV) (u : Value) (c' : AV), viewA H c = some c' → (∀ id ∈ idsA c, ∀ b, σ.own b = some id → S' b) → Rep σ w c u → Rep (pureSg S') w c' u
  | .junk, u, c', h, _, _ => by simp only [viewA, Option.some.injEq] at h; subst h; trivial
  | .v x, u, c', h, _, hr => by
    simp only [Rep] at hr; subst hr
    unfold viewA at h
    split at h <;> try contradiction
    · rename_i he
      injection he with he; subst he
      injection h with h; subst h
      simp only [Rep]
      exact ⟨none, 0, 0, rfl, by simp, by simp [maxLen], by simp, by simp⟩
    · injection h with h; subst h; rfl
  | .agg cs, u, c', h, hids, hr => by
    simp only [viewA, Option.map_eq_some_iff] at h
    obtain ⟨ds, hds, rfl⟩ := h
    simp only [Rep] at hr ⊢
    obtain ⟨arr, rfl, h1, h2, h3⟩ := hr
    obtain ⟨g1, g2, g3⟩ := viewL_sound hi hS cs _ ds hds (by simpa [idsA] using hids) h3
    exact ⟨arr, rfl, by rw [h1, g1], g2 h2, g3⟩
  | .tup cs, u, c', h, hids, hr => by
    simp only [viewA, Option.map_eq_some_iff] at h
    obtain ⟨ds, hds, rfl⟩ := h
    simp only [Rep] at hr ⊢
    obtain ⟨arr, rfl, h1, h3⟩ := hr
    obtain ⟨g1, g2, g3⟩ := viewL_sound hi hS cs _ ds hds (by simpa [idsA] using hids) h3
    exact ⟨arr, rfl, by rw [h1, g1], g3⟩
  | .clo f cs, u, c', h, hids, hr => by
    simp only [viewA, Option.map_eq_some_iff] at h
    obtain ⟨ds, hds, rfl⟩ := h
    simp only [Rep] at hr ⊢
    obtain ⟨arr, rfl, h1, h3⟩ := hr
    obtain ⟨g1, g2, g3⟩ := viewL_sound hi hS cs _ ds hds (by simpa [idsA] using hids) h3
    exact ⟨arr, rfl, by rw [h1, g1], g3⟩
  | .bnd f cs, u, c', h, hids, hr => by
    simp only [viewA, Option.map_eq_some_iff] at h
    obtain ⟨ds, hds, rfl⟩ := h
    simp only [Rep] at hr ⊢
    obtain ⟨arr, rfl, h1, h3⟩ := hr
    obtain ⟨g1, g2, g3⟩ := viewL_sound hi hS cs _ ds hds (by simpa [idsA] using hids) h3
    exact ⟨arr, rfl, by rw [h1, g1], g3⟩
  | .lst es, u, c', h, _, hr => by
    simp only [viewA, Option.some.injEq] at h; subst h
    exact Rep.mono (Le.pure_mono hS) _ _ (Rep.pure_ _ _ rfl hr)
  | .iptr e j, u, c', h, _, hr => by
    simp only [viewA, Option.some.injEq] at h; subst h
    exact Rep.mono (Le.pure_mono hS) _ _ (Rep.pure_ _ _ rfl hr)
  | .ref id off n, u, c', h, hids, hr => by
    simp only [viewA] at h
    split at h
    · rename_i r hrow
      split at h
      · rename_i hc
        obtain ⟨c1, c2, c3⟩ := hc
        injection h with h; subst h
        have hR := hi.row id r (rowAt_eq hrow)
        simp only [Rep] at hr ⊢
        obtain ⟨hal, A, cap, rfl, g1, g2, g3, g4⟩ := hr
        have hlen : ((r.es.drop off).take n).length = n := by simp; omega
        refine ⟨A, cap, r.k, by rw [hlen], by rw [hlen]; exact g1, g2, fun e he => hR.each e (List.mem_of_mem_drop (List.mem_of_mem_take he)), fun hne => ?_⟩
        have hn : n ≠ 0 := fun e => hne (List.eq_nil_of_length_eq_zero (by rw [hlen, e]))
        obtain ⟨b, rfl, hown, hext⟩ := g3 hn
        have hcur : σ.cur id = some b := by
          rcases (hR.own b hown).1 with h | h
          · exact h
          · omega
        refine ⟨b, off * σ.k id, rfl, hids id (by simp [idsA]) b hown, ?_⟩
        rw [repLL_iff]
        intro i hi'
        rw [hlen] at hi'
        have he : ((r.es.drop off).take n)[i] = r.es[off + i]'(by omega) := by simp
        rw [he]
        have hcon := hR.con b hcur (off + i) (by omega)
        have hp := List.all_eq_true.1 c3 _ (List.getElem_mem (show off + i < r.es.length by omega))
        refine RepL.mono (Le.pure_mono hS) _ _ _ (fun j v hv => ?_) (RepL.pure_ _ _ hp hcon)
        rw [← hv]
        congr 2
        rw [hR.k, Nat.add_mul]
      · cases h
    · cases h
  | .ptr id i j tag, u, c', h, hids, hr => by
    simp only [viewA] at h
    split at h
    · rename_i r hrow
      split at h
      · rename_i hc
        obtain ⟨c1, c2, c3⟩ := hc
        injection h with h; subst h
        have hR := hi.row id r (rowAt_eq hrow)
        simp only [Rep] at hr ⊢
        obtain ⟨b, rfl, hown, g1, g2⟩ := hr
        have hcur : σ.cur id = some b := by
          rcases (hR.own b hown).1 with h | h
          · exact h
          · omega
        have hg : r.es.getD i [] = r.es[i] := by rw [List.getD_eq_getElem?_getD, List.getElem?_eq_getElem c2, Option.getD_some]
        refine ⟨b, i * σ.k id, rfl, hids id (by simp [idsA]) b hown, ?_, ?_⟩
        · rw [hg]; exact (hR.each _ (List.getElem_mem _)).2
        · rw [hg] at c3 ⊢
          refine RepL.mono (Le.pure_mono hS) _ _ _ (fun j v hv => ?_) (RepL.pure_ _ _ c3 (hR.con b hcur i c2))
          rw [← hv, hR.k]
      · cases h
    · cases h
  | .map id, _, _, h, _, _ => by simp [viewA] at h
  | .lmap a b c, u, c', h, _, hr => by
    simp only [viewA, Option.some.injEq] at h; subst h
    exact Rep.mono (Le.pure_mono hS) _ _ (Rep.pure_ _ _ rfl hr)
theorem viewL_sound (hi : Inv B0 S0 w H σ) (hS : ∀ b, σ.S b → S' b) : ∀ (cs : List AV) (f : Nat → Option Value) (ds : List AV), viewL H cs = some ds → (∀ id ∈ idsL cs, ∀ b, σ.own b = some id → S' b) → RepL σ w cs f →
    cs.length = ds.length ∧ ((∀ c ∈ cs, c.cell = true) → ∀ c ∈ ds, c.cell = true) ∧ RepL (pureSg S') w ds f
  | [], f, ds, h, _, _ => by simp only [viewL, Option.some.injEq] at h; subst h; exact ⟨rfl, fun h => h, trivial⟩
  | c :: cs, f, ds, h, hids, hr => by
    simp only [viewL] at h
    split at h
    · rename_i d ds' h1 h2
      injection h with h; subst h
      simp only [RepL] at hr ⊢
      obtain ⟨⟨u, hu, hrc⟩, ht⟩ := hr
      obtain ⟨g1, g2, g3⟩ := viewL_sound hi hS cs _ ds' h2 (fun id hid => hids id (by simp [idsL, hid])) ht
      refine ⟨by simp [g1], fun hc => ?_, ⟨u, hu, viewA_sound hi hS c u d h1 (fun id hid => hids id (by simp [idsL, hid])) hrc⟩, g3⟩
      intro x hx
      simp only [List.mem_cons] at hx
      rcases hx with rfl | hx
      · have hcc := hc c (by simp)
        cases c <;> simp only [AV.cell] at hcc <;> try contradiction
        all_goals (unfold viewA at h1)
        · split at h1 <;> try contradiction
          · injection h1 with h1; subst h1; rfl
          · injection h1 with h1; subst h1; exact hcc
        · injection h1 with h1; subst h1; rfl
        · injection h1 with h1; subst h1; rfl
        · split at h1
          · split at h1
            · injection h1 with h1; subst h1; rfl
            · cases h1
          · cases h1
        · split at h1
          · split at h1
            · injection h1 with h1; subst h1; rfl
            · cases h1
          · cases h1
        · simp only [Option.map_eq_some_iff] at h1
          obtain ⟨_, _, rfl⟩ := h1; rfl
        · simp only [Option.map_eq_some_iff] at h1
          obtain ⟨_, _, rfl⟩ := h1; rfl
        · injection h1 with h1; subst h1; rfl
      · exact g2 (fun c hc' => hc c (by simp [hc'])) x hx
    · cases h
end
def frz (H : Nat → Option AO) (ids : List Nat) : Nat → Option AO := fun i =>
  if i ∈ ids then (match H i with | some (.row r) => some (.row { r with fro := true }) | o => o) else H i
def Sg.frz (σ : Sg) (ids : List Nat) : Sg := { σ with S := fun b => σ.S b ∨ ∃ id, id ∈ ids ∧ σ.own b = some id }
theorem Inv.le_frz (hi : Inv B0 S0 w H σ) (ids : List Nat) : Le σ (σ.frz ids) w w :=
  ⟨fun _ h => .inl h, fun _ _ => rfl, fun _ _ h => ⟨hi.al_of_own h, h, rfl, Nat.le_refl _⟩, fun _ h => h, fun _ _ => .inl ⟨rfl, rfl, fun _ _ => rfl⟩⟩
theorem Inv.frz (hi : Inv B0 S0 w H σ) {ids : List Nat} (hrow : ∀ id ∈ ids, ∃ r, rowAt H id = some r) : Inv B0 S0 w (frz H ids) (σ.frz ids) := by
  have hle := hi.le_frz ids
  refine ⟨fun id => ?_, fun id hn => ?_, fun b h => ?_, hi.own_lt, fun id r h => ?_, fun id kt et es h => ?_, S0.mono _ _ _ _ hle hi.fr⟩
  · rw [show (σ.frz ids).al id ↔ σ.al id from Iff.rfl, hi.al]
    unfold Pg.frz
    split
    · split <;> simp_all
    · rfl
  · refine hi.fresh id ?_
    unfold Pg.frz at hn
    split at hn
    · split at hn
      · cases hn
      · exact hn
    · exact hn
  · rcases h with h | ⟨id, _, h⟩
    · exact hi.S_lt b h
    · have := hi.own_lt b id h; exact ⟨this.2, .inr this.1⟩
  · unfold Pg.frz at h
    split at h
    · rename_i hin
      obtain ⟨r0, hr0⟩ := hrow id hin
      rw [rowAt_eq hr0] at h
      injection h with h; injection h with h; subst h
      have hr := hi.row id r0 (rowAt_eq hr0)
      exact ⟨hr.len, hr.k, hr.each, hr.lo, hr.cur, hr.empty, fun b ho => ⟨(hr.own b ho).1, (hr.own b ho).2.1, fun _ => .inr ⟨id, hin, ho⟩, fun h => (by cases h)⟩, fun b hc i h1 => RepL.mono hle _ _ _ (fun _ _ h => h) (hr.con b hc i h1)⟩
    · rename_i hin
      have hr := hi.row id r h
      refine ⟨hr.len, hr.k, hr.each, hr.lo, hr.cur, hr.empty, fun b ho => ⟨(hr.own b ho).1, (hr.own b ho).2.1, fun h => .inl ((hr.own b ho).2.2.1 h), fun h => ?_⟩, fun b hc i h1 => RepL.mono hle _ _ _ (fun _ _ h => h) (hr.con b hc i h1)⟩
      rintro (h' | ⟨id', hid', ho'⟩)
      · exact (hr.own b ho).2.2.2 h h'
      · have ho2 : σ.own b = some id := ho
        rw [ho2] at ho'; injection ho' with ho'; subst ho'; exact hin hid'
  · have hH : H id = some (.mp kt et es) ∧ id ∉ ids := by
      unfold Pg.frz at h
      split at h
      · rename_i hin
        obtain ⟨r0, hr0⟩ := hrow id hin
        rw [rowAt_eq hr0] at h; cases h
      · rename_i hin; exact ⟨h, hin⟩
    have hm := hi.mp id kt et es hH.1
    obtain ⟨b, clock, xs, a1, a2, a3, a4, a5, a6⟩ := hm.cur
    refine ⟨hm.len, ⟨b, clock, xs, a1, a2, ⟨fun hl => ?_, fun hl => .inl (a3.2 hl)⟩, a4, a5, RepL.mono hle _ _ _ (fun _ _ h => h) a6⟩, hm.one⟩
    rintro (h' | ⟨id', hid', ho'⟩)
    · exact a3.1 hl h'
    · rw [a2] at ho'; injection ho' with ho'; subst ho'; exact hH.2 hid'
end
def Enters (P : Program) (f : FuncId) : Prop := ∃ fn, P.funcs[f]? = some fn ∧ (fn.name == "runtime.NumGoroutine") = false ∧ fn.body.isNone = false
def OKat (C : Cx) (f : FuncId) (args : List AV) (Q : AV → Prop) : Prop :=
  Enters C.P f ∧ ∀ (w : World) (S : Nat → Prop) (vals : Array Value), C.E w → (∀ b, S b → b < w.heap.size) → vals.size = args.length → RepL (pureSg S) w args (fun i => vals[i]?) →
    Calls C.P f vals w fun e w' => Below w.heap.size w w' ∧ ∃ v r, e = .returned v ∧ Q r ∧ Rep (pureSg fun b => S b ∨ (w.heap.size ≤ b ∧ b < w'.heap.size)) w' r v
def OKv (C : Cx) (f : FuncId) (args : List AV) (R : AV) : Prop := OKat C f args (· = R)
def afterH (H : Nat → Option AO) (ids : List Nat) (r : AV) : Nat → Option AO := if flatA r then H else (if ids.isEmpty then H else frz H ids)
mutual
theorem idsA_row {H : Nat → Option AO} : ∀ (c c' : AV), viewA H c = some c' → ∀ id ∈ idsA c, ∃ r, rowAt H id = some r
  | .junk, c', _, id, hid => by simp [idsA] at hid
  | .v x, c', _, id, hid => by simp [idsA] at hid
  | .lst es, c', _, id, hid => by simp [idsA] at hid
  | .iptr e j, c', _, id, hid => by simp [idsA] at hid
  | .map i, c', _, id, hid => by simp [idsA] at hid
  | .lmap a b c, c', _, id, hid => by simp [idsA] at hid
  | .agg cs, c', h, id, hid => by
    simp only [viewA, Option.map_eq_some_iff] at h; obtain ⟨ds, hds, _⟩ := h; exact idsL_row cs ds hds id (by simpa [idsA] using hid)
  | .tup cs, c', h, id, hid => by
    simp only [viewA, Option.map_eq_some_iff] at h; obtain ⟨ds, hds, _⟩ := h; exact idsL_row cs ds hds id (by simpa [idsA] using hid)
  | .clo f cs, c', h, id, hid => by
    simp only [viewA, Option.map_eq_some_iff] at h; obtain ⟨ds, hds, _⟩ := h; exact idsL_row cs ds hds id (by simpa [idsA] using hid)
  | .bnd f cs, c', h, id, hid => by
    simp only [viewA, Option.map_eq_some_iff] at h; obtain ⟨ds, hds, _⟩ := h; exact idsL_row cs ds hds id (by simpa [idsA] using hid)
  | .ref i off n, c', h, id, hid => by
    simp only [idsA, List.mem_singleton] at hid; subst hid
    simp only [viewA] at h
    split at h
    · rename_i r hr; exact ⟨r, hr⟩
    · cases h
  | .ptr i a b t, c', h, id, hid => by
    simp only [idsA, List.mem_singleton] at hid; subst hid
    simp only [viewA] at h
    split at h
    · rename_i r hr; exact ⟨r, hr⟩
    · cases h
theorem idsL_row {H : Nat → Option AO} : ∀ (cs ds : List AV), viewL H cs = some ds → ∀ id ∈ idsL cs, ∃ r, rowAt H id = some r
  | [], ds, _, id, hid => by simp [idsL] at hid
  | c :: cs, ds, h, id, hid => by
    simp only [viewL] at h
    split at h
    · rename_i d ds' h1 h2
      simp only [idsL, List.mem_append] at hid
      rcases hid with hid | hid
      · exact idsA_row c d h1 id hid
      · exact idsL_row cs ds' h2 id hid
    · cases h
end
section
variable {C : Cx} {N : Nat} {Q : Exit → St → Prop} {s : St} {ops : Array Oper} {rest : List Oper} {o : Oper}
def St.back (s : St) (d : Nat) (r : AV) (ids : List Nat) : St := { tm := upd s.tm d r, H := afterH s.H ids r, nx := s.nx }
theorem afterH_none {H : Nat → Option AO} {ids : List Nat} {r : AV} {i : Nat} (h : H i = none) : afterH H ids r i = none := by
  unfold afterH
  split
  · exact h
  · split
    · exact h
    · unfold frz
      split
      · rw [h]
      · exact h
theorem AWL.call (hC : C.OK) (hg : o.guard = none) {d : Nat} (hd : o.dst = some d) (hN : d < N) {fo : Operand} {args : Array Operand} {tys : Array TypeId} (ho : o.op = .call { callee := .value fo, args := args, argTypes := tys })
    {f : FuncId} {caps vs : List AV} (hf : s.ev fo = .clo f caps) (hv : viewL s.H (evsA args.toList s.ev ++ caps) = some vs) {Qr : AV → Prop} (hok : OKat C f vs Qr)
    (k : ∀ r, Qr r → AWL C N ops Q rest (s.back d r (idsL (evsA args.toList s.ev ++ caps)))) : AWL C N ops Q (o :: rest) s := by
  rintro S0 w0 a w hE ⟨σ, hσ⟩
  obtain ⟨⟨fn, hfn, hname, hbody⟩, hcall⟩ := hok
  have hfo := hσ.ev fo
  rw [hf] at hfo
  simp only [Rep] at hfo
  obtain ⟨ca, hca, hcs, hcr⟩ := hfo
  let ids := idsL (evsA args.toList s.ev ++ caps)
  let S' : Nat → Prop := fun b => σ.S b ∨ ∃ id, id ∈ ids ∧ σ.own b = some id
  have hargs : RepL σ w (evsA args.toList s.ev ++ caps) (fun i => ((args.map a.eval) ++ ca)[i]?) := by
    have h1 := repL_evs (σ := σ) (w := w) (fun x => hσ.ev x) args
    rw [repL_iff'] at h1 hcr ⊢
    intro i c hc
    rw [List.getElem?_append] at hc
    rw [Array.getElem?_append]
    have hl : (evsA args.toList s.ev).length = (args.map a.eval).size := by simp [evsA_map]
    rw [hl] at hc
    split at hc
    · rename_i hi; rw [if_pos hi]; exact h1 i c hc
    · rename_i hi; rw [if_neg hi]; exact hcr _ c hc
  obtain ⟨g1, _, g3⟩ := viewL_sound hσ.inv (S' := S') (fun b h => .inl h) _ _ vs hv (fun id hid b hb => .inr ⟨id, hid, hb⟩) hargs
  have hEw : C.E w := hC.E _ _ hσ.below hE
  have hS' : ∀ b, S' b → b < w.heap.size := fun b h => by
    rcases h with h | ⟨id, _, h⟩
    · exact (hσ.inv.S_lt b h).1
    · exact (hσ.inv.own_lt b id h).2
  have hsz : ((args.map a.eval) ++ ca).size = vs.length := by rw [← g1]; simp [evsA_map, hcs]
  have hc := hcall w S' ((args.map a.eval) ++ ca) hEw hS' hsz g3
  refine wpListIn_plain hg fun K hK => Oper.wpIn_of_wp C.hF (fun c e => by rw [ho] at e; cases e) ?_
  have hexec : (execOp a.eval o).run C.P w = .ok (.enter f ((args.map a.eval) ++ ca)) w := by
    have hb : (fn.name == "runtime.NumGoroutine") ≠ true := by simp [hname]
    simp only [execOp, ho, resolve, hca, Deferred.ofValue, Sem.run_bind, Sem.run_pure, Result.andThen_ok, invoke, callFunc, run_program, hfn, if_neg hb, hbody, Bool.false_eq_true, if_false]
    simp
  simp only [Oper.wp, hexec, Oper.upon]
  refine hc.mono ?_
  rintro e w' ⟨hb, v, r, rfl, hQ, hr⟩
  dsimp only
  rw [hd]
  refine hK _ _ (k r hQ S0 w0 _ w' hE ?_)
  have hbel : Below w0.heap.size w w' := hb.mono hσ.size
  have hmore := hσ.inv.more hσ.size hb
  have hlem := hσ.inv.le_more hb
  have hnx : ∀ id, (s.back d r ids).nx ≤ id → (s.back d r ids).H id = none := fun id h => afterH_none (hσ.nx id h)
  by_cases hfl : flatA r = true
  · refine ⟨_, hσ.put hN (s' := s.back d r ids) ?_ hnx hlem hbel (Rep.flat r v hfl hr) rfl⟩
    simp only [St.back, afterH, hfl, if_true]
    exact hmore
  · by_cases hem : ids.isEmpty = true
    · refine ⟨_, hσ.put hN (s' := s.back d r ids) ?_ hnx hlem hbel ?_ rfl⟩
      · simp only [St.back, afterH, hfl, hem, if_true, Bool.false_eq_true, if_false]
        exact hmore
      · have he : ids = [] := by simpa using hem
        have : S' = σ.S := by funext b; simp [S', he]
        rw [this] at hr
        exact hr.lift
    · have hrow : ∀ id ∈ ids, ∃ r, rowAt s.H id = some r := idsL_row _ _ hv
      have hfr := hmore.frz hrow
      have hlf := hmore.le_frz ids
      have hle2 : Le σ ((σ.more w.heap.size w'.heap.size).frz ids) w w' := by
        refine ⟨fun b h => .inl (.inl h), hlem.heap, fun b id h => ?_, hlem.al, hlem.obj⟩
        exact hlem.own b id h
      refine ⟨_, hσ.put hN (s' := s.back d r ids) (σ' := (σ.more w.heap.size w'.heap.size).frz ids) ?_ hnx hle2 hbel ?_ rfl⟩
      · simp only [St.back, afterH, hfl, hem, Bool.false_eq_true, if_false]
        exact hfr
      · refine (Rep.mono (Le.pure_ (fun b h => ?_) (fun _ _ => rfl)) _ _ hr).lift
        rcases h with (h | ⟨id, h1, h2⟩) | h
        · exact .inl (.inl h)
        · exact .inr ⟨id, h1, h2⟩
        · exact .inl (.inr h)
end
end Go.Pg
