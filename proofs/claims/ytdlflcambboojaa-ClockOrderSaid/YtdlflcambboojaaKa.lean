/-
  Contracts of functions, proved by going through their code. No conditions.
-/
import Derived.Deep.LoopGhost
import Derived.Scope
import Derived.OrdersIn
import Derived.TacticsIn
import Derived.LoopNIn
import Derived.RangeFuncCalls
import Derived.RangeFuncLeaves
import Derived.WalkKit
import Derived.Deep.Draws
import Derived.Laws.StructEq
import Derived.WalkLawsBesides
import Derived.Laws.MakeOwn
import Derived.Laws.Strings
import Derived.WideKeyArgs2
import Derived.Maps.AppendAt
import Derived.Test.YtdlflcambboojaaProg
import Derived.KernelRfl
set_option linter.unusedVariables false
set_option linter.unusedSimpArgs false
namespace Go
variable {F : Fence} {n : Nat} {P : Program}
def Fence.Open (F : Fence) : Prop := F = Fence.wide ∨ ∃ l, F = Fence.wide.inRound l
theorem Fence.Open.fn {F : Fence} (h : F.Open) (f : FuncId) : F.fn f := by
  rcases h with rfl | ⟨l, rfl⟩ <;> trivial
theorem Fence.Open.depth {F : Fence} (h : F.Open) : F.depth = none := by
  rcases h with rfl | ⟨l, rfl⟩ <;> rfl
theorem Fence.Open.calls {F : Fence} (h : F.Open) {f : FuncId} {args : Array Value} {w : World} {R : Ending → World → Prop} : CallsIn F n P f args w R ↔ Calls P f args w R := by
  rcases h with rfl | ⟨l, rfl⟩
  · exact callsIn_wide
  · exact ⟨fun h => callsIn_wide.1 (CallsIn.outOfRound h), fun h => CallsIn.inRound l (callsIn_wide.2 h)⟩
theorem Fence.Open.roundIn {F : Fence} (h : F.Open) {l : Nat} {f : FuncId} {tmps : Array Value} {assign body : Code} {w : World} {R : Ending → World → Prop} : RoundIn F n P l f tmps assign body w R ↔ RoundIn Fence.wide n P l f tmps assign body w R := by
  rcases h with rfl | ⟨l, rfl⟩ <;> exact Iff.rfl
theorem Oper.wpIn_of_wp (hF : F.Open) {o : Oper} (hd : ∀ c, o.op ≠ .defer c) {a : Act} {w : World} {K : Act → World → Prop} {Q : Exit → Act → World → Prop} (h : o.wp P a w K Q) : o.wpIn F n P a w K Q := by
  refine ⟨fun f _ => hF.fn f, ?_⟩
  have hs : o.semAt F.round a.eval = execOp a.eval o := by
    cases hr : F.round with
    | none => rfl
    | some l => exact Oper.semAt_some l _ o hd
  rw [hs]
  unfold Oper.wp at h
  generalize (execOp a.eval o).run P w = r at *
  have h1 : F.depth.isSome = true → 1 ≤ n := fun hq => by rw [hF.depth] at hq; cases hq
  cases r with
  | ok x w' =>
    cases x <;> simp only [Oper.upon, Oper.uponIn] at h ⊢
    all_goals first
      | exact h
      | exact ⟨h1, hF.calls.2 h⟩
      | exact h.elim
      | skip
    case row row args =>
      refine ⟨h1, ?_⟩
      intro c cs hroom
      obtain ⟨v, w'', hR, hst⟩ := h c cs
      refine ⟨v, w'', hR, ?_⟩
      rcases hF with rfl | ⟨l, rfl⟩
      · exact stepsIn_wide.2 hst
      · exact (show StepsIn (Machine.fenced P Fence.wide) P _ _ from stepsIn_wide.2 hst)
  | halt x w' => cases x <;> simp only [Oper.upon, Oper.uponIn] at h ⊢ <;> first | exact h | exact h.elim
theorem wpIn_loop_ghost {Q : Exit → Act → World → Prop} {a : Act} {w : World} {c : Code} (I : Nat → Act → World → Prop) (n₀ : Nat) (h₀ : I n₀ a w)
    (round : ∀ k a w, I k a w → c.wpIn F n P (Exit.then (fun a' w' => ∃ k', k' < k ∧ I k' a' w') Q) a w) : (Code.loop c).wpIn F n P Q a w := by
  refine wpIn_loop (fun a w => ∃ n, I n a w) (fun a w => leastOf (fun n => I n a w)) ⟨n₀, h₀⟩ ?_
  intro a w hI
  refine wpIn_mono (round _ a w (leastOf_spec hI).1) ?_
  intro e a' w' hq
  cases e with
  | normal =>
    obtain ⟨n', hlt, hI'⟩ := hq
    exact show (∃ n, I n a' w') ∧ leastOf (fun n => I n a' w') < leastOf (fun n => I n a w) from ⟨⟨n', hI'⟩, Nat.lt_of_le_of_lt ((leastOf_spec ⟨n', hI'⟩).2 n' hI') hlt⟩
  | exit id => exact hq
  | goto l => exact hq
  | ret => exact hq
  | panic ch => exact hq
  | outgrown => exact hq
theorem wpIn_scope_wide {Q : Exit → Act → World → Prop} {a : Act} {w : World} {c : Code} (h : c.wpIn Fence.wide n P (Exit.noGoto Q) a w) : (Code.scope c).wpIn Fence.wide n P Q a w := wpIn_wide.2 (wp_scope_straight (wpIn_wide.1 h))
end Go

namespace Go.Pg
section
variable {α β : Type}
theorem zA {i : Nat} {l : List α} : (l.take i).length = min i l.length := List.length_take
theorem zB {i : Nat} {l : List α} : (l.drop i).length = l.length - i := List.length_drop
theorem zC : ([] : List α).length = 0 := rfl
theorem zD {a : α} {l : List α} : (a :: l).length = l.length + 1 := rfl
theorem zE {l m : List α} : (l ++ m).length = l.length + m.length := List.length_append
theorem zF {f : α → β} {l : List α} : (l.map f).length = l.length := List.length_map f
theorem zG {a : α} : ¬ a ∈ ([] : List α) := List.not_mem_nil
theorem zH {i : Nat} {l : List α} (h : l.length ≤ i) : l.take i = l := List.take_of_length_le h
theorem zI {a b : α} {l : List α} : a ∈ b :: l ↔ a = b ∨ a ∈ l := List.mem_cons
theorem zJ (a b c : Nat) : a + b + c = a + (b + c) := Nat.add_assoc a b c
theorem zK {l : List α} : l.take l.length = l := List.take_length
theorem zL : (¬ True) = False := not_true_eq_false
theorem zM : (false = true) = False := Bool.false_eq_true
theorem zN {p : α → Bool} {l m : List α} : (l ++ m).all p = (l.all p && m.all p) := List.all_append
theorem zO (b : Bool) : (b && true) = b := Bool.and_true b
theorem zP (b : Bool) : (b && b) = b := Bool.and_self b
theorem zQ {p : α → Bool} {a : α} {l : List α} : (a :: l).all p = (p a && l.all p) := rfl
theorem zR {p : α → Bool} : ([] : List α).all p = true := rfl
theorem zS (p : Prop) : (p ∧ True) = p := and_true p
theorem zT (p : Prop) : (p ∧ p) = p := and_self p
theorem zU (p : Prop) : (True ∧ p) = p := true_and p
theorem zV {a : α} {l : List α} : (a :: l).isEmpty = false := rfl
theorem zW {f : α → β} : ([] : List α).map f = [] := rfl
theorem zX {f : α → β} {a : α} {l : List α} : (a :: l).map f = f a :: l.map f := rfl
theorem zY {f : α → β} {l m : List α} : (l ++ m).map f = l.map f ++ m.map f := List.map_append
theorem zZ (l : List α) : l ++ [] = l := List.append_nil l
theorem yA (l : List α) : [] ++ l = l := rfl
theorem yB {a : α} {l m : List α} : (a :: l) ++ m = a :: (l ++ m) := rfl
theorem yC (a b : Nat) : ((a + b : Nat) : Int) = (a : Int) + (b : Int) := Int.natCast_add a b
theorem yD (a : Int) : 0 - a = -a := Int.zero_sub a
end
end Go.Pg

namespace Go.Pg
open Go Go.RowKit
inductive Key where
  | str (s : ByteArray)
  | int (n : Int)
  | pair (a b : Int)
  deriving Inhabited
inductive KSh where
  | str
  | int
  | pair
  deriving DecidableEq, Inhabited
def Key.val : Key → Value
  | .str s => .string s
  | .int n => .int .i64 n
  | .pair a b => .agg #[.int .i64 a, .int .i64 b]
def Key.sh : Key → KSh
  | .str _ => .str
  | .int _ => .int
  | .pair .. => .pair
def Key.same : Key → Key → Bool
  | .str a, .str b => a.data.toList == b.data.toList
  | .int a, .int b => a == b
  | .pair a b, .pair c d => a == c && b == d
  | _, _ => false
theorem Key.same_eq {a b : Key} (h : a.same b = true) : a = b := by
  cases a <;> cases b <;> simp only [Key.same, Bool.and_eq_true, beq_iff_eq, reduceCtorEq] at h
  · rename_i x y; cases x; cases y; simp only [Key.str.injEq, ByteArray.mk.injEq]; exact Array.toList_inj.1 h
  · rw [h]
  · rw [h.1, h.2]
inductive AV where
  | junk
  | v (x : Value)
  | agg (cs : List AV)
  | tup (vs : List AV)
  | lst (es : List (List AV))
  | iptr (e : List AV) (j : Nat)
  | ref (id off n : Nat)
  | ptr (id i j tag : Nat)
  | clo (f : FuncId) (caps : List AV)
  | map (id : Nat)
  | lmap (sh : KSh) (ks : List Key) (vs : List AV)
  deriving Inhabited
def AV.cell : AV → Bool
  | .v x => x.oneCell'
  | .junk | .agg _ | .tup _ => false
  | _ => true
mutual
def pureA : AV → Bool
  | .ref .. | .ptr .. | .map _ => false
  | .agg cs | .tup cs | .clo _ cs => pureL cs
  | _ => true
def pureL : List AV → Bool
  | [] => true
  | c :: cs => pureA c && pureL cs
end
structure Sg where
  S : Nat → Prop
  own : Nat → Option Nat
  ext : Nat → Nat
  al : Nat → Prop
  cur : Nat → Option Nat
  len : Nat → Nat
  k : Nat → Nat
  cap : Nat → Nat
def pureSg (S : Nat → Prop) : Sg := { S := S, own := fun _ => none, ext := fun _ => 0, al := fun _ => False, cur := fun _ => none, len := fun _ => 0, k := fun _ => 0, cap := fun _ => 0 }
mutual
def Rep (σ : Sg) (w : World) : AV → Value → Prop
  | .junk, _ => True
  | .v x, u => u = x
  | .agg cs, u => ∃ arr : Array Value, u = .agg arr ∧ arr.size = cs.length ∧ (∀ c ∈ cs, c.cell = true) ∧ RepL σ w cs (fun i => arr[i]?)
  | .tup cs, u => ∃ arr : Array Value, u = .tuple arr ∧ arr.size = cs.length ∧ RepL σ w cs (fun i => arr[i]?)
  | .lst es, u => ∃ (A : Option Addr) (cap k : Nat), u = .slice A es.length cap ∧ es.length ≤ cap ∧ cap ≤ maxLen ∧ (∀ e ∈ es, e.length = k ∧ ∀ c ∈ e, c.cell = true) ∧
      (es ≠ [] → ∃ b o, A = some ⟨b, o, none⟩ ∧ σ.S b ∧ RepLL (pureSg σ.S) w es (fun i j => w.cell? ⟨b, o + i * k + j, none⟩))
  | .iptr e j, u => ∃ b o, u = .pointer (some ⟨b, o + j, none⟩) ∧ σ.S b ∧ (∀ c ∈ e, c.cell = true) ∧ RepL (pureSg σ.S) w e (fun j => w.cell? ⟨b, o + j, none⟩)
  | .ref id off n, u => σ.al id ∧ ∃ (A : Option Addr) (cap : Nat), u = .slice A n cap ∧ n ≤ cap ∧ cap ≤ maxLen ∧
      (n ≠ 0 → ∃ b, A = some ⟨b, off * σ.k id, none⟩ ∧ σ.own b = some id ∧ off + n ≤ σ.ext b) ∧
      (off = 0 → n = σ.len id → (σ.cur id = none ∧ n = 0 ∧ A = none ∧ cap = 0) ∨ ∃ b, σ.cur id = some b ∧ A = some ⟨b, 0, none⟩ ∧ cap = σ.cap b)
  | .ptr id i j tag, u => ∃ b, u = .pointer (some ⟨b, i * σ.k id + j, none⟩) ∧ σ.own b = some id ∧ i < tag ∧ tag ≤ σ.ext b
  | .clo f cs, u => ∃ arr : Array Value, u = .func (.func f) #[] arr ∧ arr.size = cs.length ∧ RepL σ w cs (fun i => arr[i]?)
  | .map id, u => ∃ b, u = .map (some b) ∧ σ.own b = some id
  | .lmap sh ks vs, u => ∃ b clock, ∃ xs : Array MapEntry, u = .map (some b) ∧ σ.S b ∧ w.heap[b]? = some (.map xs clock) ∧ xs.toList.map (·.key) = ks.map Key.val ∧ (∀ k ∈ ks, k.sh = sh) ∧ ks.length = vs.length ∧ RepL (pureSg σ.S) w vs (fun i => (xs[i]?).map (·.val))
def RepL (σ : Sg) (w : World) : List AV → (Nat → Option Value) → Prop
  | [], _ => True
  | c :: cs, f => (∃ u, f 0 = some u ∧ Rep σ w c u) ∧ RepL σ w cs (fun i => f (i + 1))
def RepLL (σ : Sg) (w : World) : List (List AV) → (Nat → Nat → Option Value) → Prop
  | [], _ => True
  | e :: es, f => RepL σ w e (f 0) ∧ RepLL σ w es (fun i => f (i + 1))
end
section
variable {σ σ' : Sg} {w w' : World}
theorem repL_iff (cs : List AV) : ∀ f : Nat → Option Value, RepL σ w cs f ↔ ∀ i (h : i < cs.length), ∃ u, f i = some u ∧ Rep σ w cs[i] u := by
  induction cs with
  | nil => intro f; simp [RepL]
  | cons c cs ih =>
    intro f
    simp only [RepL, ih]
    constructor
    · rintro ⟨h0, h1⟩ i hi
      cases i with
      | zero => exact h0
      | succ i => exact h1 i (by simpa using hi)
    · intro h
      exact ⟨h 0 (by simp), fun i hi => h (i + 1) (by simpa using hi)⟩
theorem repL_iff' (cs : List AV) (f : Nat → Option Value) : RepL σ w cs f ↔ ∀ i c, cs[i]? = some c → ∃ u, f i = some u ∧ Rep σ w c u := by
  rw [repL_iff]
  constructor
  · intro h i c hc
    obtain ⟨hi, rfl⟩ := List.getElem?_eq_some_iff.1 hc
    exact h i hi
  · intro h i hi
    exact h i _ (List.getElem?_eq_getElem hi)
theorem repLL_iff (es : List (List AV)) : ∀ f : Nat → Nat → Option Value, RepLL σ w es f ↔ ∀ i (h : i < es.length), RepL σ w es[i] (f i) := by
  induction es with
  | nil => intro f; simp [RepLL]
  | cons c cs ih =>
    intro f
    simp only [RepLL, ih]
    constructor
    · rintro ⟨h0, h1⟩ i hi
      cases i with
      | zero => exact h0
      | succ i => exact h1 i (by simpa using hi)
    · intro h
      exact ⟨h 0 (by simp), fun i hi => h (i + 1) (by simpa using hi)⟩
theorem rep_oneCell {c : AV} {u : Value} (h : Rep σ w c u) (hc : c.cell = true) : u.oneCell' = true := by
  cases c <;> simp only [AV.cell] at hc <;> try contradiction
  all_goals simp only [Rep] at h
  · subst h; exact hc
  · obtain ⟨A, cap, k, rfl, _⟩ := h; rfl
  · obtain ⟨b, o, rfl, _⟩ := h; rfl
  · obtain ⟨_, A, cap, rfl, _⟩ := h; rfl
  · obtain ⟨b, rfl, _⟩ := h; rfl
  · obtain ⟨arr, rfl, _⟩ := h; rfl
  · obtain ⟨b, rfl, _⟩ := h; rfl
  · obtain ⟨b, clock, xs, rfl, _⟩ := h; rfl
structure Le (σ σ' : Sg) (w w' : World) : Prop where
  S : ∀ b, σ.S b → σ'.S b
  heap : ∀ b, σ.S b → w'.heap[b]? = w.heap[b]?
  own : ∀ b id, σ.own b = some id → σ.al id ∧ σ'.own b = some id ∧ σ'.k id = σ.k id ∧ σ.ext b ≤ σ'.ext b
  al : ∀ id, σ.al id → σ'.al id
  obj : ∀ id, σ.al id → (σ'.len id = σ.len id ∧ σ'.cur id = σ.cur id ∧ ∀ b, σ.cur id = some b → σ'.cap b = σ.cap b) ∨ (σ.len id < σ'.len id ∧ ∀ b, σ.own b = some id → σ.ext b ≤ σ.len id)
theorem Le.pure_ {S S' : Nat → Prop} (h1 : ∀ b, S b → S' b) (h2 : ∀ b, S b → w'.heap[b]? = w.heap[b]?) : Le (pureSg S) (pureSg S') w w' :=
  ⟨h1, h2, fun b id h => by simp [pureSg] at h, fun id h => h, fun id h => h.elim⟩
theorem cell_of_heap {w w' : World} {a : Addr} (h : w'.heap[a.block]? = w.heap[a.block]?) : w'.cell? a = w.cell? a := by simp [World.cell?, h]
mutual
theorem Rep.mono {σ σ' : Sg} {w w' : World} (hle : Le σ σ' w w') : ∀ (c : AV) (u : Value), Rep σ w c u → Rep σ' w' c u
  | .junk, _, _ => trivial
  | .v _, _, h => h
  | .agg cs, u, h => by
    simp only [Rep] at h ⊢
    obtain ⟨arr, rfl, h1, h2, h3⟩ := h
    exact ⟨arr, rfl, h1, h2, RepL.mono hle cs _ _ (fun _ _ h => h) h3⟩
  | .tup cs, u, h => by
    simp only [Rep] at h ⊢
    obtain ⟨arr, rfl, h1, h3⟩ := h
    exact ⟨arr, rfl, h1, RepL.mono hle cs _ _ (fun _ _ h => h) h3⟩
  | .clo f cs, u, h => by
    simp only [Rep] at h ⊢
    obtain ⟨arr, rfl, h1, h3⟩ := h
    exact ⟨arr, rfl, h1, RepL.mono hle cs _ _ (fun _ _ h => h) h3⟩
  | .lst es, u, h => by
    simp only [Rep] at h ⊢
    obtain ⟨A, cap, k, rfl, h1, h2, h3, h4⟩ := h
    refine ⟨A, cap, k, rfl, h1, h2, h3, fun hn => ?_⟩
    obtain ⟨b, o, rfl, hS, hr⟩ := h4 hn
    refine ⟨b, o, rfl, hle.S b hS, RepLL.mono (Le.pure_ hle.S hle.heap) es _ _ (fun i j u hu => ?_) hr⟩
    rw [cell_of_heap (w := w) (hle.heap b hS)]
    exact hu
  | .iptr e j, u, h => by
    simp only [Rep] at h ⊢
    obtain ⟨b, o, rfl, hS, hc, hr⟩ := h
    refine ⟨b, o, rfl, hle.S b hS, hc, RepL.mono (Le.pure_ hle.S hle.heap) e _ _ (fun i u hu => ?_) hr⟩
    rw [cell_of_heap (w := w) (hle.heap b hS)]
    exact hu
  | .ref id off n, u, h => by
    simp only [Rep] at h ⊢
    obtain ⟨hal, A, cap, rfl, h1, h2, h3, h4⟩ := h
    have ho := hle.obj id hal
    refine ⟨hle.al id hal, A, cap, rfl, h1, h2, fun hn => ?_, fun h0 hl => ?_⟩
    · obtain ⟨b, rfl, hown, hext⟩ := h3 hn
      obtain ⟨_, o1, o2, o3⟩ := hle.own b id hown
      exact ⟨b, by rw [o2], o1, by omega⟩
    · rcases ho with ⟨e1, e2, e3⟩ | ⟨e1, e2⟩
      · rcases h4 h0 (by omega) with ⟨g1, g2, g3, g4⟩ | ⟨b, g1, g2, g3⟩
        · exact .inl ⟨by rw [e2]; exact g1, g2, g3, g4⟩
        · exact .inr ⟨b, by rw [e2]; exact g1, g2, by rw [e3 b g1]; exact g3⟩
      · by_cases hn : n = 0
        · omega
        · obtain ⟨b, _, hown, hext⟩ := h3 hn
          have := e2 b hown; omega
  | .ptr id i j tag, u, h => by
    simp only [Rep] at h ⊢
    obtain ⟨b, rfl, hown, h1, h2⟩ := h
    obtain ⟨hal, o1, o2, o3⟩ := hle.own b id hown
    exact ⟨b, by rw [o2], o1, h1, by omega⟩
  | .map id, u, h => by
    simp only [Rep] at h ⊢
    obtain ⟨b, rfl, hown⟩ := h
    exact ⟨b, rfl, (hle.own b id hown).2.1⟩
  | .lmap sh ks vs, u, h => by
    simp only [Rep] at h ⊢
    obtain ⟨b, clock, xs, rfl, h1, h2, h3, h4, h5, h6⟩ := h
    exact ⟨b, clock, xs, rfl, hle.S b h1, (hle.heap b h1).trans h2, h3, h4, h5, RepL.mono (Le.pure_ hle.S hle.heap) vs _ _ (fun _ _ h => h) h6⟩
theorem RepL.mono {σ σ' : Sg} {w w' : World} (hle : Le σ σ' w w') : ∀ (cs : List AV) (f f' : Nat → Option Value), (∀ i u, f i = some u → f' i = some u) → RepL σ w cs f → RepL σ' w' cs f'
  | [], _, _, _, _ => trivial
  | c :: cs, f, f', hf, h => by
    simp only [RepL] at h ⊢
    obtain ⟨⟨u, hu, hr⟩, ht⟩ := h
    exact ⟨⟨u, hf _ _ hu, Rep.mono hle c u hr⟩, RepL.mono hle cs _ _ (fun i u => hf (i + 1) u) ht⟩
theorem RepLL.mono {σ σ' : Sg} {w w' : World} (hle : Le σ σ' w w') : ∀ (es : List (List AV)) (f f' : Nat → Nat → Option Value), (∀ i j u, f i j = some u → f' i j = some u) → RepLL σ w es f → RepLL σ' w' es f'
  | [], _, _, _, _ => trivial
  | e :: es, f, f', hf, h => by
    simp only [RepLL] at h ⊢
    exact ⟨RepL.mono hle e _ _ (fun j u => hf 0 j u) h.1, RepLL.mono hle es _ _ (fun i j u => hf (i + 1) j u) h.2⟩
end
mutual
theorem Rep.pure_ {σ : Sg} {w : World} : ∀ (c : AV) (u : Value), pureA c = true → Rep σ w c u → Rep (pureSg σ.S) w c u
  | .junk, _, _, _ => trivial
  | .v _, _, _, h => h
  | .agg cs, u, hp, h => by
    simp only [Rep] at h ⊢
    obtain ⟨arr, rfl, h1, h2, h3⟩ := h
    exact ⟨arr, rfl, h1, h2, RepL.pure_ cs _ (by simpa [pureA] using hp) h3⟩
  | .tup cs, u, hp, h => by
    simp only [Rep] at h ⊢
    obtain ⟨arr, rfl, h1, h3⟩ := h
    exact ⟨arr, rfl, h1, RepL.pure_ cs _ (by simpa [pureA] using hp) h3⟩
  | .clo f cs, u, hp, h => by
    simp only [Rep] at h ⊢
    obtain ⟨arr, rfl, h1, h3⟩ := h
    exact ⟨arr, rfl, h1, RepL.pure_ cs _ (by simpa [pureA] using hp) h3⟩
  | .lst es, u, _, h => by simp only [Rep] at h ⊢; exact h
  | .iptr e j, u, _, h => by simp only [Rep] at h ⊢; exact h
  | .ref id off n, _, hp, _ => by simp [pureA] at hp
  | .ptr id i j tag, _, hp, _ => by simp [pureA] at hp
  | .map id, _, hp, _ => by simp [pureA] at hp
  | .lmap sh ks vs, u, _, h => by simp only [Rep] at h ⊢; exact h
theorem RepL.pure_ {σ : Sg} {w : World} : ∀ (cs : List AV) (f : Nat → Option Value), pureL cs = true → RepL σ w cs f → RepL (pureSg σ.S) w cs f
  | [], _, _, _ => trivial
  | c :: cs, f, hp, h => by
    simp only [RepL] at h ⊢
    simp only [pureL, Bool.and_eq_true] at hp
    obtain ⟨⟨u, hu, hr⟩, ht⟩ := h
    exact ⟨⟨u, hu, Rep.pure_ c u hp.1 hr⟩, RepL.pure_ cs _ hp.2 ht⟩
end
theorem Le.of_pure (σ : Sg) (w : World) : Le (pureSg σ.S) σ w w := ⟨fun _ h => h, fun _ _ => rfl, fun b id h => by simp [pureSg] at h, fun id h => h.elim, fun id h => h.elim⟩
theorem Rep.lift {c : AV} {u : Value} (h : Rep (pureSg σ.S) w c u) : Rep σ w c u := Rep.mono (Le.of_pure σ w) c u h
theorem RepL.congr {cs : List AV} {f f' : Nat → Option Value} (hf : ∀ i, i < cs.length → f i = f' i) (h : RepL σ w cs f) : RepL σ w cs f' := by
  rw [repL_iff] at h ⊢
  intro i hi
  rw [← hf i hi]
  exact h i hi
end
end Go.Pg

namespace Go.Pg
open Go Go.RowKit
structure Row where
  k : Nat
  es : List (List AV)
  ty : TypeId
  fro : Bool := false
  lo : Nat := 0
  deriving Inhabited
inductive MK where
  | map (sh : KSh)
  | fmap (sh : KSh)
  | loop (l : Nat) (L : Loop)
  | dfr (l : Nat) (ds : Option (List Deferred))
  deriving Inhabited
def MK.obj : MK → Array MapEntry → Nat → Obj
  | .map _, xs, clock => .map xs clock
  | .fmap _, xs, clock => .map xs clock
  | .loop _ L, xs, _ => .loop { L with tmps := xs.map (·.val) }
  | .dfr _ ds, _, _ => .deferred ds
def MK.at : MK → List Key → Nat → Prop
  | .map sh, ks, _ => ∀ k ∈ ks, k.sh = sh
  | .fmap sh, ks, _ => ∀ k ∈ ks, k.sh = sh
  | .loop l _, _, b => b = l
  | .dfr l _, _, b => b = l
def MK.live : MK → Bool
  | .fmap _ => false
  | _ => true
inductive AO where
  | row (r : Row)
  | mp (key : MK) (elem : TypeId) (es : List (Key × AV))
  deriving Inhabited
structure RowInv (w : World) (σ : Sg) (id : Nat) (r : Row) : Prop where
  len : σ.len id = r.es.length
  k : σ.k id = r.k
  each : ∀ e ∈ r.es, e.length = r.k ∧ ∀ c ∈ e, c.cell = true
  lo : r.lo ≤ r.es.length
  cur : ∀ b, σ.cur id = some b → σ.own b = some id ∧ σ.ext b = r.es.length ∧ r.es.length ≤ σ.cap b ∧ σ.cap b ≤ maxLen ∧ ∃ arr : Array Value, w.heap[b]? = some (.cells arr r.ty (0, 0)) ∧ arr.size = σ.cap b * r.k
  empty : σ.cur id = Option.none → r.es = []
  own : ∀ b, σ.own b = some id → (σ.cur id = some b ∨ σ.ext b < r.lo) ∧ σ.ext b ≤ r.es.length ∧ (r.fro = true → σ.S b) ∧ (r.fro = false → ¬ σ.S b)
  con : ∀ b, σ.cur id = some b → ∀ i (hi : i < r.es.length), RepL σ w r.es[i] (fun j => w.cell? ⟨b, i * r.k + j, none⟩)
structure MapInv (w : World) (σ : Sg) (id : Nat) (kt : MK) (es : List (Key × AV)) : Prop where
  len : σ.len id = 0
  cur : ∃ b clock, ∃ xs : Array MapEntry, σ.cur id = some b ∧ σ.own b = some id ∧ ((kt.live = true → ¬ σ.S b) ∧ (kt.live = false → σ.S b)) ∧ w.heap[b]? = some (kt.obj xs clock) ∧ (xs.toList.map (·.key) = es.map (fun e => e.1.val) ∧ kt.at (es.map (·.1)) b) ∧ RepL σ w (es.map (·.2)) (fun i => (xs[i]?).map (·.val))
  one : ∀ b, σ.own b = some id → σ.cur id = some b ∧ σ.ext b = 0
theorem Le.refl (σ : Sg) (w : World) (hal : ∀ b id, σ.own b = some id → σ.al id) : Le σ σ w w :=
  ⟨fun _ h => h, fun _ _ => rfl, fun b id h => ⟨hal b id h, h, rfl, Nat.le_refl _⟩, fun _ h => h, fun _ _ => .inl ⟨rfl, rfl, fun _ _ => rfl⟩⟩
theorem Le.trans {σ1 σ2 σ3 : Sg} {w1 w2 w3 : World} (h : Le σ1 σ2 w1 w2) (g : Le σ2 σ3 w2 w3) : Le σ1 σ3 w1 w3 := by
  refine ⟨fun b hb => g.S b (h.S b hb), fun b hb => (g.heap b (h.S b hb)).trans (h.heap b hb), fun b id hb => ?_, fun id hi => g.al id (h.al id hi), fun id hi => ?_⟩
  · obtain ⟨a1, a2, a3, a4⟩ := h.own b id hb
    obtain ⟨_, b2, b3, b4⟩ := g.own b id a2
    exact ⟨a1, b2, b3.trans a3, Nat.le_trans a4 b4⟩
  · rcases h.obj id hi with ⟨a1, a2, a3⟩ | ⟨a1, a2⟩
    · rcases g.obj id (h.al id hi) with ⟨b1, b2, b3⟩ | ⟨b1, b2⟩
      · exact .inl ⟨b1.trans a1, b2.trans a2, fun b hb => (b3 b (a2.trans hb)).trans (a3 b hb)⟩
      · refine .inr ⟨by omega, fun b hb => ?_⟩
        obtain ⟨_, c2, _, c4⟩ := h.own b id hb
        have := b2 b c2
        omega
    · rcases g.obj id (h.al id hi) with ⟨b1, b2, b3⟩ | ⟨b1, b2⟩
      · exact .inr ⟨by omega, a2⟩
      · exact .inr ⟨by omega, a2⟩
structure Fr where
  S : Nat → Prop
  K : Sg → World → Prop
  mono : ∀ σ σ' w w', Le σ σ' w w' → K σ w → K σ' w'
  ds : List Deferred := []
instance : CoeFun Fr (fun _ => Nat → Prop) := ⟨Fr.S⟩
def Fr.of (S : Nat → Prop) : Fr := ⟨S, fun _ _ => True, fun _ _ _ _ _ h => h, []⟩
structure Inv (B0 : Nat) (S0 : Fr) (w : World) (H : Nat → Option AO) (σ : Sg) : Prop where
  al : ∀ id, σ.al id ↔ H id ≠ none
  fresh : ∀ id, H id = none → σ.cur id = none ∧ ∀ b, σ.own b ≠ some id
  S_lt : ∀ b, σ.S b → b < w.heap.size ∧ (S0 b ∨ B0 ≤ b)
  own_lt : ∀ b id, σ.own b = some id → B0 ≤ b ∧ b < w.heap.size
  row : ∀ id r, H id = some (.row r) → RowInv w σ id r
  mp : ∀ id kt et es, H id = some (.mp kt et es) → MapInv w σ id kt es
  fr : S0.K σ w
section
variable {B0 : Nat} {S0 : Fr} {w w' : World} {H : Nat → Option AO} {σ : Sg}
theorem Inv.al_of_own (hi : Inv B0 S0 w H σ) {b id : Nat} (h : σ.own b = some id) : σ.al id := by
  rw [hi.al]; intro hn; exact (hi.fresh id hn).2 b h
theorem Inv.heap_eq (hi : Inv B0 S0 w H σ) (hsz : w.heap.size ≤ w'.heap.size) (hb : ∀ b, b < w.heap.size → w'.heap[b]? = w.heap[b]?) : Inv B0 S0 w' H σ := by
  have hle : Le σ σ w w' := ⟨fun _ h => h, fun b h => hb b (hi.S_lt b h).1, fun b id h => ⟨hi.al_of_own h, h, rfl, Nat.le_refl _⟩, fun _ h => h, fun _ _ => .inl ⟨rfl, rfl, fun _ _ => rfl⟩⟩
  refine ⟨hi.al, hi.fresh, fun b h => ⟨Nat.lt_of_lt_of_le (hi.S_lt b h).1 hsz, (hi.S_lt b h).2⟩, fun b id h => ⟨(hi.own_lt b id h).1, Nat.lt_of_lt_of_le (hi.own_lt b id h).2 hsz⟩, fun id r h => ?_, fun id kt et es h => ?_, S0.mono _ _ _ _ hle hi.fr⟩
  · have hr := hi.row id r h
    refine ⟨hr.len, hr.k, hr.each, hr.lo, fun b hc => ?_, hr.empty, hr.own, fun b hc i h1 => ?_⟩
    · obtain ⟨a1, a2, a3, a4, arr, a5, a6⟩ := hr.cur b hc
      exact ⟨a1, a2, a3, a4, arr, (hb b (hi.own_lt b id a1).2).trans a5, a6⟩
    · refine RepL.mono hle _ _ _ (fun j u hu => ?_) (hr.con b hc i h1)
      rw [cell_of_heap (w := w) (hb b (hi.own_lt b id (hr.cur b hc).1).2)]
      exact hu
  · have hm := hi.mp id kt et es h
    obtain ⟨b, clock, xs, a1, a2, a3, a4, a5, a6⟩ := hm.cur
    exact ⟨hm.len, ⟨b, clock, xs, a1, a2, a3, (hb b (hi.own_lt b id a2).2).trans a4, a5, RepL.mono hle _ _ _ (fun _ _ h => h) a6⟩, hm.one⟩
theorem Inv.le_heap (hi : Inv B0 S0 w H σ) (hb : ∀ b, b < w.heap.size → w'.heap[b]? = w.heap[b]?) : Le σ σ w w' :=
  ⟨fun _ h => h, fun b h => hb b (hi.S_lt b h).1, fun _ _ h => ⟨hi.al_of_own h, h, rfl, Nat.le_refl _⟩, fun _ h => h, fun _ _ => .inl ⟨rfl, rfl, fun _ _ => rfl⟩⟩
def updH (H : Nat → Option AO) (id : Nat) (o : AO) : Nat → Option AO := fun i => if i = id then some o else H i
def Sg.push (σ : Sg) (b id n k cap : Nat) : Sg :=
  { S := σ.S, own := fun x => if x = b then some id else σ.own x, ext := fun x => if x = b then n else σ.ext x, al := fun i => i = id ∨ σ.al i,
    cur := fun i => if i = id then some b else σ.cur i, len := fun i => if i = id then n else σ.len i, k := fun i => if i = id then k else σ.k i, cap := fun x => if x = b then cap else σ.cap x }
theorem Inv.le_push (hi : Inv B0 S0 w H σ) {id n k cap : Nat} (hf : H id = none) (o : Obj) : Le σ (σ.push w.heap.size id n k cap) w (w.alloc o) := by
  refine ⟨fun _ h => h, fun b h => Below.heap_alloc w o b (hi.S_lt b h).1, fun b i h => ?_, fun _ h => .inr h, fun i ha => ?_⟩
  · have hb := (hi.own_lt b i h).2
    have hne : i ≠ id := fun e => (hi.fresh id hf).2 b (e ▸ h)
    refine ⟨hi.al_of_own h, ?_, ?_, ?_⟩
    · simp only [Sg.push]; rw [if_neg (by omega)]; exact h
    · simp only [Sg.push]; rw [if_neg hne]
    · simp only [Sg.push]; rw [if_neg (by omega)]; exact Nat.le_refl _
  · have hne : i ≠ id := fun e => by subst e; exact (hi.al i).1 ha hf
    refine .inl ⟨by simp only [Sg.push]; rw [if_neg hne], by simp only [Sg.push]; rw [if_neg hne], fun b hb => ?_⟩
    have hlt : b < w.heap.size := by
      cases ho : H i with
      | none => exact absurd ho ((hi.al i).1 ha)
      | some o =>
        cases o with
        | row r => exact (hi.own_lt b i ((hi.row i r ho).cur b hb).1).2
        | mp kt et es =>
          obtain ⟨b', _, _, a1, a2, _⟩ := (hi.mp i kt et es ho).cur
          rw [a1] at hb; cases hb
          exact (hi.own_lt b i a2).2
    simp only [Sg.push]; rw [if_neg (by omega)]
theorem Inv.push (hi : Inv B0 S0 w H σ) {id : Nat} (hf : H id = none) (hB : B0 ≤ w.heap.size) (r : Row) (cap : Nat) (arr : Array Value)
    (hcap : r.es.length ≤ cap) (hmax : cap ≤ maxLen) (hsz : arr.size = cap * r.k) (hg : r.fro = false) (hlo : r.lo = 0)
    (each : ∀ e ∈ r.es, e.length = r.k ∧ ∀ c ∈ e, c.cell = true)
    (hcon : ∀ i (hi : i < r.es.length), RepL σ w r.es[i] (fun j => arr[i * r.k + j]?)) :
    Inv B0 S0 (w.alloc (.cells arr r.ty)) (updH H id (.row r)) (σ.push w.heap.size id r.es.length r.k cap) := by
  have hle := hi.le_push (n := r.es.length) (k := r.k) (cap := cap) hf (.cells arr r.ty)
  have hS : ¬ σ.S w.heap.size := fun h => by have := (hi.S_lt _ h).1; omega
  have hheap : ∀ b, b < w.heap.size → (w.alloc (.cells arr r.ty)).heap[b]? = w.heap[b]? := fun b hb => Below.heap_alloc w _ b hb
  refine ⟨fun i => ?_, fun i hn => ?_, fun b h => ⟨by have := (hi.S_lt b h).1; simp; omega, (hi.S_lt b h).2⟩, fun b i h => ?_, fun i r' h => ?_, fun i kt et es h => ?_, S0.mono _ _ _ _ hle hi.fr⟩
  · simp only [Sg.push, updH]
    by_cases e : i = id
    · simp [e]
    · simp [e, hi.al]
  · simp only [updH] at hn
    have e : i ≠ id := fun e => by simp [e] at hn
    rw [if_neg e] at hn
    obtain ⟨h1, h2⟩ := hi.fresh i hn
    refine ⟨by simp only [Sg.push]; rw [if_neg e]; exact h1, fun b hb => ?_⟩
    simp only [Sg.push] at hb
    split at hb
    · injection hb with hb; exact e hb.symm
    · exact h2 b hb
  · simp only [Sg.push] at h
    split at h
    · subst b; exact ⟨hB, by simp⟩
    · have := hi.own_lt b i h; exact ⟨this.1, by simp; omega⟩
  · simp only [updH] at h
    by_cases e : i = id
    · subst e
      rw [if_pos rfl] at h; injection h with h; injection h with h; subst h
      have hnew : ∀ b, (σ.push w.heap.size i r.es.length r.k cap).own b = some i → b = w.heap.size := fun b hb => by
        simp only [Sg.push] at hb
        split at hb
        · assumption
        · exact absurd hb ((hi.fresh i hf).2 b)
      refine ⟨by simp [Sg.push], by simp [Sg.push], each, by omega, fun b hb => ?_, fun hc => by simp [Sg.push] at hc, fun b hb => ?_, fun b hb j h1 => ?_⟩
      · simp only [Sg.push, if_true] at hb; injection hb with hb; subst hb
        exact ⟨by simp [Sg.push], by simp [Sg.push], by simpa [Sg.push] using hcap, by simpa [Sg.push] using hmax, arr, heap_alloc_new w _, by simpa [Sg.push] using hsz⟩
      · have := hnew b hb; subst this
        exact ⟨.inl (by simp [Sg.push]), by simp [Sg.push], fun h => (by rw [hg] at h; cases h), fun _ => hS⟩
      · simp only [Sg.push, if_true] at hb; injection hb with hb; subst hb
        refine RepL.mono hle _ _ _ (fun m u hu => ?_) (hcon j h1)
        rw [World.cell?_alloc_new]; exact hu
    · rw [if_neg e] at h
      have hr := hi.row i r' h
      have hown : ∀ b, (σ.push w.heap.size id r.es.length r.k cap).own b = some i → σ.own b = some i ∧ b ≠ w.heap.size := fun b hb => by
        simp only [Sg.push] at hb
        split at hb
        · injection hb with hb; exact absurd hb.symm e
        · exact ⟨hb, by assumption⟩
      have hx : ∀ b, b ≠ w.heap.size → (σ.push w.heap.size id r.es.length r.k cap).ext b = σ.ext b := fun b hb => by simp only [Sg.push]; rw [if_neg hb]
      have hcx : (σ.push w.heap.size id r.es.length r.k cap).cur i = σ.cur i := by simp only [Sg.push]; rw [if_neg e]
      have hax : ∀ b, b ≠ w.heap.size → (σ.push w.heap.size id r.es.length r.k cap).cap b = σ.cap b := fun b hb => by simp only [Sg.push]; rw [if_neg hb]
      refine ⟨by simp only [Sg.push]; rw [if_neg e]; exact hr.len, by simp only [Sg.push]; rw [if_neg e]; exact hr.k, hr.each, hr.lo, fun b hb => ?_, fun hc => hr.empty (by rw [← hcx]; exact hc), fun b hb => ?_, fun b hb j h1 => ?_⟩
      · rw [hcx] at hb
        obtain ⟨a1, a2, a3, a4, ar, a5, a6⟩ := hr.cur b hb
        have hlt := (hi.own_lt b i a1).2
        exact ⟨by simp only [Sg.push]; rw [if_neg (by omega)]; exact a1, by rw [hx b (by omega)]; exact a2, by rw [hax b (by omega)]; exact a3, by rw [hax b (by omega)]; exact a4, ar, (hheap b hlt).trans a5, by rw [hax b (by omega)]; exact a6⟩
      · obtain ⟨h1, h2⟩ := hown b hb
        rw [hx b h2, hcx]; exact hr.own b h1
      · rw [hcx] at hb
        refine RepL.mono hle _ _ _ (fun m u hu => ?_) (hr.con b hb j h1)
        rw [cell_of_heap (w := w) (hheap b (hi.own_lt b i (hr.cur b hb).1).2)]; exact hu
  · simp only [updH] at h
    by_cases e : i = id
    · subst e; simp at h
    · rw [if_neg e] at h
      have hm := hi.mp i kt et es h
      obtain ⟨b, clock, xs, a1, a2, a3, a4, a5, a6⟩ := hm.cur
      have hlt := (hi.own_lt b i a2).2
      refine ⟨by simp only [Sg.push]; rw [if_neg e]; exact hm.len, ⟨b, clock, xs, by simp only [Sg.push]; rw [if_neg e]; exact a1, by simp only [Sg.push]; rw [if_neg (by omega)]; exact a2, a3, (hheap b hlt).trans a4, a5, RepL.mono hle _ _ _ (fun _ _ h => h) a6⟩, fun b hb => ?_⟩
      simp only [Sg.push] at hb
      split at hb
      · injection hb with hb; exact absurd hb.symm e
      · rename_i hne
        obtain ⟨h1, h2⟩ := hm.one b hb
        exact ⟨by simp only [Sg.push]; rw [if_neg e]; exact h1, by simp only [Sg.push]; rw [if_neg hne]; exact h2⟩
def Sg.more (σ : Sg) (B B' : Nat) : Sg := { σ with S := fun b => σ.S b ∨ (B ≤ b ∧ b < B') }
theorem Inv.le_more (hi : Inv B0 S0 w H σ) (hb : Below w.heap.size w w') : Le σ (σ.more w.heap.size w'.heap.size) w w' :=
  ⟨fun _ h => .inl h, fun b h => hb.block b (hi.S_lt b h).1, fun _ _ h => ⟨hi.al_of_own h, h, rfl, Nat.le_refl _⟩, fun _ h => h, fun _ _ => .inl ⟨rfl, rfl, fun _ _ => rfl⟩⟩
theorem Inv.more (hi : Inv B0 S0 w H σ) (hB : B0 ≤ w.heap.size) (hb : Below w.heap.size w w') : Inv B0 S0 w' H (σ.more w.heap.size w'.heap.size) := by
  have h1 := hi.heap_eq hb.size (fun b h => hb.block b h)
  have hle : Le σ (σ.more w.heap.size w'.heap.size) w' w' := ⟨fun _ h => .inl h, fun _ _ => rfl, fun _ _ h => ⟨hi.al_of_own h, h, rfl, Nat.le_refl _⟩, fun _ h => h, fun _ _ => .inl ⟨rfl, rfl, fun _ _ => rfl⟩⟩
  refine ⟨h1.al, h1.fresh, fun b h => ?_, h1.own_lt, fun id r h => ?_, fun id kt et es h => ?_, S0.mono _ _ _ _ hle h1.fr⟩
  · rcases h with h | ⟨h, h'⟩
    · exact h1.S_lt b h
    · exact ⟨h', .inr (by omega)⟩
  · have hr := h1.row id r h
    refine ⟨hr.len, hr.k, hr.each, hr.lo, hr.cur, hr.empty, fun b ho => ?_, fun b hc i a1 => RepL.mono hle _ _ _ (fun _ _ h => h) (hr.con b hc i a1)⟩
    obtain ⟨a1, a2, a3, a4⟩ := hr.own b ho
    refine ⟨a1, a2, fun h => .inl (a3 h), fun h => ?_⟩
    rintro (h' | ⟨h', _⟩)
    · exact a4 h h'
    · have := (hi.own_lt b id ho).2; omega
  · have hm := h1.mp id kt et es h
    obtain ⟨b, clock, xs, a1, a2, a3, a4, a5, a6⟩ := hm.cur
    refine ⟨hm.len, ⟨b, clock, xs, a1, a2, ⟨fun hl => ?_, fun hl => .inl (a3.2 hl)⟩, a4, a5, RepL.mono hle _ _ _ (fun _ _ h => h) a6⟩, hm.one⟩
    rintro (h' | ⟨h', _⟩)
    · exact a3.1 hl h'
    · have := (hi.own_lt b id a2).2; omega
end
end Go.Pg

namespace Go.Pg
open Go Go.RowKit
inductive TyD where
  | int (k : IntKind)
  | str
  | bool
  | slice (e : TypeId)
  | arr (n : Nat) (e : TypeId)
  | st (fs : List (Nat × TypeId))
  | map (k e : TypeId)
  | other
  deriving DecidableEq, Inhabited
def TyD.isAgg : TyD → Bool
  | .arr .. | .st _ => true
  | _ => false
structure Ty where
  size : Nat
  bytes : Nat
  zero : List AV
  d : TyD
  deriving Inhabited
def dcode : TypeDesc → TyD
  | .int k => .int k
  | .string => .str
  | .bool => .bool
  | .slice e => .slice e
  | .array n e => .arr n e
  | .struct fs => .st (fs.toList.map fun f => (f.offset, f.type))
  | .map k e => .map k e
  | _ => .other
def const1 (x : Value) : AV := .v x
def constA : Value → AV
  | .agg cs => if cs.toList.all Value.oneCell' then .agg (cs.toList.map const1) else .junk
  | x => const1 x
def aggV : Value → Bool
  | .agg _ => true
  | _ => false
structure TyFact (P : Program) (t : TypeId) (ty : Ty) : Prop where
  info : ((P.info? t).map fun i => (i.size, i.bytes, i.zero.map fun z => z.cells.toList.map const1)) = some (ty.size, ty.bytes, some ty.zero)
  und : (P.underlying t).map dcode = some ty.d
  cell : ty.zero.all AV.cell = true
  size : ty.zero.length = ty.size
  one : ((P.info? t).map fun i => i.zero.map aggV) = some (some ty.d.isAgg)
def TyOK (P : Program) (T : TypeId → Option Ty) : Prop := ∀ t ty, T t = some ty → TyFact P t ty
theorem rep_const1 (σ : Sg) (w : World) (x : Value) : Rep σ w (const1 x) x := rfl
theorem const1_cell (x : Value) (h : x.oneCell' = true) : (const1 x).cell = true := h
theorem rep_constA (σ : Sg) (w : World) (x : Value) : Rep σ w (constA x) x := by
  unfold constA
  split
  · rename_i cs
    split
    · rename_i h
      simp only [Rep]
      refine ⟨cs, rfl, by simp, ?_, ?_⟩
      · intro c hc
        simp only [List.mem_map] at hc
        obtain ⟨y, hy, rfl⟩ := hc
        exact const1_cell y (List.all_eq_true.1 h y hy)
      · rw [repL_iff]
        intro i hi
        simp only [List.length_map, Array.length_toList] at hi
        refine ⟨cs[i], by simp, ?_⟩
        simp only [List.getElem_map, Array.getElem_toList]
        exact rep_const1 σ w _
    · trivial
  · exact rep_const1 σ w _
section facts
variable {P : Program} {t : TypeId} {ty : Ty}
theorem TyFact.get (h : TyFact P t ty) : ∃ i z, P.info? t = some i ∧ i.size = ty.size ∧ i.bytes = ty.bytes ∧ i.zero = some z ∧ z.cells.toList.map const1 = ty.zero := by
  have h1 := h.info
  cases hi : P.info? t with
  | none => simp [hi] at h1
  | some i =>
    simp only [hi, Option.map_some, Option.some.injEq, Prod.mk.injEq] at h1
    obtain ⟨a1, a2, a3⟩ := h1
    cases hz : i.zero with
    | none => simp [hz] at a3
    | some z => exact ⟨i, z, rfl, a1, a2, hz, by simpa [hz] using a3⟩
theorem TyFact.desc (h : TyFact P t ty) : ∃ d, P.underlying t = some d ∧ dcode d = ty.d := by
  have h1 := h.und
  cases hi : P.underlying t with
  | none => simp [hi] at h1
  | some d => exact ⟨d, rfl, by simpa [hi] using h1⟩
theorem TyFact.slice {e : TypeId} (h : TyFact P t ty) (hd : ty.d = .slice e) : P.underlying t = some (.slice e) := by
  obtain ⟨d, h1, h2⟩ := h.desc
  rw [hd] at h2
  cases d <;> simp [dcode] at h2
  subst h2; exact h1
theorem TyFact.arr {n : Nat} {e : TypeId} (h : TyFact P t ty) (hd : ty.d = .arr n e) : P.underlying t = some (.array n e) := by
  obtain ⟨d, h1, h2⟩ := h.desc
  rw [hd] at h2
  cases d <;> simp [dcode] at h2
  obtain ⟨rfl, rfl⟩ := h2; exact h1
theorem TyFact.st {fs : List (Nat × TypeId)} (h : TyFact P t ty) (hd : ty.d = .st fs) : ∃ xs : Array Field, P.underlying t = some (.struct xs) ∧ xs.toList.map (fun f => (f.offset, f.type)) = fs := by
  obtain ⟨d, h1, h2⟩ := h.desc
  rw [hd] at h2
  cases d <;> simp [dcode] at h2
  exact ⟨_, h1, h2⟩
theorem TyFact.str (h : TyFact P t ty) (hd : ty.d = .str) : P.underlying t = some .string := by
  obtain ⟨d, h1, h2⟩ := h.desc
  rw [hd] at h2
  cases d <;> simp [dcode] at h2
  exact h1
theorem TyFact.bool (h : TyFact P t ty) (hd : ty.d = .bool) : P.underlying t = some .bool := by
  obtain ⟨d, h1, h2⟩ := h.desc
  rw [hd] at h2
  cases d <;> simp [dcode] at h2
  exact h1
theorem TyFact.int {k : IntKind} (h : TyFact P t ty) (hd : ty.d = .int k) : P.underlying t = some (.int k) := by
  obtain ⟨d, h1, h2⟩ := h.desc
  rw [hd] at h2
  cases d <;> simp [dcode] at h2
  subst h2; exact h1
theorem TyFact.map {k e : TypeId} (h : TyFact P t ty) (hd : ty.d = .map k e) : P.underlying t = some (.map k e) := by
  obtain ⟨d, h1, h2⟩ := h.desc
  rw [hd] at h2
  cases d <;> simp [dcode] at h2
  obtain ⟨rfl, rfl⟩ := h2; exact h1
theorem TyFact.run_size (h : TyFact P t ty) (w : World) : (sizeOf t).run P w = .ok ty.size w := by
  obtain ⟨i, z, h1, h2, _⟩ := h.get
  simp [sizeOf, typeInfo, h1, h2]
theorem TyFact.run_isAgg (h : TyFact P t ty) (w : World) : (isAgg t).run P w = .ok ty.d.isAgg w := by
  obtain ⟨d, h1, h2⟩ := h.desc
  rw [← h2]
  simp only [isAgg, Sem.run_bind, run_underlying h1, Result.andThen_ok]
  cases d <;> simp [dcode, TyD.isAgg]
theorem TyFact.run_zero (h : TyFact P t ty) (w : World) : ∃ z, (zeroValue t).run P w = .ok z w ∧ z.cells.toList.map const1 = ty.zero := by
  obtain ⟨i, z, h1, h2, h3, h4, h5⟩ := h.get
  exact ⟨z, by simp [zeroValue, typeInfo, h1, h4], h5⟩
theorem TyFact.run_zero1 (h : TyFact P t ty) (w : World) (hd : ty.d.isAgg = false) {z : AV} (hz : ty.zero = [z]) : ∃ v, (zeroValue t).run P w = .ok v w ∧ z = .v v := by
  obtain ⟨i, v, h1, _, _, h4, h5⟩ := h.get
  have ho := h.one
  rw [hd] at ho
  simp only [h1, h4, Option.map_some, Option.some.injEq] at ho
  refine ⟨v, by simp [zeroValue, typeInfo, h1, h4], ?_⟩
  rw [hz] at h5
  cases v <;> simp [aggV, Value.cells, const1] at ho h5 <;> exact h5.symm
end facts
theorem repL_const1 (σ : Sg) (w : World) (cs : List Value) : RepL σ w (cs.map const1) (fun i => cs[i]?) := by
  rw [repL_iff]
  intro i hi
  simp only [List.length_map] at hi
  exact ⟨cs[i], by simp, by simp only [List.getElem_map]; exact rep_const1 σ w _⟩
theorem RepL.list {σ : Sg} {w : World} {cs : List AV} {f : Nat → Option Value} (h : RepL σ w cs f) :
    ∃ vs : List Value, vs.length = cs.length ∧ (∀ i, i < vs.length → f i = vs[i]?) ∧ RepL σ w cs (fun i => vs[i]?) := by
  induction cs generalizing f with
  | nil => exact ⟨[], rfl, by simp, by simp [RepL]⟩
  | cons c cs ih =>
    simp only [RepL] at h
    obtain ⟨⟨u, hu, hr⟩, ht⟩ := h
    obtain ⟨vs, h1, h2, h3⟩ := ih ht
    refine ⟨u :: vs, by simp [h1], fun i hi => ?_, ?_⟩
    · cases i with
      | zero => simpa using hu
      | succ i => simpa using h2 i (by simpa using hi)
    · simp only [RepL]
      exact ⟨⟨u, by simp, hr⟩, by simpa using h3⟩
theorem RepL.drop {σ : Sg} {w : World} {cs : List AV} {f : Nat → Option Value} (h : RepL σ w cs f) (j : Nat) : RepL σ w (cs.drop j) (fun i => f (j + i)) := by
  rw [repL_iff] at h ⊢
  intro i hi
  simp only [List.length_drop] at hi
  obtain ⟨u, hu, hr⟩ := h (j + i) (by omega)
  exact ⟨u, hu, by simpa using hr⟩
theorem RepL.take {σ : Sg} {w : World} {cs : List AV} {f : Nat → Option Value} (h : RepL σ w cs f) (n : Nat) : RepL σ w (cs.take n) f := by
  rw [repL_iff] at h ⊢
  intro i hi
  simp only [List.length_take] at hi
  obtain ⟨u, hu, hr⟩ := h i (by omega)
  exact ⟨u, hu, by simpa using hr⟩
def cellsA : AV → Option (List AV)
  | .agg cs => some cs
  | .junk => none
  | .tup _ => none
  | .v x => if x.oneCell' then some [.v x] else none
  | x => some [x]
theorem cellsA_spec {σ : Sg} {w : World} {c : AV} {cs : List AV} {u : Value} (h : cellsA c = some cs) (hr : Rep σ w c u) :
    u.cells.size = cs.length ∧ (∀ c ∈ cs, c.cell = true) ∧ RepL σ w cs (fun i => u.cells[i]?) ∧ (∀ x ∈ u.cells.toList, x.oneCell' = true) := by
  have one : ∀ (d : AV), d.cell = true → Rep σ w d u → u.cells = #[u] ∧ u.oneCell' = true := by
    intro d hd hu
    have := rep_oneCell hu hd
    exact ⟨by cases u <;> simp_all [Value.cells, Value.oneCell'], this⟩
  have fin : ∀ (d : AV), d.cell = true → Rep σ w d u → u.cells.size = [d].length ∧ (∀ c ∈ [d], c.cell = true) ∧ RepL σ w [d] (fun i => u.cells[i]?) ∧ (∀ x ∈ u.cells.toList, x.oneCell' = true) := by
    intro d hd hu
    obtain ⟨e, e'⟩ := one d hd hu
    rw [e]
    exact ⟨rfl, by simpa using hd, by simp [RepL, hu], by simpa using e'⟩
  cases c with
  | junk => simp [cellsA] at h
  | tup vs => simp [cellsA] at h
  | v x =>
    simp only [cellsA] at h
    split at h
    · rename_i hx; injection h with h; subst h; exact fin _ hx hr
    · cases h
  | agg xs =>
    simp only [cellsA, Option.some.injEq] at h; subst h
    simp only [Rep] at hr
    obtain ⟨arr, rfl, h1, h2, h3⟩ := hr
    refine ⟨by simpa [Value.cells] using h1, h2, by simpa [Value.cells] using h3, ?_⟩
    intro x hx
    simp only [Value.cells] at hx
    obtain ⟨i, hi, rfl⟩ := List.getElem_of_mem hx
    rw [repL_iff] at h3
    simp only [Array.length_toList] at hi
    obtain ⟨u, hu, hr⟩ := h3 i (by omega)
    simp only [Array.getElem?_eq_getElem hi, Option.some.injEq] at hu
    subst hu
    simp only [Array.getElem_toList]
    exact rep_oneCell hr (h2 _ (List.getElem_mem _))
  | lst es => simp only [cellsA, Option.some.injEq] at h; subst h; exact fin _ rfl hr
  | iptr e j => simp only [cellsA, Option.some.injEq] at h; subst h; exact fin _ rfl hr
  | ref a b c => simp only [cellsA, Option.some.injEq] at h; subst h; exact fin _ rfl hr
  | ptr a b c d => simp only [cellsA, Option.some.injEq] at h; subst h; exact fin _ rfl hr
  | clo f cs => simp only [cellsA, Option.some.injEq] at h; subst h; exact fin _ rfl hr
  | map i => simp only [cellsA, Option.some.injEq] at h; subst h; exact fin _ rfl hr
  | lmap a b c => simp only [cellsA, Option.some.injEq] at h; subst h; exact fin _ rfl hr
end Go.Pg

namespace Go.Pg
open Go Go.RowKit
def rowAt (H : Nat → Option AO) (id : Nat) : Option Row :=
  match H id with
  | some (.row r) => some r
  | _ => none
def rdPtr (H : Nat → Option AO) : AV → Option (List AV × Nat)
  | .iptr e j => some (e, j)
  | .ptr id i j tag => match rowAt H id with
    | some r => if r.lo ≤ tag then (r.es[i]?).map (·, j) else none
    | none => none
  | _ => none
def offA : AV → Nat → Option AV
  | .iptr e j, d => some (.iptr e (j + d))
  | .ptr id i j tag, d => some (.ptr id i (j + d) tag)
  | _, _ => none
def partA (y : Ty) (cs : List AV) (off : Nat) : Option AV :=
  if y.d.isAgg then (if off + y.size ≤ cs.length then some (.agg ((cs.drop off).take y.size)) else none) else cs[off]?
def loadA (T : TypeId → Option Ty) (H : Nat → Option AO) (t : TypeId) (p : AV) : Option AV :=
  match T t, rdPtr H p with
  | some y, some (e, j) => partA y e j
  | _, _ => none
def fieldAddrA (T : TypeId → Option Ty) (s : TypeId) (p : AV) (f : Nat) : Option AV :=
  match T s with
  | some { d := .st fs, .. } => match fs[f]? with
    | some (off, ft) => match T ft with
      | some y => if y.size = 0 then none else offA p off
      | none => none
    | none => none
  | _ => none
def fieldA (T : TypeId → Option Ty) (s : TypeId) (x : AV) (f : Nat) : Option AV :=
  match T s, x with
  | some { d := .st fs, .. }, .agg cs => match fs[f]? with
    | some (off, ft) => match T ft with
      | some y => partA y cs off
      | none => none
    | none => none
  | _, _ => none
def indexAddrA (T : TypeId → Option Ty) (H : Nat → Option AO) (t : TypeId) (x ix : AV) : Option AV :=
  match T t, ix with
  | some { d := .slice e, .. }, .v (.int _ i) => match T e with
    | some y => match x with
      | .lst es => if 0 ≤ i ∧ i < es.length then (if (es.getD i.toNat []).length = y.size then some (.iptr (es.getD i.toNat []) 0) else none) else none
      | .ref id off n => if 0 ≤ i ∧ i < n then (match rowAt H id with | some r => if r.k = y.size then some (.ptr id (off + i.toNat) 0 (off + n)) else none | none => none) else none
      | _ => none
    | none => none
  | some { d := .arr n e, .. }, .v (.int _ i) => match T e with
    | some y => if 0 ≤ i ∧ i < n then offA x (i.toNat * y.size) else none
    | none => none
  | _, _ => none
def indexA (T : TypeId → Option Ty) (t : TypeId) (x ix : AV) : Option AV :=
  match T t, x, ix with
  | some { d := .arr n e, .. }, .agg cs, .v (.int _ i) => match T e with
    | some y => if 0 ≤ i ∧ i < n then partA y cs (i.toNat * y.size) else none
    | none => none
  | some { d := .str, .. }, .v (.string s), .v (.int _ i) => if 0 ≤ i ∧ i < s.size then some (.v (.int .u8 ((s.data.toList.getD i.toNat 0).toNat : Int))) else none
  | _, _, _ => none
def extractA : AV → Nat → Option AV
  | .tup vs, i => vs[i]?
  | _, _ => none
def lenA (T : TypeId → Option Ty) (t : TypeId) (x : AV) : Option AV :=
  match T t, x with
  | some { d := .slice _, .. }, .lst es => some (.v (.int .i64 es.length))
  | some { d := .slice _, .. }, .ref _ _ n => some (.v (.int .i64 n))
  | some { d := .slice _, .. }, .v (.slice none 0 0) => some (.v (.int .i64 0))
  | some { d := .str, .. }, .v (.string s) => some (.v (.int .i64 s.size))
  | some { d := .arr n _, .. }, _ => some (.v (.int .i64 n))
  | _, _ => none
def intBinA (op : BinOp) (k : IntKind) (a b : Int) : Option AV :=
  match op with
  | .add => some (.v (.int k (k.wrap (a + b))))
  | .sub => some (.v (.int k (k.wrap (a - b))))
  | .mul => some (.v (.int k (k.wrap (a * b))))
  | .quo => if b = 0 then none else some (.v (.int k (k.wrap (a.tdiv b))))
  | .rem => if b = 0 then none else some (.v (.int k (a.tmod b)))
  | .eql => some (.v (.bool (a == b)))
  | .neq => some (.v (.bool (a != b)))
  | .lss => some (.v (.bool (decide (a < b))))
  | .leq => some (.v (.bool (decide (a ≤ b))))
  | .gtr => some (.v (.bool (decide (b < a))))
  | .geq => some (.v (.bool (decide (b ≤ a))))
  | .and => some (.v (.int k (k.wrap ((BitVec.ofInt k.bits a &&& BitVec.ofInt k.bits b).toNat))))
  | .or => some (.v (.int k (k.wrap ((BitVec.ofInt k.bits a ||| BitVec.ofInt k.bits b).toNat))))
  | .xor => some (.v (.int k (k.wrap ((BitVec.ofInt k.bits a ^^^ BitVec.ofInt k.bits b).toNat))))
  | .andNot => some (.v (.int k (k.wrap ((BitVec.ofInt k.bits a &&& ~~~ BitVec.ofInt k.bits b).toNat))))
  | .shl | .shr => none
def strBinA (op : BinOp) (a b : ByteArray) : Option AV :=
  match op with
  | .add => if a.size + b.size ≤ maxLen then some (.v (.string (a ++ b))) else none
  | .eql => some (.v (.bool (a.data.toList == b.data.toList)))
  | .neq => some (.v (.bool !(a.data.toList == b.data.toList)))
  | _ => none
def cellsEqA (T : TypeId → Option Ty) : List (Nat × TypeId) → List AV → List AV → Option Bool
  | [], _, _ => some true
  | (off, ft) :: fs, xs, ys =>
    match T ft, xs[off]?, ys[off]? with
    | some { d := .int _, .. }, some (.v (.int k a)), some (.v (.int k' b)) => if k = k' then (cellsEqA T fs xs ys).map (fun r => (a == b) && r) else none
    | some { d := .str, .. }, some (.v (.string a)), some (.v (.string b)) => (cellsEqA T fs xs ys).map (fun r => (a.data.toList == b.data.toList) && r)
    | some { d := .bool, .. }, some (.v (.bool a)), some (.v (.bool b)) => (cellsEqA T fs xs ys).map (fun r => (a == b) && r)
    | _, _, _ => none
def binA (T : TypeId → Option Ty) (eqT : TypeId → Bool) (op : BinOp) (t : TypeId) (x y : AV) : Option AV :=
  match x, y with
  | .v (.int k a), .v (.int k' b) =>
    match op with
    | .shl => if b < 0 then none else some (.v (.int k (k.wrap (a * 2 ^ (min b.toNat k.bits)))))
    | .shr => if b < 0 then none else some (.v (.int k (a.fdiv (2 ^ (min b.toNat k.bits)))))
    | _ => if k = k' then intBinA op k a b else none
  | .v (.string a), .v (.string b) => strBinA op a b
  | .v (.bool a), .v (.bool b) => match T t, op with
    | some { d := .bool, .. }, .eql => some (.v (.bool (a == b)))
    | some { d := .bool, .. }, .neq => some (.v (.bool !(a == b)))
    | _, _ => none
  | .agg xs, .agg ys => match T t with
    | some { d := .st fs, .. } => if eqT t then (match op with
        | .eql => (cellsEqA T fs xs ys).map fun r => .v (.bool r)
        | .neq => (cellsEqA T fs xs ys).map fun r => .v (.bool !r)
        | _ => none) else none
    | _ => none
  | _, _ => none
def unA (op : UnOp) (x : AV) : Option AV :=
  match op, x with
  | .not, .v (.bool b) => some (.v (.bool !b))
  | .neg, .v (.int k n) => some (.v (.int k (k.wrap (0 - n))))
  | _, _ => none
def convA (T : TypeId → Option Ty) (src dst : TypeId) (x : AV) : Option AV :=
  match T src, T dst, x with
  | some _, some { d := .int k, .. }, .v (.int _ n) => some (.v (.int k (k.wrap n)))
  | some _, some { d := .str, .. }, .v (.string s) => some (.v (.string s))
  | _, _, _ => none
def boundA (x : Option AV) (dflt : Nat) : Option Nat :=
  match x with
  | none => some dflt
  | some (.v (.int _ i)) => if 0 ≤ i then some i.toNat else none
  | _ => none
def sliceA (T : TypeId → Option Ty) (H : Nat → Option AO) (t : TypeId) (x : AV) (lo hi : Option AV) : Option AV :=
  match T t, x with
  | some { d := .str, .. }, .v (.string s) => match boundA lo 0, boundA hi s.size with
    | some l, some h => if l ≤ h ∧ h ≤ s.size then some (.v (.string (s.extract l h))) else none
    | _, _ => none
  | some { d := .slice e, .. }, .lst es => match T e, boundA lo 0, boundA hi es.length with
    | some y, some l, some h => if l ≤ h ∧ h ≤ es.length ∧ (∀ e ∈ es, e.length = y.size) then some (.lst ((es.take h).drop l)) else none
    | _, _, _ => none
  | some { d := .slice e, .. }, .ref id off n => match T e, rowAt H id, boundA lo 0, boundA hi n with
    | some y, some r, some l, some h => if l ≤ h ∧ h ≤ n ∧ r.k = y.size then some (.ref id (off + l) (h - l)) else none
    | _, _, _, _ => none
  | _, _ => none
def findM (k : Key) : List (Key × AV) → Option AV
  | [] => none
  | e :: es => if k.same e.1 then some e.2 else findM k es
def putM (k : Key) (x : AV) : List (Key × AV) → List (Key × AV)
  | [] => [(k, x)]
  | e :: es => if k.same e.1 then (k, x) :: es else e :: putM k x es
def keyA (T : TypeId → Option Ty) (eqT : TypeId → Bool) (kt : TypeId) (k : AV) : Option Key :=
  match T kt, k with
  | some { d := .str, .. }, .v (.string s) => some (.str s)
  | some { d := .int .i64, .. }, .v (.int .i64 n) => some (.int n)
  | some { d := .st [(0, t1), (1, t2)], .. }, .agg [.v (.int .i64 a), .v (.int .i64 b)] => match T t1, T t2 with
    | some { d := .int .i64, .. }, some { d := .int .i64, .. } => if eqT kt then some (.pair a b) else none
    | _, _ => none
  | _, _ => none
def shA (T : TypeId → Option Ty) (kt : TypeId) : Option KSh :=
  match T kt with
  | some { d := .str, .. } => some .str
  | some { d := .int .i64, .. } => some .int
  | some { d := .st [(0, _), (1, _)], .. } => some .pair
  | _ => none
def pickM (z : AV) (ok : Bool) : Option AV → AV
  | some x => if ok then .tup [x, .v (.bool true)] else x
  | none => if ok then .tup [z, .v (.bool false)] else z
def lookupA (T : TypeId → Option Ty) (eqT : TypeId → Bool) (H : Nat → Option AO) (t : TypeId) (m k : AV) (ok : Bool) : Option AV :=
  match T t, m with
  | some { d := .map kt et, .. }, .map id => match keyA T eqT kt k, T et, H id with
    | some key, some { zero := [z], d := d, .. }, some (.mp (.map sh) _ es) => if d.isAgg ∨ key.sh ≠ sh then none else
        some (pickM z ok (findM key es))
    | _, _, _ => none
  | some { d := .map kt et, .. }, .lmap sh ks vs => match keyA T eqT kt k, T et with
    | some key, some { zero := [z], d := d, .. } => if d.isAgg ∨ key.sh ≠ sh then none else
        some (pickM z ok (findM key (ks.zip vs)))
    | _, _ => none
  | _, _ => none
def minA (op : Builtin) : List AV → Option AV
  | [.v (.int k a), .v (.int k' b)] => if k = k' then (match op with
      | .min => some (.v (.int k (if b < a then b else a)))
      | .max => some (.v (.int k (if b > a then b else a)))
      | _ => none) else none
  | _ => none
section
variable {P : Program} {T : TypeId → Option Ty} {B0 : Nat} {S0 : Fr} {w : World} {H : Nat → Option AO} {σ : Sg}
theorem rowAt_eq {id : Nat} {r : Row} (h : rowAt H id = some r) : H id = some (.row r) := by
  unfold rowAt at h
  split at h
  · rename_i r' h'; rw [h']; injection h with h; rw [h]
  · cases h
theorem rdPtr_sound (hi : Inv B0 S0 w H σ) {p : AV} {u : Value} {e : List AV} {j : Nat} (hr : Rep σ w p u) (h : rdPtr H p = some (e, j)) :
    ∃ b o, u = .pointer (some ⟨b, o + j, none⟩) ∧ RepL σ w e (fun m => w.cell? ⟨b, o + m, none⟩) ∧ ∀ c ∈ e, c.cell = true := by
  cases p <;> simp only [rdPtr] at h <;> try contradiction
  · simp only [Option.some.injEq, Prod.mk.injEq] at h
    obtain ⟨rfl, rfl⟩ := h
    simp only [Rep] at hr
    obtain ⟨b, o, rfl, hS, hc, hl⟩ := hr
    exact ⟨b, o, rfl, RepL.mono (Le.of_pure σ w) _ _ _ (fun _ _ h => h) hl, hc⟩
  · rename_i id i j' tag
    split at h
    · rename_i r hrow
      split at h
      · rename_i hlo
        simp only [Option.map_eq_some_iff, Prod.mk.injEq] at h
        obtain ⟨e', he, rfl, rfl⟩ := h
        simp only [Rep] at hr
        obtain ⟨b, rfl, hown, h1, h2⟩ := hr
        have hR := hi.row id r (rowAt_eq hrow)
        obtain ⟨hlt, rfl⟩ := List.getElem?_eq_some_iff.1 he
        have hc : σ.cur id = some b := by
          rcases (hR.own b hown).1 with h | h
          · exact h
          · omega
        refine ⟨b, i * r.k, by rw [hR.k], hR.con b hc i hlt, (hR.each _ (List.getElem_mem _)).2⟩
      · cases h
    · cases h
theorem partA_sound (hT : TyOK P T) {t : TypeId} {y : Ty} (ht : T t = some y) {cs : List AV} {arr : Array Value} {off : Nat} {r : AV}
    (hs : arr.size = cs.length) (hc : ∀ c ∈ cs, c.cell = true) (hl : RepL σ w cs (fun i => arr[i]?)) (h : partA y cs off = some r) :
    ∃ v, (part t arr off).run P w = .ok v w ∧ Rep σ w r v := by
  have hf := hT t y ht
  unfold partA at h
  simp only [part, Sem.run_bind, hf.run_isAgg, Result.andThen_ok]
  by_cases hag : y.d.isAgg = true
  · simp only [hag, if_true, hf.run_size, Sem.run_bind, Result.andThen_ok, Sem.run_pure] at h ⊢
    split at h
    · rename_i hle
      injection h with h; subst h
      refine ⟨_, rfl, ?_⟩
      simp only [Rep]
      refine ⟨_, rfl, by simp; omega, fun c hc' => hc c (List.mem_of_mem_drop (List.mem_of_mem_take hc')), ?_⟩
      refine RepL.congr (fun i hi => ?_) (RepL.take (RepL.drop hl off) y.size)
      simp only [List.length_take, List.length_drop] at hi
      simp only [Array.getElem?_extract]
      rw [if_pos (by omega)]
    · cases h
  · simp only [hag, Bool.false_eq_true, if_false] at h ⊢
    obtain ⟨hlt, rfl⟩ := List.getElem?_eq_some_iff.1 h
    rw [repL_iff] at hl
    obtain ⟨u, hu, hr⟩ := hl off hlt
    exact ⟨u, by simp [hu], hr⟩
theorem loadA_sound (hT : TyOK P T) (hi : Inv B0 S0 w H σ) {t : TypeId} {p : AV} {u : Value} {r : AV} (hr : Rep σ w p u) (h : loadA T H t p = some r) :
    ∃ v, (Instr.loadAt t u).run P w = .ok v w ∧ Rep σ w r v := by
  unfold loadA at h
  split at h
  · rename_i y e j hy hp
    obtain ⟨b, o, rfl, hl, hc⟩ := rdPtr_sound hi hr hp
    have hf := hT t y hy
    unfold partA at h
    simp only [Instr.loadAt, Instr.sureAddr, Sem.run_bind, Sem.run_pure, Result.andThen_ok, loadVar, hf.run_isAgg, Sem.run_ite, hf.run_size]
    by_cases hag : y.d.isAgg = true
    · simp only [hag, if_true] at h ⊢
      split at h
      · rename_i hle
        injection h with h; subst h
        have hl' := RepL.take (RepL.drop hl j) y.size
        obtain ⟨vs, h1, h2, h3⟩ := hl'.list
        have hlen : vs.length = y.size := by rw [h1]; simp; omega
        have hload := run_loadCells_list (P := P) w ⟨b, o + j, none⟩ vs (fun i v hv => by
          rw [Addr.add_lit, ← hv, ← h2 i (List.getElem?_eq_some_iff.1 hv).1, Nat.add_assoc])
        rw [hlen] at hload
        rw [hload]
        refine ⟨_, rfl, ?_⟩
        simp only [Rep]
        exact ⟨_, rfl, by simp only [List.size_toArray]; exact h1, fun c hc' => hc c (List.mem_of_mem_drop (List.mem_of_mem_take hc')), by simpa using h3⟩
      · cases h
    · simp only [hag, Bool.false_eq_true, if_false] at h ⊢
      obtain ⟨hlt, rfl⟩ := List.getElem?_eq_some_iff.1 h
      rw [repL_iff] at hl
      obtain ⟨v, hv, hr⟩ := hl j hlt
      refine ⟨v, ?_, hr⟩
      simp [hv]
  · cases h
theorem offA_sound {p r : AV} {u : Value} {d : Nat} (hr : Rep σ w p u) (h : offA p d = some r) : ∃ a : Addr, u = .pointer (some a) ∧ Rep σ w r (.pointer (some (a.add d))) := by
  cases p <;> simp only [offA] at h <;> try contradiction
  all_goals (injection h with h; subst h; simp only [Rep] at hr ⊢)
  · obtain ⟨b, o, rfl, rest⟩ := hr
    exact ⟨_, rfl, b, o, by rw [Addr.add_lit, Nat.add_assoc], rest⟩
  · obtain ⟨b, rfl, rest⟩ := hr
    exact ⟨_, rfl, b, by rw [Addr.add_lit, Nat.add_assoc], rest⟩
theorem fieldAddrA_sound (hT : TyOK P T) {s : TypeId} {p r : AV} {u : Value} {f : Nat} (hr : Rep σ w p u) (h : fieldAddrA T s p f = some r) :
    ∃ v, (Instr.fieldAt s u f).run P w = .ok v w ∧ Rep σ w r v := by
  unfold fieldAddrA at h
  split at h
  · rename_i sz by_ z fs hs
    split at h
    · rename_i off ft hf
      split at h
      · rename_i y hy
        split at h
        · cases h
        · rename_i hne
          obtain ⟨a, rfl, hr'⟩ := offA_sound hr h
          obtain ⟨xs, hx, hm⟩ := (hT s _ hs).st rfl
          subst hm
          simp only [List.getElem?_map, Option.map_eq_some_iff] at hf
          obtain ⟨g, hg, he⟩ := hf
          simp only [Prod.mk.injEq] at he
          obtain ⟨rfl, rfl⟩ := he
          rw [Array.getElem?_toList] at hg
          refine ⟨.pointer (some (a.add g.offset)), ?_, hr'⟩
          simp [Instr.fieldAt, run_underlying hx, hg, Instr.sureAddr, fieldPlace, (hT _ y hy).run_size, hne]
      · cases h
    · cases h
  · cases h
theorem fieldA_sound (hT : TyOK P T) {s : TypeId} {x r : AV} {u : Value} {f : Nat} (hr : Rep σ w x u) (h : fieldA T s x f = some r) :
    ∃ v, (Instr.field s u f).run P w = .ok v w ∧ Rep σ w r v := by
  unfold fieldA at h
  split at h
  · rename_i sz by_ z fs cs hs
    split at h
    · rename_i off ft hf
      split at h
      · rename_i y hy
        simp only [Rep] at hr
        obtain ⟨arr, rfl, h1, h2, h3⟩ := hr
        obtain ⟨xs, hx, hm⟩ := (hT s _ hs).st rfl
        subst hm
        simp only [List.getElem?_map, Option.map_eq_some_iff] at hf
        obtain ⟨g, hg, he⟩ := hf
        simp only [Prod.mk.injEq] at he
        obtain ⟨rfl, rfl⟩ := he
        rw [Array.getElem?_toList] at hg
        obtain ⟨v, hv, hrv⟩ := partA_sound hT hy h1 h2 h3 h
        refine ⟨v, ?_, hrv⟩
        simp [Instr.field, run_underlying hx, hg, asAgg, hv]
      · cases h
    · cases h
  · cases h
end
end Go.Pg

namespace Go.Pg
open Go Go.RowKit
section
variable {P : Program} {T : TypeId → Option Ty} {B0 : Nat} {S0 : Fr} {w : World} {H : Nat → Option AO} {σ : Sg}
theorem repLL_at {es : List (List AV)} {f : Nat → Nat → Option Value} (h : RepLL σ w es f) {i : Nat} (hi : i < es.length) : RepL σ w (es.getD i []) (f i) := by
  rw [repLL_iff] at h
  have := h i hi
  rwa [List.getD_eq_getElem?_getD, List.getElem?_eq_getElem hi, Option.getD_some]
theorem indexAddrA_sound (hT : TyOK P T) (hi : Inv B0 S0 w H σ) {t : TypeId} {x ix r : AV} {u ui : Value} (hr : Rep σ w x u) (hx : Rep σ w ix ui) (h : indexAddrA T H t x ix = some r) :
    ∃ v, (Instr.indexAt t u ui).run P w = .ok v w ∧ Rep σ w r v := by
  unfold indexAddrA at h
  split at h
  · rename_i e kd i ht
    simp only [Rep] at hx; subst hx
    have hu := (hT t _ ht).slice rfl
    split at h
    · rename_i y hy
      have hsz := (hT e y hy).run_size w
      split at h
      · rename_i es
        split at h
        · rename_i hb
          split at h
          · rename_i hl
            injection h with h; subst h
            simp only [Rep] at hr
            obtain ⟨A, cap, k, rfl, h1, h2, h3, h4⟩ := hr
            have hn : i.toNat < es.length := by omega
            obtain ⟨b, o, rfl, hS, hR⟩ := h4 (by intro he; subst he; simp at hn)
            have hmem : es.getD i.toNat [] ∈ es := by rw [List.getD_eq_getElem?_getD, List.getElem?_eq_getElem hn, Option.getD_some]; exact List.getElem_mem _
            have hk : k = y.size := by rw [← (h3 _ hmem).1]; exact hl
            refine ⟨.pointer (some ⟨b, o + i.toNat * k, none⟩), ?_, ?_⟩
            · simp [Instr.indexAt, asIntOf, run_underlying hu, hb.1, hb.2, hsz, Addr.add_lit, hk]
            · simp only [Rep]
              refine ⟨b, o + i.toNat * k, by simp, hS, (h3 _ hmem).2, ?_⟩
              have := repLL_at hR hn
              exact this
          · cases h
        · cases h
      · rename_i id off n
        split at h
        · rename_i hb
          split at h
          · rename_i rw hrow
            split at h
            · rename_i hk
              injection h with h; subst h
              simp only [Rep] at hr
              obtain ⟨hal, A, cap, rfl, h1, h2, h3, h4⟩ := hr
              obtain ⟨b, rfl, hown, hext⟩ := h3 (by omega)
              have hR := hi.row id rw (rowAt_eq hrow)
              refine ⟨.pointer (some ⟨b, (off + i.toNat) * σ.k id, none⟩), ?_, ?_⟩
              · simp [Instr.indexAt, asIntOf, run_underlying hu, hb.1, hb.2, hsz, Addr.add_lit, hR.k, hk, Nat.add_mul]
              · simp only [Rep]
                exact ⟨b, by simp, hown, by omega, hext⟩
            · cases h
          · cases h
        · cases h
      · cases h
    · cases h
  · rename_i n e kd i ht
    simp only [Rep] at hx; subst hx
    have hu := (hT t _ ht).arr rfl
    split at h
    · rename_i y hy
      have hsz := (hT e y hy).run_size w
      split at h
      · rename_i hb
        obtain ⟨a, rfl, hr'⟩ := offA_sound hr h
        refine ⟨.pointer (some (a.add (i.toNat * y.size))), ?_, hr'⟩
        simp [Instr.indexAt, asIntOf, run_underlying hu, Instr.sureAddr, hb.1, hb.2, hsz]
      · cases h
    · cases h
  · cases h
theorem indexA_sound (hT : TyOK P T) {t : TypeId} {x ix r : AV} {u ui : Value} (hr : Rep σ w x u) (hx : Rep σ w ix ui) (h : indexA T t x ix = some r) :
    ∃ v, (Instr.index t u ui).run P w = .ok v w ∧ Rep σ w r v := by
  unfold indexA at h
  split at h
  · rename_i n e cs kd i ht
    simp only [Rep] at hx; subst hx
    have hu := (hT t _ ht).arr rfl
    split at h
    · rename_i y hy
      have hsz := (hT e y hy).run_size w
      split at h
      · rename_i hb
        simp only [Rep] at hr
        obtain ⟨arr, rfl, h1, h2, h3⟩ := hr
        obtain ⟨v, hv, hrv⟩ := partA_sound hT hy h1 h2 h3 h
        refine ⟨v, ?_, hrv⟩
        simp [Instr.index, asIntOf, run_underlying hu, hb.1, hb.2, hsz, hv]
      · cases h
    · cases h
  · rename_i s kd i ht
    simp only [Rep] at hx hr; subst hx; subst hr
    have hu := (hT t _ ht).str rfl
    split at h
    · rename_i hb
      injection h with h; subst h
      have hlt : i.toNat < s.size := by omega
      refine ⟨_, ?_, rfl⟩
      have h1 : s[i.toNat]? = some s[i.toNat] := by simp [hlt]
      have h2 : s.data[i.toNat]? = some s[i.toNat] := by rw [Array.getElem?_eq_getElem (by exact hlt)]; rfl
      simp [Instr.index, asIntOf, run_underlying hu, hb.1, h1, h2]
    · cases h
  · cases h
theorem extractA_sound {x r : AV} {i : Nat} {u : Value} (hr : Rep σ w x u) (h : extractA x i = some r) : ∃ v, (Instr.extract u i).run P w = .ok v w ∧ Rep σ w r v := by
  cases x <;> simp only [extractA] at h <;> try contradiction
  simp only [Rep] at hr
  obtain ⟨arr, rfl, h1, h3⟩ := hr
  obtain ⟨hlt, rfl⟩ := List.getElem?_eq_some_iff.1 h
  rw [repL_iff] at h3
  obtain ⟨v, hv, hrv⟩ := h3 i hlt
  exact ⟨v, by simp [Instr.extract, hv], hrv⟩
theorem lenA_sound (hT : TyOK P T) {t ty : TypeId} {x r : AV} {u : Value} (hr : Rep σ w x u) (h : lenA T t x = some r) : ∃ v, (Builtin.len_ #[t] ty #[u]).run P w = .ok v w ∧ Rep σ w r v := by
  unfold lenA at h
  split at h
  · rename_i e es ht
    injection h with h; subst h
    simp only [Rep] at hr
    obtain ⟨A, cap, k, rfl, _⟩ := hr
    exact ⟨_, by simp [Builtin.len_, run_underlying ((hT t _ ht).slice rfl)]; rfl, rfl⟩
  · rename_i e a b n ht
    injection h with h; subst h
    simp only [Rep] at hr
    obtain ⟨_, A, cap, rfl, _⟩ := hr
    exact ⟨_, by simp [Builtin.len_, run_underlying ((hT t _ ht).slice rfl)]; rfl, rfl⟩
  · rename_i e ht
    injection h with h; subst h
    simp only [Rep] at hr; subst hr
    exact ⟨_, by simp [Builtin.len_, run_underlying ((hT t _ ht).slice rfl)]; rfl, rfl⟩
  · rename_i s ht
    injection h with h; subst h
    simp only [Rep] at hr; subst hr
    exact ⟨_, by simp [Builtin.len_, run_underlying ((hT t _ ht).str rfl)]; rfl, rfl⟩
  · rename_i n e ht
    injection h with h; subst h
    exact ⟨_, by simp [Builtin.len_, run_underlying ((hT t _ ht).arr rfl)]; rfl, rfl⟩
  · cases h
theorem intBinA_sound {op : BinOp} {t : TypeId} {k : IntKind} {a b : Int} {r : AV} (h1 : op ≠ .shl) (h2 : op ≠ .shr) (h : intBinA op k a b = some r) :
    ∃ v, (binOp op t (.int k a) (.int k b)).run P w = .ok v w ∧ Rep σ w r v := by
  have hk : ¬ (k ≠ k) := by simp
  cases op <;> simp only [intBinA] at h <;> try contradiction
  case quo =>
    split at h
    · cases h
    · rename_i hb
      injection h with h; subst h
      refine ⟨_, ?_, rfl⟩
      simp only [binOp, if_neg hk, Op.intDiv, if_neg hb]
      rfl
  case rem =>
    split at h
    · cases h
    · rename_i hb
      injection h with h; subst h
      refine ⟨_, ?_, rfl⟩
      simp only [binOp, if_neg hk, Op.intDiv, if_neg hb]
      rfl
  all_goals
    injection h with h; subst h
    refine ⟨_, ?_, rfl⟩
    simp only [binOp, if_neg hk]
    rfl
theorem run_eqGuard_v (op : BinOp) (t : TypeId) (x y : Operand) (a b : Value) (ha : a ≠ .nilIface) (hb : ∀ cs, a ≠ .agg cs) : (eqGuard op t x y a b).run P w = .ok () w := by
  cases a <;> simp_all <;> cases op <;> simp [eqGuard]
theorem cellsEqA_sound (hT : TyOK P T) (d : Nat) : ∀ (fs : List Field) (cs ds : List AV) (xs ys : Array Value) (r : Bool), (∀ f ∈ fs, f.name ≠ "_") →
    RepL σ w cs (fun i => xs[i]?) → RepL σ w ds (fun i => ys[i]?) → cellsEqA T (fs.map fun f => (f.offset, f.type)) cs ds = some r → (Op.eqFields (d + 1) xs ys fs).run P w = .ok r w := by
  intro fs
  induction fs with
  | nil => intro cs ds xs ys r _ _ _ h; simp only [List.map_nil, cellsEqA, Option.some.injEq] at h; subst h; simp [Op.eqFields]
  | cons f fs ih =>
    intro cs ds xs ys r hn hx hy h
    have hnf : f.name ≠ "_" := hn f (by simp)
    have hn' : ∀ g ∈ fs, g.name ≠ "_" := fun g hg => hn g (by simp [hg])
    have ih' := fun r => ih cs ds xs ys r hn' hx hy
    have hpart : ∀ {y : Ty} {cs : List AV} {xs : Array Value} {x : Value}, T f.type = some y → y.d.isAgg = false → RepL σ w cs (fun i => xs[i]?) → cs[f.offset]? = some (.v x) → (part f.type xs f.offset).run P w = .ok x w := by
      intro y cs xs x hty hag hl hc
      have hf := hT _ y hty
      simp only [part, Sem.run_bind, hf.run_isAgg, Result.andThen_ok, hag, Bool.false_eq_true, if_false]
      obtain ⟨hlt, he⟩ := List.getElem?_eq_some_iff.1 hc
      rw [repL_iff] at hl
      obtain ⟨u, hu, hr⟩ := hl _ hlt
      rw [he] at hr
      simp only [Rep] at hr; subst hr
      simp [hu]
    simp only [List.map_cons, cellsEqA] at h
    split at h
    · rename_i kd ht hc hd
      split at h
      · rename_i hk
        subst hk
        simp only [Option.map_eq_some_iff] at h
        obtain ⟨r', h', rfl⟩ := h
        have e1 := hpart ht rfl hx hc
        have e2 := hpart ht rfl hy hd
        have e3 := fun k a b => run_equalIn_int (P := P) w d f.type k _ a b ((hT _ _ ht).int rfl)
        simp only [Op.eqFields, hnf, ne_eq, not_false_eq_true, if_true, Sem.run_bind, e1, e2, Result.andThen_ok, e3, Sem.run_ite, ih' r' h', Sem.run_pure]
        split <;> rename_i hh <;> simp_all
      · cases h
    · rename_i ht hc hd
      simp only [Option.map_eq_some_iff] at h
      obtain ⟨r', h', rfl⟩ := h
      have e1 := hpart ht rfl hx hc
      have e2 := hpart ht rfl hy hd
      have e3 : ∀ a b, (Op.equalIn (d + 1) f.type (.string a) (.string b)).run P w = .ok (a.data.toList == b.data.toList) w := fun a b => by
        rw [← ByteArray.toList_eq, ← ByteArray.toList_eq]; exact run_equalIn_string (P := P) w d f.type a b ((hT _ _ ht).str rfl)
      simp only [Op.eqFields, hnf, ne_eq, not_false_eq_true, if_true, Sem.run_bind, e1, e2, Result.andThen_ok, e3, Sem.run_ite, ih' r' h', Sem.run_pure]
      split <;> rename_i hh <;> simp_all
    · rename_i ht hc hd
      simp only [Option.map_eq_some_iff] at h
      obtain ⟨r', h', rfl⟩ := h
      have e1 := hpart ht rfl hx hc
      have e2 := hpart ht rfl hy hd
      have e3 := fun a b => run_equalIn_bool' (P := P) w d f.type a b ((hT _ _ ht).bool rfl)
      simp only [Op.eqFields, hnf, ne_eq, not_false_eq_true, if_true, Sem.run_bind, e1, e2, Result.andThen_ok, e3, Sem.run_ite, ih' r' h', Sem.run_pure]
      split <;> rename_i hh <;> simp_all
    · cases h
structure EqFact (P : Program) (t : TypeId) : Prop where
  held : P.stoodInHeld t = false
  guard : P.eqGuardType P.depth t = false
  names : (P.fieldsOf t).toList.all (fun f => f.name != "_") = true
theorem binA_sound (hT : TyOK P T) {eqT : TypeId → Bool} (hE : ∀ t, eqT t = true → EqFact P t) {op : BinOp} {t : TypeId} {x y : AV} {ux uy : Value} {ox oy : Operand} {r : AV}
    (hx : Rep σ w x ux) (hy : Rep σ w y uy) (h : binA T eqT op t x y = some r) :
    ∃ v, (do eqGuard op t ox oy ux uy; binOp op t ux uy : Sem Value).run P w = .ok v w ∧ Rep σ w r v := by
  unfold binA at h
  split at h
  · rename_i k a k' b
    simp only [Rep] at hx hy; subst hx; subst hy
    simp only [Sem.run_bind, run_eqGuard_v op t ox oy (.int k a) (.int k' b) (by simp) (by simp), Result.andThen_ok]
    split at h
    · split at h
      · cases h
      · rename_i hb
        injection h with h; subst h
        exact ⟨_, by simp only [binOp, Op.shift, if_neg hb]; rfl, rfl⟩
    · split at h
      · cases h
      · rename_i hb
        injection h with h; subst h
        exact ⟨_, by simp only [binOp, Op.shift, if_neg hb]; rfl, rfl⟩
    · rename_i h1 h2
      split at h
      · rename_i hk; subst hk
        exact intBinA_sound (fun e => h1 e) (fun e => h2 e) h
      · cases h
  · rename_i a b
    simp only [Rep] at hx hy; subst hx; subst hy
    simp only [Sem.run_bind, run_eqGuard_v op t ox oy (.string a) (.string b) (by simp) (by simp), Result.andThen_ok]
    cases op <;> simp only [strBinA] at h <;> try contradiction
    all_goals first
      | (split at h
         · rename_i hle
           injection h with h; subst h
           refine ⟨_, ?_, rfl⟩
           have : ¬ ((a.size + b.size : Nat) : Int) > IntKind.i64.max := by
             have : IntKind.i64.max = 9223372036854775807 := by decide
             rw [this]; simp only [maxLen] at hle; omega
           simp only [binOp, Op.stringOp, if_neg this]; rfl
         · cases h)
      | (simp only [← ByteArray.toList_eq] at h
         injection h with h; subst h; exact ⟨_, by simp only [binOp, Op.stringOp]; rfl, rfl⟩)
  · rename_i a b
    simp only [Rep] at hx hy; subst hx; subst hy
    simp only [Sem.run_bind, run_eqGuard_v op t ox oy (.bool a) (.bool b) (by simp) (by simp), Result.andThen_ok]
    split at h
    · rename_i ht
      injection h with h; subst h
      refine ⟨.bool (a == b), ?_, rfl⟩
      have := run_equalIn_bool (P := P) w 9999 t a b ((hT t _ ht).bool rfl)
      simp [binOp, Op.equal, Op.maxDepth, this]
    · rename_i ht
      injection h with h; subst h
      refine ⟨.bool (!(a == b)), ?_, rfl⟩
      have := run_equalIn_bool (P := P) w 9999 t a b ((hT t _ ht).bool rfl)
      simp [binOp, Op.equal, Op.maxDepth, this]
    · cases h
  · rename_i xs ys
    split at h
    · rename_i sz by_ z fs ht
      split at h
      · rename_i heq
        have hq := hE t heq
        simp only [Rep] at hx hy
        obtain ⟨ax, rfl, h1, h2, h3⟩ := hx
        obtain ⟨ay, rfl, g1, g2, g3⟩ := hy
        obtain ⟨fa, hu, hm⟩ := (hT t _ ht).st rfl
        have hfo : P.fieldsOf t = fa := by simp [Program.fieldsOf, hu]
        have key : ∀ r', cellsEqA T fs xs ys = some r' → (Op.equalIn 10000 t (.agg ax) (.agg ay)).run P w = .ok r' w := by
          intro r' hr'
          rw [run_equalIn_struct (P := P) w 9999 t ax ay (by rw [hfo]; exact hu) hq.held, hfo]
          subst hm
          exact cellsEqA_sound hT 9998 fa.toList xs ys ax ay r' (fun f hf => by have := List.all_eq_true.1 hq.names f (by rw [hfo]; exact hf); simpa using this) h3 g3 hr'
        simp only [Sem.run_bind, run_eqGuard_agg w op t ox oy ax ay hq.guard, Result.andThen_ok]
        split at h
        · simp only [Option.map_eq_some_iff] at h
          obtain ⟨r', h', rfl⟩ := h
          exact ⟨_, by rw [run_eql_struct, key r' h']; rfl, rfl⟩
        · simp only [Option.map_eq_some_iff] at h
          obtain ⟨r', h', rfl⟩ := h
          exact ⟨_, by rw [run_neq_struct, key r' h']; rfl, rfl⟩
        · cases h
      · cases h
    · cases h
  · cases h
theorem beq_bytes (a b : ByteArray) : (a == b) = (a.data.toList == b.data.toList) := by
  have : (a == b) = (a.data == b.data) := by cases a; cases b; rfl
  rw [this, Array.beq_toList]
theorem keys_case (k : Key) (y : AV) : ∀ (l : List MapEntry) (es : List (Key × AV)) (i : Nat), l.map (·.key) = es.map (fun e => e.1.val) →
    (findM k es = none ∧ putM k y es = es ++ [(k, y)] ∧ ∀ d ∈ es, k.same d.1 = false) ∨
    ∃ (j : Nat) (x : AV) (e : MapEntry), findM k es = some x ∧ l[j]? = some e ∧ (es.map (·.2))[j]? = some x ∧ e.key = k.val ∧ (∃ d, es[j]? = some d ∧ k.same d.1 = true) ∧ (∀ j', j' < j → ∀ d, es[j']? = some d → k.same d.1 = false) ∧
      (putM k y es).map (fun e => e.1.val) = es.map (fun e => e.1.val) ∧ (putM k y es).map (·.2) = (es.map (·.2)).set j y ∧ (putM k y es).map (·.1) = es.map (·.1)
  | [], [], i, _ => .inl ⟨rfl, rfl, fun d hd => by simp at hd⟩
  | e :: l, d :: es, i, h => by
    simp only [List.map_cons, List.cons.injEq] at h
    obtain ⟨h1, h2⟩ := h
    simp only [findM, putM]
    by_cases hk : k.same d.1 = true
    · simp only [hk, if_true]
      have hs := Key.same_eq hk
      exact .inr ⟨0, d.2, e, rfl, rfl, rfl, by rw [h1, hs], ⟨d, rfl, hk⟩, fun j' hj => absurd hj (Nat.not_lt_zero _), by simp [hs], by simp, by simp [hs]⟩
    · have hk' : k.same d.1 = false := by simpa using hk
      simp only [hk', Bool.false_eq_true, if_false]
      rcases keys_case k y l es (i + 1) h2 with ⟨a1, a2, a3⟩ | ⟨j, x, e', a1, a2, a3, a4, a5, a6, a7, a8, a9⟩
      · refine .inl ⟨a1, by rw [a2]; rfl, fun d' hd => ?_⟩
        rcases List.mem_cons.1 hd with rfl | hd
        · exact hk'
        · exact a3 d' hd
      · refine .inr ⟨j + 1, x, e', a1, by simpa using a2, by simpa using a3, a4, by simpa using a5, fun j' hj d' hd => ?_, by simp [a7], by simp [a8], by simp [a9]⟩
        cases j' with
        | zero => simp only [List.getElem?_cons_zero, Option.some.injEq] at hd; subst hd; exact hk'
        | succ j' => exact a6 j' (by omega) d' (by simpa using hd)
  | [], _ :: _, _, h => by simp at h
  | _ :: _, [], _, h => by simp at h
structure KeyOK (P : Program) (kt : TypeId) (k : Key) : Prop where
  check : ∀ b w, (Instr.checkKey b 10000 kt k.val).run P w = .ok () w
  same : ∀ (k' : Key) w, k'.sh = k.sh → (∀ kind, P.underlying kt = some kind → Instr.sameNow kind k.val k'.val = some (k.same k')) ∨
    ((∀ kind, P.underlying kt = some kind → Instr.sameNow kind k.val k'.val = none) ∧ (Op.equal kt k.val k'.val).run P w = .ok (k.same k') w)
  und : ∃ kind, P.underlying kt = some kind
theorem findAsking_case {kt : TypeId} {k : Key} (hk : KeyOK P kt k) (w : World) (hs : ∀ k' : Key, k'.sh = k.sh → (Op.equal kt k.val k'.val).run P w = .ok (k.same k') w) : ∀ (l : List MapEntry) (es : List (Key × AV)) (i : Nat), l.map (·.key) = es.map (fun e => e.1.val) → (∀ d ∈ es, d.1.sh = k.sh) →
    ((∀ d ∈ es, k.same d.1 = false) → (Instr.findAsking kt k.val l i).run P w = .ok none w) ∧
    (∀ j e d, l[j]? = some e → es[j]? = some d → k.same d.1 = true → (∀ j', j' < j → ∀ d, es[j']? = some d → k.same d.1 = false) → (Instr.findAsking kt k.val l i).run P w = .ok (some (i + j, e.val)) w)
  | [], [], i, _, _ => ⟨fun _ => rfl, fun j e d h => by simp at h⟩
  | e :: l, d :: es, i, h, hsh => by
    simp only [List.map_cons, List.cons.injEq] at h
    obtain ⟨h1, h2⟩ := h
    obtain ⟨g1, g2⟩ := findAsking_case hk w hs l es (i + 1) h2 (fun d' hd => hsh d' (by simp [hd]))
    have he : (Op.equal kt k.val e.key).run P w = .ok (k.same d.1) w := by rw [h1]; exact hs d.1 (hsh d (by simp))
    constructor
    · intro hd
      have h3 := hd d (by simp)
      simp only [Instr.findAsking, Sem.run_bind, he, Result.andThen_ok, h3, Bool.false_eq_true, if_false]
      exact g1 (fun d' hd' => hd d' (by simp [hd']))
    · intro j e' d' hj hd hsame hbef
      cases j with
      | zero =>
        simp only [List.getElem?_cons_zero, Option.some.injEq] at hj hd
        subst hj; subst hd
        simp only [Instr.findAsking, Sem.run_bind, he, Result.andThen_ok, hsame, if_true, Sem.run_pure]
        rfl
      | succ j =>
        have h3 := hbef 0 (by omega) d rfl
        simp only [Instr.findAsking, Sem.run_bind, he, Result.andThen_ok, h3, Bool.false_eq_true, if_false]
        rw [g2 j e' d' (by simpa using hj) (by simpa using hd) hsame (fun j' hj' d'' hd'' => hbef (j' + 1) (by omega) d'' (by simpa using hd''))]
        congr 3; omega
  | [], _ :: _, _, h, _ => by simp at h
  | _ :: _, [], _, h, _ => by simp at h
theorem findNow_case {kind : TypeDesc} {k : Key} (hs : ∀ k' : Key, k'.sh = k.sh → Instr.sameNow kind k.val k'.val = some (k.same k')) : ∀ (l : List MapEntry) (es : List (Key × AV)) (i : Nat), l.map (·.key) = es.map (fun e => e.1.val) → (∀ d ∈ es, d.1.sh = k.sh) →
    ((∀ d ∈ es, k.same d.1 = false) → Instr.findNow kind k.val l i = some none) ∧
    (∀ j e d, l[j]? = some e → es[j]? = some d → k.same d.1 = true → (∀ j', j' < j → ∀ d, es[j']? = some d → k.same d.1 = false) → Instr.findNow kind k.val l i = some (some (i + j, e.val)))
  | [], [], i, _, _ => ⟨fun _ => rfl, fun j e d h => by simp at h⟩
  | e :: l, d :: es, i, h, hsh => by
    simp only [List.map_cons, List.cons.injEq] at h
    obtain ⟨h1, h2⟩ := h
    obtain ⟨g1, g2⟩ := findNow_case hs l es (i + 1) h2 (fun d' hd => hsh d' (by simp [hd]))
    have he : Instr.sameNow kind k.val e.key = some (k.same d.1) := by rw [h1]; exact hs d.1 (hsh d (by simp))
    constructor
    · intro hd
      have h3 := hd d (by simp)
      simp only [Instr.findNow, he, h3]
      exact g1 (fun d' hd' => hd d' (by simp [hd']))
    · intro j e' d' hj hd hsame hbef
      cases j with
      | zero =>
        simp only [List.getElem?_cons_zero, Option.some.injEq] at hj hd
        subst hj; subst hd
        simp only [Instr.findNow, he, hsame]
        rfl
      | succ j =>
        have h3 := hbef 0 (by omega) d rfl
        simp only [Instr.findNow, he, h3]
        rw [g2 j e' d' (by simpa using hj) (by simpa using hd) hsame (fun j' hj' d'' hd'' => hbef (j' + 1) (by omega) d'' (by simpa using hd''))]
        congr 3; omega
  | [], _ :: _, _, h, _ => by simp at h
  | _ :: _, [], _, h, _ => by simp at h
theorem findKey_case {kt : TypeId} {k : Key} (hk : KeyOK P kt k) (w : World) {l : List MapEntry} {es : List (Key × AV)} (h : l.map (·.key) = es.map (fun e => e.1.val)) (hsh : ∀ d ∈ es, d.1.sh = k.sh) :
    ((∀ d ∈ es, k.same d.1 = false) → (Instr.findKey kt k.val l).run P w = .ok none w) ∧
    (∀ j e d, l[j]? = some e → es[j]? = some d → k.same d.1 = true → (∀ j', j' < j → ∀ d, es[j']? = some d → k.same d.1 = false) → (Instr.findKey kt k.val l).run P w = .ok (some (j, e.val)) w) := by
  obtain ⟨kind, hu⟩ := hk.und
  have hcase : (∀ k' : Key, k'.sh = k.sh → Instr.sameNow kind k.val k'.val = some (k.same k')) ∨ ((∀ k' : Key, k'.sh = k.sh → Instr.sameNow kind k.val k'.val = none) ∧ ∀ k' : Key, k'.sh = k.sh → (Op.equal kt k.val k'.val).run P w = .ok (k.same k') w) := by
    by_cases hx : ∃ k' : Key, k'.sh = k.sh ∧ Instr.sameNow kind k.val k'.val = none
    · right
      obtain ⟨k1, hs1, hn1⟩ := hx
      have hall : ∀ k' : Key, k'.sh = k.sh → Instr.sameNow kind k.val k'.val = none := by
        intro k' hs
        cases k <;> cases k1 <;> cases k' <;> simp only [Key.sh, reduceCtorEq] at hs hs1 <;> cases kind <;> simp_all [Instr.sameNow, Key.val]
      refine ⟨hall, fun k' hs => ?_⟩
      rcases hk.same k' w hs with hc | ⟨_, hc⟩
      · have := hc kind hu; rw [hall k' hs] at this; cases this
      · exact hc
    · left
      intro k' hs
      rcases hk.same k' w hs with hc | ⟨hc, _⟩
      · exact hc kind hu
      · exact absurd ⟨k', hs, hc kind hu⟩ hx
  rcases hcase with hs | ⟨hn, hs⟩
  · obtain ⟨a1, a2⟩ := findNow_case hs l es 0 h hsh
    refine ⟨fun hd => ?_, fun j e d h1 h2 h3 h4 => ?_⟩
    · simp [Instr.findKey, run_underlying hu, a1 hd]
    · simp [Instr.findKey, run_underlying hu, a2 j e d h1 h2 h3 h4]
  · obtain ⟨a1, a2⟩ := findAsking_case hk w hs l es 0 h hsh
    cases l with
    | nil =>
      cases es with
      | nil => exact ⟨fun _ => by simp [Instr.findKey, run_underlying hu, Instr.findNow], fun j e d h1 => by simp at h1⟩
      | cons d es => simp at h
    | cons e l =>
      cases es with
      | nil => simp at h
      | cons d es =>
        have he : Instr.findNow kind k.val (e :: l) 0 = none := by
          simp only [List.map_cons, List.cons.injEq] at h
          simp only [Instr.findNow, h.1, hn d.1 (hsh d (by simp))]
        refine ⟨fun hd => ?_, fun j e' d' h1 h2 h3 h4 => ?_⟩
        · simp [Instr.findKey, run_underlying hu, he, a1 hd]
        · have := a2 j e' d' h1 h2 h3 h4
          rw [Nat.zero_add] at this
          simp [Instr.findKey, run_underlying hu, he, this]
theorem keyA_sound (hT : TyOK P T) {eqT : TypeId → Bool} (hE : ∀ t, eqT t = true → EqFact P t) {kt : TypeId} {k : AV} {key : Key} {u : Value} (hr : Rep σ w k u) (h : keyA T eqT kt k = some key) : u = key.val ∧ KeyOK P kt key := by
  unfold keyA at h
  split at h
  · rename_i sz by_ z s ht
    injection h with h; subst h
    simp only [Rep] at hr; subst hr
    have hu := (hT kt _ ht).str rfl
    refine ⟨rfl, ⟨fun b w => by unfold Instr.checkKey; simp [run_underlying hu, Key.val], fun k' w hs => .inl fun kind hk => ?_, _, hu⟩⟩
    rw [hu] at hk; injection hk with hk; subst hk
    cases k' <;> simp only [Key.sh, reduceCtorEq] at hs
    simp only [Key.val, Instr.sameNow, Key.same, beq_bytes]
  · rename_i sz by_ z n ht
    injection h with h; subst h
    simp only [Rep] at hr; subst hr
    have hu := (hT kt _ ht).int rfl
    refine ⟨rfl, ⟨fun b w => by unfold Instr.checkKey; simp [run_underlying hu, Key.val], fun k' w hs => .inl fun kind hk => ?_, _, hu⟩⟩
    rw [hu] at hk; injection hk with hk; subst hk
    cases k' <;> simp only [Key.sh, reduceCtorEq] at hs
    simp only [Key.val, Instr.sameNow, Key.same, if_true]
  · rename_i sz by_ z t1 t2 a b ht
    split at h
    · rename_i s1 b1 z1 s2 b2 z2 ht1 ht2
      split at h
      · rename_i heq
        injection h with h; subst h
        have hq := hE kt heq
        obtain ⟨fa, hu, hm⟩ := (hT kt _ ht).st rfl
        have hfo : P.fieldsOf kt = fa := by simp [Program.fieldsOf, hu]
        have hval : u = Key.val (.pair a b) := by
          simp only [Rep] at hr
          obtain ⟨arr, rfl, h1, h2, h3⟩ := hr
          simp only [RepL, Rep, exists_eq_right, and_true] at h3
          obtain ⟨g1, g2⟩ := h3
          simp only [Key.val, Value.agg.injEq]
          apply Array.ext_getElem?
          intro i
          match i with
          | 0 => simpa using g1
          | 1 => simpa using g2
          | i + 2 => rw [Array.getElem?_eq_none (by simp only [List.length_cons, List.length_nil] at h1; omega)]; simp
        have hu1 := (hT t1 _ ht1).int rfl
        have hu2 := (hT t2 _ ht2).int rfl
        have hag1 : ∀ w, (isAgg t1).run P w = .ok false w := fun w => (hT t1 _ ht1).run_isAgg w
        have hag2 : ∀ w, (isAgg t2).run P w = .ok false w := fun w => (hT t2 _ ht2).run_isAgg w
        refine ⟨hval, ⟨fun bb w => ?_, fun k' w hs => .inr ⟨fun kind hk => ?_, ?_⟩, _, hu⟩⟩
        · obtain ⟨f1, f2, rfl⟩ : ∃ f1 f2, fa = #[f1, f2] := by
            have := congrArg List.length hm
            simp only [List.length_map, Array.length_toList, List.length_cons, List.length_nil] at this
            exact ⟨fa[0], fa[1], Array.ext (by simpa using this) fun i h1 h2 => by
              have : i = 0 ∨ i = 1 := by simp at h2; omega
              rcases this with rfl | rfl <;> rfl⟩
          simp only [List.map_cons, List.map_nil, List.cons.injEq, Prod.mk.injEq, and_true] at hm
          obtain ⟨⟨e1, e2⟩, e3, e4⟩ := hm
          unfold Instr.checkKey
          have hp1 : (part t1 #[Value.int .i64 a, .int .i64 b] 0).run P w = .ok (.int .i64 a) w := by simp [part, hag1 w]
          have hp2 : (part t2 #[Value.int .i64 a, .int .i64 b] 1).run P w = .ok (.int .i64 b) w := by simp [part, hag2 w]
          have hc1 : (Instr.checkKey bb 9999 t1 (.int .i64 a)).run P w = .ok () w := by unfold Instr.checkKey; simp [run_underlying hu1]
          have hc2 : (Instr.checkKey bb 9999 t2 (.int .i64 b)).run P w = .ok () w := by unfold Instr.checkKey; simp [run_underlying hu2]
          simp [run_underlying hu, Key.val, e1, e2, e3, e4, hp1, hp2, hc1, hc2]
        · rw [hu] at hk; injection hk with hk; subst hk
          cases k' <;> simp only [Key.sh, reduceCtorEq] at hs
          simp only [Key.val, Instr.sameNow]
        · cases k' <;> simp only [Key.sh, reduceCtorEq] at hs
          rename_i c d
          have hrx : ∀ x y : Int, RepL σ w [.v (.int .i64 x), .v (.int .i64 y)] (fun i => (#[Value.int .i64 x, .int .i64 y] : Array Value)[i]?) := fun x y => by simp [RepL, Rep]
          have hc : cellsEqA T [(0, t1), (1, t2)] [.v (.int .i64 a), .v (.int .i64 b)] [.v (.int .i64 c), .v (.int .i64 d)] = some ((a == c) && ((b == d) && true)) := by
            simp [cellsEqA, ht1, ht2]
          have hrun : (Op.equalIn 10000 kt (.agg #[.int .i64 a, .int .i64 b]) (.agg #[.int .i64 c, .int .i64 d])).run P w = .ok ((a == c) && ((b == d) && true)) w := by
            rw [run_equalIn_struct (P := P) w 9999 kt _ _ (by rw [hfo]; exact hu) hq.held, hfo]
            rw [← hm] at hc
            exact cellsEqA_sound hT 9998 fa.toList _ _ _ _ _ (fun f hf => by have := List.all_eq_true.1 hq.names f (by rw [hfo]; exact hf); simpa using this) (hrx a b) (hrx c d) hc
          simp only [Key.val, Key.same, Op.equal, Op.maxDepth]
          rw [hrun, Bool.and_true]
      · cases h
    · cases h
  · cases h
theorem map_block (hi : Inv B0 S0 w H σ) {id : Nat} {sh : KSh} {et : TypeId} {es : List (Key × AV)} (hH : H id = some (.mp (.map sh) et es)) {u : Value} (hr : Rep σ w (.map id) u) :
    ∃ b clock, ∃ xs : Array MapEntry, u = .map (some b) ∧ σ.cur id = some b ∧ σ.own b = some id ∧ ¬ σ.S b ∧ w.heap[b]? = some (.map xs clock) ∧ xs.toList.map (·.key) = es.map (fun e => e.1.val) ∧ (∀ d ∈ es, d.1.sh = sh) ∧ RepL σ w (es.map (·.2)) (fun i => (xs[i]?).map (·.val)) := by
  simp only [Rep] at hr
  obtain ⟨b, rfl, hown⟩ := hr
  have hm := hi.mp id (.map sh) et es hH
  obtain ⟨b', clock, xs, a1, a2, a3, a4, ⟨a5, a5'⟩, a6⟩ := hm.cur
  have := (hm.one b hown).1
  rw [a1] at this; injection this with this; subst this
  exact ⟨b', clock, xs, rfl, a1, a2, a3.1 rfl, a4, a5, fun d hd => a5' d.1 (List.mem_map.2 ⟨d, hd, rfl⟩), a6⟩
theorem look_core (hT : TyOK P T) {t kt et : TypeId} {sz by_ : Nat} {z0 : List AV} (ht : T t = some { size := sz, bytes := by_, zero := z0, d := .map kt et }) {s1 b1 : Nat} {z : AV} {d : TyD} (het : T et = some { size := s1, bytes := b1, zero := [z], d := d }) (hag1 : d.isAgg = false)
    {key : Key} (hko : KeyOK P kt key) {b clock : Nat} {xs : Array MapEntry} {es : List (Key × AV)} (a4 : w.heap[b]? = some (.map xs clock)) (a5 : xs.toList.map (·.key) = es.map (fun e => e.1.val)) (a5' : ∀ d ∈ es, d.1.sh = key.sh) (a6 : RepL σ w (es.map (·.2)) (fun i => (xs[i]?).map (·.val))) {ok : Bool} :
    ∃ v, (Instr.lookup t (.map (some b)) key.val ok).run P w = .ok v w ∧ Rep σ w (pickM z ok (findM key es)) v := by
  have hu := (hT t _ ht).map rfl
  obtain ⟨zv, hz, hzv⟩ := (hT et _ het).run_zero1 w hag1 rfl
  have hobj : (getObj b).run P w = .ok (.map xs clock) w := MapKept.run_getObj_map a4
  obtain ⟨f1, f2⟩ := findKey_case hko w a5 a5'
  rcases keys_case key .junk xs.toList es 0 a5 with ⟨b1, _, b3⟩ | ⟨j, x, e, b1, b3, b4, b5, ⟨d', b6, b7⟩, b8, _⟩
  · rw [b1]
    simp only [pickM]
    refine ⟨if ok then .tuple #[zv, .bool false] else zv, ?_, ?_⟩
    · simp [Instr.lookup, run_underlying hu, hobj, hko.check, f1 b3, hz]
    · subst hzv
      cases ok
      · rfl
      · simp only [if_true, Rep]; exact ⟨_, rfl, rfl, by simp [RepL, Rep]⟩
  · rw [b1]
    simp only [pickM]
    have hx : Rep σ w x e.val := by
      rw [repL_iff'] at a6
      obtain ⟨u, hu, hr⟩ := a6 j x b4
      rw [Array.getElem?_toList] at b3
      simp only [b3, Option.map_some, Option.some.injEq] at hu
      subst hu; exact hr
    refine ⟨if ok then .tuple #[e.val, .bool true] else e.val, ?_, ?_⟩
    · simp [Instr.lookup, run_underlying hu, hobj, hko.check, f2 j e d' b3 b6 b7 b8]
    · cases ok
      · exact hx
      · simp only [if_true, Rep]; exact ⟨_, rfl, rfl, by simp [RepL, Rep, hx]⟩
theorem lookupA_sound (hT : TyOK P T) {eqT : TypeId → Bool} (hE : ∀ t, eqT t = true → EqFact P t) (hi : Inv B0 S0 w H σ) {t : TypeId} {m k r : AV} {um uk : Value} {ok : Bool} (hm : Rep σ w m um) (hk : Rep σ w k uk) (h : lookupA T eqT H t m k ok = some r) :
    ∃ v, (Instr.lookup t um uk ok).run P w = .ok v w ∧ Rep σ w r v := by
  unfold lookupA at h
  split at h
  · rename_i sz by_ z kt et id ht
    split at h
    · rename_i key _ _ z d sh _ es hkey het hH
      split at h
      · cases h
      · rename_i hag
        have hag1 : d.isAgg = false := by simpa using (not_or.1 hag).1
        have hsh : key.sh = sh := by simpa using (not_or.1 hag).2
        injection h with h; subst h
        obtain ⟨rfl, hko⟩ := keyA_sound hT hE hk hkey
        obtain ⟨b, clock, xs, rfl, a1, a2, a3, a4, a5, a5', a6⟩ := map_block hi hH hm
        exact look_core hT ht het hag1 hko a4 a5 (fun d hd => (a5' d hd).trans hsh.symm) a6
    · cases h
  · rename_i sz by_ z kt et sh ks vs ht
    split at h
    · rename_i key _ _ z d hkey het
      split at h
      · cases h
      · rename_i hag
        have hag1 : d.isAgg = false := by simpa using (not_or.1 hag).1
        have hsh : key.sh = sh := by simpa using (not_or.1 hag).2
        injection h with h; subst h
        obtain ⟨rfl, hko⟩ := keyA_sound hT hE hk hkey
        simp only [Rep] at hm
        obtain ⟨b, clock, xs, rfl, _, a4, a5, a5', a7, a6⟩ := hm
        have e1 : (ks.zip vs).map (·.1) = ks := by rw [List.map_fst_zip (by omega)]
        have e2 : (ks.zip vs).map (·.2) = vs := by rw [List.map_snd_zip (by omega)]
        refine look_core hT ht het hag1 hko a4 (es := ks.zip vs) ?_ (fun d hd => ?_) ?_
        · rw [a5, ← e1, List.map_map]; simp [e1]
        · exact (a5' d.1 (by rw [← e1]; exact List.mem_map.2 ⟨d, hd, rfl⟩)).trans hsh.symm
        · rw [e2]; exact RepL.mono (Le.of_pure σ w) _ _ _ (fun _ _ h => h) a6
    · cases h
  · cases h
theorem unA_sound {op : UnOp} {x r : AV} {u : Value} (hr : Rep σ w x u) (h : unA op x = some r) : ∃ v, (Op.unary op u).run P w = .ok v w ∧ Rep σ w r v := by
  unfold unA at h
  split at h
  · injection h with h; subst h
    simp only [Rep] at hr; subst hr
    exact ⟨_, by simp only [Op.unary]; rfl, rfl⟩
  · injection h with h; subst h
    simp only [Rep] at hr; subst hr
    exact ⟨_, by simp only [Op.unary, Op.intArith]; rfl, rfl⟩
  · cases h
theorem convA_sound (hT : TyOK P T) {src dst : TypeId} {x r : AV} {u : Value} (hr : Rep σ w x u) (h : convA T src dst x = some r) : ∃ v, (convert src dst u).run P w = .ok v w ∧ Rep σ w r v := by
  unfold convA at h
  split at h
  · rename_i ys k kk n hs hd
    injection h with h; subst h
    simp only [Rep] at hr; subst hr
    obtain ⟨ds, h1, _⟩ := (hT src _ hs).desc
    exact ⟨_, by simp only [convert, Sem.run_bind, run_underlying h1, run_underlying ((hT dst _ hd).int rfl), Result.andThen_ok]; rfl, rfl⟩
  · rename_i ys s hs hd
    injection h with h; subst h
    simp only [Rep] at hr; subst hr
    obtain ⟨ds, h1, _⟩ := (hT src _ hs).desc
    refine ⟨.string s, ?_, rfl⟩
    simp only [convert, Sem.run_bind, run_underlying h1, run_underlying ((hT dst _ hd).str rfl), Result.andThen_ok]
    cases ds <;> rfl
  · cases h
theorem minA_sound {b : Builtin} {t : TypeId} {tys : Array TypeId} {xs : List AV} {us : List Value} {r : AV} (hb : b = .min ∨ b = .max) (hl : us.length = xs.length) (hr : RepL σ w xs (fun i => us[i]?)) (h : minA b xs = some r) :
    ∃ v, (∀ cs, (builtin b tys t cs us.toArray).run P w = .ok (.value v) w) ∧ Rep σ w r v := by
  unfold minA at h
  split at h
  · rename_i k a k' c
    split at h
    · rename_i hk; subst hk
      match us, hl with
      | [u1, u2], _ =>
        simp only [RepL, List.getElem?_cons_zero, Option.some.injEq, exists_eq_left', List.getElem?_cons_succ, and_true, Rep] at hr
        obtain ⟨rfl, rfl⟩ := hr
        rcases hb with rfl | rfl
        · simp only [Option.some.injEq] at h; subst h
          exact ⟨_, fun cs => by simp [builtin, Builtin.min_, Builtin.min2], rfl⟩
        · simp only [Option.some.injEq] at h; subst h
          exact ⟨_, fun cs => by simp [builtin, Builtin.max_, Builtin.max2], rfl⟩
    · cases h
  · cases h
end
end Go.Pg

namespace Go.Pg
open Go Go.RowKit
def spliceL (cs : List AV) (off : Nat) (ds : List AV) : List AV := cs.take off ++ ds ++ cs.drop (off + ds.length)
def fillA (place : Nat → Option (Nat × Nat)) : List AV → List (Nat × AV) → Option (List AV)
  | cs, [] => some cs
  | cs, (i, x) :: rest => match place i, cellsA x with
    | some (off, size), some ds => if ds.length = size ∧ off + size ≤ cs.length then fillA place (spliceL cs off ds) rest else none
    | _, _ => none
def normC : AV → AV
  | .v (.slice none 0 0) => .lst []
  | x => x
theorem normC_rep {σ : Sg} {w : World} {c : AV} {u : Value} (h : Rep σ w c u) : Rep σ w (normC c) u := by
  unfold normC
  split
  · simp only [Rep] at h ⊢; subst h
    exact ⟨none, 0, 0, rfl, by simp, by simp [maxLen], by simp, by simp⟩
  · exact h
theorem normC_cell {c : AV} (h : c.cell = true) : (normC c).cell = true := by
  unfold normC
  split
  · rfl
  · exact h
theorem normL_rep {σ : Sg} {w : World} {cs : List AV} {f : Nat → Option Value} (h : RepL σ w cs f) : RepL σ w (cs.map normC) f := by
  rw [repL_iff'] at h ⊢
  intro i c hc
  simp only [List.getElem?_map, Option.map_eq_some_iff] at hc
  obtain ⟨d, hd, rfl⟩ := hc
  obtain ⟨u, hu, hr⟩ := h i d hd
  exact ⟨u, hu, normC_rep hr⟩
def fillE (size : Nat) : List (List AV) → List (Nat × AV) → Option (List (List AV))
  | es, [] => some es
  | es, (i, x) :: rest => match cellsA x with
    | some ds => if ds.length = size ∧ i < es.length then fillE size (es.set i (ds.map normC)) rest else none
    | none => none
theorem spliceL_get (cs : List AV) (off : Nat) (ds : List AV) (h : off + ds.length ≤ cs.length) (j : Nat) :
    (spliceL cs off ds)[j]? = if off ≤ j ∧ j < off + ds.length then ds[j - off]? else cs[j]? := by
  have ht : (cs.take off).length = off := by simp; omega
  unfold spliceL
  rw [List.append_assoc, List.getElem?_append, ht]
  by_cases h1 : j < off
  · rw [if_pos h1, if_neg (by omega), List.getElem?_take, if_pos h1]
  · rw [if_neg h1, List.getElem?_append]
    by_cases h2 : j < off + ds.length
    · rw [if_pos (by omega), if_pos (by omega)]
    · rw [if_neg (by omega), if_neg (by omega), List.getElem?_drop]
      congr 1; omega
theorem fold_set (off : Nat) : ∀ (l : List Value) (s : Nat) (cells : Array Value),
    ((l.zipIdx s).foldl (fun (cs : Array Value) p => cs.setIfInBounds (off + p.2) p.1) cells).size = cells.size ∧
    ∀ i, ((l.zipIdx s).foldl (fun (cs : Array Value) p => cs.setIfInBounds (off + p.2) p.1) cells)[i]? = if off + s ≤ i ∧ i < off + s + l.length ∧ i < cells.size then l[i - (off + s)]? else cells[i]? := by
  intro l
  induction l with
  | nil => intro s cells; exact ⟨rfl, fun i => by simp; omega⟩
  | cons v l ih =>
    intro s cells
    simp only [List.zipIdx_cons, List.foldl_cons]
    obtain ⟨h1, h2⟩ := ih (s + 1) (cells.setIfInBounds (off + s) v)
    refine ⟨by rw [h1]; simp, fun i => ?_⟩
    rw [h2]
    simp only [Array.size_setIfInBounds, Array.getElem?_setIfInBounds, List.length_cons]
    by_cases hi : i < cells.size
    · by_cases h3 : i = off + s
      · subst h3
        rw [if_neg (by omega), if_pos (by omega), if_pos (by omega)]
        simp [hi]
      · by_cases h4 : off + s ≤ i ∧ i < off + s + (l.length + 1)
        · rw [if_pos (by omega), if_pos (by omega)]
          have : i - (off + s) = (i - (off + (s + 1))) + 1 := by omega
          rw [this, List.getElem?_cons_succ]
        · rw [if_neg (by omega), if_neg (by omega), if_neg (by omega)]
    · have hn : cells[i]? = none := Array.getElem?_eq_none (by omega)
      simp only [hi, and_false, if_false, hn]
      split
      · rw [if_neg (by omega)]
      · rfl
theorem foldCells (v : Value) (off : Nat) (cells : Array Value) :
    (v.cells.zipIdx.foldl (fun cs (c, j) => cs.setIfInBounds (off + j) c) cells).size = cells.size ∧
    ∀ i, (v.cells.zipIdx.foldl (fun cs (c, j) => cs.setIfInBounds (off + j) c) cells)[i]? = if off ≤ i ∧ i < off + v.cells.size ∧ i < cells.size then v.cells[i - off]? else cells[i]? := by
  have h := fold_set off v.cells.toList 0 cells
  have e : v.cells.zipIdx.foldl (fun cs (c, j) => cs.setIfInBounds (off + j) c) cells = (v.cells.toList.zipIdx 0).foldl (fun (cs : Array Value) p => cs.setIfInBounds (off + p.2) p.1) cells := by
    rw [← Array.foldl_toList, Array.toList_zipIdx]
  rw [e]
  simpa using h
section
variable {P : Program} {T : TypeId → Option Ty} {B0 : Nat} {S0 : Fr} {w : World} {H : Nat → Option AO} {σ : Sg}
theorem fillA_sound {place : Nat → Option (Nat × Nat)} : ∀ (parts : List (Nat × AV)) (vs : List (Nat × Value)) (cs : List AV) (arr : Array Value) (r : List AV),
    vs.length = parts.length → (∀ i (h : i < parts.length) (h' : i < vs.length), vs[i].1 = parts[i].1 ∧ Rep σ w parts[i].2 vs[i].2) →
    arr.size = cs.length → (∀ c ∈ cs, c.cell = true) → RepL σ w cs (fun i => arr[i]?) → fillA place cs parts = some r →
    ∃ arr' : Array Value, Instr.fill place arr vs = some arr' ∧ arr'.size = r.length ∧ (∀ c ∈ r, c.cell = true) ∧ RepL σ w r (fun i => arr'[i]?)
  | [], [], cs, arr, r, _, _, h1, h2, h3, h => by
    simp only [fillA, Option.some.injEq] at h; subst h
    exact ⟨arr, rfl, h1, h2, h3⟩
  | (i, x) :: parts, (i', v) :: vs, cs, arr, r, hlen, hv, h1, h2, h3, h => by
    have h0 := hv 0 (by simp) (by simp)
    simp only [List.getElem_cons_zero] at h0
    obtain ⟨rfl, hrx⟩ := h0
    simp only [fillA] at h
    split at h
    · rename_i off size ds hpl hds
      split at h
      · rename_i hc
        obtain ⟨e1, e2, e3, e4⟩ := cellsA_spec hds hrx
        obtain ⟨f1, f2⟩ := foldCells v off arr
        have hsz : (spliceL cs off ds).length = cs.length := by simp [spliceL]; omega
        obtain ⟨arr', g1, g2, g3, g4⟩ := fillA_sound parts vs (spliceL cs off ds) (v.cells.zipIdx.foldl (fun cs (c, j) => cs.setIfInBounds (off + j) c) arr) r (by simpa using hlen)
          (fun j a b => by have := hv (j + 1) (by simp; omega) (by simp; omega); simpa using this)
          (by rw [f1, hsz, h1])
          (fun c hcm => by
            simp only [spliceL, List.mem_append] at hcm
            rcases hcm with (hcm | hcm) | hcm
            · exact h2 c (List.mem_of_mem_take hcm)
            · exact e2 c hcm
            · exact h2 c (List.mem_of_mem_drop hcm))
          (by
            rw [repL_iff'] at h3 e3 ⊢
            intro j c hj
            rw [spliceL_get cs off ds (by omega)] at hj
            rw [f2]
            split at hj
            · rename_i hin
              obtain ⟨u, hu, hr⟩ := e3 _ c hj
              exact ⟨u, by rw [if_pos ⟨hin.1, by omega, by omega⟩]; exact hu, hr⟩
            · rename_i hin
              obtain ⟨u, hu, hr⟩ := h3 _ c hj
              exact ⟨u, by rw [if_neg (by omega)]; exact hu, hr⟩)
          h
        refine ⟨arr', ?_, g2, g3, g4⟩
        simp only [Instr.fill, hpl]
        rw [if_neg (by simp; omega)]
        exact g1
      · cases h
    · cases h
  | [], _ :: _, _, _, _, hl, _, _, _, _, _ => by simp at hl
  | _ :: _, [], _, _, _, hl, _, _, _, _, _ => by simp at hl
def ElemsIn (σ : Sg) (w : World) (k : Nat) (es : List (List AV)) (arr : Array Value) : Prop :=
  arr.size = es.length * k ∧ (∀ e ∈ es, e.length = k ∧ ∀ c ∈ e, c.cell = true) ∧ ∀ i (h : i < es.length), RepL σ w es[i] (fun j => arr[i * k + j]?)
theorem fillE_sound {k : Nat} (hk : 0 < k) : ∀ (parts : List (Nat × AV)) (vs : List (Nat × Value)) (es : List (List AV)) (arr : Array Value) (r : List (List AV)),
    vs.length = parts.length → (∀ i (h : i < parts.length) (h' : i < vs.length), vs[i].1 = parts[i].1 ∧ Rep σ w parts[i].2 vs[i].2) →
    ElemsIn σ w k es arr → fillE k es parts = some r →
    ∃ arr' : Array Value, Instr.fill (fun i => some (i * k, k)) arr vs = some arr' ∧ ElemsIn σ w k r arr' ∧ r.length = es.length
  | [], [], es, arr, r, _, _, h1, h => by
    simp only [fillE, Option.some.injEq] at h; subst h
    exact ⟨arr, rfl, h1, rfl⟩
  | (i, x) :: parts, (i', v) :: vs, es, arr, r, hlen, hv, ⟨h1, h2, h3⟩, h => by
    have h0 := hv 0 (by simp) (by simp)
    simp only [List.getElem_cons_zero] at h0
    obtain ⟨rfl, hrx⟩ := h0
    simp only [fillE] at h
    split at h
    · rename_i ds hds
      split at h
      · rename_i hc
        obtain ⟨e1, e2, e3, e4⟩ := cellsA_spec hds hrx
        obtain ⟨f1, f2⟩ := foldCells v (i' * k) arr
        have hle : i' * k + k ≤ arr.size := by
          rw [h1]
          have : (i' + 1) * k ≤ es.length * k := Nat.mul_le_mul_right _ (by omega)
          rw [Nat.add_mul] at this; omega
        obtain ⟨arr', g1, g2, g3⟩ := fillE_sound hk parts vs (es.set i' (ds.map normC)) (v.cells.zipIdx.foldl (fun cs (c, j) => cs.setIfInBounds (i' * k + j) c) arr) r (by simpa using hlen)
          (fun j a b => by have := hv (j + 1) (by simp; omega) (by simp; omega); simpa using this)
          ⟨by rw [f1]; simpa using h1, fun e he => by
              rcases List.mem_or_eq_of_mem_set he with he | rfl
              · exact h2 e he
              · exact ⟨by simpa using hc.1, fun c hc' => by
                  simp only [List.mem_map] at hc'
                  obtain ⟨d, hd, rfl⟩ := hc'
                  exact normC_cell (e2 d hd)⟩, fun j hj => by
              simp only [List.length_set] at hj
              rw [List.getElem_set]
              split
              · rename_i he
                subst he
                refine RepL.congr (fun m hm => ?_) (normL_rep e3)
                rw [List.length_map] at hm
                rw [f2, if_pos ⟨by omega, by omega, by omega⟩]
                congr 1; omega
              · rename_i hne
                refine RepL.congr (fun m hm => ?_) (h3 j hj)
                rw [(h2 _ (List.getElem_mem hj)).1] at hm
                rw [f2, if_neg]
                intro ⟨a1, a2, _⟩
                have : v.cells.size = k := by omega
                rcases Nat.lt_or_gt_of_ne hne with hlt | hgt
                · have : (i' + 1) * k ≤ j * k := Nat.mul_le_mul_right _ hlt
                  rw [Nat.add_mul] at this; omega
                · have : (j + 1) * k ≤ i' * k := Nat.mul_le_mul_right _ hgt
                  rw [Nat.add_mul] at this; omega⟩
          h
        refine ⟨arr', ?_, g2, by simpa using g3⟩
        simp only [Instr.fill]
        rw [if_neg (by simp; omega)]
        exact g1
      · cases h
    · cases h
  | [], _ :: _, _, _, _, hl, _, _, _ => by simp at hl
  | _ :: _, [], _, _, _, hl, _, _, _ => by simp at hl
theorem made_at (z : Array Value) (n k i j : Nat) (hz : z.size = k) (hi : i < n) (hj : j < k) :
    (((Array.range (n * k)).map (z[· % z.size]!) : Array Value)[i * k + j]?) = z[j]? := by
  have hlt : i * k + j < n * k := by
    have : (i + 1) * k ≤ n * k := Nat.mul_le_mul_right _ hi
    rw [Nat.add_mul] at this; omega
  have hmod : (i * k + j) % z.size = j := by rw [hz, Nat.mul_comm, Nat.mul_add_mod]; exact Nat.mod_eq_of_lt hj
  rw [Array.getElem?_eq_getElem (by simpa using hlt), Array.getElem?_eq_getElem (by omega)]
  simp only [Array.getElem_map, Array.getElem_range, hmod]
  rw [getElem!_pos z j (by omega)]
theorem made_elems {t : TypeId} {y : Ty} (hf : TyFact P t y) {z : Value} (hz : z.cells.toList.map const1 = y.zero) (n : Nat) :
    ElemsIn σ w y.size (List.replicate n y.zero) ((Array.range (n * y.size)).map (z.cells[· % z.cells.size]!)) := by
  have hzs : z.cells.size = y.size := by rw [← hf.size, ← hz]; simp
  refine ⟨by simp, fun e he => ?_, fun i hi => ?_⟩
  · rw [List.mem_replicate] at he
    rw [he.2]
    exact ⟨hf.size, fun c hc => List.all_eq_true.1 hf.cell c hc⟩
  · simp only [List.length_replicate] at hi
    rw [List.getElem_replicate]
    have h0 := repL_const1 σ w z.cells.toList
    rw [hz] at h0
    refine RepL.congr (fun j hj => ?_) h0
    rw [hf.size] at hj
    rw [made_at _ _ _ _ _ hzs hi hj]
    simp
def putH (H : Nat → Option AO) (key : Nat) : Option Row → Nat → Option AO
  | none => H
  | some r => updH H key (.row r)
def Does (P : Program) (B0 : Nat) (S0 : Fr) (w : World) (H : Nat → Option AO) (σ : Sg) (key : Nat) (x : Sem Value) (r : AV) (nr : Option Row) : Prop :=
  ∃ v w' σ', x.run P w = .ok v w' ∧ Below B0 w w' ∧ Le σ σ' w w' ∧ Inv B0 S0 w' (putH H key nr) σ' ∧ Rep σ' w' r v
theorem Does.quiet (hi : Inv B0 S0 w H σ) {key : Nat} {x : Sem Value} {r : AV} (h : ∃ v, x.run P w = .ok v w ∧ Rep σ w r v) : Does P B0 S0 w H σ key x r none := by
  obtain ⟨v, h1, h2⟩ := h
  exact ⟨v, w, σ, h1, Below.refl _ _, hi.le_heap (fun _ _ => rfl), hi, h2⟩
theorem Does.push (hi : Inv B0 S0 w H σ) (hB : B0 ≤ w.heap.size) {key : Nat} (hf : H key = none) {k : Nat} {es : List (List AV)} {t : TypeId} {arr : Array Value} {x : Sem Value} {r : AV} {v : Value}
    (hE : ElemsIn σ w k es arr) (hlen : es.length ≤ maxLen)
    (hrun : x.run P w = .ok v (w.alloc (.cells arr t)))
    (hv : (r = .ref key 0 es.length ∧ v = .slice (some ⟨w.heap.size, 0, none⟩) es.length es.length) ∨ (r = .ptr key 0 0 1 ∧ es.length = 1 ∧ v = .pointer (some ⟨w.heap.size, 0, none⟩))) :
    Does P B0 S0 w H σ key x r (some { k := k, es := es, ty := t }) := by
  obtain ⟨h1, h2, h3⟩ := hE
  have hinv := hi.push hf hB { k := k, es := es, ty := t } es.length arr (Nat.le_refl _) hlen h1 rfl rfl h2 h3
  refine ⟨v, w.alloc (.cells arr t), _, hrun, (Below.refl _ _).alloc hB _, hi.le_push hf _, hinv, ?_⟩
  rcases hv with ⟨rfl, rfl⟩ | ⟨rfl, hone, rfl⟩
  · simp only [Rep]
    refine ⟨.inl rfl, some ⟨w.heap.size, 0, none⟩, es.length, rfl, Nat.le_refl _, hlen, fun hn => ⟨w.heap.size, by simp [Sg.push], by simp [Sg.push], by simp [Sg.push]⟩, fun _ _ => .inr ⟨w.heap.size, by simp [Sg.push], rfl, by simp [Sg.push]⟩⟩
  · simp only [Rep]
    exact ⟨w.heap.size, by simp [Sg.push], by simp [Sg.push], by omega, by simp [Sg.push, hone]⟩
end
end Go.Pg

namespace Go.Pg
open Go Go.RowKit
def builtA (T : TypeId → Option Ty) (t : TypeId) (parts : List (Nat × AV)) : Option AV :=
  match T t with
  | some { d := .st fs, zero, .. } =>
    if fs.all (fun p => (T p.2).isSome) then (fillA (fun i => (fs[i]?).map fun p => (p.1, ((T p.2).map (·.size)).getD 0)) zero parts).map .agg else none
  | some { d := .arr _ e, zero, .. } => match T e with
    | some y => (fillA (fun i => some (i * y.size, y.size)) zero parts).map .agg
    | none => none
  | _ => none
def listA : List (Nat × Operand) → (Operand → AV) → List (Nat × AV)
  | [], _ => []
  | p :: ps, ev => (p.1, ev p.2) :: listA ps ev
def evsA : List Operand → (Operand → AV) → List AV
  | [], _ => []
  | p :: ps, ev => ev p :: evsA ps ev
def stepA (T : TypeId → Option Ty) (eqT : TypeId → Bool) (H : Nat → Option AO) (ev : Operand → AV) (key : Nat) : Op → Option (AV × Option Row)
  | .move x => some (ev x, none)
  | .assign x => some (ev x, none)
  | .pick c a b => match ev c with
    | .v (.bool t) => some (if t then ev a else ev b, none)
    | _ => none
  | .alloc t => match T t with
    | some y => some (.ptr key 0 0 1, some { k := y.size, es := [y.zero], ty := t })
    | none => none
  | .box t x => match cellsA (ev x) with
    | some cs => some (.ptr key 0 0 1, some { k := cs.length, es := [cs], ty := t })
    | none => none
  | .build t parts => (builtA T t (listA parts.toList ev)).map (·, none)
  | .buildSlice t len parts => match T t with
    | some { d := .slice e, .. } => match T e with
      | some y => if 0 < y.size ∧ len * y.size ≤ 16777216 then (fillE y.size (List.replicate len y.zero) (listA parts.toList ev)).map fun es => (.ref key 0 len, some { k := y.size, es := es, ty := e }) else none
      | none => none
    | _ => none
  | .load t a => (loadA T H t (ev a)).map (·, none)
  | .nilCheck x => match ev x with
    | .iptr e j => some (.iptr e j, none)
    | .ptr id i j tag => some (.ptr id i j tag, none)
    | _ => none
  | .binOp op t x y _ => (binA T eqT op t (ev x) (ev y)).map (·, none)
  | .unOp op _ x => (unA op (ev x)).map (·, none)
  | .convert s d x => (convA T s d (ev x)).map (·, none)
  | .makeFunc (.func f) first cs => if first.size = 0 then some (.clo f (evsA cs.toList ev), none) else none
  | .makeSlice t l c => match T t, ev l, ev c with
    | some { d := .slice e, .. }, .v (.int _ n), .v (.int _ m) => match T e with
      | some y => if 0 ≤ n ∧ n = m ∧ n * y.bytes ≤ 281474976710656 ∧ n ≤ 281474976710656 then some (.ref key 0 n.toNat, some { k := y.size, es := List.replicate n.toNat y.zero, ty := e }) else none
      | none => none
    | _, _, _ => none
  | .slice t x lo hi none => (sliceA T H t (ev x) (lo.map ev) (hi.map ev)).map (·, none)
  | .fieldAddr s x f => (fieldAddrA T s (ev x) f).map (·, none)
  | .field s x f => (fieldA T s (ev x) f).map (·, none)
  | .indexAddr t x i => (indexAddrA T H t (ev x) (ev i)).map (·, none)
  | .index t x i => (indexA T t (ev x) (ev i)).map (·, none)
  | .extract t i => (extractA (ev t) i).map (·, none)
  | .lookup t m k ok => (lookupA T eqT H t (ev m) (ev k) ok).map (·, none)
  | .call { callee := .builtin .len, args, argTypes } => match args.toList, argTypes.toList with
    | [x], [t] => (lenA T t (ev x)).map (·, none)
    | _, _ => none
  | .call { callee := .builtin .min, args, .. } => (minA .min (evsA args.toList ev)).map (·, none)
  | .call { callee := .builtin .max, args, .. } => (minA .max (evsA args.toList ev)).map (·, none)
  | _ => none
section
variable {P : Program} {T : TypeId → Option Ty} {B0 : Nat} {S0 : Fr} {w : World} {H : Nat → Option AO} {σ : Sg}
theorem boundA_sound {x : Option AV} {v : Option Value} {d n : Nat} (hx : ∀ a, x = some a → ∃ u, v = some u ∧ Rep σ w a u) (hn : x = none → v = none) (h : boundA x d = some n) :
    (v = none ∧ n = d) ∨ ∃ k, v = some (.int k (n : Int)) := by
  unfold boundA at h
  split at h
  · injection h with h; exact .inl ⟨hn rfl, h.symm⟩
  · rename_i k i
    split at h
    · rename_i hi
      injection h with h
      obtain ⟨u, hu, hr⟩ := hx _ rfl
      simp only [Rep] at hr; subst hr
      refine .inr ⟨k, ?_⟩
      rw [hu]; congr 2; omega
    · cases h
  · cases h
theorem run_bounds {b : Bool} {len cap l h : Nat} {lo hi : Option Value} (h1 : (lo = none ∧ l = 0) ∨ ∃ k, lo = some (.int k (l : Int))) (h2 : (hi = none ∧ h = len) ∨ ∃ k, hi = some (.int k (h : Int)))
    (hl : l ≤ h) (hh : h ≤ cap) : (Instr.sliceBounds b len cap lo hi none).run P w = .ok (l, h, cap) w := by
  rcases h1 with ⟨rfl, rfl⟩ | ⟨k1, rfl⟩ <;> rcases h2 with ⟨rfl, rfl⟩ | ⟨k2, rfl⟩ <;> simp [Instr.sliceBounds, Instr.sliceBound, asIntOf, hl, hh]
theorem sliceA_sound (hT : TyOK P T) (hi : Inv B0 S0 w H σ) {t : TypeId} {x r : AV} {u : Value} {lo hi' : Option AV} {vlo vhi : Option Value} (hr : Rep σ w x u)
    (hlo : ∀ a, lo = some a → ∃ u, vlo = some u ∧ Rep σ w a u) (nlo : lo = none → vlo = none) (hhi : ∀ a, hi' = some a → ∃ u, vhi = some u ∧ Rep σ w a u) (nhi : hi' = none → vhi = none)
    (h : sliceA T H t x lo hi' = some r) : ∃ v, (Instr.sliceAt t u vlo vhi none).run P w = .ok v w ∧ Rep σ w r v := by
  unfold sliceA at h
  split at h
  · rename_i s ht
    split at h
    · rename_i l hh hl1 hh1
      split at h
      · rename_i hc
        injection h with h; subst h
        simp only [Rep] at hr; subst hr
        have hu := (hT t _ ht).str rfl
        refine ⟨.string (s.extract l hh), ?_, rfl⟩
        have hb := run_bounds (P := P) (w := w) (b := false) (len := s.size) (cap := s.size) (boundA_sound hlo nlo hl1) (boundA_sound hhi nhi hh1) hc.1 hc.2
        simp [Instr.sliceAt, Instr.slice, run_underlying hu, hb]
      · cases h
    · cases h
  · rename_i e es ht
    split at h
    · rename_i y l hh hy hl1 hh1
      split at h
      · rename_i hc
        obtain ⟨hc1, hc2, hc3⟩ := hc
        injection h with h; subst h
        simp only [Rep] at hr
        obtain ⟨A, cap, k, rfl, g1, g2, g3, g4⟩ := hr
        have hu := (hT t _ ht).slice rfl
        have hb := run_bounds (P := P) (w := w) (b := true) (len := es.length) (cap := cap) (boundA_sound hlo nlo hl1) (boundA_sound hhi nhi hh1) hc1 (by omega)
        refine ⟨_, by simp only [Instr.sliceAt, Instr.slice, run_underlying hu, Sem.run_bind, Result.andThen_ok, hb, (hT e y hy).run_size, Sem.run_pure]; rfl, ?_⟩
        simp only [Rep]
        have hlen : ((es.take hh).drop l).length = hh - l := by simp; omega
        refine ⟨_, cap - l, k, by rw [hlen], by omega, by omega, fun e he => g3 e (List.mem_of_mem_take (List.mem_of_mem_drop he)), fun hne => ?_⟩
        have hpos : l < hh := by
          rcases Nat.lt_or_ge l hh with h | h
          · exact h
          · exact absurd (List.eq_nil_of_length_eq_zero (by omega)) hne
        obtain ⟨b, o, rfl, hS, hR⟩ := g4 (fun he => by subst he; simp at hc2; omega)
        have hk : k = y.size := by
          have hm : es[0]'(by omega) ∈ es := List.getElem_mem _
          rw [← (g3 _ hm).1]; exact hc3 _ hm
        refine ⟨b, o + l * k, by rw [if_neg (by omega)]; simp [Addr.add_lit, hk], hS, ?_⟩
        rw [repLL_iff] at hR ⊢
        intro i hi
        have := hR (l + i) (by omega)
        have he : ((es.take hh).drop l)[i] = es[l + i]'(by omega) := by simp
        rw [he]
        refine RepL.congr (fun j hj => ?_) this
        congr 2
        rw [Nat.add_mul]; omega
      · cases h
    · cases h
  · rename_i e id off n ht
    split at h
    · rename_i y r' l hh hy hrow hl1 hh1
      split at h
      · rename_i hc
        obtain ⟨hc1, hc2, hc3⟩ := hc
        injection h with h; subst h
        simp only [Rep] at hr
        obtain ⟨hal, A, cap, rfl, g1, g2, g3, g4⟩ := hr
        have hR := hi.row id r' (rowAt_eq hrow)
        have hu := (hT t _ ht).slice rfl
        have hb := run_bounds (P := P) (w := w) (b := true) (len := n) (cap := cap) (boundA_sound hlo nlo hl1) (boundA_sound hhi nhi hh1) hc1 (by omega)
        refine ⟨_, by simp only [Instr.sliceAt, Instr.slice, run_underlying hu, Sem.run_bind, Result.andThen_ok, hb, (hT e y hy).run_size, Sem.run_pure]; rfl, ?_⟩
        simp only [Rep]
        refine ⟨hal, _, cap - l, rfl, by omega, by omega, fun hne => ?_, fun h0 hl' => ?_⟩
        · obtain ⟨b, rfl, hown, hext⟩ := g3 (by omega)
          refine ⟨b, by rw [if_neg (by clear g3 g4; omega)]; simp [Addr.add_lit, hR.k, hc3, Nat.add_mul], hown, by clear g3 g4; omega⟩
        · have hl0 : l = 0 := by omega
          have hoff : off = 0 := by omega
          subst hl0; subst hoff
          have hn : n = σ.len id := by
            have h1 : n ≤ σ.len id := by
              by_cases hn0 : n = 0
              · clear g3 g4; omega
              · obtain ⟨b, _, hown, hext⟩ := g3 hn0
                have := (hR.own b hown).2.1; rw [hR.len]; clear g3 g4; omega
            clear g3 g4; omega
          rcases g4 rfl hn with ⟨a1, a2, rfl, a4⟩ | ⟨b, a1, rfl, a3⟩
          · exact .inl ⟨a1, by omega, by simp, by omega⟩
          · exact .inr ⟨b, a1, by simp [Addr.add], by omega⟩
      · cases h
    · cases h
  · cases h
theorem listA_len (ps : List (Nat × Operand)) (ev : Operand → AV) : (listA ps ev).length = ps.length := by
  induction ps <;> simp_all [listA]
theorem listA_get (ps : List (Nat × Operand)) (ev : Operand → AV) : ∀ i (h : i < (listA ps ev).length) (h' : i < ps.length), (listA ps ev)[i] = (ps[i].1, ev ps[i].2) := by
  induction ps with
  | nil => intro i h; simp [listA] at h
  | cons p ps ih =>
    intro i h h'
    cases i with
    | zero => rfl
    | succ i => simpa [listA] using ih i (by simpa [listA] using h) (by simpa using h')
theorem evsA_map (ps : List Operand) (ev : Operand → AV) : evsA ps ev = ps.map ev := by
  induction ps <;> simp_all [evsA]
theorem places_run (hT : TyOK P T) (fs : Array Field) (hall : (fs.toList.map fun f => (f.offset, f.type)).all (fun p => (T p.2).isSome) = true) :
    (fs.mapM fun f => (do pure (f.offset, ← sizeOf f.type) : Sem (Nat × Nat))).run P w = .ok (fs.map fun f => (f.offset, ((T f.type).map (·.size)).getD 0)) w := by
  rw [Array.mapM_eq_mapM_toList]
  have key : ∀ l : List Field, (l.map fun f => (f.offset, f.type)).all (fun p => (T p.2).isSome) = true →
      (l.mapM fun f => (do pure (f.offset, ← sizeOf f.type) : Sem (Nat × Nat))).run P w = .ok (l.map fun f => (f.offset, ((T f.type).map (·.size)).getD 0)) w := by
    intro l
    induction l with
    | nil => intro _; simp
    | cons f l ih =>
      intro h
      simp only [List.map_cons, List.all_cons, Bool.and_eq_true] at h
      obtain ⟨h1, h2⟩ := h
      obtain ⟨y, hy⟩ := Option.isSome_iff_exists.1 h1
      simp only [List.mapM_cons, Sem.run_bind, (hT _ y hy).run_size, Result.andThen_ok, Sem.run_pure, ih h2, List.map_cons, hy, Option.map_some, Option.getD_some]
  simp only [Sem.run_map, key _ hall, Result.andThen_ok]
  congr 1
  rw [← Array.toList_inj]; simp
theorem builtA_sound (hT : TyOK P T) {a : Act} {ev : Operand → AV} (hev : ∀ x, Rep σ w (ev x) (a.eval x)) {t : TypeId} {parts : Array (Nat × Operand)} {r : AV} (h : builtA T t (listA parts.toList ev) = some r) :
    ∃ v, (Instr.build t (parts.map fun ((i, x) : Nat × Operand) => (i, a.eval x))).run P w = .ok v w ∧ Rep σ w r v := by
  have hvs : ∀ i (h : i < (listA parts.toList ev).length) (h' : i < (parts.map fun ((i, x) : Nat × Operand) => (i, a.eval x)).toList.length), ((parts.map fun ((i, x) : Nat × Operand) => (i, a.eval x)).toList[i]).1 = (listA parts.toList ev)[i].1 ∧ Rep σ w (listA parts.toList ev)[i].2 ((parts.map fun ((i, x) : Nat × Operand) => (i, a.eval x)).toList[i]).2 := by
    intro i h h'
    rw [listA_get _ _ i h (by rw [listA_len] at h; exact h)]
    simp only [Array.toList_map, List.getElem_map, true_and]
    exact hev _
  have hlen : (parts.map fun ((i, x) : Nat × Operand) => (i, a.eval x)).toList.length = (listA parts.toList ev).length := by rw [listA_len]; simp
  unfold builtA at h
  split at h
  · rename_i sz by_ z fs ht
    split at h
    · rename_i hall
      simp only [Option.map_eq_some_iff] at h
      obtain ⟨cs, hcs, rfl⟩ := h
      have hf := hT t _ ht
      obtain ⟨fa, hu, hm⟩ := hf.st rfl
      obtain ⟨zv, hz, hzc⟩ := hf.run_zero w
      subst hm
      simp only at hzc
      have h0 := repL_const1 σ w zv.cells.toList
      rw [hzc] at h0
      have hzl : zv.cells.size = z.length := by rw [← hzc]; simp
      have hpl : (fun (i : Nat) => ((fa.toList.map fun f => (f.offset, f.type))[i]?).map fun (p : Nat × TypeId) => (p.1, ((T p.2).map (·.size)).getD 0)) = fun i => (fa.map fun f => (f.offset, ((T f.type).map (·.size)).getD 0))[i]? := by
        funext i
        simp only [List.getElem?_map, Array.getElem?_map, Array.getElem?_toList]
        cases fa[i]? <;> rfl
      rw [hpl] at hcs
      obtain ⟨arr', g1, g2, g3, g4⟩ := fillA_sound (σ := σ) (w := w) (listA parts.toList ev) (parts.map fun ((i, x) : Nat × Operand) => (i, a.eval x)).toList z zv.cells cs hlen hvs hzl (fun c hc => List.all_eq_true.1 hf.cell c hc) (by simpa using h0) hcs
      refine ⟨.agg arr', ?_, by simp only [Rep]; exact ⟨arr', rfl, g2, g3, g4⟩⟩
      simp only [Instr.build, Sem.run_bind, hz, Result.andThen_ok, run_underlying hu, places_run hT fa hall, g1, Sem.run_pure]
    · cases h
  · rename_i sz by_ z n e ht
    split at h
    · rename_i y hy
      simp only [Option.map_eq_some_iff] at h
      obtain ⟨cs, hcs, rfl⟩ := h
      have hf := hT t _ ht
      have hu := hf.arr rfl
      obtain ⟨zv, hz, hzc⟩ := hf.run_zero w
      simp only at hzc
      have h0 := repL_const1 σ w zv.cells.toList
      rw [hzc] at h0
      have hzl : zv.cells.size = z.length := by rw [← hzc]; simp
      obtain ⟨arr', g1, g2, g3, g4⟩ := fillA_sound (σ := σ) (w := w) (listA parts.toList ev) (parts.map fun ((i, x) : Nat × Operand) => (i, a.eval x)).toList z zv.cells cs hlen hvs hzl (fun c hc => List.all_eq_true.1 hf.cell c hc) (by simpa using h0) hcs
      refine ⟨.agg arr', ?_, by simp only [Rep]; exact ⟨arr', rfl, g2, g3, g4⟩⟩
      simp only [Instr.build, Sem.run_bind, hz, Result.andThen_ok, run_underlying hu, (hT e y hy).run_size, g1, Sem.run_pure]
    · cases h
  · cases h
theorem repL_evs {a : Act} {ev : Operand → AV} (hev : ∀ x, Rep σ w (ev x) (a.eval x)) (ps : Array Operand) : RepL σ w (evsA ps.toList ev) (fun i => (ps.map a.eval)[i]?) := by
  rw [repL_iff', evsA_map]
  intro i c hc
  simp only [List.getElem?_map, Option.map_eq_some_iff] at hc
  obtain ⟨x, hx, rfl⟩ := hc
  rw [Array.getElem?_toList] at hx
  exact ⟨a.eval x, by simp [hx], hev x⟩
theorem makeA_sound (hT : TyOK P T) (hi : Inv B0 S0 w H σ) (hB : B0 ≤ w.heap.size) {key : Nat} (hf : H key = none) {t e : TypeId} {sz by_ : Nat} {z : List AV} {y : Ty} {k1 k2 : IntKind} {n : Int}
    (ht : T t = some { size := sz, bytes := by_, zero := z, d := .slice e }) (hy : T e = some y) (h0 : 0 ≤ n) (hb : n * y.bytes ≤ 281474976710656) (hm : n ≤ 281474976710656) :
    Does P B0 S0 w H σ key (Instr.makeSlice t (.int k1 n) (.int k2 n)) (.ref key 0 n.toNat) (some { k := y.size, es := List.replicate n.toNat y.zero, ty := e }) := by
  have hfy := hT e y hy
  obtain ⟨i, zv, g1, g2, g3, g4, g5⟩ := hfy.get
  have hel := made_elems (σ := σ) (w := w) hfy g5 n.toNat
  have hrun := run_make (P := P) w t e i zv ((hT t _ ht).slice rfl) g1 g4 k1 k2 n n h0 (Int.le_refl _) (by rw [g3, Int.mul_comm]; exact hb) (by omega)
  have hlr : (List.replicate n.toNat y.zero).length = n.toNat := by simp
  rw [g2] at hrun
  have hmx : (List.replicate n.toNat y.zero).length ≤ maxLen := by rw [hlr]; simp only [maxLen]; omega
  exact Does.push (t := e) hi hB hf hel hmx hrun (.inl ⟨by rw [hlr], by rw [hlr]⟩)
theorem sliceLitA_sound (hT : TyOK P T) (hi : Inv B0 S0 w H σ) (hB : B0 ≤ w.heap.size) {key : Nat} (hf : H key = none) {a : Act} {ev : Operand → AV} (hev : ∀ x, Rep σ w (ev x) (a.eval x)) {t e : TypeId} {sz by_ len : Nat} {z : List AV} {y : Ty}
    {parts : Array (Nat × Operand)} {es : List (List AV)} (ht : T t = some { size := sz, bytes := by_, zero := z, d := .slice e }) (hy : T e = some y) (hc1 : 0 < y.size) (hc2 : len * y.size ≤ 16777216)
    (hes : fillE y.size (List.replicate len y.zero) (listA parts.toList ev) = some es) :
    Does P B0 S0 w H σ key (Instr.buildSlice t len (parts.map fun ((i, x) : Nat × Operand) => (i, a.eval x))) (.ref key 0 len) (some { k := y.size, es := es, ty := e }) := by
  have hfy := hT e y hy
  obtain ⟨zv, hz, hzc⟩ := hfy.run_zero w
  have hel := made_elems (σ := σ) (w := w) hfy hzc len
  obtain ⟨arr', g1, g2, g3⟩ := fillE_sound hc1 (listA parts.toList ev) (parts.map fun ((i, x) : Nat × Operand) => (i, a.eval x)).toList (List.replicate len y.zero) _ es (by rw [listA_len]; simp)
    (fun i h h' => by
      rw [listA_get _ _ i h (by rw [listA_len] at h; exact h)]
      simp only [Array.toList_map, List.getElem_map, true_and]
      exact hev _) hel hes
  have hlen : es.length = len := by simpa using g3
  subst hlen
  have hmax : es.length ≤ maxLen := by
    have : es.length ≤ es.length * y.size := Nat.le_mul_of_pos_right _ hc1
    simp only [maxLen]; omega
  refine Does.push (arr := arr') (t := e) hi hB hf g2 hmax ?_ (.inl ⟨rfl, rfl⟩)
  simp only [Instr.buildSlice, Sem.run_bind, run_underlying ((hT t _ ht).slice rfl), Result.andThen_ok, hfy.run_size]
  rw [if_neg (by omega)]
  by_cases h0 : es.length * y.size = 0
  · have : es.length = 0 := by
      rcases Nat.mul_eq_zero.1 h0 with h | h
      · exact h
      · omega
    have e0 : Array.range 0 = #[] := rfl
    rw [this, Nat.zero_mul, e0, Array.map_empty] at g1
    rw [this, Nat.zero_mul, e0]
    simp only [if_true, Sem.run_bind, Sem.run_pure, Result.andThen_ok, Array.map_empty, g1, newRow, run_newObj, World.alloc_eq]
  · simp only [h0, if_false, Sem.run_bind, hz, Result.andThen_ok, Sem.run_pure, g1, newRow, run_newObj, World.alloc_eq]
set_option maxHeartbeats 2000000 in
theorem stepA_sound (hT : TyOK P T) {eqT : TypeId → Bool} (hE : ∀ t, eqT t = true → EqFact P t) (hi : Inv B0 S0 w H σ) (hB : B0 ≤ w.heap.size) {key : Nat} (hf : H key = none) {a : Act} {ev : Operand → AV}
    (hev : ∀ x, Rep σ w (ev x) (a.eval x)) {o : Oper} {r : AV} {nr : Option Row} (h : stepA T eqT H ev key o.op = some (r, nr)) :
    ∃ v w' σ', (execOp a.eval o).run P w = .ok (.value v) w' ∧ Below B0 w w' ∧ Le σ σ' w w' ∧ Inv B0 S0 w' (putH H key nr) σ' ∧ Rep σ' w' r v := by
  obtain ⟨dst, op, type, pos, after, guard⟩ := o
  have wrap : ∀ {x : Sem Value}, (execOp a.eval ⟨dst, op, type, pos, after, guard⟩ = (do pure (.value (← x)) : Sem Next)) → Does P B0 S0 w H σ key x r nr →
      ∃ v w' σ', (execOp a.eval ⟨dst, op, type, pos, after, guard⟩).run P w = .ok (.value v) w' ∧ Below B0 w w' ∧ Le σ σ' w w' ∧ Inv B0 S0 w' (putH H key nr) σ' ∧ Rep σ' w' r v := by
    rintro x hx ⟨v, w', σ', h1, h2⟩
    exact ⟨v, w', σ', by rw [hx]; simp [h1], h2⟩
  have quiet : ∀ {x : Sem Value} {c : Option AV}, (execOp a.eval ⟨dst, op, type, pos, after, guard⟩ = (do pure (.value (← x)) : Sem Next)) → c.map (fun y => (y, (none : Option Row))) = some (r, nr) →
      (∀ y, c = some y → ∃ v, x.run P w = .ok v w ∧ Rep σ w y v) → ∃ v w' σ', (execOp a.eval ⟨dst, op, type, pos, after, guard⟩).run P w = .ok (.value v) w' ∧ Below B0 w w' ∧ Le σ σ' w w' ∧ Inv B0 S0 w' (putH H key nr) σ' ∧ Rep σ' w' r v := by
    intro x c hx hc hs
    simp only [Option.map_eq_some_iff, Prod.mk.injEq] at hc
    obtain ⟨y, hy, rfl, rfl⟩ := hc
    exact wrap hx (Does.quiet hi (hs y hy))
  have same : ∀ {v : Value}, (execOp a.eval ⟨dst, op, type, pos, after, guard⟩).run P w = .ok (.value v) w → Rep σ w r v → nr = none → ∃ v w' σ', (execOp a.eval ⟨dst, op, type, pos, after, guard⟩).run P w = .ok (.value v) w' ∧ Below B0 w w' ∧ Le σ σ' w w' ∧ Inv B0 S0 w' (putH H key nr) σ' ∧ Rep σ' w' r v := by
    intro v h1 h2 h3
    subst h3
    exact ⟨v, w, σ, h1, Below.refl _ _, hi.le_heap (fun _ _ => rfl), hi, h2⟩
  simp only at h
  unfold stepA at h
  split at h
  · injection h with h; simp only [Prod.mk.injEq] at h; obtain ⟨rfl, rfl⟩ := h
    exact same (v := a.eval _) rfl (hev _) rfl
  · injection h with h; simp only [Prod.mk.injEq] at h; obtain ⟨rfl, rfl⟩ := h
    exact same (v := a.eval _) rfl (hev _) rfl
  · rename_i c x y
    try dsimp only at h
    split at h
    · rename_i t ht
      injection h with h; simp only [Prod.mk.injEq] at h; obtain ⟨rfl, rfl⟩ := h
      have hc := hev c
      rw [ht] at hc
      simp only [Rep] at hc
      refine same (v := if t then a.eval x else a.eval y) ?_ ?_ rfl
      · simp [execOp, hc, asBool]
      · cases t <;> simp [hev]
    · cases h
  · rename_i t
    try dsimp only at h
    split at h
    · rename_i y ht
      injection h with h; simp only [Prod.mk.injEq] at h; obtain ⟨rfl, rfl⟩ := h
      have hfy := hT t y ht
      obtain ⟨z, hz, hzc⟩ := hfy.run_zero w
      have hzs : z.cells.size = y.size := by rw [← hfy.size, ← hzc]; simp
      refine wrap (x := Instr.alloc t true (.tuple #[])) rfl (Does.push (arr := z.cells) (t := t) hi hB hf ⟨by simp [hzs], ?_, ?_⟩ (by simp [maxLen]) ?_ (.inr ⟨rfl, rfl, rfl⟩))
      · intro e he
        simp only [List.mem_singleton] at he; subst he
        exact ⟨hfy.size, fun c hc => List.all_eq_true.1 hfy.cell c hc⟩
      · intro i hi'
        simp only [List.length_singleton] at hi'
        obtain rfl : i = 0 := by omega
        have h0 := repL_const1 σ w z.cells.toList
        rw [hzc] at h0
        simpa using h0
      · simp [Instr.alloc, hz, newVar, newRow]
    · cases h
  · rename_i t x
    try dsimp only at h
    split at h
    · rename_i cs hcs
      injection h with h; simp only [Prod.mk.injEq] at h; obtain ⟨rfl, rfl⟩ := h
      obtain ⟨e1, e2, e3, e4⟩ := cellsA_spec hcs (hev x)
      refine wrap (x := Instr.box t (a.eval x)) rfl (Does.push (arr := (a.eval x).cells) (t := t) hi hB hf ⟨by simp [e1], ?_, ?_⟩ (by simp [maxLen]) ?_ (.inr ⟨rfl, rfl, rfl⟩))
      · intro e he
        simp only [List.mem_singleton] at he; subst he
        exact ⟨rfl, e2⟩
      · intro i hi'
        simp only [List.length_singleton] at hi'
        obtain rfl : i = 0 := by omega
        simpa using e3
      · simp [Instr.box, newVar, newRow]
    · cases h
  · rename_i t parts
    exact quiet (x := Instr.build t (parts.map fun ((i, x) : Nat × Operand) => (i, a.eval x))) rfl h (fun y hy => builtA_sound hT hev hy)
  · rename_i t len parts
    try dsimp only at h
    split at h
    · rename_i sz by_ z e ht
      split at h
      · rename_i y hy
        split at h
        · rename_i hc
          simp only [Option.map_eq_some_iff, Prod.mk.injEq] at h
          obtain ⟨es, hes, rfl, rfl⟩ := h
          have hd := sliceLitA_sound hT hi hB hf hev ht hy hc.1 hc.2 hes
          refine wrap (x := Instr.buildSlice t len (parts.map fun (p : Nat × Operand) => (p.1, a.eval p.2))) ?_ hd
          simp only [execOp]
        · cases h
      · cases h
    · cases h
  · rename_i t x
    exact quiet (x := Instr.loadAt t (a.eval x)) rfl h (fun y hy => loadA_sound hT hi (hev x) hy)
  · rename_i x
    have hx := hev x
    try dsimp only at h
    split at h
    · rename_i e j hx'
      injection h with h; simp only [Prod.mk.injEq] at h; obtain ⟨rfl, rfl⟩ := h
      rw [hx'] at hx
      refine same (v := a.eval x) ?_ hx rfl
      simp only [Rep] at hx
      obtain ⟨b, o, hv, _⟩ := hx
      simp [execOp, hv]
    · rename_i id i j tag hx'
      injection h with h; simp only [Prod.mk.injEq] at h; obtain ⟨rfl, rfl⟩ := h
      rw [hx'] at hx
      refine same (v := a.eval x) ?_ hx rfl
      simp only [Rep] at hx
      obtain ⟨b, hv, _⟩ := hx
      simp [execOp, hv]
    · cases h
  · rename_i bop t x y yt
    exact quiet (x := do eqGuard bop t x y (a.eval x) (a.eval y); binOp bop t (a.eval x) (a.eval y)) rfl h (fun z hz => binA_sound hT hE (hev x) (hev y) hz)
  · rename_i uop t x
    exact quiet (x := Op.unary uop (a.eval x)) rfl h (fun z hz => unA_sound (hev x) hz)
  · rename_i s d x
    exact quiet (x := convert s d (a.eval x)) rfl h (fun z hz => convA_sound hT (hev x) hz)
  · rename_i f first cs
    try dsimp only at h
    split at h
    · rename_i h0
      injection h with h; simp only [Prod.mk.injEq] at h; obtain ⟨rfl, rfl⟩ := h
      have he : first = #[] := Array.eq_empty_of_size_eq_zero h0
      subst he
      refine same (v := .func (.func f) #[] (cs.map a.eval)) (by simp [execOp, Instr.makeFunc]) ?_ rfl
      simp only [Rep]
      exact ⟨_, rfl, by simp [evsA_map], repL_evs hev cs⟩
    · cases h
  · rename_i t l c
    try dsimp only at h
    split at h
    · rename_i sz by_ z e k1 n k2 m ht hl hc
      split at h
      · rename_i y hy
        split at h
        · rename_i hc'
          obtain ⟨h0, rfl, hb, hm⟩ := hc'
          injection h with h; simp only [Prod.mk.injEq] at h; obtain ⟨rfl, rfl⟩ := h
          have hfy := hT e y hy
          have hvl := hev l
          have hvc := hev c
          rw [hl] at hvl; rw [hc] at hvc
          simp only [Rep] at hvl hvc
          have hd := makeA_sound (P := P) (k1 := k1) (k2 := k2) hT hi hB hf ht hy h0 hb hm
          rw [← hvl, ← hvc] at hd
          exact wrap (x := Instr.makeSlice t (a.eval l) (a.eval c)) rfl hd
        · cases h
      · cases h
    · cases h
  · rename_i t x lo hi'
    refine quiet (x := Instr.sliceAt t (a.eval x) (lo.map a.eval) (hi'.map a.eval) none) rfl h (fun z hz => sliceA_sound hT hi (hev x) ?_ ?_ ?_ ?_ hz)
    · intro y hy; simp only [Option.map_eq_some_iff] at hy; obtain ⟨p, rfl, rfl⟩ := hy; exact ⟨_, rfl, hev p⟩
    · intro hy; simp only [Option.map_eq_none_iff] at hy; subst hy; rfl
    · intro y hy; simp only [Option.map_eq_some_iff] at hy; obtain ⟨p, rfl, rfl⟩ := hy; exact ⟨_, rfl, hev p⟩
    · intro hy; simp only [Option.map_eq_none_iff] at hy; subst hy; rfl
  · rename_i s x f
    exact quiet (x := Instr.fieldAt s (a.eval x) f) rfl h (fun z hz => fieldAddrA_sound hT (hev x) hz)
  · rename_i s x f
    exact quiet (x := Instr.field s (a.eval x) f) rfl h (fun z hz => fieldA_sound hT (hev x) hz)
  · rename_i t x i
    exact quiet (x := Instr.indexAt t (a.eval x) (a.eval i)) rfl h (fun z hz => indexAddrA_sound hT hi (hev x) (hev i) hz)
  · rename_i t x i
    exact quiet (x := Instr.index t (a.eval x) (a.eval i)) rfl h (fun z hz => indexA_sound hT (hev x) (hev i) hz)
  · rename_i t i
    exact quiet (x := Instr.extract (a.eval t) i) rfl h (fun z hz => extractA_sound (hev t) hz)
  · rename_i t m k ok
    exact quiet (x := Instr.lookup t (a.eval m) (a.eval k) ok) rfl h (fun z hz => lookupA_sound hT hE hi (hev m) (hev k) hz)
  · rename_i args argTypes
    try dsimp only at h
    split at h
    · rename_i x t hx ht
      obtain rfl : args = #[x] := by rw [← Array.toList_inj]; simpa using hx
      obtain rfl : argTypes = #[t] := by rw [← Array.toList_inj]; simpa using ht
      simp only [Option.map_eq_some_iff, Prod.mk.injEq] at h
      obtain ⟨y, hy, rfl, rfl⟩ := h
      obtain ⟨v, hv, hrv⟩ := lenA_sound (ty := type) hT (hev x) hy
      exact same (v := v) (by simp [execOp, resolve, invoke, builtin, hv]) hrv rfl
    · cases h
  · rename_i args argTypes
    simp only [Option.map_eq_some_iff, Prod.mk.injEq] at h
    obtain ⟨y, hy, rfl, rfl⟩ := h
    obtain ⟨v, hv, hrv⟩ := minA_sound (P := P) (tys := argTypes) (t := type) (us := (args.map a.eval).toList) (.inl rfl) (by simp [evsA_map]) (by simpa using repL_evs hev args) hy
    rw [Array.toArray_toList] at hv
    refine same (v := v) ?_ hrv rfl
    simp only [execOp, resolve, invoke, Sem.run_bind, Sem.run_pure, Result.andThen_ok]
    exact hv _
  · rename_i args argTypes
    simp only [Option.map_eq_some_iff, Prod.mk.injEq] at h
    obtain ⟨y, hy, rfl, rfl⟩ := h
    obtain ⟨v, hv, hrv⟩ := minA_sound (P := P) (tys := argTypes) (t := type) (us := (args.map a.eval).toList) (.inr rfl) (by simp [evsA_map]) (by simpa using repL_evs hev args) hy
    rw [Array.toArray_toList] at hv
    refine same (v := v) ?_ hrv rfl
    simp only [execOp, resolve, invoke, Sem.run_bind, Sem.run_pure, Result.andThen_ok]
    exact hv _
  · cases h
end
end Go.Pg

namespace Go.Pg
open Go Go.RowKit
structure St where
  tm : Nat → AV
  H : Nat → Option AO
  nx : Nat
def upd (f : Nat → AV) (t : Nat) (x : AV) : Nat → AV := fun u => if u = t then x else f u
def St.ev (s : St) : Operand → AV
  | .tmp t => s.tm t
  | .const v => constA v
  | .func f => .clo f []
  | .global _ => .junk
def St.put (s : St) (d : Nat) (r : AV) (nr : Option Row) : St :=
  { tm := upd s.tm d r, H := putH s.H s.nx nr, nx := match nr with | none => s.nx | some _ => s.nx + 1 }
structure Cx where
  P : Program
  T : TypeId → Option Ty
  eqT : TypeId → Bool
  E : World → Prop
  F' : { F : Fence // F.Open } := ⟨Fence.wide, .inl rfl⟩
abbrev Cx.F (C : Cx) : Fence := C.F'.1
theorem Cx.hF (C : Cx) : C.F.Open := C.F'.2
class Cx.Wide (C : Cx) : Prop where
  h : C.F = Fence.wide
structure Cx.OK (C : Cx) : Prop where
  T : TyOK C.P C.T
  eqT : ∀ t, C.eqT t = true → EqFact C.P t
  E : ∀ w w', Below w.heap.size w w' → C.E w → C.E w'
structure SimG (S0 : Fr) (w0 : World) (N : Nat) (a : Act) (w : World) (s : St) (σ : Sg) : Prop where
  inv : Inv w0.heap.size S0 w s.H σ
  nx : ∀ id, s.nx ≤ id → s.H id = none
  tm : ∀ t, Rep σ w (s.tm t) (a.tmps.getD t undef)
  N : a.tmps.size = N
  d : a.defers = S0.ds
  below : Below w0.heap.size w0 w
def Sim (S0 : Fr) (w0 : World) (N : Nat) (a : Act) (w : World) (s : St) : Prop := ∃ σ, SimG S0 w0 N a w s σ
section
variable {S0 : Fr} {w0 : World} {N : Nat} {a : Act} {w : World} {s : St} {σ : Sg}
theorem SimG.ev (h : SimG S0 w0 N a w s σ) (x : Operand) : Rep σ w (s.ev x) (a.eval x) := by
  cases x with
  | tmp t => exact h.tm t
  | const v => exact rep_constA σ w v
  | global g => trivial
  | func f => simp only [St.ev, Act.eval, Rep]; exact ⟨#[], rfl, rfl, trivial⟩
theorem SimG.size (h : SimG S0 w0 N a w s σ) : w0.heap.size ≤ w.heap.size := h.below.size
theorem getD_set (xs : Array Value) (d t : Nat) (v : Value) (hd : d < xs.size) : (xs.setIfInBounds d v).getD t undef = if t = d then v else xs.getD t undef := by
  simp only [Array.getD_eq_getD_getElem?, Array.getElem?_setIfInBounds]
  by_cases h : d = t
  · subst h; simp [hd]
  · rw [if_neg h, if_neg (fun e => h e.symm)]
theorem SimG.put (h : SimG S0 w0 N a w s σ) {d : Nat} (hd : d < N) {w' : World} {σ' : Sg} {s' : St} {r : AV} {v : Value} (hinv : Inv w0.heap.size S0 w' s'.H σ') (hnx : ∀ id, s'.nx ≤ id → s'.H id = none)
    (hle : Le σ σ' w w') (hb : Below w0.heap.size w w') (hr : Rep σ' w' r v) (htm : s'.tm = upd s.tm d r) : SimG S0 w0 N (a.put (some d) v) w' s' σ' := by
  refine ⟨hinv, hnx, fun t => ?_, by simp [Act.put, h.N], h.d, h.below.trans hb⟩
  simp only [Act.put]
  rw [getD_set _ _ _ _ (by rw [h.N]; exact hd), htm]
  unfold upd
  split
  · exact hr
  · exact Rep.mono hle _ _ (h.tm t)
end
def AW (C : Cx) (N : Nat) (c : Code) (Q : Exit → St → Prop) (s : St) : Prop :=
  ∀ S0 w0 a w, C.E w0 → Sim S0 w0 N a w s → c.wpIn C.F 0 C.P (fun e a' w' => ∃ s', Sim S0 w0 N a' w' s' ∧ Q e s') a w
def AWL (C : Cx) (N : Nat) (ops : Array Oper) (Q : Exit → St → Prop) (l : List Oper) (s : St) : Prop :=
  ∀ S0 w0 a w, C.E w0 → Sim S0 w0 N a w s → wpListIn C.F 0 C.P ops (fun e a' w' => ∃ s', Sim S0 w0 N a' w' s' ∧ Q e s') l a w
section
variable {C : Cx} {N : Nat} {Q Q' : Exit → St → Prop} {s : St}
theorem AW.mono {c : Code} (h : AW C N c Q s) (hq : ∀ e s, Q e s → Q' e s) : AW C N c Q' s := by
  intro S0 w0 a w hE hs
  exact wpIn_mono (h S0 w0 a w hE hs) fun e a w ⟨s', h1, h3⟩ => ⟨s', h1, hq _ _ h3⟩
theorem AW.skip (h : Q .normal s) : AW C N .skip Q s := fun _ _ _ _ hE hs => wpIn_skip ⟨s, hs, h⟩
theorem AW.label {l : Nat} (h : Q .normal s) : AW C N (.label l) Q s := fun _ _ _ _ hE hs => wpIn_label ⟨s, hs, h⟩
theorem AW.exit {id : Nat} (h : Q (.exit id) s) : AW C N (.exit id) Q s := fun _ _ _ _ hE hs => wpIn_exit ⟨s, hs, h⟩
theorem AW.ret (h : Q .ret s) : AW C N .ret Q s := fun _ _ _ _ hE hs => wpIn_ret ⟨s, hs, h⟩
def thenQ (K : St → Prop) (Q : Exit → St → Prop) : Exit → St → Prop
  | .normal, s => K s
  | e, s => Q e s
theorem AW.seq {x y : Code} (h : AW C N x (thenQ (AW C N y Q) Q) s) : AW C N (.seq x y) Q s := by
  intro S0 w0 a w hE hs
  refine wpIn_seq (wpIn_mono (h S0 w0 a w hE hs) ?_)
  rintro e a' w' ⟨s', h1, h3⟩
  cases e <;> simp only [thenQ, Exit.then] at h3 ⊢
  · exact h3 S0 w0 a' w' hE h1
  all_goals exact ⟨s', h1, h3⟩
theorem AW.cond {c : Operand} {x y : Code} {b : Bool} (hc : s.ev c = .v (.bool b)) (ht : b = true → AW C N x Q s) (hf : b = false → AW C N y Q s) : AW C N (.cond c x y) Q s := by
  intro S0 w0 a w hE hs
  obtain ⟨σ, hσ⟩ := hs
  have := hσ.ev c
  rw [hc] at this
  simp only [Rep] at this
  refine wpIn_cond_split this (fun h => ht h S0 w0 a w hE ⟨σ, hσ⟩) (fun h => hf h S0 w0 a w hE ⟨σ, hσ⟩)
def blockQ (id : Nat) (Q : Exit → St → Prop) : Exit → St → Prop
  | .exit id', s => if id' = id then Q .normal s else Q (.exit id') s
  | e, s => Q e s
theorem AW.block {id : Nat} {c : Code} (h : AW C N c (blockQ id Q) s) : AW C N (.block id c) Q s := by
  intro S0 w0 a w hE hs
  refine wpIn_block (wpIn_mono (h S0 w0 a w hE hs) ?_)
  rintro e a' w' ⟨s', h1, h3⟩
  cases e <;> simp only [blockQ, Exit.inBlock] at h3 ⊢
  case exit i =>
    split at h3 <;> rename_i hi <;> simp only [hi, if_true, if_false] <;> exact ⟨s', h1, h3⟩
  all_goals exact ⟨s', h1, h3⟩
def scopeQ (Q : Exit → St → Prop) : Exit → St → Prop
  | .goto _, _ => False
  | e, s => Q e s
theorem AW.scope [hW : C.Wide] {c : Code} (h : AW C N c (scopeQ Q) s) : AW C N (.scope c) Q s := by
  intro S0 w0 a w hE hs
  have h2 := h S0 w0 a w hE hs
  rw [hW.h] at h2 ⊢
  refine wpIn_scope_wide (wpIn_mono h2 ?_)
  rintro e a' w' ⟨s', h1, h3⟩
  cases e <;> simp only [scopeQ, Exit.noGoto] at h3 ⊢
  all_goals first | exact h3.elim | exact ⟨s', h1, h3⟩
def loopQ (I : Nat → St → Prop) (n : Nat) (Q : Exit → St → Prop) : Exit → St → Prop
  | .normal, s => ∃ m, m < n ∧ I m s
  | e, s => Q e s
theorem AW.loop {c : Code} (I : Nat → St → Prop) (n : Nat) (h0 : I n s) (h : ∀ n s, I n s → AW C N c (loopQ I n Q) s) : AW C N (.loop c) Q s := by
  intro S0 w0 a w hE hs
  refine wpIn_loop_ghost (fun n a w => ∃ s, Sim S0 w0 N a w s ∧ I n s) n ⟨s, hs, h0⟩ ?_
  rintro n a w ⟨s, hs, hI⟩
  refine wpIn_mono (h n s hI S0 w0 a w hE hs) ?_
  rintro e a' w' ⟨s', h1, h3⟩
  cases e <;> simp only [loopQ, Exit.then] at h3 ⊢
  · obtain ⟨m, hm, hI'⟩ := h3; exact ⟨m, hm, s', h1, hI'⟩
  all_goals exact ⟨s', h1, h3⟩
theorem AW.region {id : Nat} {l : List Oper} (h : AWL C N l.toArray Q l s) : AW C N (.region id l.toArray false) Q s := by
  intro S0 w0 a w hE hs
  exact wpIn_region_lit (h S0 w0 a w hE hs)
variable {ops : Array Oper} {rest : List Oper} {o : Oper} {S0 : Fr} {w0 w : World} {a : Act} {σ : Sg}
theorem AWL.nil (h : Q .normal s) : AWL C N ops Q [] s := fun _ _ _ _ hE hs => wpListIn_nil ⟨s, hs, h⟩
theorem put_nx {H : Nat → Option AO} {nx : Nat} (h : ∀ id, nx ≤ id → H id = none) (nr : Option Row) : ∀ id, (match nr with | none => nx | some _ => nx + 1) ≤ id → putH H nx nr id = none := by
  intro id hid
  cases nr with
  | none => exact h id hid
  | some r => simp only [putH, updH]; rw [if_neg (by simp at hid; omega)]; exact h id (by simp at hid; omega)
theorem stepA_nodefer {T : TypeId → Option Ty} {eqT : TypeId → Bool} {H : Nat → Option AO} {ev : Operand → AV} {key : Nat} {op : Op} {r : AV × Option Row} (h : stepA T eqT H ev key op = some r) : ∀ c, op ≠ .defer c := by
  rintro c rfl; simp [stepA] at h
theorem AWL.step (hC : C.OK) (hg : o.guard = none) {d : Nat} (hd : o.dst = some d) (hN : d < N) {r : AV} {nr : Option Row} (h : stepA C.T C.eqT s.H s.ev s.nx o.op = some (r, nr)) (k : AWL C N ops Q rest (s.put d r nr)) :
    AWL C N ops Q (o :: rest) s := by
  rintro S0 w0 a w hE ⟨σ, hσ⟩
  obtain ⟨v, w', σ', h1, h2, h3, h4, h5⟩ := stepA_sound hC.T hC.eqT hσ.inv hσ.size (hσ.nx _ (Nat.le_refl _)) (fun x => hσ.ev x) h
  refine wpListIn_plain hg fun K hK => Oper.wpIn_of_wp C.hF (stepA_nodefer h) ?_
  simp only [Oper.wp, Oper.upon, h1]
  rw [hd]
  have hs' := hσ.put hN (s' := s.put d r nr) h4 (put_nx hσ.nx nr) h3 h2 h5 rfl
  exact hK _ _ (k S0 w0 _ w' hE ⟨σ', hs'⟩)
def runA (T : TypeId → Option Ty) (eqT : TypeId → Bool) (N : Nat) : List Oper → St → Option St
  | [], s => some s
  | o :: rest, s => match o.guard, o.dst with
    | none, some d => if d < N then (match stepA T eqT s.H s.ev s.nx o.op with
      | some (r, nr) => runA T eqT N rest (s.put d r nr)
      | none => none) else none
    | _, _ => none
theorem AWL.run (hC : C.OK) : ∀ (l : List Oper) (s s' : St), runA C.T C.eqT N l s = some s' → AWL C N ops Q rest s' → AWL C N ops Q (l ++ rest) s
  | [], s, s', h, k => by simp only [runA, Option.some.injEq] at h; subst h; exact k
  | o :: l, s, s', h, k => by
    simp only [runA] at h
    split at h
    · rename_i d hg hd
      split at h
      · rename_i hN
        split at h
        · rename_i r nr hst
          exact AWL.step hC hg hd hN hst (AWL.run hC l _ s' h k)
        · cases h
      · cases h
    · cases h
theorem AWL.take (hC : C.OK) (n : Nat) {l : List Oper} {s' : St} (h : runA C.T C.eqT N (l.take n) s = some s') (k : AWL C N ops Q (l.drop n) s') : AWL C N ops Q l s := by
  have := AWL.run (ops := ops) hC _ _ _ h k
  rwa [List.take_append_drop] at this
theorem yielded_of (hσ : SimG S0 w0 N a w s σ) {j d : Nat} {b : Bool} (hd : (ops[j]?).bind (·.dst) = some d) (hb : s.tm d = .v (.bool b)) : yielded ops a.tmps j = some b := by
  have h := hσ.tm d
  rw [hb] at h
  simp only [Rep, Array.getD_eq_getD_getElem?] at h
  unfold yielded
  rw [hd]
  simp only [Option.bind_some]
  cases hx : a.tmps[d]? with
  | none => rw [hx] at h; simp [undef] at h
  | some u => rw [hx] at h; simp only [Option.getD_some] at h; subst h; rfl
theorem yielded_undef (hσ : SimG S0 w0 N a w s σ) {j d : Nat} (hd : (ops[j]?).bind (·.dst) = some d) (hb : s.tm d = .v undef) : yielded ops a.tmps j = none := by
  have h := hσ.tm d
  rw [hb] at h
  simp only [Rep, Array.getD_eq_getD_getElem?] at h
  unfold yielded
  rw [hd]
  simp only [Option.bind_some]
  cases hx : a.tmps[d]? with
  | none => rfl
  | some u => rw [hx] at h; simp only [Option.getD_some] at h; subst h; rfl
theorem AWL.guardU {j d t : Nat} {want : Bool} (hg : o.guard = some (j, want)) (ht : (ops[j]?).bind (·.dst) = some t) (hb : s.tm t = .v undef) (hd : o.dst = some d) (hN : d < N)
    (k : AWL C N ops Q rest { s with tm := upd s.tm d (.v undef) }) : AWL C N ops Q (o :: rest) s := by
  rintro S0 w0 a w hE ⟨σ, hσ⟩
  have hy := yielded_undef (ops := ops) hσ ht hb
  unfold wpListIn
  rw [if_neg (by simp [Region.wanted, hg, hy])]
  rw [hd]
  refine ⟨fun f _ => C.hF.fn f, k S0 w0 _ w hE ⟨σ, ?_⟩⟩
  exact hσ.put hN (s' := { s with tm := upd s.tm d (.v undef) }) (r := .v undef) hσ.inv hσ.nx (hσ.inv.le_heap (fun _ _ => rfl)) (Below.refl _ _) rfl rfl
theorem AWL.guard {j d t : Nat} {want b : Bool} (hg : o.guard = some (j, want)) (ht : (ops[j]?).bind (·.dst) = some t) (hb : s.tm t = .v (.bool b)) (hd : o.dst = some d) (hN : d < N)
    (k1 : b = want → AWL C N ops Q ({ o with guard := none } :: rest) s) (k2 : b = !want → AWL C N ops Q rest { s with tm := upd s.tm d (.v undef) }) : AWL C N ops Q (o :: rest) s := by
  rintro S0 w0 a w hE ⟨σ, hσ⟩
  have hy := yielded_of (ops := ops) hσ ht hb
  by_cases hbw : b = want
  · have h := k1 hbw S0 w0 a w hE ⟨σ, hσ⟩
    unfold wpListIn at h ⊢
    rw [if_pos (by simp [Region.wanted, hg, hy, hbw])]
    rw [if_pos (by simp [Region.wanted])] at h
    exact h
  · have hbn : b = !want := by cases b <;> cases want <;> simp_all
    unfold wpListIn
    rw [if_neg (by simp [Region.wanted, hg, hy, hbw])]
    rw [hd]
    refine ⟨fun f _ => C.hF.fn f, k2 hbn S0 w0 _ w hE ⟨σ, ?_⟩⟩
    exact hσ.put hN (s' := { s with tm := upd s.tm d (.v undef) }) (r := .v undef) hσ.inv hσ.nx (hσ.inv.le_heap (fun _ _ => rfl)) (Below.refl _ _) rfl rfl
end
end Go.Pg

namespace Go.Pg
open Go Go.RowKit
mutual
def viewA (H : Nat → Option AO) : AV → Option AV
  | .ref id off n => match rowAt H id with
    | some r => if r.lo ≤ off + n ∧ off + n ≤ r.es.length ∧ r.es.all pureL = true then some (.lst ((r.es.drop off).take n)) else none
    | none => none
  | .ptr id i j tag => match rowAt H id with
    | some r => if r.lo ≤ tag ∧ i < r.es.length ∧ pureL (r.es.getD i []) = true then some (.iptr (r.es.getD i []) j) else none
    | none => none
  | .agg cs => (viewL H cs).map .agg
  | .tup cs => (viewL H cs).map .tup
  | .clo f cs => (viewL H cs).map (.clo f)
  | .map _ => none
  | .v (.slice none 0 0) => some (.lst [])
  | x => some x
def viewL (H : Nat → Option AO) : List AV → Option (List AV)
  | [] => some []
  | c :: cs => match viewA H c, viewL H cs with
    | some d, some ds => some (d :: ds)
    | _, _ => none
end
mutual
def idsA : AV → List Nat
  | .ref id _ _ => [id]
  | .ptr id _ _ _ => [id]
  | .agg cs => idsL cs
  | .tup cs => idsL cs
  | .clo _ cs => idsL cs
  | _ => []
def idsL : List AV → List Nat
  | [] => []
  | c :: cs => idsA c ++ idsL cs
end
mutual
def flatA : AV → Bool
  | .junk => true
  | .v _ => true
  | .agg cs => flatL cs
  | .tup cs => flatL cs
  | _ => false
def flatL : List AV → Bool
  | [] => true
  | c :: cs => flatA c && flatL cs
end
mutual
theorem Rep.flat {σ σ' : Sg} {w w' : World} : ∀ (c : AV) (u : Value), flatA c = true → Rep σ w c u → Rep σ' w' c u
  | .junk, _, _, _ => trivial
  | .v _, _, _, h => h
  | .agg cs, u, hp, h => by
    simp only [Rep] at h ⊢
    obtain ⟨arr, rfl, h1, h2, h3⟩ := h
    exact ⟨arr, rfl, h1, h2, RepL.flat cs _ (by simpa [flatA] using hp) h3⟩
  | .tup cs, u, hp, h => by
    simp only [Rep] at h ⊢
    obtain ⟨arr, rfl, h1, h3⟩ := h
    exact ⟨arr, rfl, h1, RepL.flat cs _ (by simpa [flatA] using hp) h3⟩
  | .lst es, u, hp, _ => by simp [flatA] at hp
  | .iptr e j, u, hp, _ => by simp [flatA] at hp
  | .ref id off n, _, hp, _ => by simp [flatA] at hp
  | .ptr id i j tag, _, hp, _ => by simp [flatA] at hp
  | .clo f cs, _, hp, _ => by simp [flatA] at hp
  | .map id, _, hp, _ => by simp [flatA] at hp
  | .lmap a b c, _, hp, _ => by simp [flatA] at hp
theorem RepL.flat {σ σ' : Sg} {w w' : World} : ∀ (cs : List AV) (f : Nat → Option Value), flatL cs = true → RepL σ w cs f → RepL σ' w' cs f
  | [], _, _, _ => trivial
  | c :: cs, f, hp, h => by
    simp only [RepL] at h ⊢
    simp only [flatL, Bool.and_eq_true] at hp
    obtain ⟨⟨u, hu, hr⟩, ht⟩ := h
    exact ⟨⟨u, hu, Rep.flat c u hp.1 hr⟩, RepL.flat cs _ hp.2 ht⟩
end
section
variable {B0 : Nat} {S0 : Fr} {S' : Nat → Prop} {w : World} {H : Nat → Option AO} {σ : Sg}
theorem Le.pure_mono {w : World} (h : ∀ b, σ.S b → S' b) : Le (pureSg σ.S) (pureSg S') w w := Le.pure_ h fun _ _ => rfl
mutual
theorem viewA_sound (hi : Inv B0 S0 w H σ) (hS : ∀ b, σ.S b → S' b) : ∀ (c : AV) (u : Value) (c' : AV), viewA H c = some c' → (∀ id ∈ idsA c, ∀ b, σ.own b = some id → S' b) → Rep σ w c u → Rep (pureSg S') w c' u
  | .junk, u, c', h, _, _ => by simp only [viewA, Option.some.injEq] at h; subst h; trivial
  | .v x, u, c', h, _, hr => by
    simp only [Rep] at hr; subst hr
    unfold viewA at h
    split at h <;> try contradiction
    · rename_i he
      injection he with he; subst he
      injection h with h; subst h
      simp only [Rep]
      exact ⟨none, 0, 0, rfl, by simp, by simp [maxLen], by simp, by simp⟩
    · injection h with h; subst h; rfl
  | .agg cs, u, c', h, hids, hr => by
    simp only [viewA, Option.map_eq_some_iff] at h
    obtain ⟨ds, hds, rfl⟩ := h
    simp only [Rep] at hr ⊢
    obtain ⟨arr, rfl, h1, h2, h3⟩ := hr
    obtain ⟨g1, g2, g3⟩ := viewL_sound hi hS cs _ ds hds (by simpa [idsA] using hids) h3
    exact ⟨arr, rfl, by rw [h1, g1], g2 h2, g3⟩
  | .tup cs, u, c', h, hids, hr => by
    simp only [viewA, Option.map_eq_some_iff] at h
    obtain ⟨ds, hds, rfl⟩ := h
    simp only [Rep] at hr ⊢
    obtain ⟨arr, rfl, h1, h3⟩ := hr
    obtain ⟨g1, g2, g3⟩ := viewL_sound hi hS cs _ ds hds (by simpa [idsA] using hids) h3
    exact ⟨arr, rfl, by rw [h1, g1], g3⟩
  | .clo f cs, u, c', h, hids, hr => by
    simp only [viewA, Option.map_eq_some_iff] at h
    obtain ⟨ds, hds, rfl⟩ := h
    simp only [Rep] at hr ⊢
    obtain ⟨arr, rfl, h1, h3⟩ := hr
    obtain ⟨g1, g2, g3⟩ := viewL_sound hi hS cs _ ds hds (by simpa [idsA] using hids) h3
    exact ⟨arr, rfl, by rw [h1, g1], g3⟩
  | .lst es, u, c', h, _, hr => by
    simp only [viewA, Option.some.injEq] at h; subst h
    exact Rep.mono (Le.pure_mono hS) _ _ (Rep.pure_ _ _ rfl hr)
  | .iptr e j, u, c', h, _, hr => by
    simp only [viewA, Option.some.injEq] at h; subst h
    exact Rep.mono (Le.pure_mono hS) _ _ (Rep.pure_ _ _ rfl hr)
  | .ref id off n, u, c', h, hids, hr => by
    simp only [viewA] at h
    split at h
    · rename_i r hrow
      split at h
      · rename_i hc
        obtain ⟨c1, c2, c3⟩ := hc
        injection h with h; subst h
        have hR := hi.row id r (rowAt_eq hrow)
        simp only [Rep] at hr ⊢
        obtain ⟨hal, A, cap, rfl, g1, g2, g3, g4⟩ := hr
        have hlen : ((r.es.drop off).take n).length = n := by simp; omega
        refine ⟨A, cap, r.k, by rw [hlen], by rw [hlen]; exact g1, g2, fun e he => hR.each e (List.mem_of_mem_drop (List.mem_of_mem_take he)), fun hne => ?_⟩
        have hn : n ≠ 0 := fun e => hne (List.eq_nil_of_length_eq_zero (by rw [hlen, e]))
        obtain ⟨b, rfl, hown, hext⟩ := g3 hn
        have hcur : σ.cur id = some b := by
          rcases (hR.own b hown).1 with h | h
          · exact h
          · omega
        refine ⟨b, off * σ.k id, rfl, hids id (by simp [idsA]) b hown, ?_⟩
        rw [repLL_iff]
        intro i hi'
        rw [hlen] at hi'
        have he : ((r.es.drop off).take n)[i] = r.es[off + i]'(by omega) := by simp
        rw [he]
        have hcon := hR.con b hcur (off + i) (by omega)
        have hp := List.all_eq_true.1 c3 _ (List.getElem_mem (show off + i < r.es.length by omega))
        refine RepL.mono (Le.pure_mono hS) _ _ _ (fun j v hv => ?_) (RepL.pure_ _ _ hp hcon)
        rw [← hv]
        congr 2
        rw [hR.k, Nat.add_mul]
      · cases h
    · cases h
  | .ptr id i j tag, u, c', h, hids, hr => by
    simp only [viewA] at h
    split at h
    · rename_i r hrow
      split at h
      · rename_i hc
        obtain ⟨c1, c2, c3⟩ := hc
        injection h with h; subst h
        have hR := hi.row id r (rowAt_eq hrow)
        simp only [Rep] at hr ⊢
        obtain ⟨b, rfl, hown, g1, g2⟩ := hr
        have hcur : σ.cur id = some b := by
          rcases (hR.own b hown).1 with h | h
          · exact h
          · omega
        have hg : r.es.getD i [] = r.es[i] := by rw [List.getD_eq_getElem?_getD, List.getElem?_eq_getElem c2, Option.getD_some]
        refine ⟨b, i * σ.k id, rfl, hids id (by simp [idsA]) b hown, ?_, ?_⟩
        · rw [hg]; exact (hR.each _ (List.getElem_mem _)).2
        · rw [hg] at c3 ⊢
          refine RepL.mono (Le.pure_mono hS) _ _ _ (fun j v hv => ?_) (RepL.pure_ _ _ c3 (hR.con b hcur i c2))
          rw [← hv, hR.k]
      · cases h
    · cases h
  | .map id, _, _, h, _, _ => by simp [viewA] at h
  | .lmap a b c, u, c', h, _, hr => by
    simp only [viewA, Option.some.injEq] at h; subst h
    exact Rep.mono (Le.pure_mono hS) _ _ (Rep.pure_ _ _ rfl hr)
theorem viewL_sound (hi : Inv B0 S0 w H σ) (hS : ∀ b, σ.S b → S' b) : ∀ (cs : List AV) (f : Nat → Option Value) (ds : List AV), viewL H cs = some ds → (∀ id ∈ idsL cs, ∀ b, σ.own b = some id → S' b) → RepL σ w cs f →
    cs.length = ds.length ∧ ((∀ c ∈ cs, c.cell = true) → ∀ c ∈ ds, c.cell = true) ∧ RepL (pureSg S') w ds f
  | [], f, ds, h, _, _ => by simp only [viewL, Option.some.injEq] at h; subst h; exact ⟨rfl, fun h => h, trivial⟩
  | c :: cs, f, ds, h, hids, hr => by
    simp only [viewL] at h
    split at h
    · rename_i d ds' h1 h2
      injection h with h; subst h
      simp only [RepL] at hr ⊢
      obtain ⟨⟨u, hu, hrc⟩, ht⟩ := hr
      obtain ⟨g1, g2, g3⟩ := viewL_sound hi hS cs _ ds' h2 (fun id hid => hids id (by simp [idsL, hid])) ht
      refine ⟨by simp [g1], fun hc => ?_, ⟨u, hu, viewA_sound hi hS c u d h1 (fun id hid => hids id (by simp [idsL, hid])) hrc⟩, g3⟩
      intro x hx
      simp only [List.mem_cons] at hx
      rcases hx with rfl | hx
      · have hcc := hc c (by simp)
        cases c <;> simp only [AV.cell] at hcc <;> try contradiction
        all_goals (unfold viewA at h1)
        · split at h1 <;> try contradiction
          · injection h1 with h1; subst h1; rfl
          · injection h1 with h1; subst h1; exact hcc
        · injection h1 with h1; subst h1; rfl
        · injection h1 with h1; subst h1; rfl
        · split at h1
          · split at h1
            · injection h1 with h1; subst h1; rfl
            · cases h1
          · cases h1
        · split at h1
          · split at h1
            · injection h1 with h1; subst h1; rfl
            · cases h1
          · cases h1
        · simp only [Option.map_eq_some_iff] at h1
          obtain ⟨_, _, rfl⟩ := h1; rfl
        · injection h1 with h1; subst h1; rfl
      · exact g2 (fun c hc' => hc c (by simp [hc'])) x hx
    · cases h
end
def frz (H : Nat → Option AO) (ids : List Nat) : Nat → Option AO := fun i =>
  if i ∈ ids then (match H i with | some (.row r) => some (.row { r with fro := true }) | o => o) else H i
def Sg.frz (σ : Sg) (ids : List Nat) : Sg := { σ with S := fun b => σ.S b ∨ ∃ id, id ∈ ids ∧ σ.own b = some id }
theorem Inv.le_frz (hi : Inv B0 S0 w H σ) (ids : List Nat) : Le σ (σ.frz ids) w w :=
  ⟨fun _ h => .inl h, fun _ _ => rfl, fun _ _ h => ⟨hi.al_of_own h, h, rfl, Nat.le_refl _⟩, fun _ h => h, fun _ _ => .inl ⟨rfl, rfl, fun _ _ => rfl⟩⟩
theorem Inv.frz (hi : Inv B0 S0 w H σ) {ids : List Nat} (hrow : ∀ id ∈ ids, ∃ r, rowAt H id = some r) : Inv B0 S0 w (frz H ids) (σ.frz ids) := by
  have hle := hi.le_frz ids
  refine ⟨fun id => ?_, fun id hn => ?_, fun b h => ?_, hi.own_lt, fun id r h => ?_, fun id kt et es h => ?_, S0.mono _ _ _ _ hle hi.fr⟩
  · rw [show (σ.frz ids).al id ↔ σ.al id from Iff.rfl, hi.al]
    unfold Pg.frz
    split
    · split <;> simp_all
    · rfl
  · refine hi.fresh id ?_
    unfold Pg.frz at hn
    split at hn
    · split at hn
      · cases hn
      · exact hn
    · exact hn
  · rcases h with h | ⟨id, _, h⟩
    · exact hi.S_lt b h
    · have := hi.own_lt b id h; exact ⟨this.2, .inr this.1⟩
  · unfold Pg.frz at h
    split at h
    · rename_i hin
      obtain ⟨r0, hr0⟩ := hrow id hin
      rw [rowAt_eq hr0] at h
      injection h with h; injection h with h; subst h
      have hr := hi.row id r0 (rowAt_eq hr0)
      exact ⟨hr.len, hr.k, hr.each, hr.lo, hr.cur, hr.empty, fun b ho => ⟨(hr.own b ho).1, (hr.own b ho).2.1, fun _ => .inr ⟨id, hin, ho⟩, fun h => (by cases h)⟩, fun b hc i h1 => RepL.mono hle _ _ _ (fun _ _ h => h) (hr.con b hc i h1)⟩
    · rename_i hin
      have hr := hi.row id r h
      refine ⟨hr.len, hr.k, hr.each, hr.lo, hr.cur, hr.empty, fun b ho => ⟨(hr.own b ho).1, (hr.own b ho).2.1, fun h => .inl ((hr.own b ho).2.2.1 h), fun h => ?_⟩, fun b hc i h1 => RepL.mono hle _ _ _ (fun _ _ h => h) (hr.con b hc i h1)⟩
      rintro (h' | ⟨id', hid', ho'⟩)
      · exact (hr.own b ho).2.2.2 h h'
      · have ho2 : σ.own b = some id := ho
        rw [ho2] at ho'; injection ho' with ho'; subst ho'; exact hin hid'
  · have hH : H id = some (.mp kt et es) ∧ id ∉ ids := by
      unfold Pg.frz at h
      split at h
      · rename_i hin
        obtain ⟨r0, hr0⟩ := hrow id hin
        rw [rowAt_eq hr0] at h; cases h
      · rename_i hin; exact ⟨h, hin⟩
    have hm := hi.mp id kt et es hH.1
    obtain ⟨b, clock, xs, a1, a2, a3, a4, a5, a6⟩ := hm.cur
    refine ⟨hm.len, ⟨b, clock, xs, a1, a2, ⟨fun hl => ?_, fun hl => .inl (a3.2 hl)⟩, a4, a5, RepL.mono hle _ _ _ (fun _ _ h => h) a6⟩, hm.one⟩
    rintro (h' | ⟨id', hid', ho'⟩)
    · exact a3.1 hl h'
    · rw [a2] at ho'; injection ho' with ho'; subst ho'; exact hH.2 hid'
end
def Enters (P : Program) (f : FuncId) : Prop := ∃ fn, P.funcs[f]? = some fn ∧ (fn.name == "runtime.NumGoroutine") = false ∧ fn.body.isNone = false
def OKat (C : Cx) (f : FuncId) (args : List AV) (Q : AV → Prop) : Prop :=
  Enters C.P f ∧ ∀ (w : World) (S : Nat → Prop) (vals : Array Value), C.E w → (∀ b, S b → b < w.heap.size) → vals.size = args.length → RepL (pureSg S) w args (fun i => vals[i]?) →
    Calls C.P f vals w fun e w' => Below w.heap.size w w' ∧ ∃ v r, e = .returned v ∧ Q r ∧ Rep (pureSg fun b => S b ∨ (w.heap.size ≤ b ∧ b < w'.heap.size)) w' r v
def OKv (C : Cx) (f : FuncId) (args : List AV) (R : AV) : Prop := OKat C f args (· = R)
def afterH (H : Nat → Option AO) (ids : List Nat) (r : AV) : Nat → Option AO := if flatA r then H else (if ids.isEmpty then H else frz H ids)
mutual
theorem idsA_row {H : Nat → Option AO} : ∀ (c c' : AV), viewA H c = some c' → ∀ id ∈ idsA c, ∃ r, rowAt H id = some r
  | .junk, c', _, id, hid => by simp [idsA] at hid
  | .v x, c', _, id, hid => by simp [idsA] at hid
  | .lst es, c', _, id, hid => by simp [idsA] at hid
  | .iptr e j, c', _, id, hid => by simp [idsA] at hid
  | .map i, c', _, id, hid => by simp [idsA] at hid
  | .lmap a b c, c', _, id, hid => by simp [idsA] at hid
  | .agg cs, c', h, id, hid => by
    simp only [viewA, Option.map_eq_some_iff] at h; obtain ⟨ds, hds, _⟩ := h; exact idsL_row cs ds hds id (by simpa [idsA] using hid)
  | .tup cs, c', h, id, hid => by
    simp only [viewA, Option.map_eq_some_iff] at h; obtain ⟨ds, hds, _⟩ := h; exact idsL_row cs ds hds id (by simpa [idsA] using hid)
  | .clo f cs, c', h, id, hid => by
    simp only [viewA, Option.map_eq_some_iff] at h; obtain ⟨ds, hds, _⟩ := h; exact idsL_row cs ds hds id (by simpa [idsA] using hid)
  | .ref i off n, c', h, id, hid => by
    simp only [idsA, List.mem_singleton] at hid; subst hid
    simp only [viewA] at h
    split at h
    · rename_i r hr; exact ⟨r, hr⟩
    · cases h
  | .ptr i a b t, c', h, id, hid => by
    simp only [idsA, List.mem_singleton] at hid; subst hid
    simp only [viewA] at h
    split at h
    · rename_i r hr; exact ⟨r, hr⟩
    · cases h
theorem idsL_row {H : Nat → Option AO} : ∀ (cs ds : List AV), viewL H cs = some ds → ∀ id ∈ idsL cs, ∃ r, rowAt H id = some r
  | [], ds, _, id, hid => by simp [idsL] at hid
  | c :: cs, ds, h, id, hid => by
    simp only [viewL] at h
    split at h
    · rename_i d ds' h1 h2
      simp only [idsL, List.mem_append] at hid
      rcases hid with hid | hid
      · exact idsA_row c d h1 id hid
      · exact idsL_row cs ds' h2 id hid
    · cases h
end
section
variable {C : Cx} {N : Nat} {Q : Exit → St → Prop} {s : St} {ops : Array Oper} {rest : List Oper} {o : Oper}
def St.back (s : St) (d : Nat) (r : AV) (ids : List Nat) : St := { tm := upd s.tm d r, H := afterH s.H ids r, nx := s.nx }
theorem afterH_none {H : Nat → Option AO} {ids : List Nat} {r : AV} {i : Nat} (h : H i = none) : afterH H ids r i = none := by
  unfold afterH
  split
  · exact h
  · split
    · exact h
    · unfold frz
      split
      · rw [h]
      · exact h
theorem AWL.call (hC : C.OK) (hg : o.guard = none) {d : Nat} (hd : o.dst = some d) (hN : d < N) {fo : Operand} {args : Array Operand} {tys : Array TypeId} (ho : o.op = .call { callee := .value fo, args := args, argTypes := tys })
    {f : FuncId} {caps vs : List AV} (hf : s.ev fo = .clo f caps) (hv : viewL s.H (evsA args.toList s.ev ++ caps) = some vs) {Qr : AV → Prop} (hok : OKat C f vs Qr)
    (k : ∀ r, Qr r → AWL C N ops Q rest (s.back d r (idsL (evsA args.toList s.ev ++ caps)))) : AWL C N ops Q (o :: rest) s := by
  rintro S0 w0 a w hE ⟨σ, hσ⟩
  obtain ⟨⟨fn, hfn, hname, hbody⟩, hcall⟩ := hok
  have hfo := hσ.ev fo
  rw [hf] at hfo
  simp only [Rep] at hfo
  obtain ⟨ca, hca, hcs, hcr⟩ := hfo
  let ids := idsL (evsA args.toList s.ev ++ caps)
  let S' : Nat → Prop := fun b => σ.S b ∨ ∃ id, id ∈ ids ∧ σ.own b = some id
  have hargs : RepL σ w (evsA args.toList s.ev ++ caps) (fun i => ((args.map a.eval) ++ ca)[i]?) := by
    have h1 := repL_evs (σ := σ) (w := w) (fun x => hσ.ev x) args
    rw [repL_iff'] at h1 hcr ⊢
    intro i c hc
    rw [List.getElem?_append] at hc
    rw [Array.getElem?_append]
    have hl : (evsA args.toList s.ev).length = (args.map a.eval).size := by simp [evsA_map]
    rw [hl] at hc
    split at hc
    · rename_i hi; rw [if_pos hi]; exact h1 i c hc
    · rename_i hi; rw [if_neg hi]; exact hcr _ c hc
  obtain ⟨g1, _, g3⟩ := viewL_sound hσ.inv (S' := S') (fun b h => .inl h) _ _ vs hv (fun id hid b hb => .inr ⟨id, hid, hb⟩) hargs
  have hEw : C.E w := hC.E _ _ hσ.below hE
  have hS' : ∀ b, S' b → b < w.heap.size := fun b h => by
    rcases h with h | ⟨id, _, h⟩
    · exact (hσ.inv.S_lt b h).1
    · exact (hσ.inv.own_lt b id h).2
  have hsz : ((args.map a.eval) ++ ca).size = vs.length := by rw [← g1]; simp [evsA_map, hcs]
  have hc := hcall w S' ((args.map a.eval) ++ ca) hEw hS' hsz g3
  refine wpListIn_plain hg fun K hK => Oper.wpIn_of_wp C.hF (fun c e => by rw [ho] at e; cases e) ?_
  have hexec : (execOp a.eval o).run C.P w = .ok (.enter f ((args.map a.eval) ++ ca)) w := by
    have hb : (fn.name == "runtime.NumGoroutine") ≠ true := by simp [hname]
    simp only [execOp, ho, resolve, hca, Deferred.ofValue, Sem.run_bind, Sem.run_pure, Result.andThen_ok, invoke, callFunc, run_program, hfn, if_neg hb, hbody, Bool.false_eq_true, if_false]
    simp
  simp only [Oper.wp, hexec, Oper.upon]
  refine hc.mono ?_
  rintro e w' ⟨hb, v, r, rfl, hQ, hr⟩
  dsimp only
  rw [hd]
  refine hK _ _ (k r hQ S0 w0 _ w' hE ?_)
  have hbel : Below w0.heap.size w w' := hb.mono hσ.size
  have hmore := hσ.inv.more hσ.size hb
  have hlem := hσ.inv.le_more hb
  have hnx : ∀ id, (s.back d r ids).nx ≤ id → (s.back d r ids).H id = none := fun id h => afterH_none (hσ.nx id h)
  by_cases hfl : flatA r = true
  · refine ⟨_, hσ.put hN (s' := s.back d r ids) ?_ hnx hlem hbel (Rep.flat r v hfl hr) rfl⟩
    simp only [St.back, afterH, hfl, if_true]
    exact hmore
  · by_cases hem : ids.isEmpty = true
    · refine ⟨_, hσ.put hN (s' := s.back d r ids) ?_ hnx hlem hbel ?_ rfl⟩
      · simp only [St.back, afterH, hfl, hem, if_true, Bool.false_eq_true, if_false]
        exact hmore
      · have he : ids = [] := by simpa using hem
        have : S' = σ.S := by funext b; simp [S', he]
        rw [this] at hr
        exact hr.lift
    · have hrow : ∀ id ∈ ids, ∃ r, rowAt s.H id = some r := idsL_row _ _ hv
      have hfr := hmore.frz hrow
      have hlf := hmore.le_frz ids
      have hle2 : Le σ ((σ.more w.heap.size w'.heap.size).frz ids) w w' := by
        refine ⟨fun b h => .inl (.inl h), hlem.heap, fun b id h => ?_, hlem.al, hlem.obj⟩
        exact hlem.own b id h
      refine ⟨_, hσ.put hN (s' := s.back d r ids) (σ' := (σ.more w.heap.size w'.heap.size).frz ids) ?_ hnx hle2 hbel ?_ rfl⟩
      · simp only [St.back, afterH, hfl, hem, Bool.false_eq_true, if_false]
        exact hfr
      · refine (Rep.mono (Le.pure_ (fun b h => ?_) (fun _ _ => rfl)) _ _ hr).lift
        rcases h with (h | ⟨id, h1, h2⟩) | h
        · exact .inl (.inl h)
        · exact .inr ⟨id, h1, h2⟩
        · exact .inl (.inr h)
end
end Go.Pg

namespace Go.Pg
open Go Go.RowKit
section
variable {B0 : Nat} {S0 : Fr} {w w' : World} {H : Nat → Option AO} {σ : Sg}
def Sg.renew (σ : Sg) (g id n cap : Nat) : Sg :=
  { σ with own := fun x => if x = g then some id else σ.own x, ext := fun x => if x = g then n else σ.ext x, cur := fun i => if i = id then some g else σ.cur i, len := fun i => if i = id then n else σ.len i, cap := fun x => if x = g then cap else σ.cap x }
theorem Inv.renew (hi : Inv B0 S0 w H σ) {id : Nat} {r r' : Row} (hH : H id = some (.row r)) (hk : r'.k = r.k) (hf : r.fro = false) (hf' : r'.fro = false) {g cap : Nat} {arr : Array Value}
    (hg : σ.cur id = some g ∨ (w.heap.size ≤ g ∧ B0 ≤ g)) (hgw : w'.heap[g]? = some (.cells arr r'.ty (0, 0))) (hsz : w.heap.size ≤ w'.heap.size)
    (hother : ∀ k, k < w.heap.size → σ.cur id ≠ some k → k ≠ g → w'.heap[k]? = w.heap[k]?)
    (hgrow : (r.es.length < r'.es.length ∧ r'.lo = r'.es.length) ∨ (r'.es.length = r.es.length ∧ r'.lo = r.lo ∧ σ.cur id = some g ∧ σ.cap g = cap))
    (hcap : r'.es.length ≤ cap) (hmax : cap ≤ maxLen) (harr : arr.size = cap * r'.k) (each : ∀ e ∈ r'.es, e.length = r'.k ∧ ∀ c ∈ e, c.cell = true)
    (hcon : ∀ i (h : i < r'.es.length), RepL σ w r'.es[i] (fun j => arr[i * r'.k + j]?)) :
    Le σ (σ.renew g id r'.es.length cap) w w' ∧ Inv B0 S0 w' (updH H id (.row r')) (σ.renew g id r'.es.length cap) := by
  have hR := hi.row id r hH
  have hgS : ¬ σ.S g := by
    rcases hg with h | ⟨h, _⟩
    · exact (hR.own g (hR.cur g h).1).2.2.2 hf
    · intro h'; have := (hi.S_lt g h').1; omega
  have hcS : ∀ k, σ.cur id = some k → ¬ σ.S k := fun k h => (hR.own k (hR.cur k h).1).2.2.2 hf
  have hgo : ∀ i, σ.own g = some i → i = id := fun i h => by
    rcases hg with h' | ⟨h', _⟩
    · have := (hR.cur g h').1; rw [this] at h; injection h with h; exact h.symm
    · have := (hi.own_lt g i h).2; omega
  have hgB : B0 ≤ g ∧ g < w'.heap.size := by
    refine ⟨?_, (Array.getElem?_eq_some_iff.1 hgw).1⟩
    rcases hg with h | ⟨_, h⟩
    · exact (hi.own_lt g id (hR.cur g h).1).1
    · exact h
  have hS' : ∀ k, σ.S k → w'.heap[k]? = w.heap[k]? := fun k h => hother k (hi.S_lt k h).1 (fun e => hcS k e h) (fun e => hgS (e ▸ h))
  have hal : σ.al id := by rw [hi.al, hH]; simp
  have hle : Le σ (σ.renew g id r'.es.length cap) w w' := by
    refine ⟨fun _ h => h, hS', fun b i h => ⟨hi.al_of_own h, ?_, rfl, ?_⟩, fun _ h => h, fun i ha => ?_⟩
    · simp only [Sg.renew]
      split
      · rename_i e; rw [hgo i (e ▸ h)]
      · exact h
    · simp only [Sg.renew]
      split
      · rename_i e; subst e
        have := hgo i h; subst this
        have := (hR.own b h).2.1
        rcases hgrow with ⟨h1, _⟩ | ⟨h1, _⟩ <;> omega
      · exact Nat.le_refl _
    · by_cases e : i = id
      · subst e
        rcases hgrow with ⟨h1, _⟩ | ⟨h1, _, h2, h3⟩
        · right
          refine ⟨by simp only [Sg.renew, if_true]; rw [hR.len]; exact h1, fun b hb => by rw [hR.len]; exact (hR.own b hb).2.1⟩
        · left
          refine ⟨by simp only [Sg.renew, if_true]; rw [hR.len, h1], by simp only [Sg.renew, if_true]; rw [h2], fun b hb => ?_⟩
          rw [h2] at hb; injection hb with hb; subst hb
          simp only [Sg.renew, if_true]; exact h3.symm
      · left
        refine ⟨by simp only [Sg.renew]; rw [if_neg e], by simp only [Sg.renew]; rw [if_neg e], fun b hb => ?_⟩
        have hbg : b ≠ g := by
          intro hbg; subst hbg
          cases ho : H i with
          | none => exact (hi.al i).1 ha ho
          | some o =>
            cases o with
            | row r2 => exact e (hgo i ((hi.row i r2 ho).cur b hb).1)
            | mp kt et es =>
              obtain ⟨b', _, _, a1, a2, _⟩ := (hi.mp i kt et es ho).cur
              rw [a1] at hb; injection hb with hb; subst hb
              exact e (hgo i a2)
        simp only [Sg.renew]; rw [if_neg hbg]
  refine ⟨hle, ?_⟩
  refine ⟨fun i => ?_, fun i hn => ?_, fun b h => ⟨Nat.lt_of_lt_of_le (hi.S_lt b h).1 hsz, (hi.S_lt b h).2⟩, fun b i h => ?_, fun i r2 h => ?_, fun i kt et es h => ?_, S0.mono _ _ _ _ hle hi.fr⟩
  · simp only [Sg.renew, updH]
    by_cases e : i = id
    · subst e; simp [hal]
    · simp [e, hi.al]
  · simp only [updH] at hn
    have e : i ≠ id := fun e => by simp [e] at hn
    rw [if_neg e] at hn
    obtain ⟨h1, h2⟩ := hi.fresh i hn
    refine ⟨by simp only [Sg.renew]; rw [if_neg e]; exact h1, fun b hb => ?_⟩
    simp only [Sg.renew] at hb
    split at hb
    · injection hb with hb; exact e hb.symm
    · exact h2 b hb
  · simp only [Sg.renew] at h
    split at h
    · subst b; exact hgB
    · have := hi.own_lt b i h; exact ⟨this.1, by omega⟩
  · simp only [updH] at h
    by_cases e : i = id
    · subst e
      rw [if_pos rfl] at h; injection h with h; injection h with h; subst h
      refine ⟨by simp [Sg.renew], by simp only [Sg.renew]; rw [hk]; exact hR.k, each, ?_, fun b hb => ?_, fun hc => by simp [Sg.renew] at hc, fun b hb => ?_, fun b hb j h1 => ?_⟩
      · rcases hgrow with ⟨_, h2⟩ | ⟨h1, h2, _⟩
        · omega
        · rw [h1, h2]; exact hR.lo
      · simp only [Sg.renew, if_true] at hb; injection hb with hb; subst hb
        exact ⟨by simp [Sg.renew], by simp [Sg.renew], by simpa [Sg.renew] using hcap, by simpa [Sg.renew] using hmax, arr, hgw, by simpa [Sg.renew] using harr⟩
      · by_cases hbg : b = g
        · subst hbg
          exact ⟨.inl (by simp [Sg.renew]), by simp [Sg.renew], fun h => (by rw [hf'] at h; cases h), fun _ => hgS⟩
        · have hb' : σ.own b = some i := by simp only [Sg.renew] at hb; rw [if_neg hbg] at hb; exact hb
          have ho := hR.own b hb'
          have hx : (σ.renew g i r'.es.length cap).ext b = σ.ext b := by simp only [Sg.renew]; rw [if_neg hbg]
          rw [hx]
          rcases hgrow with ⟨h1, h2⟩ | ⟨h1, h2, h3, _⟩
          · exact ⟨.inr (by omega), by omega, fun h => (by rw [hf'] at h; cases h), fun _ => ho.2.2.2 hf⟩
          · refine ⟨.inr ?_, by omega, fun h => (by rw [hf'] at h; cases h), fun _ => ho.2.2.2 hf⟩
            rcases ho.1 with h | h
            · rw [h3] at h; injection h with h; exact absurd h.symm hbg
            · omega
      · simp only [Sg.renew, if_true] at hb; injection hb with hb; subst hb
        refine RepL.mono hle _ _ _ (fun m u hu => ?_) (hcon j h1)
        simp only [World.cell?, hgw]
        exact hu
    · rw [if_neg e] at h
      have hr := hi.row i r2 h
      have hown : ∀ b, (σ.renew g id r'.es.length cap).own b = some i → σ.own b = some i ∧ b ≠ g := fun b hb => by
        simp only [Sg.renew] at hb
        split at hb
        · injection hb with hb; exact absurd hb.symm e
        · exact ⟨hb, by assumption⟩
      have hne : ∀ b, σ.own b = some i → b ≠ g := fun b hb hbg => e (hgo i (hbg ▸ hb))
      have hheap : ∀ b, σ.own b = some i → w'.heap[b]? = w.heap[b]? := fun b hb => hother b (hi.own_lt b i hb).2 (fun hc => by
        have := (hR.cur b hc).1; rw [hb] at this; injection this with this; exact e this) (hne b hb)
      have hx : ∀ b, b ≠ g → (σ.renew g id r'.es.length cap).ext b = σ.ext b := fun b hb => by simp only [Sg.renew]; rw [if_neg hb]
      have hcx : (σ.renew g id r'.es.length cap).cur i = σ.cur i := by simp only [Sg.renew]; rw [if_neg e]
      have hax : ∀ b, b ≠ g → (σ.renew g id r'.es.length cap).cap b = σ.cap b := fun b hb => by simp only [Sg.renew]; rw [if_neg hb]
      refine ⟨by simp only [Sg.renew]; rw [if_neg e]; exact hr.len, hr.k, hr.each, hr.lo, fun b hb => ?_, fun hc => hr.empty (by rw [← hcx]; exact hc), fun b hb => ?_, fun b hb j h1 => ?_⟩
      · rw [hcx] at hb
        obtain ⟨a1, a2, a3, a4, ar, a5, a6⟩ := hr.cur b hb
        have hn := hne b a1
        exact ⟨by simp only [Sg.renew]; rw [if_neg hn]; exact a1, by rw [hx b hn]; exact a2, by rw [hax b hn]; exact a3, by rw [hax b hn]; exact a4, ar, (hheap b a1).trans a5, by rw [hax b hn]; exact a6⟩
      · obtain ⟨h1, h2⟩ := hown b hb
        rw [hx b h2, hcx]; exact hr.own b h1
      · rw [hcx] at hb
        refine RepL.mono hle _ _ _ (fun m u hu => ?_) (hr.con b hb j h1)
        rw [cell_of_heap (w := w) (hheap b (hr.cur b hb).1)]; exact hu
  · simp only [updH] at h
    by_cases e : i = id
    · subst e; simp at h
    · rw [if_neg e] at h
      have hm := hi.mp i kt et es h
      obtain ⟨b, clock, xs, a1, a2, a3, a4, a5, a6⟩ := hm.cur
      have hbg : b ≠ g := fun hbg => e (hgo i (hbg ▸ a2))
      have hhb : w'.heap[b]? = w.heap[b]? := hother b (hi.own_lt b i a2).2 (fun hc => by
        have := (hR.cur b hc).1; rw [a2] at this; injection this with this; exact e this) hbg
      refine ⟨by simp only [Sg.renew]; rw [if_neg e]; exact hm.len, ⟨b, clock, xs, by simp only [Sg.renew]; rw [if_neg e]; exact a1, by simp only [Sg.renew]; rw [if_neg hbg]; exact a2, a3, hhb.trans a4, a5, RepL.mono hle _ _ _ (fun _ _ h => h) a6⟩, fun b hb => ?_⟩
      simp only [Sg.renew] at hb
      split at hb
      · injection hb with hb; exact absurd hb.symm e
      · rename_i hne
        obtain ⟨h1, h2⟩ := hm.one b hb
        exact ⟨by simp only [Sg.renew]; rw [if_neg e]; exact h1, by simp only [Sg.renew]; rw [if_neg hne]; exact h2⟩
end
def storeA (T : TypeId → Option Ty) (H : Nat → Option AO) (t : TypeId) (p x : AV) : Option (Nat × Row) :=
  match T t, p, cellsA x with
  | some y, .ptr id i j tag, some cs => match rowAt H id with
    | some r => if cs.length = y.size ∧ r.lo ≤ tag ∧ r.fro = false ∧ i < r.es.length ∧ j + y.size ≤ r.k then some (id, { r with es := r.es.set i (spliceL (r.es.getD i []) j cs) }) else none
    | none => none
  | _, _, _ => none
section
variable {C : Cx} {N : Nat} {Q : Exit → St → Prop} {s : St} {ops : Array Oper} {rest : List Oper} {o : Oper}
theorem AWL.store (hC : C.OK) (hg : o.guard = none) (hd : o.dst = none) {t : TypeId} {p x : Operand} (ho : o.op = .store t p x) {id : Nat} {r : Row} (h : storeA C.T s.H t (s.ev p) (s.ev x) = some (id, r))
    (k : AWL C N ops Q rest { s with H := updH s.H id (.row r) }) : AWL C N ops Q (o :: rest) s := by
  rintro S0 w0 a w hE ⟨σ, hσ⟩
  unfold storeA at h
  split at h
  · rename_i y id' i j tag cs hy hp hcs
    split at h
    · rename_i r0 hrow
      split at h
      · rename_i hc
        obtain ⟨c1, c2, c3, c4, c5⟩ := hc
        injection h with h; injection h with h1 h2; subst h1; subst h2
        have hpv := hσ.ev p
        rw [hp] at hpv
        simp only [Rep] at hpv
        obtain ⟨b, hpv, hown, g1, g2⟩ := hpv
        obtain ⟨e1, e2, e3, e4⟩ := cellsA_spec hcs (hσ.ev x)
        have hH := rowAt_eq hrow
        have hR := hσ.inv.row id' r0 hH
        have hcur : σ.cur id' = some b := by
          rcases (hR.own b hown).1 with h | h
          · exact h
          · omega
        obtain ⟨a1, a2, a3, a4, arr, a5, a6⟩ := hR.cur b hcur
        have hf := hC.T t y hy
        have hgd : r0.es.getD i [] = r0.es[i] := by rw [List.getD_eq_getElem?_getD, List.getElem?_eq_getElem c4, Option.getD_some]
        have hel : (r0.es[i]).length = r0.k := (hR.each _ (List.getElem_mem c4)).1
        have hik : i * r0.k + r0.k ≤ arr.size := by
          rw [a6]
          have : (i + 1) * r0.k ≤ σ.cap b * r0.k := Nat.mul_le_mul_right _ (by omega)
          rw [Nat.add_mul] at this; omega
        have hvl : (a.eval x).cells.toList.length = y.size := by rw [Array.length_toList, e1, c1]
        have hst := run_storeCells_at (P := C.P) b (i * r0.k + j) r0.ty (a.eval x).cells.toList 0 arr w a5 (by rw [hvl]; omega) e4
        simp only [Nat.add_zero] at hst
        generalize hnew : (arr.toList.take (i * r0.k + j) ++ (a.eval x).cells.toList ++ arr.toList.drop (i * r0.k + j + (a.eval x).cells.toList.length)).toArray = arr' at hst
        have hget : ∀ m, arr'[m]? = if i * r0.k + j ≤ m ∧ m < i * r0.k + j + y.size then (a.eval x).cells[m - (i * r0.k + j)]? else arr[m]? := by
          intro m
          rw [← hnew, List.getElem?_toArray, List.append_assoc, List.getElem?_append]
          have ht : (arr.toList.take (i * r0.k + j)).length = i * r0.k + j := by simp; omega
          rw [ht]
          by_cases h1 : m < i * r0.k + j
          · rw [if_pos h1, if_neg (by omega), List.getElem?_take, if_pos h1, Array.getElem?_toList]
          · rw [if_neg h1, List.getElem?_append, hvl]
            by_cases h2 : m < i * r0.k + j + y.size
            · rw [if_pos (by omega), if_pos (by omega), Array.getElem?_toList]
            · rw [if_neg (by omega), if_neg (by omega), List.getElem?_drop, Array.getElem?_toList]
              congr 1; omega
        have hsz' : arr'.size = arr.size := by rw [← hnew]; simp [hvl]; omega
        have hrun : (execOp a.eval o).run C.P w = .ok .skip (w.setRow b arr') := by
          simp only [execOp, ho, Instr.storeAt, Instr.sureAddr, hpv, storeVar, Sem.run_bind, Sem.run_pure, Result.andThen_ok, hf.run_size]
          rw [if_neg (by rw [e1, c1]; simp)]
          rw [hR.k]
          simp only [Sem.run_bind, Sem.run_pure, Result.andThen_ok, hst]
        have hlen : (r0.es.set i (spliceL (r0.es.getD i []) j cs)).length = r0.es.length := by simp
        have hrn := hσ.inv.renew (w' := w.setRow b arr') (r' := { r0 with es := r0.es.set i (spliceL (r0.es.getD i []) j cs) }) (g := b) (cap := σ.cap b) (arr := arr') hH rfl c3 c3 (.inl hcur) (setRow_heap w b arr arr' r0.ty (0, 0) a5)
          (by simp [World.setRow]) (fun k' _ _ hk => setRow_other w b k' arr' hk) (.inr ⟨hlen, rfl, hcur, rfl⟩) (by rw [hlen]; exact a3) a4 (by rw [hsz']; exact a6)
          (fun e he => by
            rcases List.mem_or_eq_of_mem_set he with he | rfl
            · exact hR.each e he
            · rw [hgd]
              refine ⟨by simp [spliceL, hel]; omega, fun c hc => ?_⟩
              simp only [spliceL, List.mem_append] at hc
              rcases hc with (hc | hc) | hc
              · exact (hR.each _ (List.getElem_mem c4)).2 c (List.mem_of_mem_take hc)
              · exact e2 c hc
              · exact (hR.each _ (List.getElem_mem c4)).2 c (List.mem_of_mem_drop hc))
          (fun m hm => by
            simp only [List.length_set] at hm
            have hold := hR.con b hcur m hm
            have hcell : ∀ q, w.cell? ⟨b, m * r0.k + q, none⟩ = arr[m * r0.k + q]? := fun q => cell_of_row w b _ arr r0.ty (0, 0) a5
            simp only [List.getElem_set]
            split
            · rename_i hmi
              subst hmi
              rw [hgd]
              rw [repL_iff'] at hold e3 ⊢
              intro q c hc
              rw [spliceL_get _ _ _ (by rw [hel, c1]; exact c5)] at hc
              rw [hget]
              split at hc
              · rename_i hq
                obtain ⟨u, hu, hr⟩ := e3 _ c hc
                refine ⟨u, ?_, hr⟩
                rw [if_pos (by omega), ← hu]
                congr 1; omega
              · rename_i hq
                obtain ⟨u, hu, hr⟩ := hold _ c hc
                refine ⟨u, ?_, hr⟩
                rw [if_neg (by omega), ← hcell]; exact hu
            · rename_i hmi
              refine RepL.congr (fun q hq => ?_) hold
              rw [(hR.each _ (List.getElem_mem hm)).1] at hq
              rw [hcell, hget, if_neg]
              intro ⟨b1, b2⟩
              rcases Nat.lt_or_gt_of_ne hmi with hlt | hgt
              · have : (i + 1) * r0.k ≤ m * r0.k := Nat.mul_le_mul_right _ hlt
                rw [Nat.add_mul] at this; omega
              · have : (m + 1) * r0.k ≤ i * r0.k := Nat.mul_le_mul_right _ hgt
                rw [Nat.add_mul] at this; omega)
        refine wpListIn_plain hg fun K hK => Oper.wpIn_of_wp C.hF (fun c e => by rw [ho] at e; cases e) ?_
        simp only [Oper.wp, hrun, Oper.upon, hd]
        refine hK _ _ (k S0 w0 _ _ hE ⟨σ.renew b id' (r0.es.set i (spliceL (r0.es.getD i []) j cs)).length (σ.cap b), ?_⟩)
        refine ⟨hrn.2, fun i' hi' => ?_, fun t' => Rep.mono hrn.1 _ _ (hσ.tm t'), hσ.N, hσ.d, hσ.below.trans ⟨rfl, rfl, rfl, by simp [World.setRow], fun k' hk' => setRow_other w b k' arr' (by have := (hσ.inv.own_lt b id' hown).1; omega)⟩⟩
        simp only [updH]
        split
        · rename_i e; subst e; rw [hσ.nx i' hi'] at hH; cases hH
        · exact hσ.nx i' hi'
      · cases h
    · cases h
  · cases h
end
end Go.Pg

namespace Go.Pg
open Go Go.RowKit
def srcA (H : Nat → Option AO) : AV → Option (List (List AV))
  | .lst es => some es
  | .v (.slice none 0 0) => some []
  | .ref id off n => match rowAt H id with
    | some r => if r.lo ≤ off + n ∧ off + n ≤ r.es.length then some ((r.es.drop off).take n) else none
    | none => none
  | _ => none
def viewLL (H : Nat → Option AO) : List (List AV) → Option (List (List AV))
  | [] => some []
  | e :: es => match viewL H e, viewLL H es with
    | some d, some ds => some (d :: ds)
    | _, _ => none
def idsLL : List (List AV) → List Nat
  | [] => []
  | e :: es => idsL e ++ idsLL es
def frz' (H : Nat → Option AO) (ids : List Nat) : Nat → Option AO := if ids.isEmpty then H else frz H ids
def dstA (s : St) (key : Nat) (x : AV) (y : Ty) (e : TypeId) : Option (Nat × Row × Nat) :=
  match x with
  | .v (.slice none 0 0) => some (key, { k := y.size, es := [], ty := e }, max s.nx (key + 1))
  | .ref id 0 n => match rowAt s.H id with
    | some r => if n = r.es.length ∧ r.fro = false ∧ r.k = y.size ∧ r.ty = e then some (id, r, s.nx) else none
    | none => none
  | _ => none
section
variable {P : Program} {B0 : Nat} {S0 : Fr} {S' : Nat → Prop} {w w' : World} {H : Nat → Option AO} {σ : Sg}
theorem srcA_sound (hi : Inv B0 S0 w H σ) {x : AV} {u : Value} {es : List (List AV)} (hr : Rep σ w x u) (h : srcA H x = some es) :
    ∃ A c k, u = .slice A es.length c ∧ (∀ e ∈ es, e.length = k ∧ ∀ c ∈ e, c.cell = true) ∧ (es ≠ [] → ∃ b o, A = some ⟨b, o, none⟩ ∧ ∀ i (h : i < es.length), RepL σ w es[i] (fun j => w.cell? ⟨b, o + i * k + j, none⟩)) := by
  cases x with
  | lst es' =>
    simp only [srcA, Option.some.injEq] at h; subst h
    simp only [Rep] at hr
    obtain ⟨A, cap, k, rfl, h1, h2, h3, h4⟩ := hr
    refine ⟨A, cap, k, rfl, h3, fun hne => ?_⟩
    obtain ⟨b, o, rfl, hS, hR⟩ := h4 hne
    refine ⟨b, o, rfl, fun i hi => ?_⟩
    rw [repLL_iff] at hR
    exact RepL.mono (Le.of_pure σ w) _ _ _ (fun _ _ h => h) (hR i hi)
  | v x =>
    unfold srcA at h
    split at h <;> try contradiction
    rename_i he
    injection he with he; subst he
    injection h with h; subst h
    simp only [Rep] at hr; subst hr
    exact ⟨none, 0, 0, rfl, by simp, by simp⟩
  | ref id off n =>
    simp only [srcA] at h
    split at h
    · rename_i r hrow
      split at h
      · rename_i hc
        obtain ⟨c1, c2⟩ := hc
        injection h with h; subst h
        have hR := hi.row id r (rowAt_eq hrow)
        simp only [Rep] at hr
        obtain ⟨hal, A, cap, rfl, g1, g2, g3, g4⟩ := hr
        have hlen : ((r.es.drop off).take n).length = n := by simp; omega
        refine ⟨A, cap, r.k, by rw [hlen], fun e he => hR.each e (List.mem_of_mem_drop (List.mem_of_mem_take he)), fun hne => ?_⟩
        have hn : n ≠ 0 := fun e => hne (List.eq_nil_of_length_eq_zero (by rw [hlen, e]))
        obtain ⟨b, rfl, hown, hext⟩ := g3 hn
        have hcur : σ.cur id = some b := by
          rcases (hR.own b hown).1 with h | h
          · exact h
          · omega
        refine ⟨b, off * σ.k id, rfl, fun i hi' => ?_⟩
        rw [hlen] at hi'
        have he : ((r.es.drop off).take n)[i] = r.es[off + i]'(by omega) := by simp
        rw [he]
        refine RepL.congr (fun j _ => ?_) (hR.con b hcur (off + i) (by omega))
        congr 2
        rw [hR.k, Nat.add_mul]
      · cases h
    · cases h
  | _ => simp [srcA] at h
theorem viewLL_get {H : Nat → Option AO} : ∀ (es ds : List (List AV)), viewLL H es = some ds → es.length = ds.length ∧ ∀ i (h : i < es.length) (h' : i < ds.length), viewL H es[i] = some ds[i]
  | [], ds, h => by simp only [viewLL, Option.some.injEq] at h; subst h; simp
  | e :: es, ds, h => by
    simp only [viewLL] at h
    split at h
    · rename_i d ds' h1 h2
      injection h with h; subst h
      obtain ⟨g1, g2⟩ := viewLL_get es ds' h2
      refine ⟨by simp [g1], fun i hi hi' => ?_⟩
      cases i with
      | zero => exact h1
      | succ i => simpa using g2 i (by simpa using hi) (by simpa using hi')
    · cases h
theorem idsLL_mem {es : List (List AV)} {e : List AV} {id : Nat} (he : e ∈ es) (h : id ∈ idsL e) : id ∈ idsLL es := by
  induction es with
  | nil => cases he
  | cons d es ih =>
    simp only [idsLL, List.mem_append]
    rcases List.mem_cons.1 he with rfl | he
    · exact .inl h
    · exact .inr (ih he)
theorem idsLL_row {H : Nat → Option AO} : ∀ (es ds : List (List AV)), viewLL H es = some ds → ∀ id ∈ idsLL es, ∃ r, rowAt H id = some r
  | [], ds, _, id, hid => by simp [idsLL] at hid
  | e :: es, ds, h, id, hid => by
    simp only [viewLL] at h
    split at h
    · rename_i d ds' h1 h2
      simp only [idsLL, List.mem_append] at hid
      rcases hid with hid | hid
      · exact idsL_row _ _ h1 id hid
      · exact idsLL_row es ds' h2 id hid
    · cases h
def Sg.adopt (σ : Sg) (id k : Nat) : Sg := { σ with al := fun i => i = id ∨ σ.al i, cur := fun i => if i = id then none else σ.cur i, len := fun i => if i = id then 0 else σ.len i, k := fun i => if i = id then k else σ.k i }
theorem Inv.adopt (hi : Inv B0 S0 w H σ) {id : Nat} (hf : H id = none) (r : Row) (he : r.es = []) (hg : r.fro = false) (hl : r.lo = 0) :
    Le σ (σ.adopt id r.k) w w ∧ Inv B0 S0 w (updH H id (.row r)) (σ.adopt id r.k) := by
  have hno : ∀ b, σ.own b ≠ some id := (hi.fresh id hf).2
  have hle : Le σ (σ.adopt id r.k) w w := by
    refine ⟨fun _ h => h, fun _ _ => rfl, fun b i h => ⟨hi.al_of_own h, h, ?_, Nat.le_refl _⟩, fun _ h => .inr h, fun i ha => .inl ?_⟩
    · simp only [Sg.adopt]; rw [if_neg (fun (e : i = id) => hno b (e ▸ h))]
    · have e : i ≠ id := fun e => by subst e; exact (hi.al i).1 ha hf
      exact ⟨by simp only [Sg.adopt]; rw [if_neg e], by simp only [Sg.adopt]; rw [if_neg e], fun _ _ => rfl⟩
  refine ⟨hle, fun i => ?_, fun i hn => ?_, hi.S_lt, hi.own_lt, fun i r' h => ?_, fun i kt et es h => ?_, S0.mono _ _ _ _ hle hi.fr⟩
  · simp only [Sg.adopt, updH]
    by_cases e : i = id
    · simp [e]
    · simp [e, hi.al]
  · simp only [updH] at hn
    have e : i ≠ id := fun e => by simp [e] at hn
    rw [if_neg e] at hn
    obtain ⟨h1, h2⟩ := hi.fresh i hn
    exact ⟨by simp only [Sg.adopt]; rw [if_neg e]; exact h1, h2⟩
  · simp only [updH] at h
    by_cases e : i = id
    · subst e
      rw [if_pos rfl] at h; injection h with h; injection h with h; subst h
      exact ⟨by simp [Sg.adopt, he], by simp [Sg.adopt], by simp [he], by omega, fun b hb => by simp [Sg.adopt] at hb, fun _ => he, fun b hb => absurd hb (hno b), fun b hb => by simp [Sg.adopt] at hb⟩
    · rw [if_neg e] at h
      have hr := hi.row i r' h
      have hcx : (σ.adopt id r.k).cur i = σ.cur i := by simp only [Sg.adopt]; rw [if_neg e]
      exact ⟨by simp only [Sg.adopt]; rw [if_neg e]; exact hr.len, by simp only [Sg.adopt]; rw [if_neg e]; exact hr.k, hr.each, hr.lo, fun b hb => hr.cur b (by rw [← hcx]; exact hb), fun hc => hr.empty (by rw [← hcx]; exact hc),
        fun b hb => by rw [hcx]; exact hr.own b hb, fun b hb j h1 => RepL.mono hle _ _ _ (fun _ _ h => h) (hr.con b (by rw [← hcx]; exact hb) j h1)⟩
  · simp only [updH] at h
    by_cases e : i = id
    · subst e; simp at h
    · rw [if_neg e] at h
      have hm := hi.mp i kt et es h
      obtain ⟨b, clock, xs, a1, a2, a3, a4, a5, a6⟩ := hm.cur
      refine ⟨by simp only [Sg.adopt]; rw [if_neg e]; exact hm.len, ⟨b, clock, xs, by simp only [Sg.adopt]; rw [if_neg e]; exact a1, a2, a3, a4, a5, RepL.mono hle _ _ _ (fun _ _ h => h) a6⟩, fun b hb => ?_⟩
      simp only [Sg.adopt]; rw [if_neg e]; exact hm.one b hb
theorem run_append_empty (t ty e : TypeId) (i : TypeInfo) (ht : P.underlying t = some (.slice e)) (hi : P.info? e = some i) (A B : Option Addr) (n cap c : Nat) (hle : n ≤ cap) :
    (Builtin.append_ #[t, t] ty #[.slice A n cap, .slice B 0 c]).run P w = .ok (.slice A n cap) w := by
  have hf : (Builtin.firstCells i.size 0 (.slice B 0 c)).run P w = .ok #[] w := by
    cases B with
    | none => simp [Builtin.firstCells]
    | some b => simp [Builtin.firstCells, loadCells, loadCellsFrom]
  cases A with
  | none => simp [Builtin.append_, run_underlying ht, sizeOf, typeInfo, hi, Builtin.lenOf, hle, hf]
  | some a => simp [Builtin.append_, run_underlying ht, sizeOf, typeInfo, hi, Builtin.lenOf, hle, hf, storeCells]
theorem append_core {T : TypeId → Option Ty} (hT : TyOK P T) (hi : Inv B0 S0 w H σ) (hB : B0 ≤ w.heap.size) {id : Nat} {r : Row} (hH : H id = some (.row r)) (hf : r.fro = false) {t ty e : TypeId} {y : Ty} (ht : P.underlying t = some (.slice e)) (hy : T e = some y)
    (hk0 : 0 < y.size) (hk : r.k = y.size) (hty : r.ty = e) {u : Value} (hu : Rep σ w (.ref id 0 r.es.length) u) {A : Option Addr} {c : Nat} {es : List (List AV)}
    (heach : ∀ e ∈ es, e.length = y.size ∧ ∀ c ∈ e, c.cell = true) (hsrc : es ≠ [] → ∃ b o, A = some ⟨b, o, none⟩ ∧ ∀ i (h : i < es.length), RepL σ w es[i] (fun j => w.cell? ⟨b, o + i * y.size + j, none⟩))
    (hb : (r.es.length + es.length) * y.bytes ≤ 140737488355328) (hm : r.es.length + es.length ≤ maxLen) :
    ∃ v w' σ', (Builtin.append_ #[t, t] ty #[u, .slice A es.length c]).run P w = .ok v w' ∧ Below B0 w w' ∧ Le σ σ' w w' ∧
      Inv B0 S0 w' (updH H id (.row { r with es := r.es ++ es, lo := if es.isEmpty then r.lo else r.es.length + es.length })) σ' ∧ Rep σ' w' (.ref id 0 (r.es.length + es.length)) v := by
  have hR := hi.row id r hH
  obtain ⟨i, z, f1, f2, f3, f4, f5⟩ := (hT e y hy).get
  have hzs : z.cells.size = y.size := by rw [← (hT e y hy).size, ← f5]; simp
  have hu0 := hu
  simp only [Rep] at hu
  obtain ⟨hal, A', cap, rfl, g1, g2, g3, g4⟩ := hu
  by_cases hes : es = []
  · subst hes
    refine ⟨_, w, σ, run_append_empty t ty e i ht f1 A' A r.es.length cap c g1, Below.refl _ _, hi.le_heap (fun _ _ => rfl), ?_, by simpa using hu0⟩
    have : updH H id (.row { r with es := r.es ++ [], lo := if ([] : List (List AV)).isEmpty then r.lo else r.es.length + ([] : List (List AV)).length }) = H := by
      funext j
      simp only [updH, List.append_nil, List.isEmpty_nil, if_true]
      split
      · rename_i e; subst e; exact hH.symm
      · rfl
    rw [this]; exact hi
  · obtain ⟨b, o, rfl, hsr⟩ := hsrc hes
    have hpos : 0 < es.length := by
      rcases es with _ | ⟨x, xs⟩
      · exact absurd rfl hes
      · simp
    let news : List Value := (List.range (es.length * y.size)).map fun j => (w.cell? ⟨b, o + j, none⟩).getD undef
    have hnl : news.length = es.length * y.size := by simp [news]
    have hcellj : ∀ j, j < es.length * y.size → ∃ v, w.cell? ⟨b, o + j, none⟩ = some v ∧ v.oneCell' = true := by
      intro j hj
      have hi' : j / y.size < es.length := (Nat.div_lt_iff_lt_mul hk0).2 hj
      have hj' : j % y.size < y.size := Nat.mod_lt _ hk0
      have h1 := hsr (j / y.size) hi'
      rw [repL_iff] at h1
      have hel := heach _ (List.getElem_mem hi')
      obtain ⟨v, hv, hrv⟩ := h1 (j % y.size) (by rw [hel.1]; exact hj')
      refine ⟨v, ?_, rep_oneCell hrv (hel.2 _ (List.getElem_mem _))⟩
      rw [← hv]
      congr 2
      have := Nat.div_add_mod j y.size
      rw [Nat.mul_comm] at this
      omega
    have hnget : ∀ j v, news[j]? = some v → w.cell? ⟨b, o + j, none⟩ = some v ∧ v.oneCell' = true := by
      intro j v hv
      obtain ⟨hlt, he⟩ := List.getElem?_eq_some_iff.1 hv
      rw [hnl] at hlt
      obtain ⟨v', hv', h1⟩ := hcellj j hlt
      simp only [news, List.getElem_map, List.getElem_range, hv', Option.getD_some] at he
      subst he; exact ⟨hv', h1⟩
    have hnone : ∀ v ∈ news, v.oneCell' = true := fun v hv => by
      obtain ⟨j, hj, rfl⟩ := List.getElem_of_mem hv
      exact (hnget j _ (List.getElem?_eq_getElem hj)).2
    -- what the destination owns
    have hown : ∃ xs, w.ownsRow B0 e y.size (.slice A' r.es.length cap) r.es.length xs ∧ (∀ b', σ.cur id = some b' → ∃ arr : Array Value, w.heap[b']? = some (.cells arr r.ty (0, 0)) ∧ xs = arr.toList.take (r.es.length * y.size)) ∧ (Value.slice A' r.es.length cap).ownBlock = σ.cur id := by
      rcases g4 trivial hR.len.symm with ⟨h1, h2, rfl, rfl⟩ | ⟨b', h1, rfl, h3⟩
      · refine ⟨[], ⟨by simp [h2], .inl ⟨by rw [h2], h2⟩⟩, fun b' hb' => (by rw [h1] at hb'; cases hb'), by rw [h1]; rfl⟩
      · obtain ⟨a1, a2, a3, a4, arr, a5, a6⟩ := hR.cur b' h1
        refine ⟨arr.toList.take (r.es.length * y.size), ⟨?_, .inr ⟨b', cap, arr, rfl, (hi.own_lt b' id a1).1, by rw [← hty]; exact a5, g1, g2, by rw [a6, h3, hk], rfl⟩⟩, fun b'' hb'' => ?_, by rw [h1]; rfl⟩
        · rw [List.length_take, Array.length_toList, a6, hk]
          exact Nat.min_eq_left (Nat.mul_le_mul_right _ a3)
        · rw [h1] at hb''; injection hb'' with hb''; subst hb''; exact ⟨arr, a5, rfl⟩
    obtain ⟨xs, hown, hxs, hblk⟩ := hown
    obtain ⟨v', w', hrun, hown', hgrow, hnil, hwhere⟩ := run_append_own_at (P := P) w B0 t ty e i z y.size y.bytes ht f1 f4 f2 f3 hzs hk0 _ _ xs hown ⟨b, o, none⟩ es.length c news hnl (fun j v hv => by rw [Addr.add_lit]; exact (hnget j v hv).1) hnone hm hb hB
    rcases hown'.2 with ⟨_, h0⟩ | ⟨g, cap', cur', rfl, hBg, hg', hnc, hcm, hcs, htake⟩
    · omega
    · have hgc : σ.cur id = some g ∨ (w.heap.size ≤ g ∧ B0 ≤ g) := by
        rcases hwhere with h | h
        · rw [hblk] at h; exact .inl h.symm
        · simp only [Value.ownBlock, Option.some.injEq] at h; exact .inr ⟨by omega, hBg⟩
      have hlen' : (r.es ++ es).length = r.es.length + es.length := by simp
      have hcg : ∀ m, m < (r.es.length + es.length) * y.size → cur'[m]? = (xs ++ news)[m]? := by
        intro m hm'
        rw [← htake, List.getElem?_take, if_pos hm', Array.getElem?_toList]
      have hxl : xs.length = r.es.length * y.size := hown.1
      have hres := hi.renew (w' := w') (r' := { r with es := r.es ++ es, lo := r.es.length + es.length }) (g := g) (cap := cap') (arr := cur') hH rfl hf hf hgc (by rw [hty]; exact hg') hgrow.size
        (fun k' hk' hc' hne => hgrow.block k' hk' (by rw [hblk]; exact fun e => hc' e.symm)) (.inl ⟨by rw [hlen']; omega, by rw [hlen']⟩) (by rw [hlen']; exact hnc) hcm (by rw [hcs, hk])
        (fun e' he' => by
          rcases List.mem_append.1 he' with he' | he'
          · exact hR.each e' he'
          · rw [hk]; exact heach e' he')
        (fun m hm' => by
          rw [hlen'] at hm'
          have hin : ∀ q, q < y.size → m * y.size + q < (r.es.length + es.length) * y.size := by
            intro q hq
            have : (m + 1) * y.size ≤ (r.es.length + es.length) * y.size := Nat.mul_le_mul_right _ hm'
            rw [Nat.add_mul] at this; omega
          simp only [hk]
          by_cases hlt : m < r.es.length
          · rw [List.getElem_append_left hlt]
            have hne : σ.cur id ≠ none := fun hc => by have := hR.empty hc; rw [this] at hlt; simp at hlt
            obtain ⟨b', hb'⟩ := Option.ne_none_iff_exists'.1 hne
            obtain ⟨arr, a5, hxa⟩ := hxs b' hb'
            refine RepL.congr (fun q hq => ?_) (hR.con b' hb' m hlt)
            rw [(hR.each _ (List.getElem_mem hlt)).1, hk] at hq
            have hmq : m * y.size + q < r.es.length * y.size := by
              have : (m + 1) * y.size ≤ r.es.length * y.size := Nat.mul_le_mul_right _ hlt
              rw [Nat.add_mul] at this; omega
            rw [hcg _ (hin q hq), List.getElem?_append_left (by rw [hxl]; exact hmq), hxa, List.getElem?_take, if_pos hmq, Array.getElem?_toList, hk]
            exact cell_of_row w b' _ arr r.ty (0, 0) a5
          · have hme : m - r.es.length < es.length := by omega
            rw [List.getElem_append_right (by omega)]
            refine RepL.congr (fun q hq => ?_) (hsr (m - r.es.length) hme)
            rw [(heach _ (List.getElem_mem hme)).1] at hq
            have hsub : m * y.size + q - xs.length = (m - r.es.length) * y.size + q := by
              rw [hxl, Nat.sub_mul]
              have : r.es.length * y.size ≤ m * y.size := Nat.mul_le_mul_right _ (by omega)
              omega
            have hge : xs.length ≤ m * y.size + q := by
              rw [hxl]
              have : r.es.length * y.size ≤ m * y.size := Nat.mul_le_mul_right _ (by omega)
              omega
            rw [hcg _ (hin q hq), List.getElem?_append_right hge, hsub]
            have hb2 : (m - r.es.length) * y.size + q < es.length * y.size := by
              have : (m - r.es.length + 1) * y.size ≤ es.length * y.size := Nat.mul_le_mul_right _ hme
              rw [Nat.add_mul] at this; omega
            have hn2 : news[(m - r.es.length) * y.size + q]? = some (news[(m - r.es.length) * y.size + q]'(by rw [hnl]; exact hb2)) := List.getElem?_eq_getElem _
            rw [hn2, ← (hnget _ _ hn2).1]
            congr 2
            omega)
      refine ⟨_, w', _, hrun, ⟨hgrow.os, hgrow.tape, hgrow.output, hgrow.size, fun k' hk' => hgrow.block k' (by omega) (fun e => ?_)⟩, hres.1, ?_, ?_⟩
      · rw [hblk] at e
        have := (hi.own_lt k' id (hR.cur k' e.symm).1).1; omega
      · have : es.isEmpty = false := by cases es <;> simp_all
        simp only [this, Bool.false_eq_true, if_false]
        exact hres.2
      · simp only [Rep]
        rw [hlen']
        refine ⟨hres.1.al id hal, some ⟨g, 0, none⟩, cap', rfl, hnc, hcm, fun _ => ⟨g, by simp, by simp [Sg.renew], by simp [Sg.renew]⟩, fun _ _ => .inr ⟨g, by simp [Sg.renew], rfl, by simp [Sg.renew]⟩⟩
end
end Go.Pg

namespace Go.Pg
open Go Go.RowKit
section
variable {C : Cx} {N : Nat} {Q : Exit → St → Prop} {s : St} {ops : Array Oper} {rest : List Oper} {o : Oper}
def appRow (r : Row) (n : Nat) (news : List (List AV)) : Row := { r with es := r.es ++ news, lo := if news.isEmpty then r.lo else r.es.length + n }
theorem frz'_row {H : Nat → Option AO} {ids : List Nat} {id : Nat} (h : id ∉ ids) : frz' H ids id = H id := by
  unfold frz'
  split
  · rfl
  · unfold frz; rw [if_neg h]
theorem AWL.append (hC : C.OK) (hg : o.guard = none) {d : Nat} (hd : o.dst = some d) (hN : d < N) {x1 x2 : Operand} {t : TypeId} (ho : o.op = .call { callee := .builtin .append, args := #[x1, x2], argTypes := #[t, t] })
    {e : TypeId} {ty y : Ty} (ht : C.T t = some ty) (hte : ty.d = .slice e) (hy : C.T e = some y) (hk0 : 0 < y.size) {key id nx : Nat} {r : Row} (hkey : key = s.nx ∨ s.H key = none) (hdst : dstA s key (s.ev x1) y e = some (id, r, nx))
    {es news : List (List AV)} (hsrc : srcA s.H (s.ev x2) = some es) (hlen : ∀ e ∈ es, e.length = y.size) (hv : viewLL s.H es = some news) (hid : id ∉ idsLL es)
    (hb : (r.es.length + es.length) * y.bytes ≤ 140737488355328) (hm : r.es.length + es.length ≤ 140737488355328)
    (k : AWL C N ops Q rest { tm := upd s.tm d (.ref id 0 (r.es.length + es.length)), H := updH (frz' s.H (idsLL es)) id (.row (appRow r es.length news)), nx := nx }) : AWL C N ops Q (o :: rest) s := by
  rintro S0 w0 a w hE ⟨σ, hσ⟩
  have hd1 := hσ.ev x1
  -- the destination's row is there
  have hstep1 : ∃ σ1 H1, Le σ σ1 w w ∧ Inv w0.heap.size S0 w H1 σ1 ∧ (∀ i, i ≠ id → H1 i = s.H i) ∧ (H1 id = some (.row r)) ∧ Rep σ1 w (.ref id 0 r.es.length) (a.eval x1) ∧ r.fro = false ∧ r.k = y.size ∧ r.ty = e ∧ (∀ i, nx ≤ i → H1 i = none) := by
    unfold dstA at hdst
    split at hdst
    · rename_i hx
      injection hdst with hdst
      simp only [Prod.mk.injEq] at hdst
      obtain ⟨rfl, rfl, rfl⟩ := hdst
      rw [hx] at hd1
      simp only [Rep] at hd1
      have hf : s.H key = none := by
        rcases hkey with h | h
        · rw [h]; exact hσ.nx s.nx (Nat.le_refl _)
        · exact h
      have had := hσ.inv.adopt hf { k := y.size, es := [], ty := e } rfl rfl rfl
      refine ⟨_, _, had.1, had.2, fun i hi => by simp only [updH]; rw [if_neg hi], by simp [updH], ?_, rfl, rfl, rfl, fun i hi => ?_⟩
      · rw [hd1]
        simp only [Rep]
        exact ⟨.inl rfl, none, 0, rfl, Nat.le_refl _, by simp [maxLen], fun h => absurd rfl h, fun _ _ => .inl ⟨by simp [Sg.adopt], rfl, rfl, rfl⟩⟩
      · simp only [updH]; rw [if_neg (by omega)]; exact hσ.nx i (by omega)
    · rename_i id' n hx
      split at hdst
      · rename_i r' hrow
        split at hdst
        · rename_i hc
          obtain ⟨c1, c2, c3, c4⟩ := hc
          injection hdst with hdst
          simp only [Prod.mk.injEq] at hdst
          obtain ⟨rfl, rfl, rfl⟩ := hdst
          rw [hx, c1] at hd1
          exact ⟨σ, s.H, hσ.inv.le_heap (fun _ _ => rfl), hσ.inv, fun _ _ => rfl, rowAt_eq hrow, hd1, c2, c3, c4, hσ.nx⟩
        · cases hdst
      · cases hdst
    · cases hdst
  obtain ⟨σ1, H1, l1, i1, ho1, hH1, hr1, hf1, hk1, hty1, hnx1⟩ := hstep1
  obtain ⟨A, c, k', hx2, hea, hss⟩ := srcA_sound hσ.inv (hσ.ev x2) hsrc
  -- what the elements name is frozen
  have hrows : ∀ i ∈ idsLL es, ∃ r, rowAt H1 i = some r := fun i hi => by
    obtain ⟨r', hr'⟩ := idsLL_row _ _ hv i hi
    have hne : i ≠ id := fun e => hid (e ▸ hi)
    refine ⟨r', ?_⟩
    unfold rowAt at hr' ⊢
    rw [ho1 i hne]; exact hr'
  obtain ⟨hvl, hvg⟩ := viewLL_get _ _ hv
  let σ2 := σ1.frz (idsLL es)
  have i2' := i1.frz hrows
  have l2' := i1.le_frz (idsLL es)
  have i2 : Inv w0.heap.size S0 w (frz' H1 (idsLL es)) σ2 := by
    unfold frz'
    split
    · rename_i he
      have : idsLL es = [] := by simpa using he
      have e1 : σ2 = σ1 := by
        show σ1.frz (idsLL es) = σ1
        rw [this]
        unfold Sg.frz
        congr 1
        funext b; simp
      rw [e1]; exact i1
    · exact i2'
  have l12 : Le σ σ2 w w := ⟨fun b h => .inl (l1.S b h), fun _ _ => rfl, fun b i h => ⟨(l1.own b i h).1, (l1.own b i h).2⟩, l1.al, l1.obj⟩
  have hH2 : frz' H1 (idsLL es) id = some (.row r) := by rw [frz'_row hid]; exact hH1
  have hr2 : Rep σ2 w (.ref id 0 r.es.length) (a.eval x1) := Rep.mono l2' _ _ hr1
  have heach : ∀ e ∈ news, e.length = y.size ∧ ∀ c ∈ e, c.cell = true := by
    intro e' he'
    obtain ⟨i, hi, rfl⟩ := List.getElem_of_mem he'
    have hi' : i < es.length := by omega
    have hve := hvg i hi' hi
    have hmem := List.getElem_mem hi'
    by_cases hne : es = []
    · subst hne; simp at hi'
    · obtain ⟨b, o', _, hR⟩ := hss hne
      obtain ⟨g1, g2, _⟩ := viewL_sound hσ.inv (S' := fun _ => True) (fun _ _ => trivial) _ _ _ hve (fun _ _ _ _ => trivial) (hR i hi')
      exact ⟨by rw [← g1]; exact hlen _ hmem, g2 (hea _ hmem).2⟩
  have hsrc2 : news ≠ [] → ∃ b o, A = some ⟨b, o, none⟩ ∧ ∀ i (h : i < news.length), RepL σ2 w news[i] (fun j => w.cell? ⟨b, o + i * y.size + j, none⟩) := by
    intro hne
    have hne' : es ≠ [] := fun e => by subst e; simp at hvl; exact hne (List.eq_nil_of_length_eq_zero hvl.symm)
    obtain ⟨b, o', rfl, hR⟩ := hss hne'
    have hk' : k' = y.size := by
      obtain ⟨x, xs, rfl⟩ := List.exists_cons_of_ne_nil hne'
      rw [← (hea x (by simp)).1, hlen x (by simp)]
    refine ⟨b, o', rfl, fun i hi => ?_⟩
    have hi' : i < es.length := by omega
    have hve := hvg i hi' hi
    obtain ⟨_, _, g3⟩ := viewL_sound hσ.inv (S' := fun b => σ.S b ∨ ∃ id, id ∈ idsLL es ∧ σ.own b = some id) (fun b h => .inl h) _ _ _ hve (fun id hid b hb => .inr ⟨id, idsLL_mem (List.getElem_mem hi') hid, hb⟩) (hR i hi')
    rw [hk'] at g3
    refine RepL.mono (Le.of_pure σ2 w) _ _ _ (fun _ _ h => h) (RepL.mono (Le.pure_ (fun b h => ?_) (fun _ _ => rfl)) _ _ _ (fun _ _ h => h) g3)
    rcases h with h | ⟨id', h1, h2⟩
    · exact .inl (l1.S b h)
    · exact .inr ⟨id', h1, (l1.own b id' h2).2.1⟩
  have hln : es.length = news.length := hvl
  obtain ⟨v, w', σ', hrun, hb', hle', hinv', hrep'⟩ := append_core (T := C.T) (ty := o.type) (A := A) (c := c) (es := news) hC.T i2 hσ.size hH2 hf1 ((hC.T t _ ht).slice hte) hy hk0 hk1 hty1 hr2 heach hsrc2 (by rw [← hln]; exact hb) (by rw [← hln]; simp only [maxLen]; omega)
  refine wpListIn_plain hg fun K hK => Oper.wpIn_of_wp C.hF (fun c e => by rw [ho] at e; cases e) ?_
  have hexec : (execOp a.eval o).run C.P w = .ok (.value v) w' := by
    rw [← hln] at hrun
    simp only [execOp, ho, resolve, invoke, builtin, Sem.run_bind, Sem.run_pure, Result.andThen_ok, List.map_toArray, List.map_cons, List.map_nil, hx2, hrun]
  simp only [Oper.wp, hexec, Oper.upon]
  rw [hd]
  refine hK _ _ (k S0 w0 _ w' hE ⟨σ', ?_⟩)
  have hlt : Le σ σ' w w' := ⟨fun b h => hle'.S b (l12.S b h), fun b h => hle'.heap b (l12.S b h), fun b i h => ?_, fun i h => hle'.al i (l12.al i h), fun i h => ?_⟩
  · refine hσ.put hN (s' := { tm := upd s.tm d (.ref id 0 (r.es.length + es.length)), H := updH (frz' s.H (idsLL es)) id (.row (appRow r es.length news)), nx := nx }) ?_ (fun i hi => ?_) hlt hb' (by rw [hln]; exact hrep') rfl
    · have : updH (frz' s.H (idsLL es)) id (.row (appRow r es.length news)) = updH (frz' H1 (idsLL es)) id (.row { r with es := r.es ++ news, lo := if news.isEmpty then r.lo else r.es.length + news.length }) := by
        funext i
        simp only [updH, appRow, hln]
        split
        · rfl
        · rename_i hne
          unfold frz'
          split
          · exact (ho1 i hne).symm
          · unfold frz; rw [ho1 i hne]
      show Inv w0.heap.size S0 w' (updH (frz' s.H (idsLL es)) id (.row (appRow r es.length news))) σ'
      rw [this]; exact hinv'
    · show updH (frz' s.H (idsLL es)) id (.row (appRow r es.length news)) i = none
      have hii : H1 i = none := hnx1 i hi
      have hne : i ≠ id := fun e => by subst e; rw [hH1] at hii; cases hii
      simp only [updH]; rw [if_neg hne]
      have hsn : s.H i = none := by rw [← ho1 i hne]; exact hii
      unfold frz'
      split
      · exact hsn
      · unfold frz; split
        · rw [hsn]
        · exact hsn
  · obtain ⟨h1, h2, h3, h4⟩ := l12.own b i h
    obtain ⟨_, g2, g3, g4⟩ := hle'.own b i h2
    exact ⟨h1, g2, g3.trans h3, Nat.le_trans h4 g4⟩
  · rcases l12.obj i h with ⟨a1, a2, a3⟩ | ⟨a1, a2⟩ <;> rcases hle'.obj i (l12.al i h) with ⟨b1, b2, b3⟩ | ⟨b1, b2⟩
    · exact .inl ⟨b1.trans a1, b2.trans a2, fun b hb => (b3 b (by rw [a2]; exact hb)).trans (a3 b hb)⟩
    · refine .inr ⟨by omega, fun b hb => ?_⟩
      have := b2 b (l12.own b i hb).2.1
      have := (l12.own b i hb).2.2.2
      omega
    · exact .inr ⟨by omega, a2⟩
    · exact .inr ⟨by omega, a2⟩
end
section
variable {C : Cx} {Q : AV → Prop}
theorem results_tmps {fn : Func} {ts : List Nat} (h : fn.results = (ts.map ResultVar.tmp).toArray) (hl : ts.length ≠ 1) (tmps : Array Value) (P : Program) (w : World) :
    (results fn tmps).run P w = .ok (.tuple ((ts.map fun t => tmps.getD t undef).toArray)) w := by
  have key : ∀ ts : List Nat, ((ts.map ResultVar.tmp).mapM fun (x : ResultVar) => (match x with | .tmp t => pure (tmps.getD t undef) | .cell a t => do loadVar t (← asAddr (tmps.getD a undef)) : Sem Value)).run P w = .ok (ts.map fun t => tmps.getD t undef) w := by
    intro ts
    induction ts with
    | nil => simp
    | cons t ts ih => simp only [List.map_cons, List.mapM_cons, Sem.run_bind, Sem.run_pure, Result.andThen_ok, ih]
  simp only [results, h, Array.mapM_eq_mapM_toList, Sem.run_bind, Sem.run_map, Sem.run_pure]
  refine (congrArg (fun r => (Result.andThen (Result.andThen r fun a w' => Result.ok a.toArray w') fun a w' => Result.ok (if h : a.size = 1 then a[0] else Value.tuple a) w')) (key ts)).trans ?_
  simp [hl]
def endQ (rs : List Nat) (Q : AV → Prop) : Exit → St → Prop
  | .normal, s => ∃ r', viewA s.H (match rs with | [t] => s.tm t | ts => .tup (ts.map s.tm)) = some r' ∧ Q r'
  | .ret, s => ∃ r', viewA s.H (match rs with | [t] => s.tm t | ts => .tup (ts.map s.tm)) = some r' ∧ Q r'
  | _, _ => False
def startSt (args : List AV) : St := { tm := fun t => args.getD t .junk, H := fun _ => none, nx := 0 }
theorem start_sim {w : World} {S : Nat → Prop} {vals : Array Value} {args : List AV} {N : Nat} (hS : ∀ b, S b → b < w.heap.size) (hsz : vals.size = args.length) (hr : RepL (pureSg S) w args (fun i => vals[i]?)) (hN : args.length ≤ N) :
    Sim (Fr.of S) w N { tmps := vals ++ Array.replicate (N - vals.size) undef, defers := [] } w (startSt args) := by
  refine ⟨pureSg S, ⟨⟨fun id => by simp [pureSg, startSt], fun id _ => ⟨rfl, fun b h => by simp [pureSg] at h⟩, fun b h => ⟨hS b h, .inl h⟩, fun b id h => by simp [pureSg] at h, fun id r h => by simp [startSt] at h, fun id kt et es h => by simp [startSt] at h, trivial⟩, fun _ _ => rfl, fun t => ?_, by simp; omega, rfl, Below.refl _ _⟩⟩
  show Rep (pureSg S) w (args.getD t .junk) ((vals ++ Array.replicate (N - vals.size) undef).getD t undef)
  by_cases ht : t < args.length
  · rw [repL_iff] at hr
    obtain ⟨u, hu, hru⟩ := hr t ht
    have : (vals ++ Array.replicate (N - vals.size) undef).getD t undef = u := by
      rw [Array.getD_eq_getD_getElem?, Array.getElem?_append_left (by omega), hu]; rfl
    rw [this, List.getD_eq_getElem?_getD, List.getElem?_eq_getElem ht]; exact hru
  · have : args.getD t .junk = .junk := by rw [List.getD_eq_getElem?_getD, List.getElem?_eq_none (by omega)]; rfl
    rw [this]; trivial
theorem OKat.of_body [hW : C.Wide] {f : FuncId} {fn : Func} {c : Code} {args : List AV} {rs : List Nat} (hf : C.P.funcs[f]? = some fn) (hb : fn.body = some c) (hn : (fn.name == "runtime.NumGoroutine") = false) (hr : fn.results = (rs.map ResultVar.tmp).toArray)
    (hN : args.length ≤ fn.ntmps) (h : AW C fn.ntmps c (endQ rs Q) (startSt args)) : OKat C f args Q := by
  refine ⟨⟨fn, hf, hn, by rw [hb]; rfl⟩, fun w S vals hE hS hsz hrep => ?_⟩
  refine calls_of_wp hf hb ?_
  have hs := start_sim (N := fn.ntmps) hS hsz hrep hN
  have h2 := h (Fr.of S) w _ w hE hs
  rw [hW.h] at h2
  refine wp_mono (wpIn_wide.1 h2) ?_
  have fin : ∀ a' w' s', Sim (Fr.of S) w fn.ntmps a' w' s' → (∃ r', viewA s'.H (match rs with | [t] => s'.tm t | ts => .tup (ts.map s'.tm)) = some r' ∧ Q r') →
      a'.defers = [] ∧ ∃ v, (results fn a'.tmps).run C.P w' = .ok v w' ∧ (Below w.heap.size w w' ∧ ∃ v2 r, Ending.returned v = .returned v2 ∧ Q r ∧ Rep (pureSg fun b => S b ∨ (w.heap.size ≤ b ∧ b < w'.heap.size)) w' r v2) := by
    rintro a' w' s' ⟨σ, hσ⟩ ⟨r', hv, hq⟩
    have hview : ∀ (c : AV) (u : Value), viewA s'.H c = some r' → Rep σ w' c u → Rep (pureSg fun b => S b ∨ (w.heap.size ≤ b ∧ b < w'.heap.size)) w' r' u := by
      intro c u hc hu
      refine viewA_sound hσ.inv (fun b hb => ?_) c u r' hc (fun id _ b hb => .inr (hσ.inv.own_lt b id hb)) hu
      have := hσ.inv.S_lt b hb
      rcases this.2 with h | h
      · exact .inl h
      · exact .inr ⟨h, this.1⟩
    refine ⟨hσ.d, ?_⟩
    by_cases hl : ∃ t, rs = [t]
    · obtain ⟨t, rfl⟩ := hl
      exact ⟨_, results_tmp (by simpa using hr) _ _ _, hσ.below, _, r', rfl, hq, hview _ _ hv (hσ.tm t)⟩
    · have hne : rs.length ≠ 1 := fun h => by
        match rs, h with
        | [t], _ => exact hl ⟨t, rfl⟩
      refine ⟨_, results_tmps hr hne _ _ _, hσ.below, _, r', rfl, hq, ?_⟩
      have hm : (match rs with | [t] => s'.tm t | ts => AV.tup (ts.map s'.tm)) = .tup (rs.map s'.tm) := by
        match rs, hl with
        | [], _ => rfl
        | [t], h => exact absurd ⟨t, rfl⟩ h
        | _ :: _ :: _, _ => rfl
      rw [hm] at hv
      refine hview _ _ hv ?_
      simp only [Rep]
      refine ⟨_, rfl, by simp, ?_⟩
      rw [repL_iff']
      intro i c hc
      simp only [List.getElem?_map, Option.map_eq_some_iff] at hc
      obtain ⟨t, ht, rfl⟩ := hc
      exact ⟨a'.tmps.getD t undef, by simp [ht], hσ.tm t⟩
  rintro e a' w' ⟨s', hs', hq⟩
  cases e with
  | normal => exact fin a' w' s' hs' hq
  | ret => exact fin a' w' s' hs' hq
  | exit id => exact hq.elim
  | goto l => exact hq.elim
  | panic c => exact hq.elim
  | outgrown => exact hq.elim
end
end Go.Pg

namespace Go.Proofs.Ks
open Go Go.Pg Go.Proofs
def T : TypeId → Option Ty
  | 2 => some { size := 1, bytes := 8, zero := [.v (.int .i64 0)], d := .int .i64 }
  | 3 => some { size := 1, bytes := 8, zero := [.v (.int .i64 0)], d := .int .i64 }
  | 4 => some { size := 1, bytes := 1, zero := [.v (.bool false)], d := .bool }
  | 5 => some { size := 1, bytes := 1, zero := [.v (.int .u8 0)], d := .int .u8 }
  | 23 => some { size := 2, bytes := 16, zero := [.v (.int .i64 0), .v (.int .i64 0)], d := .st [(0, 3), (1, 3)] }
  | 24 => some { size := 1, bytes := 24, zero := [.v (.slice none 0 0)], d := .slice 68 }
  | 26 => some { size := 12, bytes := 112, zero := [.v (.int .i64 0), .v (.int .i64 0), .v (.int .i64 0), .v (.int .i64 0), .v (.int .i64 0), .v (.int .i64 0), .v (.int .i64 0), .v (.int .i64 0), .v (.int .i64 0), .v (.int .i64 0), .v (.int .i64 0), .v (.slice none 0 0)], d := .st [(0, 3), (1, 23), (3, 23), (5, 23), (7, 23), (9, 23), (11, 24)] }
  | 27 => some { size := 1, bytes := 24, zero := [.v (.slice none 0 0)], d := .slice 60 }
  | 28 => some { size := 1, bytes := 24, zero := [.v (.slice none 0 0)], d := .slice 53 }
  | 30 => some { size := 14, bytes := 160, zero := [.v (.int .i64 0), .v (.int .i64 0), .v (.int .i64 0), .v (.int .i64 0), .v (.int .i64 0), .v (.int .i64 0), .v (.int .i64 0), .v (.int .i64 0), .v (.int .i64 0), .v (.int .i64 0), .v (.int .i64 0), .v (.slice none 0 0), .v (.slice none 0 0), .v (.slice none 0 0)], d := .st [(0, 26), (12, 27), (13, 28)] }
  | 33 => some { size := 1, bytes := 8, zero := [.v (.int .i64 0)], d := .int .i64 }
  | 41 => some { size := 1, bytes := 24, zero := [.v (.slice none 0 0)], d := .slice 3 }
  | 47 => some { size := 1, bytes := 24, zero := [.v (.slice none 0 0)], d := .slice 23 }
  | 53 => some { size := 3, bytes := 24, zero := [.v (.int .i64 0), .v (.int .i64 0), .v (.int .i64 0)], d := .st [(0, 3), (1, 23)] }
  | 60 => some { size := 3, bytes := 24, zero := [.v (.int .i64 0), .v (.int .i64 0), .v (.int .i64 0)], d := .st [(0, 3), (1, 23)] }
  | 62 => some { size := 1, bytes := 24, zero := [.v (.slice none 0 0)], d := .slice 66 }
  | 66 => some { size := 3, bytes := 24, zero := [.v (.int .i64 0), .v (.int .i64 0), .v (.int .i64 0)], d := .st [(0, 3), (1, 3), (2, 3)] }
  | 68 => some { size := 3, bytes := 24, zero := [.v (.int .i64 0), .v (.int .i64 0), .v (.int .i64 0)], d := .st [(0, 3), (1, 23)] }
  | 72 => some { size := 1, bytes := 24, zero := [.v (.slice none 0 0)], d := .slice 144 }
  | 86 => some { size := 1, bytes := 2, zero := [.v (.int .i16 0)], d := .int .i16 }
  | 92 => some { size := 1, bytes := 24, zero := [.v (.slice none 0 0)], d := .slice 41 }
  | 98 => some { size := 1, bytes := 24, zero := [.v (.slice none 0 0)], d := .slice 111 }
  | 100 => some { size := 3, bytes := 40, zero := [.v (.int .i64 0), .v (.int .i64 0), .v (.slice none 0 0)], d := .st [(0, 3), (1, 3), (2, 98)] }
  | 111 => some { size := 2, bytes := 16, zero := [.v (.int .i64 0), .v (.int .i64 0)], d := .st [(0, 3), (1, 3)] }
  | 122 => some { size := 1, bytes := 8, zero := [.v (.pointer none)], d := .other }
  | 133 => some { size := 1, bytes := 8, zero := [.v (.map none)], d := .map 144 3 }
  | 135 => some { size := 3, bytes := 56, zero := [.v (.slice none 0 0), .v (.map none), .v (.slice none 0 0)], d := .st [(0, 72), (1, 133), (2, 62)] }
  | 140 => some { size := 1, bytes := 8, zero := [.v (.map none)], d := .map 3 4 }
  | 144 => some { size := 2, bytes := 16, zero := [.v (.int .i64 0), .v (.int .i64 0)], d := .st [(0, 3), (1, 3)] }
  | 151 => some { size := 1, bytes := 8, zero := [.v (.map none)], d := .map 3 3 }
  | 164 => some { size := 1, bytes := 8, zero := [.v (.int .u64 0)], d := .int .u64 }
  | 184 => some { size := 1, bytes := 8, zero := [.v (.int .u64 0)], d := .int .u64 }
  | _ => none
theorem T2 : TyFact Try.prog 2 { size := 1, bytes := 8, zero := [.v (.int .i64 0)], d := .int .i64 } := ⟨by kernel_rfl, by kernel_rfl, by kernel_rfl, by kernel_rfl, by kernel_rfl⟩
theorem T3 : TyFact Try.prog 3 { size := 1, bytes := 8, zero := [.v (.int .i64 0)], d := .int .i64 } := ⟨by kernel_rfl, by kernel_rfl, by kernel_rfl, by kernel_rfl, by kernel_rfl⟩
theorem T4 : TyFact Try.prog 4 { size := 1, bytes := 1, zero := [.v (.bool false)], d := .bool } := ⟨by kernel_rfl, by kernel_rfl, by kernel_rfl, by kernel_rfl, by kernel_rfl⟩
theorem T5 : TyFact Try.prog 5 { size := 1, bytes := 1, zero := [.v (.int .u8 0)], d := .int .u8 } := ⟨by kernel_rfl, by kernel_rfl, by kernel_rfl, by kernel_rfl, by kernel_rfl⟩
theorem T23 : TyFact Try.prog 23 { size := 2, bytes := 16, zero := [.v (.int .i64 0), .v (.int .i64 0)], d := .st [(0, 3), (1, 3)] } := ⟨by kernel_rfl, by kernel_rfl, by kernel_rfl, by kernel_rfl, by kernel_rfl⟩
theorem T24 : TyFact Try.prog 24 { size := 1, bytes := 24, zero := [.v (.slice none 0 0)], d := .slice 68 } := ⟨by kernel_rfl, by kernel_rfl, by kernel_rfl, by kernel_rfl, by kernel_rfl⟩
theorem T26 : TyFact Try.prog 26 { size := 12, bytes := 112, zero := [.v (.int .i64 0), .v (.int .i64 0), .v (.int .i64 0), .v (.int .i64 0), .v (.int .i64 0), .v (.int .i64 0), .v (.int .i64 0), .v (.int .i64 0), .v (.int .i64 0), .v (.int .i64 0), .v (.int .i64 0), .v (.slice none 0 0)], d := .st [(0, 3), (1, 23), (3, 23), (5, 23), (7, 23), (9, 23), (11, 24)] } := ⟨by kernel_rfl, by kernel_rfl, by kernel_rfl, by kernel_rfl, by kernel_rfl⟩
theorem T27 : TyFact Try.prog 27 { size := 1, bytes := 24, zero := [.v (.slice none 0 0)], d := .slice 60 } := ⟨by kernel_rfl, by kernel_rfl, by kernel_rfl, by kernel_rfl, by kernel_rfl⟩
theorem T28 : TyFact Try.prog 28 { size := 1, bytes := 24, zero := [.v (.slice none 0 0)], d := .slice 53 } := ⟨by kernel_rfl, by kernel_rfl, by kernel_rfl, by kernel_rfl, by kernel_rfl⟩
theorem T30 : TyFact Try.prog 30 { size := 14, bytes := 160, zero := [.v (.int .i64 0), .v (.int .i64 0), .v (.int .i64 0), .v (.int .i64 0), .v (.int .i64 0), .v (.int .i64 0), .v (.int .i64 0), .v (.int .i64 0), .v (.int .i64 0), .v (.int .i64 0), .v (.int .i64 0), .v (.slice none 0 0), .v (.slice none 0 0), .v (.slice none 0 0)], d := .st [(0, 26), (12, 27), (13, 28)] } := ⟨by kernel_rfl, by kernel_rfl, by kernel_rfl, by kernel_rfl, by kernel_rfl⟩
theorem T33 : TyFact Try.prog 33 { size := 1, bytes := 8, zero := [.v (.int .i64 0)], d := .int .i64 } := ⟨by kernel_rfl, by kernel_rfl, by kernel_rfl, by kernel_rfl, by kernel_rfl⟩
theorem T41 : TyFact Try.prog 41 { size := 1, bytes := 24, zero := [.v (.slice none 0 0)], d := .slice 3 } := ⟨by kernel_rfl, by kernel_rfl, by kernel_rfl, by kernel_rfl, by kernel_rfl⟩
theorem T47 : TyFact Try.prog 47 { size := 1, bytes := 24, zero := [.v (.slice none 0 0)], d := .slice 23 } := ⟨by kernel_rfl, by kernel_rfl, by kernel_rfl, by kernel_rfl, by kernel_rfl⟩
theorem T53 : TyFact Try.prog 53 { size := 3, bytes := 24, zero := [.v (.int .i64 0), .v (.int .i64 0), .v (.int .i64 0)], d := .st [(0, 3), (1, 23)] } := ⟨by kernel_rfl, by kernel_rfl, by kernel_rfl, by kernel_rfl, by kernel_rfl⟩
theorem T60 : TyFact Try.prog 60 { size := 3, bytes := 24, zero := [.v (.int .i64 0), .v (.int .i64 0), .v (.int .i64 0)], d := .st [(0, 3), (1, 23)] } := ⟨by kernel_rfl, by kernel_rfl, by kernel_rfl, by kernel_rfl, by kernel_rfl⟩
theorem T62 : TyFact Try.prog 62 { size := 1, bytes := 24, zero := [.v (.slice none 0 0)], d := .slice 66 } := ⟨by kernel_rfl, by kernel_rfl, by kernel_rfl, by kernel_rfl, by kernel_rfl⟩
theorem T66 : TyFact Try.prog 66 { size := 3, bytes := 24, zero := [.v (.int .i64 0), .v (.int .i64 0), .v (.int .i64 0)], d := .st [(0, 3), (1, 3), (2, 3)] } := ⟨by kernel_rfl, by kernel_rfl, by kernel_rfl, by kernel_rfl, by kernel_rfl⟩
theorem T68 : TyFact Try.prog 68 { size := 3, bytes := 24, zero := [.v (.int .i64 0), .v (.int .i64 0), .v (.int .i64 0)], d := .st [(0, 3), (1, 23)] } := ⟨by kernel_rfl, by kernel_rfl, by kernel_rfl, by kernel_rfl, by kernel_rfl⟩
theorem T72 : TyFact Try.prog 72 { size := 1, bytes := 24, zero := [.v (.slice none 0 0)], d := .slice 144 } := ⟨by kernel_rfl, by kernel_rfl, by kernel_rfl, by kernel_rfl, by kernel_rfl⟩
theorem T86 : TyFact Try.prog 86 { size := 1, bytes := 2, zero := [.v (.int .i16 0)], d := .int .i16 } := ⟨by kernel_rfl, by kernel_rfl, by kernel_rfl, by kernel_rfl, by kernel_rfl⟩
theorem T92 : TyFact Try.prog 92 { size := 1, bytes := 24, zero := [.v (.slice none 0 0)], d := .slice 41 } := ⟨by kernel_rfl, by kernel_rfl, by kernel_rfl, by kernel_rfl, by kernel_rfl⟩
theorem T98 : TyFact Try.prog 98 { size := 1, bytes := 24, zero := [.v (.slice none 0 0)], d := .slice 111 } := ⟨by kernel_rfl, by kernel_rfl, by kernel_rfl, by kernel_rfl, by kernel_rfl⟩
theorem T100 : TyFact Try.prog 100 { size := 3, bytes := 40, zero := [.v (.int .i64 0), .v (.int .i64 0), .v (.slice none 0 0)], d := .st [(0, 3), (1, 3), (2, 98)] } := ⟨by kernel_rfl, by kernel_rfl, by kernel_rfl, by kernel_rfl, by kernel_rfl⟩
theorem T111 : TyFact Try.prog 111 { size := 2, bytes := 16, zero := [.v (.int .i64 0), .v (.int .i64 0)], d := .st [(0, 3), (1, 3)] } := ⟨by kernel_rfl, by kernel_rfl, by kernel_rfl, by kernel_rfl, by kernel_rfl⟩
theorem T122 : TyFact Try.prog 122 { size := 1, bytes := 8, zero := [.v (.pointer none)], d := .other } := ⟨by kernel_rfl, by kernel_rfl, by kernel_rfl, by kernel_rfl, by kernel_rfl⟩
theorem T133 : TyFact Try.prog 133 { size := 1, bytes := 8, zero := [.v (.map none)], d := .map 144 3 } := ⟨by kernel_rfl, by kernel_rfl, by kernel_rfl, by kernel_rfl, by kernel_rfl⟩
theorem T135 : TyFact Try.prog 135 { size := 3, bytes := 56, zero := [.v (.slice none 0 0), .v (.map none), .v (.slice none 0 0)], d := .st [(0, 72), (1, 133), (2, 62)] } := ⟨by kernel_rfl, by kernel_rfl, by kernel_rfl, by kernel_rfl, by kernel_rfl⟩
theorem T140 : TyFact Try.prog 140 { size := 1, bytes := 8, zero := [.v (.map none)], d := .map 3 4 } := ⟨by kernel_rfl, by kernel_rfl, by kernel_rfl, by kernel_rfl, by kernel_rfl⟩
theorem T144 : TyFact Try.prog 144 { size := 2, bytes := 16, zero := [.v (.int .i64 0), .v (.int .i64 0)], d := .st [(0, 3), (1, 3)] } := ⟨by kernel_rfl, by kernel_rfl, by kernel_rfl, by kernel_rfl, by kernel_rfl⟩
theorem T151 : TyFact Try.prog 151 { size := 1, bytes := 8, zero := [.v (.map none)], d := .map 3 3 } := ⟨by kernel_rfl, by kernel_rfl, by kernel_rfl, by kernel_rfl, by kernel_rfl⟩
theorem T164 : TyFact Try.prog 164 { size := 1, bytes := 8, zero := [.v (.int .u64 0)], d := .int .u64 } := ⟨by kernel_rfl, by kernel_rfl, by kernel_rfl, by kernel_rfl, by kernel_rfl⟩
theorem T184 : TyFact Try.prog 184 { size := 1, bytes := 8, zero := [.v (.int .u64 0)], d := .int .u64 } := ⟨by kernel_rfl, by kernel_rfl, by kernel_rfl, by kernel_rfl, by kernel_rfl⟩
theorem T_ok : TyOK Try.prog T := by
  intro t ty h
  unfold T at h
  split at h
  · injection h with h; subst h; exact T2
  · injection h with h; subst h; exact T3
  · injection h with h; subst h; exact T4
  · injection h with h; subst h; exact T5
  · injection h with h; subst h; exact T23
  · injection h with h; subst h; exact T24
  · injection h with h; subst h; exact T26
  · injection h with h; subst h; exact T27
  · injection h with h; subst h; exact T28
  · injection h with h; subst h; exact T30
  · injection h with h; subst h; exact T33
  · injection h with h; subst h; exact T41
  · injection h with h; subst h; exact T47
  · injection h with h; subst h; exact T53
  · injection h with h; subst h; exact T60
  · injection h with h; subst h; exact T62
  · injection h with h; subst h; exact T66
  · injection h with h; subst h; exact T68
  · injection h with h; subst h; exact T72
  · injection h with h; subst h; exact T86
  · injection h with h; subst h; exact T92
  · injection h with h; subst h; exact T98
  · injection h with h; subst h; exact T100
  · injection h with h; subst h; exact T111
  · injection h with h; subst h; exact T122
  · injection h with h; subst h; exact T133
  · injection h with h; subst h; exact T135
  · injection h with h; subst h; exact T140
  · injection h with h; subst h; exact T144
  · injection h with h; subst h; exact T151
  · injection h with h; subst h; exact T164
  · injection h with h; subst h; exact T184
  · cases h
def eqT : TypeId → Bool
  | 23 => true
  | 66 => true
  | 144 => true
  | _ => false
theorem E23 : EqFact Try.prog 23 := ⟨by kernel_rfl, by kernel_rfl, by kernel_rfl⟩
theorem E66 : EqFact Try.prog 66 := ⟨by kernel_rfl, by kernel_rfl, by kernel_rfl⟩
theorem E144 : EqFact Try.prog 144 := ⟨by kernel_rfl, by kernel_rfl, by kernel_rfl⟩
theorem eqT_ok : ∀ t, eqT t = true → EqFact Try.prog t := by
  intro t h
  unfold eqT at h
  split at h
  · exact E23
  · exact E66
  · exact E144
  · cases h
end Go.Proofs.Ks

namespace Go.Pg
open Go Go.RowKit
theorem put_tm (s : St) (d : Nat) (r : AV) (nr : Option Row) (t : Nat) : (s.put d r nr).tm t = if t = d then r else s.tm t := rfl
theorem put_H0 (s : St) (d : Nat) (r : AV) : (s.put d r none).H = s.H := rfl
theorem put_H1 (s : St) (d : Nat) (r : AV) (row : Row) : (s.put d r (some row)).H = updH s.H s.nx (.row row) := rfl
theorem put_nx0 (s : St) (d : Nat) (r : AV) : (s.put d r none).nx = s.nx := rfl
theorem put_nx1 (s : St) (d : Nat) (r : AV) (row : Row) : (s.put d r (some row)).nx = s.nx + 1 := rfl
theorem back_tm (s : St) (d : Nat) (r : AV) (ids : List Nat) (t : Nat) : (s.back d r ids).tm t = if t = d then r else s.tm t := rfl
theorem back_nx (s : St) (d : Nat) (r : AV) (ids : List Nat) : (s.back d r ids).nx = s.nx := rfl
theorem back_H (s : St) (d : Nat) (r : AV) (ids : List Nat) : (s.back d r ids).H = afterH s.H ids r := rfl
theorem upd_at (f : Nat → AV) (d : Nat) (r : AV) (t : Nat) : upd f d r t = if t = d then r else f t := rfl
theorem start_tm (args : List AV) (t : Nat) : (startSt args).tm t = args.getD t .junk := rfl
theorem start_H (args : List AV) : (startSt args).H = fun _ => none := rfl
theorem start_nx (args : List AV) : (startSt args).nx = 0 := rfl
theorem rowAt_upd (H : Nat → Option AO) (i : Nat) (r : Row) (j : Nat) : rowAt (updH H i (.row r)) j = if j = i then some r else rowAt H j := by
  unfold rowAt updH
  split <;> rename_i h <;> split at h <;> simp_all
theorem rowAt_none (j : Nat) : rowAt (fun _ => none) j = none := rfl
theorem afterH_nil (H : Nat → Option AO) (r : AV) : afterH H [] r = H := by simp [afterH]
theorem ev_tmp (s : St) (t : Nat) : s.ev (.tmp t) = s.tm t := rfl
theorem ev_const (s : St) (x : Value) : s.ev (.const x) = constA x := rfl
theorem ev_func (s : St) (f : FuncId) : s.ev (.func f) = .clo f [] := rfl
theorem constA_int (k : IntKind) (n : Int) : constA (.int k n) = .v (.int k n) := rfl
theorem constA_bool (b : Bool) : constA (.bool b) = .v (.bool b) := rfl
theorem constA_str (b : ByteArray) : constA (.string b) = .v (.string b) := rfl
theorem constA_nil : constA (.slice none 0 0) = .v (.slice none 0 0) := rfl
section
variable {C : Cx} {N : Nat} {Q : Exit → St → Prop} {s : St} {ops : Array Oper} {rest : List Oper} {o : Oper}
theorem AWL.guardY {j d t : Nat} {want : Bool} (hg : o.guard = some (j, want)) (ht : (ops[j]?).bind (·.dst) = some t) (hd : o.dst = some d) (hN : d < N) (hb : s.tm t = .v (.bool want))
    (k : AWL C N ops Q ({ o with guard := none } :: rest) s) : AWL C N ops Q (o :: rest) s :=
  AWL.guard hg ht hb hd hN (fun _ => k) (fun h => by cases want <;> cases h)
theorem AWL.guardN {j d t : Nat} {want : Bool} (hg : o.guard = some (j, want)) (ht : (ops[j]?).bind (·.dst) = some t) (hd : o.dst = some d) (hN : d < N) (hb : s.tm t = .v (.bool (!want)))
    (k : AWL C N ops Q rest (s.put d (.v undef) none)) : AWL C N ops Q (o :: rest) s :=
  AWL.guard hg ht hb hd hN (fun h => by cases want <;> cases h) (fun _ => k)
theorem put_same_tm {t : Nat} {x : AV} (h : s.tm t = x) : s.put t x none = s := by
  unfold St.put
  have : upd s.tm t x = s.tm := by funext u; unfold upd; split <;> simp_all
  rw [this]; rfl
theorem AWL.guardS {j d t : Nat} {want b : Bool} (hg : o.guard = some (j, want)) (ht : (ops[j]?).bind (·.dst) = some t) (hd : o.dst = some d) (hN : d < N) (hb : s.tm t = .v (.bool b))
    (k1 : b = want → AWL C N ops Q ({ o with guard := none } :: rest) (s.put t (.v (.bool want)) none)) (k2 : b = !want → AWL C N ops Q rest ((s.put t (.v (.bool (!want))) none).put d (.v undef) none)) : AWL C N ops Q (o :: rest) s :=
  AWL.guard hg ht hb hd hN (fun h => by have := k1 h; rwa [put_same_tm (t := t) (by rw [hb, h])] at this) (fun h => by have := k2 h; rw [put_same_tm (t := t) (x := .v (.bool (!want))) (by rw [hb, h])] at this; exact this)
variable {op : Op} {ty : TypeId} {ps : String} {af : Array Edge} {d j t : Nat} {want b : Bool}
theorem W.step (hC : C.OK) (hN : d < N) {r : AV} {nr : Option Row} (h : stepA C.T C.eqT s.H s.ev s.nx op = some (r, nr)) (k : AWL C N ops Q rest (s.put d r nr)) :
    AWL C N ops Q (⟨some d, op, ty, ps, af, none⟩ :: rest) s := AWL.step hC rfl rfl hN h k
theorem W.gY (ht : (ops[j]?).bind (·.dst) = some t) (hN : d < N) (hb : s.tm t = .v (.bool want)) (k : AWL C N ops Q (⟨some d, op, ty, ps, af, none⟩ :: rest) s) :
    AWL C N ops Q (⟨some d, op, ty, ps, af, some (j, want)⟩ :: rest) s := AWL.guardY (o := ⟨some d, op, ty, ps, af, some (j, want)⟩) rfl ht rfl hN hb k
theorem W.gN (ht : (ops[j]?).bind (·.dst) = some t) (hN : d < N) (hb : s.tm t = .v (.bool (!want))) (k : AWL C N ops Q rest (s.put d (.v undef) none)) :
    AWL C N ops Q (⟨some d, op, ty, ps, af, some (j, want)⟩ :: rest) s := AWL.guardN (o := ⟨some d, op, ty, ps, af, some (j, want)⟩) rfl ht rfl hN hb k
theorem W.gU (ht : (ops[j]?).bind (·.dst) = some t) (hN : d < N) (hb : s.tm t = .v undef) (k : AWL C N ops Q rest (s.put d (.v undef) none)) :
    AWL C N ops Q (⟨some d, op, ty, ps, af, some (j, want)⟩ :: rest) s := AWL.guardU (o := ⟨some d, op, ty, ps, af, some (j, want)⟩) rfl ht hb rfl hN k
theorem W.gS (ht : (ops[j]?).bind (·.dst) = some t) (hN : d < N) (hb : s.tm t = .v (.bool b)) (k1 : b = want → AWL C N ops Q (⟨some d, op, ty, ps, af, none⟩ :: rest) (s.put t (.v (.bool want)) none))
    (k2 : b = !want → AWL C N ops Q rest ((s.put t (.v (.bool (!want))) none).put d (.v undef) none)) :
    AWL C N ops Q (⟨some d, op, ty, ps, af, some (j, want)⟩ :: rest) s := AWL.guardS (o := ⟨some d, op, ty, ps, af, some (j, want)⟩) rfl ht rfl hN hb k1 k2
theorem W.store (hC : C.OK) {tp : TypeId} {p x : Operand} {id : Nat} {r : Row} (h : storeA C.T s.H tp (s.ev p) (s.ev x) = some (id, r)) (k : AWL C N ops Q rest { s with H := updH s.H id (.row r) }) :
    AWL C N ops Q (⟨none, .store tp p x, ty, ps, af, none⟩ :: rest) s := AWL.store hC rfl rfl rfl h k
theorem W.call (hC : C.OK) (hN : d < N) {fo : Operand} {args : Array Operand} {tys : Array TypeId} {f : FuncId} {caps vs : List AV} (hf : s.ev fo = .clo f caps) (hv : viewL s.H (evsA args.toList s.ev ++ caps) = some vs) {Qr : AV → Prop} (hok : OKat C f vs Qr)
    (k : ∀ r, Qr r → AWL C N ops Q rest (s.back d r (idsL (evsA args.toList s.ev ++ caps)))) : AWL C N ops Q (⟨some d, .call { callee := .value fo, args := args, argTypes := tys }, ty, ps, af, none⟩ :: rest) s :=
  AWL.call hC rfl rfl hN rfl hf hv hok k
theorem W.callv (hC : C.OK) (hN : d < N) {fo : Operand} {args : Array Operand} {tys : Array TypeId} {f : FuncId} {caps vs : List AV} {R : AV} (hf : s.ev fo = .clo f caps) (hv : viewL s.H (evsA args.toList s.ev ++ caps) = some vs) (hok : OKv C f vs R)
    (k : AWL C N ops Q rest (s.back d R (idsL (evsA args.toList s.ev ++ caps)))) : AWL C N ops Q (⟨some d, .call { callee := .value fo, args := args, argTypes := tys }, ty, ps, af, none⟩ :: rest) s :=
  AWL.call hC rfl rfl hN rfl hf hv hok (fun r hr => by subst hr; exact k)
end
section
variable {Q : AV → Prop} {s : St}
theorem W.ret1 {t : Nat} {r : AV} (hv : viewA s.H (s.tm t) = some r) (hq : Q r) : endQ [t] Q .ret s := ⟨r, hv, hq⟩
theorem W.end1 {t : Nat} {r : AV} (hv : viewA s.H (s.tm t) = some r) (hq : Q r) : endQ [t] Q .normal s := ⟨r, hv, hq⟩
theorem W.ret2 {t u : Nat} {r : AV} (hv : viewA s.H (.tup [s.tm t, s.tm u]) = some r) (hq : Q r) : endQ [t, u] Q .ret s := ⟨r, hv, hq⟩
theorem W.end2 {t u : Nat} {r : AV} (hv : viewA s.H (.tup [s.tm t, s.tm u]) = some r) (hq : Q r) : endQ [t, u] Q .normal s := ⟨r, hv, hq⟩
theorem W.ret3 {t u v : Nat} {r : AV} (hv : viewA s.H (.tup [s.tm t, s.tm u, s.tm v]) = some r) (hq : Q r) : endQ [t, u, v] Q .ret s := ⟨r, hv, hq⟩
theorem W.end3 {t u v : Nat} {r : AV} (hv : viewA s.H (.tup [s.tm t, s.tm u, s.tm v]) = some r) (hq : Q r) : endQ [t, u, v] Q .normal s := ⟨r, hv, hq⟩
theorem W.ret0 {r : AV} (hv : viewA s.H (.tup []) = some r) (hq : Q r) : endQ [] Q .ret s := ⟨r, hv, hq⟩
theorem W.end0 {r : AV} (hv : viewA s.H (.tup []) = some r) (hq : Q r) : endQ [] Q .normal s := ⟨r, hv, hq⟩
end
theorem view_v_int (H : Nat → Option AO) (k : IntKind) (n : Int) : viewA H (.v (.int k n)) = some (.v (.int k n)) := rfl
theorem view_v_bool (H : Nat → Option AO) (b : Bool) : viewA H (.v (.bool b)) = some (.v (.bool b)) := rfl
theorem view_v_str (H : Nat → Option AO) (b : ByteArray) : viewA H (.v (.string b)) = some (.v (.string b)) := rfl
theorem view_nil (H : Nat → Option AO) : viewA H (.v (.slice none 0 0)) = some (.lst []) := rfl
theorem view_lst (H : Nat → Option AO) (es : List (List AV)) : viewA H (.lst es) = some (.lst es) := rfl
theorem view_agg (H : Nat → Option AO) (cs : List AV) : viewA H (.agg cs) = (viewL H cs).map .agg := rfl
theorem view_tup (H : Nat → Option AO) (cs : List AV) : viewA H (.tup cs) = (viewL H cs).map .tup := rfl
theorem view_clo (H : Nat → Option AO) (f : FuncId) (cs : List AV) : viewA H (.clo f cs) = (viewL H cs).map (.clo f) := rfl
theorem viewL_nil (H : Nat → Option AO) : viewL H [] = some [] := rfl
theorem viewL_cons (H : Nat → Option AO) (c : AV) (cs : List AV) : viewL H (c :: cs) = (match viewA H c, viewL H cs with | some d, some ds => some (d :: ds) | _, _ => none) := rfl
theorem idsA_v (x : Value) : idsA (.v x) = [] := rfl
theorem idsA_lst (es : List (List AV)) : idsA (.lst es) = [] := rfl
theorem idsA_agg (cs : List AV) : idsA (.agg cs) = idsL cs := rfl
theorem idsL_nil : idsL [] = [] := rfl
theorem idsL_cons (c : AV) (cs : List AV) : idsL (c :: cs) = idsA c ++ idsL cs := rfl
end Go.Pg

namespace Go.Pg
open Go Go.RowKit
section
variable {P : Program} {ops : Array Oper} {Q Q' : Exit → Act → World → Prop} {o : Oper} {a : Act} {w : World} {K K' : Act → World → Prop}
theorem Oper.wpIn_mono2 {F : Fence} {n : Nat} (hk : ∀ a w, K a w → K' a w) (hq : ∀ e a w, e ≠ .normal → Q e a w → Q' e a w) (hl : LetsOut Q → LetsOut Q') (hh : o.wpIn F n P a w K Q) : o.wpIn F n P a w K' Q' := by
  unfold Oper.wpIn at *
  refine ⟨hh.1, ?_⟩
  have hh := hh.2
  generalize (o.semAt F.round a.eval).run P w = r at *
  cases r with
  | ok n w' =>
    cases n <;> simp only [Oper.uponIn] at hh ⊢ <;>
      first
        | exact hk _ _ hh
        | exact ⟨hh.1, CallsIn.mono hh.2 (fun e w'' he => by cases e <;> first | exact hk _ _ he | exact hq _ _ _ (by simp) he | exact hl he)⟩
        | exact ⟨hh.1, RowsIn.mono hh.2 (fun _ _ he => hk _ _ he)⟩
        | exact ⟨hh.1, RoundIn.mono hh.2 (fun e w'' he => by cases e <;> first | exact hk _ _ he | exact hq _ _ _ (by simp) he | exact hl he)⟩
  | halt x w' => cases x <;> simp only [Oper.uponIn] at hh ⊢ <;> first | exact hq _ _ _ (by simp) hh | exact hh
end
def One (C : Cx) (N : Nat) (ops : Array Oper) (o : Oper) (s s' : St) : Prop :=
  ∀ (S0 : Fr) (w0 : World) (a : Act) (w : World) (K : Act → World → Prop) (Q : Exit → Act → World → Prop), C.E w0 → Sim S0 w0 N a w s → (∀ a' w', Sim S0 w0 N a' w' s' → K a' w') →
    if Region.wanted o (yielded ops a.tmps) then o.wpIn C.F 0 C.P a w K Q else K (a.put o.dst undef) w
def onlyQ (s' : St) : Exit → St → Prop := fun e s => e = .normal ∧ s = s'
theorem letsOut_sim {C : Cx} {S0 : Fr} {w0 : World} {N : Nat} {s' : St} (h : LetsOut (fun e a' w' => ∃ s, Sim S0 w0 N a' w' s ∧ onlyQ s' e s)) : False := by
  obtain ⟨a, w, h⟩ := h
  obtain ⟨_, _, h, _⟩ := h
  cases h
theorem one_of_AWL {C : Cx} {N : Nat} {ops : Array Oper} {o : Oper} {s s' : St} (h : AWL C N ops (onlyQ s') [o] s) : One C N ops o s s' := by
  intro S0 w0 a w K Q hE hs hK
  have := h S0 w0 a w hE hs
  unfold wpListIn at this
  have hk : ∀ a' w', wpListIn C.F 0 C.P ops (fun e a' w' => ∃ s, Sim S0 w0 N a' w' s ∧ onlyQ s' e s) [] a' w' → K a' w' := by
    rintro a' w' ⟨s, h1, _, rfl⟩
    exact hK _ _ h1
  split at this
  · rename_i hw
    rw [if_pos hw]
    refine Oper.wpIn_mono2 hk ?_ (fun h => (letsOut_sim (C := C) h).elim) this
    rintro e a w he ⟨_, _, h, _⟩
    exact absurd h he
  · rename_i hw
    rw [if_neg hw]
    exact hk _ _ this.2
def updO (f : Nat → AV) (d : Option Nat) (x : AV) : Nat → AV := match d with
  | some t => upd f t x
  | none => f
def Ext (H1 H2 : Nat → Option AO) : Prop := ∀ id x, H1 id = some x → H2 id = some x
def mask (av : List Nat) (H : Nat → Option AO) : Nat → Option AO := fun id => if id ∈ av then none else H id
def LCert (C : Cx) (N : Nat) (ops : Array Oper) (o : Oper) (H : Nat → Option AO) (tm : Nat → AV) (key : Nat) (r : AV) (nr : Option Row) : Prop :=
  ∀ s : St, Ext H s.H → (nr = none ∨ (s.H key = none ∧ key < s.nx)) → (∀ t ∈ o.looksAt ops, s.tm t = tm t) → One C N ops o s ⟨updO s.tm o.dst r, putH s.H key nr, s.nx⟩
def TCert (C : Cx) (N : Nat) (ops : Array Oper) (o : Oper) (H : Nat → Option AO) (nx : Nat) (tm : Nat → AV) (r : AV) (H' : Nat → Option AO) (nx' : Nat) : Prop :=
  ∀ s : St, s.H = H → s.nx = nx → (∀ t ∈ o.looksAt ops, s.tm t = tm t) → One C N ops o s ⟨updO s.tm o.dst r, H', nx'⟩
def DW (C : Cx) (N : Nat) (ops : Array Oper) (H0 : Nat → Option AO) (b : Nat) (tg mk av : List Nat) (Fin : St → Prop) : Nat → List Oper → St → Prop
  | _, [], s => Fin s
  | i, o :: l, s =>
    ∃ (r : AV) (s' : St), s'.tm = updO s.tm o.dst r ∧
      (if i ∈ tg then TCert C N ops o s.H s.nx s.tm r s'.H s'.nx ∧ (mk = [] ∨ ∀ id x, id ∉ av → s.H id = some x → s'.H id = some x)
       else ∃ nr, s'.H = putH s.H (b + i) nr ∧ s'.nx = s.nx ∧ (nr = none ∨ (i ∉ mk ∧ H0 (b + i) = none ∧ b + i < s.nx)) ∧ LCert C N ops o (if i ∈ mk then mask av H0 else H0) s.tm (b + i) r nr) ∧
      DW C N ops H0 b tg mk av Fin (i + 1) l s'
def bnd (o : Oper) : List Nat := (o.after.toList.filter (fun e => Region.binds .any e)).map (·.on)
def ancOf (tab : List Nat) (o : Oper) : Nat := (bnd o).foldl (fun m j => m ||| (1 <<< j) ||| tab.getD j 0) 0
def ancs : List Oper → List Nat → List Nat
  | [], tab => tab
  | o :: l, tab => ancs l (tab ++ [ancOf tab o])
def dstIn (p : Option Nat) (l : List Nat) : Bool := match p with
  | some t => l.contains t
  | none => false
def pairOK (ops : Array Oper) (tab : List Nat) (tg mk : List Nat) (i : Nat) (o : Oper) (k : Nat) (p : Oper) : Bool :=
  (!(dstIn p.dst (o.looksAt ops)) || (tab.getD i 0).testBit k || (tab.getD k 0).testBit i) &&
  (k == i || p.dst == none || p.dst != o.dst) &&
  (!(tg.contains i) || (if tg.contains k then (k == i || (tab.getD i 0).testBit k || (tab.getD k 0).testBit i) else (mk.contains k || (tab.getD i 0).testBit k)))
def drawOK (ops : List Oper) (tg mk : List Nat) : Bool :=
  let tab := ancs ops []
  (ops.zipIdx).all fun (o, i) => (bnd o).all (fun j => decide (j < i)) && (ops.zipIdx).all fun (p, k) => pairOK ops.toArray tab tg mk i o k p
def Closed (ops : List Oper) (L : Nat → Bool) : Prop := ∀ i o, ops[i]? = some o → L i = true → ∀ j ∈ bnd o, L j = true
theorem testBit_foldl (tab : List Nat) (k : Nat) : ∀ (l : List Nat) (m : Nat), (l.foldl (fun m j => m ||| (1 <<< j) ||| tab.getD j 0) m).testBit k = true →
    m.testBit k = true ∨ ∃ j ∈ l, j = k ∨ (tab.getD j 0).testBit k = true
  | [], m, h => .inl h
  | j :: l, m, h => by
    simp only [List.foldl_cons] at h
    rcases testBit_foldl tab k l _ h with h | ⟨j', hj', h⟩
    · simp only [Nat.testBit_or, Bool.or_eq_true, Nat.one_shiftLeft] at h
      rcases h with (h | h) | h
      · exact .inl h
      · rw [Nat.testBit_two_pow] at h
        exact .inr ⟨j, by simp, .inl (by simpa using h)⟩
      · exact .inr ⟨j, by simp, .inr h⟩
    · exact .inr ⟨j', by simp [hj'], h⟩
theorem ancOf_spec {tab : List Nat} {o : Oper} {k : Nat} (h : (ancOf tab o).testBit k = true) : ∃ j ∈ bnd o, j = k ∨ (tab.getD j 0).testBit k = true := by
  rcases testBit_foldl tab k _ _ h with h | h
  · simp at h
  · exact h
theorem ancs_spec {ops : List Oper} {L : Nat → Bool} (hL : Closed ops L) : ∀ (l : List Oper) (tab : List Nat), ops.drop tab.length = l → tab.length ≤ ops.length →
    (∀ i, i < tab.length → ∀ o, ops[i]? = some o → ∀ k, (tab.getD i 0).testBit k = true → (∀ j ∈ bnd o, L j = true) → L k = true) →
    (∀ i o, ops[i]? = some o → ∀ j ∈ bnd o, j < i) →
    ∀ i o, ops[i]? = some o → ∀ k, ((ancs l tab).getD i 0).testBit k = true → (∀ j ∈ bnd o, L j = true) → L k = true
  | [], tab, hd, hl, hp, hb => by
    intro i o ho k hk hj
    have : i < tab.length := by
      have h1 := List.drop_eq_nil_iff.1 hd
      have h2 := (List.getElem?_eq_some_iff.1 ho).1
      omega
    exact hp i this o ho k hk hj
  | o :: l, tab, hd, hl, hp, hb => by
    have hlt : tab.length < ops.length := by
      have : (ops.drop tab.length).length = (o :: l).length := by rw [hd]
      simp at this; omega
    have hget : ops[tab.length]? = some o := by
      have : (ops.drop tab.length)[0]? = some o := by rw [hd]; rfl
      simpa using this
    refine ancs_spec hL l _ ?_ (by simp; omega) ?_ hb
    · have : ops.drop (tab.length + 1) = (ops.drop tab.length).drop 1 := by simp
      simp only [List.length_append, List.length_singleton, this, hd, List.drop_succ_cons, List.drop_zero]
    · intro i hi o' ho' k hk hj
      simp only [List.length_append, List.length_singleton] at hi
      rcases Nat.lt_or_ge i tab.length with h | h
      · refine hp i h o' ho' k ?_ hj
        rwa [List.getD_eq_getElem?_getD, List.getElem?_append_left h, ← List.getD_eq_getElem?_getD] at hk
      · have he : i = tab.length := by omega
        subst he
        rw [hget] at ho'; injection ho' with ho'; subst ho'
        rw [List.getD_eq_getElem?_getD, List.getElem?_append_right (Nat.le_refl _)] at hk
        simp only [Nat.sub_self, List.getElem?_cons_zero, Option.getD_some] at hk
        obtain ⟨j, hjm, h⟩ := ancOf_spec hk
        rcases h with rfl | h
        · exact hj _ hjm
        · have hji := hb _ _ hget j hjm
          obtain ⟨oj, hoj⟩ : ∃ oj, ops[j]? = some oj := ⟨_, List.getElem?_eq_getElem (by omega)⟩
          exact hp j hji oj hoj k h (hL j oj hoj (hj j hjm))
structure OrdOK (ops : List Oper) (tg mk : List Nat) : Prop where
  back : ∀ i o, ops[i]? = some o → ∀ j ∈ bnd o, j < i
  uses : ∀ i o k p t, ops[i]? = some o → ops[k]? = some p → p.dst = some t → t ∈ o.looksAt ops.toArray → ((ancs ops []).getD i 0).testBit k = true ∨ ((ancs ops []).getD k 0).testBit i = true
  dsts : ∀ (i : Nat) (o : Oper) (k : Nat) (p : Oper) (t : Nat), ops[i]? = some o → ops[k]? = some p → k ≠ i → p.dst = some t → o.dst ≠ some t
  tight : ∀ i o k p, ops[i]? = some o → ops[k]? = some p → i ∈ tg → k ∈ tg → k = i ∨ ((ancs ops []).getD i 0).testBit k = true ∨ ((ancs ops []).getD k 0).testBit i = true
  loose : ∀ i o k p, ops[i]? = some o → ops[k]? = some p → i ∈ tg → k ∉ tg → k ∉ mk → ((ancs ops []).getD i 0).testBit k = true
theorem ordOK_of {ops : List Oper} {tg mk : List Nat} (h : drawOK ops tg mk = true) : OrdOK ops tg mk := by
  unfold drawOK at h
  simp only [List.all_eq_true, Bool.and_eq_true, decide_eq_true_eq, Prod.forall] at h
  have hmem : ∀ {i o}, ops[i]? = some o → (o, i) ∈ ops.zipIdx := fun {i o} h => by
    rw [List.mem_zipIdx_iff_getElem?]; exact h
  have hp : ∀ i o k p, ops[i]? = some o → ops[k]? = some p → pairOK ops.toArray (ancs ops []) tg mk i o k p = true := fun i o k p h1 h2 => (h o i (hmem h1)).2 p k (hmem h2)
  refine ⟨fun i o ho j hj => (h o i (hmem ho)).1 j hj, ?_, ?_, ?_, ?_⟩
  · intro i o k p t h1 h2 h3 h4
    have := hp i o k p h1 h2
    simp only [pairOK, Bool.and_eq_true, Bool.or_eq_true, Bool.not_eq_true', h3, dstIn] at this
    rcases this.1.1 with (h | h) | h
    · simp at h; exact absurd h4 h
    · exact .inl h
    · exact .inr h
  · intro i o k p t h1 h2 h3 h4 h5
    have := hp i o k p h1 h2
    simp only [pairOK, Bool.and_eq_true, Bool.or_eq_true, beq_iff_eq, bne_iff_ne, h4, h5] at this
    rcases this.1.2 with (h | h) | h
    · exact h3 h
    · cases h
    · exact h rfl
  · intro i o k p h1 h2 h3 h4
    have := hp i o k p h1 h2
    simp only [pairOK, Bool.and_eq_true, Bool.or_eq_true, Bool.not_eq_true', List.contains_eq_mem, decide_eq_true_eq, decide_eq_false_iff_not, h3, h4, not_true, false_or, if_true, beq_iff_eq] at this
    rcases this.2 with (h | h) | h
    · exact .inl h
    · exact .inr (.inl h)
    · exact .inr (.inr h)
  · intro i o k p h1 h2 h3 h4 h5
    have := hp i o k p h1 h2
    simp only [pairOK, Bool.and_eq_true, Bool.or_eq_true, Bool.not_eq_true', List.contains_eq_mem, decide_eq_true_eq, decide_eq_false_iff_not, h3, h4, h5, not_true, false_or, if_false] at this
    exact this.2
end Go.Pg

namespace Go.Pg
open Go Go.RowKit
structure Tr where
  st : Nat → St
  r : Nat → AV
  nr : Nat → Option Row
def TrOK (C : Cx) (N : Nat) (ops : Array Oper) (H0 : Nat → Option AO) (b : Nat) (tg mk av : List Nat) (tr : Tr) (i : Nat) (o : Oper) : Prop :=
  (tr.st (i + 1)).tm = updO (tr.st i).tm o.dst (tr.r i) ∧
    (if i ∈ tg then TCert C N ops o (tr.st i).H (tr.st i).nx (tr.st i).tm (tr.r i) (tr.st (i + 1)).H (tr.st (i + 1)).nx ∧ (mk = [] ∨ ∀ id x, id ∉ av → (tr.st i).H id = some x → (tr.st (i + 1)).H id = some x)
     else (tr.st (i + 1)).H = putH (tr.st i).H (b + i) (tr.nr i) ∧ (tr.st (i + 1)).nx = (tr.st i).nx ∧ (tr.nr i = none ∨ (i ∉ mk ∧ H0 (b + i) = none ∧ b + i < (tr.st i).nx)) ∧
       LCert C N ops o (if i ∈ mk then mask av H0 else H0) (tr.st i).tm (b + i) (tr.r i) (tr.nr i))
section
variable {C : Cx} {N : Nat} {ops : Array Oper} {H0 : Nat → Option AO} {b : Nat} {tg mk av : List Nat} {Fin : St → Prop}
theorem TrOK.congr {tr tr' : Tr} {i : Nat} {o : Oper} (h : TrOK C N ops H0 b tg mk av tr i o) (h1 : tr'.st i = tr.st i) (h2 : tr'.st (i + 1) = tr.st (i + 1)) (h3 : tr'.r i = tr.r i) (h4 : tr'.nr i = tr.nr i) :
    TrOK C N ops H0 b tg mk av tr' i o := by
  unfold TrOK at h ⊢
  rw [h1, h2, h3, h4]; exact h
theorem DW.trace : ∀ (l : List Oper) (i : Nat) (s : St), DW C N ops H0 b tg mk av Fin i l s → ∃ tr : Tr, tr.st i = s ∧ (∀ j o, l[j]? = some o → TrOK C N ops H0 b tg mk av tr (i + j) o) ∧ Fin (tr.st (i + l.length))
  | [], i, s, h => ⟨⟨fun _ => s, fun _ => .junk, fun _ => none⟩, rfl, fun j o h => by simp at h, h⟩
  | o :: l, i, s, h => by
    obtain ⟨r, s', h1, h2, h3⟩ := h
    obtain ⟨tr, g1, g2, g3⟩ := DW.trace l (i + 1) s' h3
    have key : ∃ nr : Option Row, (if i ∈ tg then TCert C N ops o s.H s.nx s.tm r s'.H s'.nx ∧ (mk = [] ∨ ∀ id x, id ∉ av → s.H id = some x → s'.H id = some x)
       else s'.H = putH s.H (b + i) nr ∧ s'.nx = s.nx ∧ (nr = none ∨ (i ∉ mk ∧ H0 (b + i) = none ∧ b + i < s.nx)) ∧ LCert C N ops o (if i ∈ mk then mask av H0 else H0) s.tm (b + i) r nr) := by
      by_cases hi : i ∈ tg
      · rw [if_pos hi] at h2; exact ⟨none, by rw [if_pos hi]; exact h2⟩
      · rw [if_neg hi] at h2; obtain ⟨nr, h⟩ := h2; exact ⟨nr, by rw [if_neg hi]; exact h⟩
    obtain ⟨nr, hk⟩ := key
    refine ⟨⟨fun k => if k ≤ i then s else tr.st k, fun k => if k = i then r else tr.r k, fun k => if k = i then nr else tr.nr k⟩, by simp, ?_, ?_⟩
    · intro j o' hj
      cases j with
      | zero =>
        simp only [List.getElem?_cons_zero, Option.some.injEq] at hj
        subst hj
        unfold TrOK
        have e : ¬ (i + 1 ≤ i) := by omega
        simp only [Nat.add_zero, Nat.le_refl, if_true, if_neg e, g1]
        exact ⟨h1, hk⟩
      | succ j =>
        simp only [List.getElem?_cons_succ] at hj
        have := g2 j o' hj
        have e1 : i + 1 + j = i + (j + 1) := by omega
        rw [e1] at this
        refine this.congr ?_ ?_ ?_ ?_
        · show (if i + (j + 1) ≤ i then s else tr.st (i + (j + 1))) = _; rw [if_neg (by omega)]
        · show (if i + (j + 1) + 1 ≤ i then s else tr.st (i + (j + 1) + 1)) = _; rw [if_neg (by omega)]
        · show (if i + (j + 1) = i then r else tr.r (i + (j + 1))) = _; rw [if_neg (by omega)]
        · show (if i + (j + 1) = i then nr else tr.nr (i + (j + 1))) = _; rw [if_neg (by omega)]
    · show Fin (if i + (l.length + 1) ≤ i then s else tr.st (i + (l.length + 1)))
      rw [if_neg (by omega)]
      have e : i + 1 + l.length = i + (l.length + 1) := by omega
      rw [← e]; exact g3
end
def setL (L : Nat → Bool) (i : Nat) : Nat → Bool := fun j => if j = i then true else L j
def accT (tr : Tr) (d : Nat → Option Nat) (L : Nat → Bool) : Nat → Nat → AV
  | 0 => (tr.st 0).tm
  | k + 1 => if L k = true then updO (accT tr d L k) (d k) (tr.r k) else accT tr d L k
def accH (tr : Tr) (tg : List Nat) (b : Nat) (L : Nat → Bool) : Nat → (Nat → Option AO) × Nat
  | 0 => ((tr.st 0).H, (tr.st 0).nx)
  | k + 1 => if L k = true then (if k ∈ tg then ((tr.st (k + 1)).H, (tr.st (k + 1)).nx) else (putH (accH tr tg b L k).1 (b + k) (tr.nr k), (accH tr tg b L k).2)) else accH tr tg b L k
theorem updO_comm {f : Nat → AV} {d e : Option Nat} {x y : AV} (h : ∀ t, d = some t → e ≠ some t) : updO (updO f d x) e y = updO (updO f e y) d x := by
  cases d with
  | none => rfl
  | some t =>
    cases e with
    | none => rfl
    | some u =>
      have hne : t ≠ u := fun he => h t rfl (by rw [he])
      funext v
      simp only [updO, upd]
      by_cases h1 : v = u <;> by_cases h2 : v = t <;> simp [h1, h2] <;> first | (intro he; exact absurd he.symm hne) | (intro he; exact absurd he hne) | omega | skip
theorem updO_ne {f : Nat → AV} {d : Option Nat} {x : AV} {t : Nat} (h : d ≠ some t) : updO f d x t = f t := by
  cases d with
  | none => rfl
  | some u => simp only [updO, upd]; rw [if_neg (fun e => h (by rw [e]))]
section
variable {tr : Tr} {d : Nat → Option Nat} {L : Nat → Bool} {i : Nat} {tg : List Nat} {b : Nat}
theorem accT_set (hi : L i = false) (hd : ∀ k t, k ≠ i → d k = some t → d i ≠ some t) : ∀ k, accT tr d (setL L i) k = if k ≤ i then accT tr d L k else updO (accT tr d L k) (d i) (tr.r i)
  | 0 => by simp [accT]
  | k + 1 => by
    have ih := accT_set hi hd k
    rcases Nat.lt_trichotomy k i with h | h | h
    · rw [if_pos (by omega)]
      rw [if_pos (by omega)] at ih
      simp only [accT, setL, if_neg (show ¬ k = i by omega), ih]
    · subst h
      rw [if_neg (by omega)]
      rw [if_pos (Nat.le_refl _)] at ih
      simp only [accT, setL, if_true, ih, hi, Bool.false_eq_true, if_false]
    · rw [if_neg (by omega)]
      rw [if_neg (by omega)] at ih
      simp only [accT, setL, if_neg (show ¬ k = i by omega), ih]
      split
      · exact updO_comm (fun t h1 h2 => hd k t (by omega) h2 h1)
      · rfl
theorem accT_uses {t : Nat} {n : Nat} (hs : ∀ k, k < n → (tr.st (k + 1)).tm = updO (tr.st k).tm (d k) (tr.r k)) (h : ∀ k, k < n → d k = some t → (L k = true ↔ k < i)) :
    ∀ k, k ≤ n → i ≤ n → accT tr d L k t = (tr.st (min k i)).tm t
  | 0, _, _ => by simp [accT]
  | k + 1, hk, hin => by
    have ih := accT_uses hs h k (by omega) hin
    by_cases hd : d k = some t
    · have hL := h k (by omega) hd
      by_cases hki : k < i
      · have : L k = true := hL.2 hki
        simp only [accT, this, if_true]
        rw [show min (k + 1) i = k + 1 by omega, hs k (by omega), hd]
        simp [updO, upd]
      · have : ¬ L k = true := fun h => hki (hL.1 h)
        simp only [accT, this, if_false, Bool.false_eq_true]
        rw [ih, show min k i = min (k + 1) i by omega]
    · have e1 : accT tr d L (k + 1) t = accT tr d L k t := by
        simp only [accT]
        split
        · exact updO_ne hd
        · rfl
      rw [e1, ih]
      by_cases hki : k < i
      · rw [show min (k + 1) i = k + 1 by omega, show min k i = k by omega, hs k (by omega), updO_ne hd]
      · rw [show min k i = min (k + 1) i by omega]
theorem accT_all {n : Nat} (hs : ∀ k, k < n → (tr.st (k + 1)).tm = updO (tr.st k).tm (d k) (tr.r k)) (h : ∀ k, k < n → L k = true) : ∀ k, k ≤ n → accT tr d L k = (tr.st k).tm
  | 0, _ => rfl
  | k + 1, hk => by
    simp only [accT, h k (by omega), if_true, accT_all hs h k (by omega)]
    exact (hs k (by omega)).symm
theorem putH_comm {H : Nat → Option AO} {k1 k2 : Nat} {a c : Option Row} (h : k1 ≠ k2) : putH (putH H k1 a) k2 c = putH (putH H k2 c) k1 a := by
  cases a <;> cases c <;> simp only [putH]
  funext id
  simp only [updH]
  by_cases h1 : id = k1 <;> by_cases h2 : id = k2 <;> simp [h1, h2] <;> omega
theorem accH_set_loose (hi : L i = false) (hit : i ∉ tg) (ht : tr.nr i = none ∨ ∀ k, k ∈ tg → L k = false) : ∀ k, accH tr tg b (setL L i) k = if k ≤ i then accH tr tg b L k else (putH (accH tr tg b L k).1 (b + i) (tr.nr i), (accH tr tg b L k).2)
  | 0 => by simp [accH]
  | k + 1 => by
    have ih := accH_set_loose hi hit ht k
    rcases Nat.lt_trichotomy k i with h | h | h
    · rw [if_pos (by omega)]
      rw [if_pos (by omega)] at ih
      simp only [accH, setL, if_neg (show ¬ k = i by omega), ih]
    · subst h
      rw [if_neg (by omega)]
      rw [if_pos (Nat.le_refl _)] at ih
      simp only [accH, setL, if_true, ih, hi, Bool.false_eq_true, if_false, hit]
    · rw [if_neg (by omega)]
      rw [if_neg (by omega)] at ih
      simp only [accH, setL, if_neg (show ¬ k = i by omega), ih]
      split
      · rename_i hL
        split
        · rename_i hk
          rcases ht with ht | ht
          · rw [ht]; rfl
          · rw [ht k hk] at hL; cases hL
        · rw [putH_comm (by omega)]
      · rfl
theorem accH_set_tight (hi : L i = false) (hit : i ∈ tg) (ht : ∀ k, i < k → L k = true → k ∉ tg ∧ tr.nr k = none) : ∀ k, i < k → accH tr tg b (setL L i) k = ((tr.st (i + 1)).H, (tr.st (i + 1)).nx)
  | 0, h => by omega
  | k + 1, h => by
    by_cases hk : k = i
    · subst hk; simp only [accH, setL, if_true, hit]
    · have ih := accH_set_tight hi hit ht k (by omega)
      simp only [accH, setL, if_neg hk, ih]
      split
      · rename_i hL
        have := ht k (by omega) hL
        rw [if_neg this.1, this.2]; rfl
      · rfl
theorem accH_at {n : Nat} (hs : ∀ k, k < n → k ∉ tg → (tr.st (k + 1)).H = putH (tr.st k).H (b + k) (tr.nr k) ∧ (tr.st (k + 1)).nx = (tr.st k).nx) (h : ∀ k, k < n → (k ∈ tg ∨ tr.nr k ≠ none) → L k = true) :
    ∀ k, k ≤ n → accH tr tg b L k = ((tr.st k).H, (tr.st k).nx)
  | 0, _ => rfl
  | k + 1, hk => by
    have ih := accH_at hs h k (by omega)
    simp only [accH, ih]
    by_cases ht : k ∈ tg
    · rw [if_pos (h k (by omega) (.inl ht)), if_pos ht]
    · have h1 := hs k (by omega) ht
      by_cases hn : tr.nr k = none
      · rw [hn] at h1 ⊢
        simp only [putH] at h1 ⊢
        rw [h1.1, h1.2]; split <;> simp
      · rw [if_pos (h k (by omega) (.inr hn)), if_neg ht, h1.1, h1.2]
theorem accH_stay {i : Nat} : ∀ k, i ≤ k → (∀ j, i ≤ j → j < k → L j = true → j ∉ tg ∧ tr.nr j = none) → accH tr tg b L k = accH tr tg b L i
  | 0, h, _ => by have : i = 0 := by omega
                  subst this; rfl
  | k + 1, h, hn => by
    by_cases hk : i = k + 1
    · rw [hk]
    · have ih := accH_stay k (by omega) (fun j h1 h2 => hn j h1 (by omega))
      simp only [accH]
      split
      · rename_i hL
        have := hn k (by omega) (by omega) hL
        rw [if_neg this.1, this.2, ← ih]; rfl
      · exact ih
theorem accH_ext {H1 : Nat → Option AO} {n : Nat} (h0 : Ext H1 (tr.st 0).H) (ha : ∀ k, k < n → k ∉ tg → tr.nr k ≠ none → H1 (b + k) = none) (ht : ∀ k, k < n → k ∈ tg → L k = true → Ext H1 (tr.st (k + 1)).H) :
    ∀ k, k ≤ n → Ext H1 (accH tr tg b L k).1
  | 0, _ => h0
  | k + 1, hk => by
    have ih := accH_ext h0 ha ht k (by omega)
    simp only [accH]
    split
    · rename_i hL
      split
      · rename_i hkt; exact ht k (by omega) hkt hL
      · rename_i hkt
        cases hn : tr.nr k with
        | none => exact ih
        | some r =>
          intro id x hx
          have := ha k (by omega) hkt (by rw [hn]; simp)
          simp only [putH, updH]
          rw [if_neg (fun e => by rw [e] at hx; rw [this] at hx; cases hx)]
          exact ih id x hx
    · exact ih
theorem accH_nx {n : Nat} (h : ∀ k, k < n → k ∈ tg → L k = false) : ∀ k, k ≤ n → (accH tr tg b L k).2 = (tr.st 0).nx
  | 0, _ => rfl
  | k + 1, hk => by
    simp only [accH]
    split
    · rename_i hL
      rw [if_neg (fun hkt => by rw [h k (by omega) hkt] at hL; cases hL)]
      exact accH_nx h k (by omega)
    · exact accH_nx h k (by omega)
theorem accH_fresh {n key : Nat} (h0 : (tr.st 0).H key = none) (h : ∀ k, k < n → k ∈ tg → L k = false) (hk : ∀ k, k < n → L k = true → b + k ≠ key) : ∀ k, k ≤ n → (accH tr tg b L k).1 key = none
  | 0, _ => h0
  | k + 1, hkn => by
    have ih := accH_fresh h0 h hk k (by omega)
    simp only [accH]
    split
    · rename_i hL
      rw [if_neg (fun hkt => by rw [h k (by omega) hkt] at hL; cases hL)]
      cases tr.nr k with
      | none => exact ih
      | some r =>
        simp only [putH, updH]
        rw [if_neg (fun e => hk k (by omega) hL e.symm)]
        exact ih
    · exact ih
end
end Go.Pg

namespace Go.Pg
open Go Go.RowKit
section
variable {C : Cx} {N : Nat} {Q : Exit → St → Prop} {s : St} {l : List Oper}
theorem Sim.grow {S0 : Fr} {w0 w : World} {a : Act} {s s' : St} (h : Sim S0 w0 N a w s) {w' : World} (hb : Below w.heap.size w w') (h1 : s'.tm = s.tm) (h2 : s'.H = s.H) (h3 : s.nx ≤ s'.nx) : Sim S0 w0 N a w' s' := by
  obtain ⟨σ, hσ⟩ := h
  have hm := hσ.inv.more hσ.size hb
  have hl := hσ.inv.le_more hb
  exact ⟨_, ⟨by rw [h2]; exact hm, fun id hid => by rw [h2]; exact hσ.nx id (Nat.le_trans h3 hid), fun t => by rw [h1]; exact Rep.mono hl _ _ (hσ.tm t), hσ.N, hσ.d, hσ.below.trans (hb.mono hσ.size)⟩⟩
theorem mem_ready {listed : Array Bool} {i : Nat} (hn : listed.size = l.length) :
    i ∈ Region.ready .any l.toArray listed ↔ ∃ o, l[i]? = some o ∧ listed.getD i false = false ∧ ∀ j ∈ bnd o, listed.getD j false = true := by
  unfold Region.ready
  simp only [List.mem_filter, List.mem_range, List.size_toArray, Bool.and_eq_true, Bool.not_eq_true']
  constructor
  · rintro ⟨h1, h2, h3⟩
    have hg : l.toArray[i]? = some l[i] := by simp [h1]
    rw [hg] at h3
    simp only [Option.map_some, Option.getD_some, Array.all_eq_true, Bool.or_eq_true, Bool.not_eq_true'] at h3
    refine ⟨l[i], by simp [h1], ?_, fun j hj => ?_⟩
    · rw [Array.getD_eq_getD_getElem?] at h2 ⊢
      rw [Array.getElem?_eq_getElem (by omega)] at h2 ⊢
      exact h2
    · unfold bnd at hj
      simp only [List.mem_map, List.mem_filter, Array.mem_toList_iff] at hj
      obtain ⟨e, ⟨he, hbe⟩, rfl⟩ := hj
      obtain ⟨k, hk, rfl⟩ := Array.mem_iff_getElem.1 he
      rcases h3 k hk with h | h
      · rw [hbe] at h; cases h
      · exact h
  · rintro ⟨o, h1, h2, h3⟩
    have hlt : i < l.length := (List.getElem?_eq_some_iff.1 h1).1
    refine ⟨hlt, ?_, ?_⟩
    · rw [Array.getD_eq_getD_getElem?] at h2 ⊢
      rw [Array.getElem?_eq_getElem (by omega)] at h2 ⊢
      exact h2
    · have hg : l.toArray[i]? = some o := by simpa using h1
      rw [hg]
      simp only [Option.map_some, Option.getD_some, Array.all_eq_true, Bool.or_eq_true, Bool.not_eq_true']
      intro k hk
      by_cases hb : Region.binds .any o.after[k] = true
      · refine .inr (h3 _ ?_)
        unfold bnd
        simp only [List.mem_map, List.mem_filter, Array.mem_toList_iff]
        exact ⟨_, ⟨Array.getElem_mem hk, hb⟩, rfl⟩
      · exact .inl (by simpa using hb)
theorem filter_len_lt {α : Type} {p q : α → Bool} : ∀ (l : List α) (x : α), x ∈ l → p x = true → q x = false → (∀ y, q y = true → p y = true) → (l.filter q).length < (l.filter p).length
  | [], _, h, _, _, _ => by cases h
  | y :: l, x, h, hp, hq, hm => by
    have hle : (l.filter q).length ≤ (l.filter p).length := by
      clear h
      induction l with
      | nil => simp
      | cons z l ih =>
        simp only [List.filter_cons]
        by_cases h1 : q z = true
        · rw [if_pos h1, if_pos (hm z h1)]; simp only [List.length_cons]; omega
        · rw [if_neg h1]; split
          · simp only [List.length_cons]; omega
          · exact ih
    simp only [List.mem_cons] at h
    simp only [List.filter_cons]
    rcases h with rfl | h
    · rw [if_pos hp, if_neg (by simp [hq])]; simp; omega
    · have ih := filter_len_lt l x h hp hq hm
      by_cases h1 : q y = true
      · rw [if_pos h1, if_pos (hm y h1)]; simp only [List.length_cons]; omega
      · rw [if_neg h1]; split
        · simp only [List.length_cons]; omega
        · exact ih
theorem AW.draw (hm : C.P.follows .mixedOrders = true) {id : Nat} (tg mk av : List Nat) (x : Nat) (hok : drawOK l tg mk = true)
    (h : DW C N l.toArray s.H s.nx tg mk av (fun s' => Q .normal s') 0 l { s with nx := s.nx + x }) : AW C N (.region id l.toArray true) Q s := by
  have hO := ordOK_of hok
  obtain ⟨tr, h0, hT, hF⟩ := DW.trace l 0 _ h
  simp only [Nat.zero_add] at hT hF
  intro S0 w0 a w hE hs
  refine wpIn_region_any hm ?_
  let d : Nat → Option Nat := fun k => (l[k]?).bind (·.dst)
  let b := s.nx
  let LL : Array Bool → Nat → Bool := fun listed k => listed.getD k false
  let stD : (Nat → Bool) → St := fun L => ⟨accT tr d L l.length, (accH tr tg b L l.length).1, (accH tr tg b L l.length).2⟩
  have hs0 : (tr.st 0).H = s.H ∧ (tr.st 0).nx = s.nx + x ∧ (tr.st 0).tm = s.tm := by rw [h0]; exact ⟨rfl, rfl, rfl⟩
  have hget : ∀ {k}, k < l.length → ∃ o, l[k]? = some o := fun {k} h => ⟨_, List.getElem?_eq_getElem h⟩
  have hlt : ∀ {k o}, l[k]? = some o → k < l.length := fun {k o} h => (List.getElem?_eq_some_iff.1 h).1
  have hstep : ∀ k, k < l.length → (tr.st (k + 1)).tm = updO (tr.st k).tm (d k) (tr.r k) := fun k hk => by
    obtain ⟨o, ho⟩ := hget hk
    have := (hT k o ho).1
    rw [this]; simp [d, ho]
  have hloose : ∀ k, k < l.length → k ∉ tg → (tr.st (k + 1)).H = putH (tr.st k).H (b + k) (tr.nr k) ∧ (tr.st (k + 1)).nx = (tr.st k).nx := fun k hk hkt => by
    obtain ⟨o, ho⟩ := hget hk
    have := (hT k o ho).2
    rw [if_neg hkt] at this
    exact ⟨this.1, this.2.1⟩
  have halloc : ∀ k, k < l.length → k ∉ tg → tr.nr k ≠ none → k ∉ mk ∧ s.H (b + k) = none ∧ b + k < (tr.st k).nx := fun k hk hkt hn => by
    obtain ⟨o, ho⟩ := hget hk
    have := (hT k o ho).2
    rw [if_neg hkt] at this
    rcases this.2.2.1 with h | h
    · exact absurd h hn
    · exact h
  -- the ancestors are done
  have hanc : ∀ {L : Nat → Bool}, Closed l L → ∀ {i o k}, l[i]? = some o → ((ancs l []).getD i 0).testBit k = true → (∀ j ∈ bnd o, L j = true) → L k = true := fun {L} hL {i o k} ho hk hj =>
    ancs_spec hL l [] (by simp) (by simp) (by simp) hO.back i o ho k hk hj
  have hancL : ∀ {L : Nat → Bool}, Closed l L → ∀ {i o k}, l[i]? = some o → ((ancs l []).getD i 0).testBit k = true → L i = true → L k = true := fun {L} hL {i o k} ho hk hi =>
    hanc hL ho hk (hL i o ho hi)
  -- an ancestor comes before
  have hancLt : ∀ {i o k}, l[i]? = some o → ((ancs l []).getD i 0).testBit k = true → k < i := by
    intro i o k ho hk
    have hc : Closed l (fun j => decide (j < i)) := fun i' o' ho' hi' j hj => by
      have := hO.back i' o' ho' j hj
      simp only [decide_eq_true_eq] at hi' ⊢; omega
    have := hanc hc ho hk (fun j hj => by simpa using hO.back i o ho j hj)
    simpa using this
  have main : ∀ (fuel : Nat) (listed : Array Bool) (a : Act) (w : World), listed.size = l.length → Closed l (LL listed) → ((List.range l.length).filter (fun i => !(LL listed i))).length ≤ fuel → Sim S0 w0 N a w (stD (LL listed)) →
      wpAnyIn C.F 0 C.P .any l.toArray (fun e a' w' => ∃ s', Sim S0 w0 N a' w' s' ∧ Q e s') fuel listed a w := by
    -- all is done
    have hend : ∀ (listed : Array Bool) (a : Act) (w : World), (∀ k, k < l.length → LL listed k = true) → Sim S0 w0 N a w (stD (LL listed)) → ∃ s', Sim S0 w0 N a w s' ∧ Q .normal s' := by
      intro listed a w hall hsim
      refine ⟨_, hsim, ?_⟩
      have e1 := accT_all (L := LL listed) hstep hall l.length (Nat.le_refl _)
      have e2 := accH_at (L := LL listed) hloose (fun k hk _ => hall k hk) l.length (Nat.le_refl _)
      have : stD (LL listed) = tr.st l.length := by
        show St.mk _ _ _ = _
        rw [e1, e2]
      rw [this]; exact hF
    have hready : ∀ (listed : Array Bool), listed.size = l.length → Region.ready .any l.toArray listed = [] → ∀ k, k < l.length → LL listed k = true := by
      intro listed hsz hr k
      induction k using Nat.strongRecOn with
      | ind k ih =>
        intro hk
        obtain ⟨o, ho⟩ := hget hk
        cases hL : LL listed k with
        | true => rfl
        | false =>
          have : k ∈ Region.ready .any l.toArray listed := (mem_ready hsz).2 ⟨o, ho, hL, fun j hj => ih j (hO.back k o ho j hj) (by have := hO.back k o ho j hj; omega)⟩
          rw [hr] at this; cases this
    intro fuel
    induction fuel with
    | zero =>
      intro listed a w hsz hcl hcnt hsim
      have hall : ∀ k, k < l.length → LL listed k = true := by
        intro k hk
        cases hL : LL listed k with
        | true => rfl
        | false =>
          have : k ∈ (List.range l.length).filter (fun i => !(LL listed i)) := by simp [hk, hL]
          have := List.length_pos_of_mem this
          omega
      refine ⟨?_, hend listed a w hall hsim⟩
      apply List.eq_nil_iff_forall_not_mem.2
      intro i hi
      obtain ⟨o, h1, h2, _⟩ := (mem_ready hsz).1 hi
      have := hall i (hlt h1)
      rw [show LL listed i = listed.getD i false from rfl, h2] at this; cases this
    | succ fuel ih =>
      intro listed a w hsz hcl hcnt hsim
      refine ⟨fun hr => hend listed a w (hready listed hsz hr) hsim, fun i hi => ?_⟩
      obtain ⟨o, ho, hLi, hbo⟩ := (mem_ready hsz).1 hi
      have hil := hlt ho
      have hL' : LL (listed.setIfInBounds i true) = setL (LL listed) i := by
        funext k
        show (listed.setIfInBounds i true).getD k false = setL (LL listed) i k
        unfold setL
        rw [Array.getD_eq_getD_getElem?, Array.getElem?_setIfInBounds]
        by_cases hk : i = k
        · subst hk; simp [hsz, hil]
        · rw [if_neg hk, if_neg (fun e => hk e.symm)]; rw [← Array.getD_eq_getD_getElem?]
      have hbo' : ∀ j ∈ bnd o, LL listed j = true := hbo
      have hcl' : Closed l (LL (listed.setIfInBounds i true)) := by
        rw [hL']
        intro i' o' ho' hi' j hj
        unfold setL at hi' ⊢
        by_cases hji : j = i
        · rw [if_pos hji]
        · rw [if_neg hji]
          by_cases hii : i' = i
          · subst hii; rw [ho] at ho'; injection ho' with ho'; subst ho'; exact hbo' j hj
          · rw [if_neg hii] at hi'; exact hcl i' o' ho' hi' j hj
      have hLi' : LL listed i = false := hLi
      have hcnt' : ((List.range l.length).filter (fun k => !(LL (listed.setIfInBounds i true) k))).length ≤ fuel := by
        have := filter_len_lt (p := fun k => !(LL listed k)) (q := fun k => !(LL (listed.setIfInBounds i true) k)) (List.range l.length) i (by simp [hil]) (by simp [hLi']) (by rw [hL']; simp [setL])
          (fun y hy => by rw [hL'] at hy; unfold setL at hy; by_cases h : y = i <;> simp_all)
        omega
      -- one step
      have hone : One C N l.toArray o (stD (LL listed)) (stD (LL (listed.setIfInBounds i true))) := by
        have hTi := hT i o ho
        have hdi : d i = o.dst := by simp [d, ho]
        -- the temporaries
        have htm : accT tr d (LL (listed.setIfInBounds i true)) l.length = updO (accT tr d (LL listed) l.length) o.dst (tr.r i) := by
          rw [hL', accT_set hLi' (fun k t hk hdk hdi' => by
            have hkl : k < l.length := by
              rcases Nat.lt_or_ge k l.length with h | h
              · exact h
              · simp [d, List.getElem?_eq_none h] at hdk
            obtain ⟨p, hp⟩ := hget hkl
            have h1 : p.dst = some t := by simpa [d, hp] using hdk
            exact hO.dsts i o k p t ho hp hk h1 (by rw [← hdi]; exact hdi')), if_neg (by omega), hdi]
        have huse : ∀ t ∈ o.looksAt l.toArray, accT tr d (LL listed) l.length t = (tr.st i).tm t := by
          intro t ht
          have := accT_uses (tr := tr) (d := d) (L := LL listed) (i := i) (t := t) hstep (fun k hk hdk => by
            obtain ⟨p, hp⟩ := hget hk
            have h1 : p.dst = some t := by simpa [d, hp] using hdk
            rcases hO.uses i o k p t ho hp h1 ht with h | h
            · exact ⟨fun _ => hancLt ho h, fun _ => hanc hcl ho h hbo'⟩
            · have hik := hancLt hp h
              refine ⟨fun hLk => ?_, fun hki => by omega⟩
              have := hancL hcl hp h hLk
              rw [hLi'] at this; cases this) l.length (Nat.le_refl _) (by omega)
          rw [this, Nat.min_eq_right (by omega)]
        by_cases hit : i ∈ tg
        · -- it has its place
          obtain ⟨_, hTi⟩ := hTi
          rw [if_pos hit] at hTi
          have hbefore : ∀ k, k < l.length → k ∉ mk → k ∉ tg → LL listed k = true := fun k hk hkm hkt => by
            obtain ⟨p, hp⟩ := hget hk
            exact hanc hcl ho (hO.loose i o k p ho hp hit hkt hkm) hbo'
          have hafter : ∀ k, i ≤ k → LL listed k = true → k ∉ tg ∧ tr.nr k = none := by
            intro k hk hLk
            have hkl : k < l.length := by
              rcases Nat.lt_or_ge k l.length with h | h
              · exact h
              · have hg : listed.getD k false = true := hLk
                rw [Array.getD_eq_getD_getElem?, Array.getElem?_eq_none (by omega)] at hg; cases hg
            obtain ⟨p, hp⟩ := hget hkl
            have hkt : k ∉ tg := by
              intro hkt
              rcases hO.tight i o k p ho hp hit hkt with h | h | h
              · subst h; rw [hLi'] at hLk; cases hLk
              · have := hancLt ho h; omega
              · have := hancL hcl hp h hLk; rw [hLi'] at this; cases this
            refine ⟨hkt, ?_⟩
            cases hn : tr.nr k with
            | none => rfl
            | some r =>
              have hal := halloc k hkl hkt (by rw [hn]; simp)
              have := hancLt ho (hO.loose i o k p ho hp hit hkt hal.1)
              omega
          have hat : accH tr tg b (LL listed) l.length = ((tr.st i).H, (tr.st i).nx) := by
            rw [accH_stay (i := i) l.length (by omega) (fun j h1 h2 h3 => hafter j h1 h3)]
            exact accH_at (n := i) (fun k hk => hloose k (by omega)) (fun k hk h => by
              obtain ⟨p, hp⟩ := hget (show k < l.length by omega)
              by_cases hkt : k ∈ tg
              · rcases hO.tight i o k p ho hp hit hkt with h | h | h
                · omega
                · exact hanc hcl ho h hbo'
                · have := hancLt hp h; omega
              · rcases h with h | h
                · exact absurd h hkt
                · exact hbefore k (by omega) (halloc k (by omega) hkt h).1 hkt) i (Nat.le_refl _)
          have hset : accH tr tg b (LL (listed.setIfInBounds i true)) l.length = ((tr.st (i + 1)).H, (tr.st (i + 1)).nx) := by
            rw [hL']
            exact accH_set_tight hLi' hit (fun k hk hLk => hafter k (by omega) hLk) l.length hil
          have := hTi.1 (stD (LL listed)) (by show (accH tr tg b (LL listed) l.length).1 = _; rw [hat]) (by show (accH tr tg b (LL listed) l.length).2 = _; rw [hat]) huse
          show One C N l.toArray o (stD (LL listed)) ⟨accT tr d (LL (listed.setIfInBounds i true)) l.length, (accH tr tg b (LL (listed.setIfInBounds i true)) l.length).1, (accH tr tg b (LL (listed.setIfInBounds i true)) l.length).2⟩
          rw [htm, hset]
          exact this
        · obtain ⟨_, hTi⟩ := hTi
          rw [if_neg hit] at hTi
          obtain ⟨_, _, hnr, hcert⟩ := hTi
          -- none that has its place is done before one that they all wait for
          have hnot : i ∉ mk → ∀ k, k ∈ tg → LL listed k = false := by
            intro hmi k hkt
            cases hLk : LL listed k with
            | false => rfl
            | true =>
              have hkl : k < l.length := by
                rcases Nat.lt_or_ge k l.length with h | h
                · exact h
                · have hg : listed.getD k false = true := hLk
                  rw [Array.getD_eq_getD_getElem?, Array.getElem?_eq_none (by omega)] at hg; cases hg
              obtain ⟨p, hp⟩ := hget hkl
              have := hancL hcl hp (hO.loose k p i o hp ho hkt hit hmi) hLk
              rw [hLi'] at this; cases this
          have hset : accH tr tg b (LL (listed.setIfInBounds i true)) l.length = (putH (accH tr tg b (LL listed) l.length).1 (b + i) (tr.nr i), (accH tr tg b (LL listed) l.length).2) := by
            rw [hL', accH_set_loose hLi' hit (by
              rcases hnr with h | h
              · exact .inl h
              · exact .inr (fun k hk => hnot h.1 k hk)) l.length, if_neg (by omega)]
          have hfreshK : ∀ k, k < l.length → k ∉ tg → tr.nr k ≠ none → s.H (b + k) = none := fun k hk hkt hn => (halloc k hk hkt hn).2.1
          have hext : Ext (if i ∈ mk then mask av s.H else s.H) (accH tr tg b (LL listed) l.length).1 := by
            by_cases hmi : i ∈ mk
            · rw [if_pos hmi]
              -- what is not written stays in the order of the text
              have hst : ∀ k, k ≤ l.length → Ext (mask av s.H) (tr.st k).H := by
                intro k
                induction k with
                | zero => intro _ id x hx; rw [hs0.1]; unfold mask at hx; split at hx <;> first | cases hx | exact hx
                | succ k ih2 =>
                  intro hk
                  have ih3 := ih2 (by omega)
                  obtain ⟨p, hp⟩ := hget (show k < l.length by omega)
                  by_cases hkt : k ∈ tg
                  · have := (hT k p hp).2
                    rw [if_pos hkt] at this
                    intro id x hx
                    have hav : id ∉ av := by unfold mask at hx; split at hx <;> simp_all
                    rcases this.2 with h | h
                    · rw [h] at hmi; cases hmi
                    · exact h id x hav (ih3 id x hx)
                  · rw [(hloose k (by omega) hkt).1]
                    cases hn : tr.nr k with
                    | none => exact ih3
                    | some r =>
                      intro id x hx
                      have hf := hfreshK k (by omega) hkt (by rw [hn]; simp)
                      simp only [putH, updH]
                      rw [if_neg (fun e => by subst e; unfold mask at hx; split at hx <;> simp_all)]
                      exact ih3 id x hx
              refine accH_ext (n := l.length) (hst 0 (by omega)) (fun k hk hkt hn => ?_) (fun k hk _ _ => hst (k + 1) (by omega)) l.length (Nat.le_refl _)
              have := hfreshK k hk hkt hn
              unfold mask; split <;> first | rfl | exact this
            · rw [if_neg hmi]
              exact accH_ext (n := l.length) (fun id x hx => by rw [hs0.1]; exact hx) (fun k hk hkt hn => hfreshK k hk hkt hn) (fun k hk hkt hLk => by rw [hnot hmi k hkt] at hLk; cases hLk) l.length (Nat.le_refl _)
          have hkey : tr.nr i = none ∨ ((stD (LL listed)).H (b + i) = none ∧ b + i < (stD (LL listed)).nx) := by
            rcases hnr with h | ⟨h1, h2, h3⟩
            · exact .inl h
            · refine .inr ⟨?_, ?_⟩
              · refine accH_fresh (n := l.length) (by rw [hs0.1]; exact h2) (fun k hk hkt => hnot h1 k hkt) (fun k hk hLk e => ?_) l.length (Nat.le_refl _)
                have : k = i := by omega
                subst this; rw [hLi'] at hLk; cases hLk
              · show b + i < (accH tr tg b (LL listed) l.length).2
                rw [accH_nx (n := l.length) (fun k hk hkt => hnot h1 k hkt) l.length (Nat.le_refl _)]
                have hbefore : ∀ k, k < i → k ∉ tg := by
                  intro k hk hkt
                  obtain ⟨p, hp⟩ := hget (show k < l.length by omega)
                  have := hancLt hp (hO.loose k p i o hp ho hkt hit h1)
                  omega
                have : ∀ k, k ≤ i → (tr.st k).nx = (tr.st 0).nx := by
                  intro k
                  induction k with
                  | zero => intro _; rfl
                  | succ k ih2 => intro hk; rw [(hloose k (by omega) (hbefore k (by omega))).2]; exact ih2 (by omega)
                rw [← this i (Nat.le_refl _)]; exact h3
          have := hcert (stD (LL listed)) hext hkey huse
          show One C N l.toArray o (stD (LL listed)) ⟨accT tr d (LL (listed.setIfInBounds i true)) l.length, (accH tr tg b (LL (listed.setIfInBounds i true)) l.length).1, (accH tr tg b (LL (listed.setIfInBounds i true)) l.length).2⟩
          rw [htm, hset]
          exact this
      unfold wpOpIn
      have hg : l.toArray[i]? = some o := by simpa using ho
      rw [hg]
      dsimp only
      have h9 := hone S0 w0 a w (wpAnyIn C.F 0 C.P .any l.toArray (fun e a' w' => ∃ s', Sim S0 w0 N a' w' s' ∧ Q e s') fuel (listed.setIfInBounds i true)) (fun e a' w' => ∃ s', Sim S0 w0 N a' w' s' ∧ Q e s') hE hsim (fun a' w' hs' => ih _ a' w' (by simp [hsz]) hcl' hcnt' hs')
      split
      · rename_i hw; rw [if_pos hw] at h9; exact h9
      · rename_i hw; rw [if_neg hw] at h9; exact ⟨fun f _ => C.hF.fn f, h9⟩
  refine main _ _ _ _ (by simp) ?_ ?_ ?_
  · intro i o ho hi
    exfalso
    have : (Array.replicate l.toArray.size false).getD i false = true := hi
    rw [Array.getD_eq_getD_getElem?] at this
    simp [Array.getElem?_replicate] at this
    split at this <;> simp at this
  · refine Nat.le_trans (List.length_filter_le _ _) (by simp)
  · have hnone : ∀ k, LL (Array.replicate l.toArray.size false) k = false := fun k => by
      show (Array.replicate l.toArray.size false).getD k false = false
      rw [Array.getD_eq_getD_getElem?]
      simp only [Array.getElem?_replicate]
      split <;> rfl
    have e1 : ∀ k, accT tr d (LL (Array.replicate l.toArray.size false)) k = s.tm := by
      intro k; induction k with
      | zero => exact hs0.2.2
      | succ k ih => simp only [accT, hnone, Bool.false_eq_true, if_false, ih]
    have e2 : ∀ k, accH tr tg b (LL (Array.replicate l.toArray.size false)) k = (s.H, s.nx + x) := by
      intro k; induction k with
      | zero => show ((tr.st 0).H, (tr.st 0).nx) = _; rw [hs0.1, hs0.2.1]
      | succ k ih => simp only [accH, hnone, Bool.false_eq_true, if_false, ih]
    refine hs.grow (s' := stD _) (w' := { w with drawn := w.drawn + 1 }) ⟨rfl, rfl, rfl, Nat.le_refl _, fun _ _ => rfl⟩ (e1 _) ?_ ?_
    · show (accH tr tg b _ _).1 = _; rw [e2]
    · show s.nx ≤ (accH tr tg b _ _).2; rw [e2]; exact Nat.le_add_right _ _
end
end Go.Pg
