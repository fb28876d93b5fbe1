/-
  Contracts of functions, proved by going through their code. No conditions.
-/
import Derived.WalkKit
import Derived.Deep.Draws
import Derived.Laws.StructEq
import Derived.WalkLawsBesides
set_option linter.unusedVariables false
set_option linter.unusedSimpArgs false
namespace Go.Pg
open Go Go.RowKit
inductive Key where
  | str (s : ByteArray)
  | int (n : Int)
  | pair (a b : Int)
  deriving Inhabited
inductive KSh where
  | str
  | int
  | pair
  deriving DecidableEq, Inhabited
def Key.val : Key → Value
  | .str s => .string s
  | .int n => .int .i64 n
  | .pair a b => .agg #[.int .i64 a, .int .i64 b]
def Key.sh : Key → KSh
  | .str _ => .str
  | .int _ => .int
  | .pair .. => .pair
def Key.same : Key → Key → Bool
  | .str a, .str b => a.data.toList == b.data.toList
  | .int a, .int b => a == b
  | .pair a b, .pair c d => a == c && b == d
  | _, _ => false
theorem Key.same_eq {a b : Key} (h : a.same b = true) : a = b := by
  cases a <;> cases b <;> simp only [Key.same, Bool.and_eq_true, beq_iff_eq, reduceCtorEq] at h
  · rename_i x y; cases x; cases y; simp only [Key.str.injEq, ByteArray.mk.injEq]; exact Array.toList_inj.1 h
  · rw [h]
  · rw [h.1, h.2]
inductive AV where
  | junk
  | v (x : Value)
  | agg (cs : List AV)
  | tup (vs : List AV)
  | lst (es : List (List AV))
  | iptr (e : List AV) (j : Nat)
  | ref (id off n : Nat)
  | ptr (id i j tag : Nat)
  | clo (f : FuncId) (caps : List AV)
  | bnd (f : FuncId) (first : List AV)
  | map (id : Nat)
  | lmap (sh : KSh) (ks : List Key) (vs : List AV)
  deriving Inhabited
def AV.cell : AV → Bool
  | .v x => x.oneCell'
  | .junk | .agg _ | .tup _ => false
  | _ => true
mutual
def pureA : AV → Bool
  | .ref .. | .ptr .. | .map _ => false
  | .agg cs | .tup cs | .clo _ cs | .bnd _ cs => pureL cs
  | _ => true
def pureL : List AV → Bool
  | [] => true
  | c :: cs => pureA c && pureL cs
end
structure Sg where
  S : Nat → Prop
  own : Nat → Option Nat
  ext : Nat → Nat
  al : Nat → Prop
  cur : Nat → Option Nat
  len : Nat → Nat
  k : Nat → Nat
  cap : Nat → Nat
def pureSg (S : Nat → Prop) : Sg := { S := S, own := fun _ => none, ext := fun _ => 0, al := fun _ => False, cur := fun _ => none, len := fun _ => 0, k := fun _ => 0, cap := fun _ => 0 }
mutual
def Rep (σ : Sg) (w : World) : AV → Value → Prop
  | .junk, _ => True
  | .v x, u => u = x
  | .agg cs, u => ∃ arr : Array Value, u = .agg arr ∧ arr.size = cs.length ∧ (∀ c ∈ cs, c.cell = true) ∧ RepL σ w cs (fun i => arr[i]?)
  | .tup cs, u => ∃ arr : Array Value, u = .tuple arr ∧ arr.size = cs.length ∧ RepL σ w cs (fun i => arr[i]?)
  | .lst es, u => ∃ (A : Option Addr) (cap k : Nat), u = .slice A es.length cap ∧ es.length ≤ cap ∧ cap ≤ maxLen ∧ (∀ e ∈ es, e.length = k ∧ ∀ c ∈ e, c.cell = true) ∧
      (es ≠ [] → ∃ b o, A = some ⟨b, o, none⟩ ∧ σ.S b ∧ RepLL (pureSg σ.S) w es (fun i j => w.cell? ⟨b, o + i * k + j, none⟩))
  | .iptr e j, u => ∃ b o, u = .pointer (some ⟨b, o + j, none⟩) ∧ σ.S b ∧ (∀ c ∈ e, c.cell = true) ∧ RepL (pureSg σ.S) w e (fun j => w.cell? ⟨b, o + j, none⟩)
  | .ref id off n, u => σ.al id ∧ ∃ (A : Option Addr) (cap : Nat), u = .slice A n cap ∧ n ≤ cap ∧ cap ≤ maxLen ∧
      (n ≠ 0 → ∃ b, A = some ⟨b, off * σ.k id, none⟩ ∧ σ.own b = some id ∧ off + n ≤ σ.ext b) ∧
      (off = 0 → n = σ.len id → (σ.cur id = none ∧ n = 0 ∧ A = none ∧ cap = 0) ∨ ∃ b, σ.cur id = some b ∧ A = some ⟨b, 0, none⟩ ∧ cap = σ.cap b)
  | .ptr id i j tag, u => ∃ b, u = .pointer (some ⟨b, i * σ.k id + j, none⟩) ∧ σ.own b = some id ∧ i < tag ∧ tag ≤ σ.ext b
  | .clo f cs, u => ∃ arr : Array Value, u = .func (.func f) #[] arr ∧ arr.size = cs.length ∧ RepL σ w cs (fun i => arr[i]?)
  | .bnd f cs, u => ∃ arr : Array Value, u = .func (.func f) arr #[] ∧ arr.size = cs.length ∧ RepL σ w cs (fun i => arr[i]?)
  | .map id, u => ∃ b, u = .map (some b) ∧ σ.own b = some id
  | .lmap sh ks vs, u => ∃ b clock, ∃ xs : Array MapEntry, u = .map (some b) ∧ σ.S b ∧ w.heap[b]? = some (.map xs clock) ∧ xs.toList.map (·.key) = ks.map Key.val ∧ (∀ k ∈ ks, k.sh = sh) ∧ ks.length = vs.length ∧ RepL (pureSg σ.S) w vs (fun i => (xs[i]?).map (·.val))
def RepL (σ : Sg) (w : World) : List AV → (Nat → Option Value) → Prop
  | [], _ => True
  | c :: cs, f => (∃ u, f 0 = some u ∧ Rep σ w c u) ∧ RepL σ w cs (fun i => f (i + 1))
def RepLL (σ : Sg) (w : World) : List (List AV) → (Nat → Nat → Option Value) → Prop
  | [], _ => True
  | e :: es, f => RepL σ w e (f 0) ∧ RepLL σ w es (fun i => f (i + 1))
end
section
variable {σ σ' : Sg} {w w' : World}
theorem repL_iff (cs : List AV) : ∀ f : Nat → Option Value, RepL σ w cs f ↔ ∀ i (h : i < cs.length), ∃ u, f i = some u ∧ Rep σ w cs[i] u := by
  induction cs with
  | nil => intro f; simp [RepL]
  | cons c cs ih =>
    intro f
    simp only [RepL, ih]
    constructor
    · rintro ⟨h0, h1⟩ i hi
      cases i with
      | zero => exact h0
      | succ i => exact h1 i (by simpa using hi)
    · intro h
      exact ⟨h 0 (by simp), fun i hi => h (i + 1) (by simpa using hi)⟩
theorem repL_iff' (cs : List AV) (f : Nat → Option Value) : RepL σ w cs f ↔ ∀ i c, cs[i]? = some c → ∃ u, f i = some u ∧ Rep σ w c u := by
  rw [repL_iff]
  constructor
  · intro h i c hc
    obtain ⟨hi, rfl⟩ := List.getElem?_eq_some_iff.1 hc
    exact h i hi
  · intro h i hi
    exact h i _ (List.getElem?_eq_getElem hi)
theorem repLL_iff (es : List (List AV)) : ∀ f : Nat → Nat → Option Value, RepLL σ w es f ↔ ∀ i (h : i < es.length), RepL σ w es[i] (f i) := by
  induction es with
  | nil => intro f; simp [RepLL]
  | cons c cs ih =>
    intro f
    simp only [RepLL, ih]
    constructor
    · rintro ⟨h0, h1⟩ i hi
      cases i with
      | zero => exact h0
      | succ i => exact h1 i (by simpa using hi)
    · intro h
      exact ⟨h 0 (by simp), fun i hi => h (i + 1) (by simpa using hi)⟩
theorem rep_oneCell {c : AV} {u : Value} (h : Rep σ w c u) (hc : c.cell = true) : u.oneCell' = true := by
  cases c <;> simp only [AV.cell] at hc <;> try contradiction
  all_goals simp only [Rep] at h
  · subst h; exact hc
  · obtain ⟨A, cap, k, rfl, _⟩ := h; rfl
  · obtain ⟨b, o, rfl, _⟩ := h; rfl
  · obtain ⟨_, A, cap, rfl, _⟩ := h; rfl
  · obtain ⟨b, rfl, _⟩ := h; rfl
  · obtain ⟨arr, rfl, _⟩ := h; rfl
  · obtain ⟨arr, rfl, _⟩ := h; rfl
  · obtain ⟨b, rfl, _⟩ := h; rfl
  · obtain ⟨b, clock, xs, rfl, _⟩ := h; rfl
structure Le (σ σ' : Sg) (w w' : World) : Prop where
  S : ∀ b, σ.S b → σ'.S b
  heap : ∀ b, σ.S b → w'.heap[b]? = w.heap[b]?
  own : ∀ b id, σ.own b = some id → σ.al id ∧ σ'.own b = some id ∧ σ'.k id = σ.k id ∧ σ.ext b ≤ σ'.ext b
  al : ∀ id, σ.al id → σ'.al id
  obj : ∀ id, σ.al id → (σ'.len id = σ.len id ∧ σ'.cur id = σ.cur id ∧ ∀ b, σ.cur id = some b → σ'.cap b = σ.cap b) ∨ (σ.len id < σ'.len id ∧ ∀ b, σ.own b = some id → σ.ext b ≤ σ.len id)
theorem Le.pure_ {S S' : Nat → Prop} (h1 : ∀ b, S b → S' b) (h2 : ∀ b, S b → w'.heap[b]? = w.heap[b]?) : Le (pureSg S) (pureSg S') w w' :=
  ⟨h1, h2, fun b id h => by simp [pureSg] at h, fun id h => h, fun id h => h.elim⟩
theorem cell_of_heap {w w' : World} {a : Addr} (h : w'.heap[a.block]? = w.heap[a.block]?) : w'.cell? a = w.cell? a := by simp [World.cell?, h]
mutual
theorem Rep.mono {σ σ' : Sg} {w w' : World} (hle : Le σ σ' w w') : ∀ (c : AV) (u : Value), Rep σ w c u → Rep σ' w' c u
  | .junk, _, _ => trivial
  | .v _, _, h => h
  | .agg cs, u, h => by
    simp only [Rep] at h ⊢
    obtain ⟨arr, rfl, h1, h2, h3⟩ := h
    exact ⟨arr, rfl, h1, h2, RepL.mono hle cs _ _ (fun _ _ h => h) h3⟩
  | .tup cs, u, h => by
    simp only [Rep] at h ⊢
    obtain ⟨arr, rfl, h1, h3⟩ := h
    exact ⟨arr, rfl, h1, RepL.mono hle cs _ _ (fun _ _ h => h) h3⟩
  | .clo f cs, u, h => by
    simp only [Rep] at h ⊢
    obtain ⟨arr, rfl, h1, h3⟩ := h
    exact ⟨arr, rfl, h1, RepL.mono hle cs _ _ (fun _ _ h => h) h3⟩
  | .bnd f cs, u, h => by
    simp only [Rep] at h ⊢
    obtain ⟨arr, rfl, h1, h3⟩ := h
    exact ⟨arr, rfl, h1, RepL.mono hle cs _ _ (fun _ _ h => h) h3⟩
  | .lst es, u, h => by
    simp only [Rep] at h ⊢
    obtain ⟨A, cap, k, rfl, h1, h2, h3, h4⟩ := h
    refine ⟨A, cap, k, rfl, h1, h2, h3, fun hn => ?_⟩
    obtain ⟨b, o, rfl, hS, hr⟩ := h4 hn
    refine ⟨b, o, rfl, hle.S b hS, RepLL.mono (Le.pure_ hle.S hle.heap) es _ _ (fun i j u hu => ?_) hr⟩
    rw [cell_of_heap (w := w) (hle.heap b hS)]
    exact hu
  | .iptr e j, u, h => by
    simp only [Rep] at h ⊢
    obtain ⟨b, o, rfl, hS, hc, hr⟩ := h
    refine ⟨b, o, rfl, hle.S b hS, hc, RepL.mono (Le.pure_ hle.S hle.heap) e _ _ (fun i u hu => ?_) hr⟩
    rw [cell_of_heap (w := w) (hle.heap b hS)]
    exact hu
  | .ref id off n, u, h => by
    simp only [Rep] at h ⊢
    obtain ⟨hal, A, cap, rfl, h1, h2, h3, h4⟩ := h
    have ho := hle.obj id hal
    refine ⟨hle.al id hal, A, cap, rfl, h1, h2, fun hn => ?_, fun h0 hl => ?_⟩
    · obtain ⟨b, rfl, hown, hext⟩ := h3 hn
      obtain ⟨_, o1, o2, o3⟩ := hle.own b id hown
      exact ⟨b, by rw [o2], o1, by omega⟩
    · rcases ho with ⟨e1, e2, e3⟩ | ⟨e1, e2⟩
      · rcases h4 h0 (by omega) with ⟨g1, g2, g3, g4⟩ | ⟨b, g1, g2, g3⟩
        · exact .inl ⟨by rw [e2]; exact g1, g2, g3, g4⟩
        · exact .inr ⟨b, by rw [e2]; exact g1, g2, by rw [e3 b g1]; exact g3⟩
      · by_cases hn : n = 0
        · omega
        · obtain ⟨b, _, hown, hext⟩ := h3 hn
          have := e2 b hown; omega
  | .ptr id i j tag, u, h => by
    simp only [Rep] at h ⊢
    obtain ⟨b, rfl, hown, h1, h2⟩ := h
    obtain ⟨hal, o1, o2, o3⟩ := hle.own b id hown
    exact ⟨b, by rw [o2], o1, h1, by omega⟩
  | .map id, u, h => by
    simp only [Rep] at h ⊢
    obtain ⟨b, rfl, hown⟩ := h
    exact ⟨b, rfl, (hle.own b id hown).2.1⟩
  | .lmap sh ks vs, u, h => by
    simp only [Rep] at h ⊢
    obtain ⟨b, clock, xs, rfl, h1, h2, h3, h4, h5, h6⟩ := h
    exact ⟨b, clock, xs, rfl, hle.S b h1, (hle.heap b h1).trans h2, h3, h4, h5, RepL.mono (Le.pure_ hle.S hle.heap) vs _ _ (fun _ _ h => h) h6⟩
theorem RepL.mono {σ σ' : Sg} {w w' : World} (hle : Le σ σ' w w') : ∀ (cs : List AV) (f f' : Nat → Option Value), (∀ i u, f i = some u → f' i = some u) → RepL σ w cs f → RepL σ' w' cs f'
  | [], _, _, _, _ => trivial
  | c :: cs, f, f', hf, h => by
    simp only [RepL] at h ⊢
    obtain ⟨⟨u, hu, hr⟩, ht⟩ := h
    exact ⟨⟨u, hf _ _ hu, Rep.mono hle c u hr⟩, RepL.mono hle cs _ _ (fun i u => hf (i + 1) u) ht⟩
theorem RepLL.mono {σ σ' : Sg} {w w' : World} (hle : Le σ σ' w w') : ∀ (es : List (List AV)) (f f' : Nat → Nat → Option Value), (∀ i j u, f i j = some u → f' i j = some u) → RepLL σ w es f → RepLL σ' w' es f'
  | [], _, _, _, _ => trivial
  | e :: es, f, f', hf, h => by
    simp only [RepLL] at h ⊢
    exact ⟨RepL.mono hle e _ _ (fun j u => hf 0 j u) h.1, RepLL.mono hle es _ _ (fun i j u => hf (i + 1) j u) h.2⟩
end
mutual
theorem Rep.pure_ {σ : Sg} {w : World} : ∀ (c : AV) (u : Value), pureA c = true → Rep σ w c u → Rep (pureSg σ.S) w c u
  | .junk, _, _, _ => trivial
  | .v _, _, _, h => h
  | .agg cs, u, hp, h => by
    simp only [Rep] at h ⊢
    obtain ⟨arr, rfl, h1, h2, h3⟩ := h
    exact ⟨arr, rfl, h1, h2, RepL.pure_ cs _ (by simpa [pureA] using hp) h3⟩
  | .tup cs, u, hp, h => by
    simp only [Rep] at h ⊢
    obtain ⟨arr, rfl, h1, h3⟩ := h
    exact ⟨arr, rfl, h1, RepL.pure_ cs _ (by simpa [pureA] using hp) h3⟩
  | .clo f cs, u, hp, h => by
    simp only [Rep] at h ⊢
    obtain ⟨arr, rfl, h1, h3⟩ := h
    exact ⟨arr, rfl, h1, RepL.pure_ cs _ (by simpa [pureA] using hp) h3⟩
  | .bnd f cs, u, hp, h => by
    simp only [Rep] at h ⊢
    obtain ⟨arr, rfl, h1, h3⟩ := h
    exact ⟨arr, rfl, h1, RepL.pure_ cs _ (by simpa [pureA] using hp) h3⟩
  | .lst es, u, _, h => by simp only [Rep] at h ⊢; exact h
  | .iptr e j, u, _, h => by simp only [Rep] at h ⊢; exact h
  | .ref id off n, _, hp, _ => by simp [pureA] at hp
  | .ptr id i j tag, _, hp, _ => by simp [pureA] at hp
  | .map id, _, hp, _ => by simp [pureA] at hp
  | .lmap sh ks vs, u, _, h => by simp only [Rep] at h ⊢; exact h
theorem RepL.pure_ {σ : Sg} {w : World} : ∀ (cs : List AV) (f : Nat → Option Value), pureL cs = true → RepL σ w cs f → RepL (pureSg σ.S) w cs f
  | [], _, _, _ => trivial
  | c :: cs, f, hp, h => by
    simp only [RepL] at h ⊢
    simp only [pureL, Bool.and_eq_true] at hp
    obtain ⟨⟨u, hu, hr⟩, ht⟩ := h
    exact ⟨⟨u, hu, Rep.pure_ c u hp.1 hr⟩, RepL.pure_ cs _ hp.2 ht⟩
end
theorem Le.of_pure (σ : Sg) (w : World) : Le (pureSg σ.S) σ w w := ⟨fun _ h => h, fun _ _ => rfl, fun b id h => by simp [pureSg] at h, fun id h => h.elim, fun id h => h.elim⟩
theorem Rep.lift {c : AV} {u : Value} (h : Rep (pureSg σ.S) w c u) : Rep σ w c u := Rep.mono (Le.of_pure σ w) c u h
theorem RepL.congr {cs : List AV} {f f' : Nat → Option Value} (hf : ∀ i, i < cs.length → f i = f' i) (h : RepL σ w cs f) : RepL σ w cs f' := by
  rw [repL_iff] at h ⊢
  intro i hi
  rw [← hf i hi]
  exact h i hi
end
end Go.Pg

namespace Go.Pg
open Go Go.RowKit
structure Row where
  k : Nat
  es : List (List AV)
  ty : TypeId
  fro : Bool := false
  lo : Nat := 0
  deriving Inhabited
inductive MK where
  | map (sh : KSh)
  | fmap (sh : KSh)
  | loop (l : Nat) (L : Loop)
  | dfr (l : Nat) (ds : Option (List Deferred))
  deriving Inhabited
def MK.obj : MK → Array MapEntry → Nat → Obj
  | .map _, xs, clock => .map xs clock
  | .fmap _, xs, clock => .map xs clock
  | .loop _ L, xs, _ => .loop { L with tmps := xs.map (·.val) }
  | .dfr _ ds, _, _ => .deferred ds
def MK.at : MK → List Key → Nat → Prop
  | .map sh, ks, _ => ∀ k ∈ ks, k.sh = sh
  | .fmap sh, ks, _ => ∀ k ∈ ks, k.sh = sh
  | .loop l _, _, b => b = l
  | .dfr l _, _, b => b = l
def MK.live : MK → Bool
  | .fmap _ => false
  | _ => true
inductive AO where
  | row (r : Row)
  | mp (key : MK) (elem : TypeId) (es : List (Key × AV))
  deriving Inhabited
structure RowInv (w : World) (σ : Sg) (id : Nat) (r : Row) : Prop where
  len : σ.len id = r.es.length
  k : σ.k id = r.k
  each : ∀ e ∈ r.es, e.length = r.k ∧ ∀ c ∈ e, c.cell = true
  lo : r.lo ≤ r.es.length
  cur : ∀ b, σ.cur id = some b → σ.own b = some id ∧ σ.ext b = r.es.length ∧ r.es.length ≤ σ.cap b ∧ σ.cap b ≤ maxLen ∧ ∃ arr : Array Value, w.heap[b]? = some (.cells arr r.ty (0, 0)) ∧ arr.size = σ.cap b * r.k
  empty : σ.cur id = Option.none → r.es = []
  own : ∀ b, σ.own b = some id → (σ.cur id = some b ∨ σ.ext b < r.lo) ∧ σ.ext b ≤ r.es.length ∧ (r.fro = true → σ.S b) ∧ (r.fro = false → ¬ σ.S b)
  con : ∀ b, σ.cur id = some b → ∀ i (hi : i < r.es.length), RepL σ w r.es[i] (fun j => w.cell? ⟨b, i * r.k + j, none⟩)
structure MapInv (w : World) (σ : Sg) (id : Nat) (kt : MK) (es : List (Key × AV)) : Prop where
  len : σ.len id = 0
  cur : ∃ b clock, ∃ xs : Array MapEntry, σ.cur id = some b ∧ σ.own b = some id ∧ ((kt.live = true → ¬ σ.S b) ∧ (kt.live = false → σ.S b)) ∧ w.heap[b]? = some (kt.obj xs clock) ∧ (xs.toList.map (·.key) = es.map (fun e => e.1.val) ∧ kt.at (es.map (·.1)) b) ∧ RepL σ w (es.map (·.2)) (fun i => (xs[i]?).map (·.val))
  one : ∀ b, σ.own b = some id → σ.cur id = some b ∧ σ.ext b = 0
theorem Le.refl (σ : Sg) (w : World) (hal : ∀ b id, σ.own b = some id → σ.al id) : Le σ σ w w :=
  ⟨fun _ h => h, fun _ _ => rfl, fun b id h => ⟨hal b id h, h, rfl, Nat.le_refl _⟩, fun _ h => h, fun _ _ => .inl ⟨rfl, rfl, fun _ _ => rfl⟩⟩
theorem Le.trans {σ1 σ2 σ3 : Sg} {w1 w2 w3 : World} (h : Le σ1 σ2 w1 w2) (g : Le σ2 σ3 w2 w3) : Le σ1 σ3 w1 w3 := by
  refine ⟨fun b hb => g.S b (h.S b hb), fun b hb => (g.heap b (h.S b hb)).trans (h.heap b hb), fun b id hb => ?_, fun id hi => g.al id (h.al id hi), fun id hi => ?_⟩
  · obtain ⟨a1, a2, a3, a4⟩ := h.own b id hb
    obtain ⟨_, b2, b3, b4⟩ := g.own b id a2
    exact ⟨a1, b2, b3.trans a3, Nat.le_trans a4 b4⟩
  · rcases h.obj id hi with ⟨a1, a2, a3⟩ | ⟨a1, a2⟩
    · rcases g.obj id (h.al id hi) with ⟨b1, b2, b3⟩ | ⟨b1, b2⟩
      · exact .inl ⟨b1.trans a1, b2.trans a2, fun b hb => (b3 b (a2.trans hb)).trans (a3 b hb)⟩
      · refine .inr ⟨by omega, fun b hb => ?_⟩
        obtain ⟨_, c2, _, c4⟩ := h.own b id hb
        have := b2 b c2
        omega
    · rcases g.obj id (h.al id hi) with ⟨b1, b2, b3⟩ | ⟨b1, b2⟩
      · exact .inr ⟨by omega, a2⟩
      · exact .inr ⟨by omega, a2⟩
structure Fr where
  S : Nat → Prop
  K : Sg → World → Prop
  mono : ∀ σ σ' w w', Le σ σ' w w' → K σ w → K σ' w'
  ds : List Deferred := []
instance : CoeFun Fr (fun _ => Nat → Prop) := ⟨Fr.S⟩
def Fr.of (S : Nat → Prop) : Fr := ⟨S, fun _ _ => True, fun _ _ _ _ _ h => h, []⟩
structure Inv (B0 : Nat) (S0 : Fr) (w : World) (H : Nat → Option AO) (σ : Sg) : Prop where
  al : ∀ id, σ.al id ↔ H id ≠ none
  fresh : ∀ id, H id = none → σ.cur id = none ∧ ∀ b, σ.own b ≠ some id
  S_lt : ∀ b, σ.S b → b < w.heap.size ∧ (S0 b ∨ B0 ≤ b)
  own_lt : ∀ b id, σ.own b = some id → B0 ≤ b ∧ b < w.heap.size
  row : ∀ id r, H id = some (.row r) → RowInv w σ id r
  mp : ∀ id kt et es, H id = some (.mp kt et es) → MapInv w σ id kt es
  fr : S0.K σ w
section
variable {B0 : Nat} {S0 : Fr} {w w' : World} {H : Nat → Option AO} {σ : Sg}
theorem Inv.al_of_own (hi : Inv B0 S0 w H σ) {b id : Nat} (h : σ.own b = some id) : σ.al id := by
  rw [hi.al]; intro hn; exact (hi.fresh id hn).2 b h
theorem Inv.heap_eq (hi : Inv B0 S0 w H σ) (hsz : w.heap.size ≤ w'.heap.size) (hb : ∀ b, b < w.heap.size → w'.heap[b]? = w.heap[b]?) : Inv B0 S0 w' H σ := by
  have hle : Le σ σ w w' := ⟨fun _ h => h, fun b h => hb b (hi.S_lt b h).1, fun b id h => ⟨hi.al_of_own h, h, rfl, Nat.le_refl _⟩, fun _ h => h, fun _ _ => .inl ⟨rfl, rfl, fun _ _ => rfl⟩⟩
  refine ⟨hi.al, hi.fresh, fun b h => ⟨Nat.lt_of_lt_of_le (hi.S_lt b h).1 hsz, (hi.S_lt b h).2⟩, fun b id h => ⟨(hi.own_lt b id h).1, Nat.lt_of_lt_of_le (hi.own_lt b id h).2 hsz⟩, fun id r h => ?_, fun id kt et es h => ?_, S0.mono _ _ _ _ hle hi.fr⟩
  · have hr := hi.row id r h
    refine ⟨hr.len, hr.k, hr.each, hr.lo, fun b hc => ?_, hr.empty, hr.own, fun b hc i h1 => ?_⟩
    · obtain ⟨a1, a2, a3, a4, arr, a5, a6⟩ := hr.cur b hc
      exact ⟨a1, a2, a3, a4, arr, (hb b (hi.own_lt b id a1).2).trans a5, a6⟩
    · refine RepL.mono hle _ _ _ (fun j u hu => ?_) (hr.con b hc i h1)
      rw [cell_of_heap (w := w) (hb b (hi.own_lt b id (hr.cur b hc).1).2)]
      exact hu
  · have hm := hi.mp id kt et es h
    obtain ⟨b, clock, xs, a1, a2, a3, a4, a5, a6⟩ := hm.cur
    exact ⟨hm.len, ⟨b, clock, xs, a1, a2, a3, (hb b (hi.own_lt b id a2).2).trans a4, a5, RepL.mono hle _ _ _ (fun _ _ h => h) a6⟩, hm.one⟩
theorem Inv.le_heap (hi : Inv B0 S0 w H σ) (hb : ∀ b, b < w.heap.size → w'.heap[b]? = w.heap[b]?) : Le σ σ w w' :=
  ⟨fun _ h => h, fun b h => hb b (hi.S_lt b h).1, fun _ _ h => ⟨hi.al_of_own h, h, rfl, Nat.le_refl _⟩, fun _ h => h, fun _ _ => .inl ⟨rfl, rfl, fun _ _ => rfl⟩⟩
def updH (H : Nat → Option AO) (id : Nat) (o : AO) : Nat → Option AO := fun i => if i = id then some o else H i
def Sg.push (σ : Sg) (b id n k cap : Nat) : Sg :=
  { S := σ.S, own := fun x => if x = b then some id else σ.own x, ext := fun x => if x = b then n else σ.ext x, al := fun i => i = id ∨ σ.al i,
    cur := fun i => if i = id then some b else σ.cur i, len := fun i => if i = id then n else σ.len i, k := fun i => if i = id then k else σ.k i, cap := fun x => if x = b then cap else σ.cap x }
theorem Inv.le_push (hi : Inv B0 S0 w H σ) {id n k cap : Nat} (hf : H id = none) (o : Obj) : Le σ (σ.push w.heap.size id n k cap) w (w.alloc o) := by
  refine ⟨fun _ h => h, fun b h => Below.heap_alloc w o b (hi.S_lt b h).1, fun b i h => ?_, fun _ h => .inr h, fun i ha => ?_⟩
  · have hb := (hi.own_lt b i h).2
    have hne : i ≠ id := fun e => (hi.fresh id hf).2 b (e ▸ h)
    refine ⟨hi.al_of_own h, ?_, ?_, ?_⟩
    · simp only [Sg.push]; rw [if_neg (by omega)]; exact h
    · simp only [Sg.push]; rw [if_neg hne]
    · simp only [Sg.push]; rw [if_neg (by omega)]; exact Nat.le_refl _
  · have hne : i ≠ id := fun e => by subst e; exact (hi.al i).1 ha hf
    refine .inl ⟨by simp only [Sg.push]; rw [if_neg hne], by simp only [Sg.push]; rw [if_neg hne], fun b hb => ?_⟩
    have hlt : b < w.heap.size := by
      cases ho : H i with
      | none => exact absurd ho ((hi.al i).1 ha)
      | some o =>
        cases o with
        | row r => exact (hi.own_lt b i ((hi.row i r ho).cur b hb).1).2
        | mp kt et es =>
          obtain ⟨b', _, _, a1, a2, _⟩ := (hi.mp i kt et es ho).cur
          rw [a1] at hb; cases hb
          exact (hi.own_lt b i a2).2
    simp only [Sg.push]; rw [if_neg (by omega)]
theorem Inv.push (hi : Inv B0 S0 w H σ) {id : Nat} (hf : H id = none) (hB : B0 ≤ w.heap.size) (r : Row) (cap : Nat) (arr : Array Value)
    (hcap : r.es.length ≤ cap) (hmax : cap ≤ maxLen) (hsz : arr.size = cap * r.k) (hg : r.fro = false) (hlo : r.lo = 0)
    (each : ∀ e ∈ r.es, e.length = r.k ∧ ∀ c ∈ e, c.cell = true)
    (hcon : ∀ i (hi : i < r.es.length), RepL σ w r.es[i] (fun j => arr[i * r.k + j]?)) :
    Inv B0 S0 (w.alloc (.cells arr r.ty)) (updH H id (.row r)) (σ.push w.heap.size id r.es.length r.k cap) := by
  have hle := hi.le_push (n := r.es.length) (k := r.k) (cap := cap) hf (.cells arr r.ty)
  have hS : ¬ σ.S w.heap.size := fun h => by have := (hi.S_lt _ h).1; omega
  have hheap : ∀ b, b < w.heap.size → (w.alloc (.cells arr r.ty)).heap[b]? = w.heap[b]? := fun b hb => Below.heap_alloc w _ b hb
  refine ⟨fun i => ?_, fun i hn => ?_, fun b h => ⟨by have := (hi.S_lt b h).1; simp; omega, (hi.S_lt b h).2⟩, fun b i h => ?_, fun i r' h => ?_, fun i kt et es h => ?_, S0.mono _ _ _ _ hle hi.fr⟩
  · simp only [Sg.push, updH]
    by_cases e : i = id
    · simp [e]
    · simp [e, hi.al]
  · simp only [updH] at hn
    have e : i ≠ id := fun e => by simp [e] at hn
    rw [if_neg e] at hn
    obtain ⟨h1, h2⟩ := hi.fresh i hn
    refine ⟨by simp only [Sg.push]; rw [if_neg e]; exact h1, fun b hb => ?_⟩
    simp only [Sg.push] at hb
    split at hb
    · injection hb with hb; exact e hb.symm
    · exact h2 b hb
  · simp only [Sg.push] at h
    split at h
    · subst b; exact ⟨hB, by simp⟩
    · have := hi.own_lt b i h; exact ⟨this.1, by simp; omega⟩
  · simp only [updH] at h
    by_cases e : i = id
    · subst e
      rw [if_pos rfl] at h; injection h with h; injection h with h; subst h
      have hnew : ∀ b, (σ.push w.heap.size i r.es.length r.k cap).own b = some i → b = w.heap.size := fun b hb => by
        simp only [Sg.push] at hb
        split at hb
        · assumption
        · exact absurd hb ((hi.fresh i hf).2 b)
      refine ⟨by simp [Sg.push], by simp [Sg.push], each, by omega, fun b hb => ?_, fun hc => by simp [Sg.push] at hc, fun b hb => ?_, fun b hb j h1 => ?_⟩
      · simp only [Sg.push, if_true] at hb; injection hb with hb; subst hb
        exact ⟨by simp [Sg.push], by simp [Sg.push], by simpa [Sg.push] using hcap, by simpa [Sg.push] using hmax, arr, heap_alloc_new w _, by simpa [Sg.push] using hsz⟩
      · have := hnew b hb; subst this
        exact ⟨.inl (by simp [Sg.push]), by simp [Sg.push], fun h => (by rw [hg] at h; cases h), fun _ => hS⟩
      · simp only [Sg.push, if_true] at hb; injection hb with hb; subst hb
        refine RepL.mono hle _ _ _ (fun m u hu => ?_) (hcon j h1)
        rw [World.cell?_alloc_new]; exact hu
    · rw [if_neg e] at h
      have hr := hi.row i r' h
      have hown : ∀ b, (σ.push w.heap.size id r.es.length r.k cap).own b = some i → σ.own b = some i ∧ b ≠ w.heap.size := fun b hb => by
        simp only [Sg.push] at hb
        split at hb
        · injection hb with hb; exact absurd hb.symm e
        · exact ⟨hb, by assumption⟩
      have hx : ∀ b, b ≠ w.heap.size → (σ.push w.heap.size id r.es.length r.k cap).ext b = σ.ext b := fun b hb => by simp only [Sg.push]; rw [if_neg hb]
      have hcx : (σ.push w.heap.size id r.es.length r.k cap).cur i = σ.cur i := by simp only [Sg.push]; rw [if_neg e]
      have hax : ∀ b, b ≠ w.heap.size → (σ.push w.heap.size id r.es.length r.k cap).cap b = σ.cap b := fun b hb => by simp only [Sg.push]; rw [if_neg hb]
      refine ⟨by simp only [Sg.push]; rw [if_neg e]; exact hr.len, by simp only [Sg.push]; rw [if_neg e]; exact hr.k, hr.each, hr.lo, fun b hb => ?_, fun hc => hr.empty (by rw [← hcx]; exact hc), fun b hb => ?_, fun b hb j h1 => ?_⟩
      · rw [hcx] at hb
        obtain ⟨a1, a2, a3, a4, ar, a5, a6⟩ := hr.cur b hb
        have hlt := (hi.own_lt b i a1).2
        exact ⟨by simp only [Sg.push]; rw [if_neg (by omega)]; exact a1, by rw [hx b (by omega)]; exact a2, by rw [hax b (by omega)]; exact a3, by rw [hax b (by omega)]; exact a4, ar, (hheap b hlt).trans a5, by rw [hax b (by omega)]; exact a6⟩
      · obtain ⟨h1, h2⟩ := hown b hb
        rw [hx b h2, hcx]; exact hr.own b h1
      · rw [hcx] at hb
        refine RepL.mono hle _ _ _ (fun m u hu => ?_) (hr.con b hb j h1)
        rw [cell_of_heap (w := w) (hheap b (hi.own_lt b i (hr.cur b hb).1).2)]; exact hu
  · simp only [updH] at h
    by_cases e : i = id
    · subst e; simp at h
    · rw [if_neg e] at h
      have hm := hi.mp i kt et es h
      obtain ⟨b, clock, xs, a1, a2, a3, a4, a5, a6⟩ := hm.cur
      have hlt := (hi.own_lt b i a2).2
      refine ⟨by simp only [Sg.push]; rw [if_neg e]; exact hm.len, ⟨b, clock, xs, by simp only [Sg.push]; rw [if_neg e]; exact a1, by simp only [Sg.push]; rw [if_neg (by omega)]; exact a2, a3, (hheap b hlt).trans a4, a5, RepL.mono hle _ _ _ (fun _ _ h => h) a6⟩, fun b hb => ?_⟩
      simp only [Sg.push] at hb
      split at hb
      · injection hb with hb; exact absurd hb.symm e
      · rename_i hne
        obtain ⟨h1, h2⟩ := hm.one b hb
        exact ⟨by simp only [Sg.push]; rw [if_neg e]; exact h1, by simp only [Sg.push]; rw [if_neg hne]; exact h2⟩
def Sg.more (σ : Sg) (B B' : Nat) : Sg := { σ with S := fun b => σ.S b ∨ (B ≤ b ∧ b < B') }
theorem Inv.le_more (hi : Inv B0 S0 w H σ) (hb : Below w.heap.size w w') : Le σ (σ.more w.heap.size w'.heap.size) w w' :=
  ⟨fun _ h => .inl h, fun b h => hb.block b (hi.S_lt b h).1, fun _ _ h => ⟨hi.al_of_own h, h, rfl, Nat.le_refl _⟩, fun _ h => h, fun _ _ => .inl ⟨rfl, rfl, fun _ _ => rfl⟩⟩
theorem Inv.more (hi : Inv B0 S0 w H σ) (hB : B0 ≤ w.heap.size) (hb : Below w.heap.size w w') : Inv B0 S0 w' H (σ.more w.heap.size w'.heap.size) := by
  have h1 := hi.heap_eq hb.size (fun b h => hb.block b h)
  have hle : Le σ (σ.more w.heap.size w'.heap.size) w' w' := ⟨fun _ h => .inl h, fun _ _ => rfl, fun _ _ h => ⟨hi.al_of_own h, h, rfl, Nat.le_refl _⟩, fun _ h => h, fun _ _ => .inl ⟨rfl, rfl, fun _ _ => rfl⟩⟩
  refine ⟨h1.al, h1.fresh, fun b h => ?_, h1.own_lt, fun id r h => ?_, fun id kt et es h => ?_, S0.mono _ _ _ _ hle h1.fr⟩
  · rcases h with h | ⟨h, h'⟩
    · exact h1.S_lt b h
    · exact ⟨h', .inr (by omega)⟩
  · have hr := h1.row id r h
    refine ⟨hr.len, hr.k, hr.each, hr.lo, hr.cur, hr.empty, fun b ho => ?_, fun b hc i a1 => RepL.mono hle _ _ _ (fun _ _ h => h) (hr.con b hc i a1)⟩
    obtain ⟨a1, a2, a3, a4⟩ := hr.own b ho
    refine ⟨a1, a2, fun h => .inl (a3 h), fun h => ?_⟩
    rintro (h' | ⟨h', _⟩)
    · exact a4 h h'
    · have := (hi.own_lt b id ho).2; omega
  · have hm := h1.mp id kt et es h
    obtain ⟨b, clock, xs, a1, a2, a3, a4, a5, a6⟩ := hm.cur
    refine ⟨hm.len, ⟨b, clock, xs, a1, a2, ⟨fun hl => ?_, fun hl => .inl (a3.2 hl)⟩, a4, a5, RepL.mono hle _ _ _ (fun _ _ h => h) a6⟩, hm.one⟩
    rintro (h' | ⟨h', _⟩)
    · exact a3.1 hl h'
    · have := (hi.own_lt b id a2).2; omega
end
end Go.Pg

namespace Go.Pg
open Go Go.RowKit
inductive TyD where
  | int (k : IntKind)
  | str
  | bool
  | slice (e : TypeId)
  | arr (n : Nat) (e : TypeId)
  | st (fs : List (Nat × TypeId))
  | map (k e : TypeId)
  | other
  deriving DecidableEq, Inhabited
def TyD.isAgg : TyD → Bool
  | .arr .. | .st _ => true
  | _ => false
structure Ty where
  size : Nat
  bytes : Nat
  zero : List AV
  d : TyD
  deriving Inhabited
def dcode : TypeDesc → TyD
  | .int k => .int k
  | .string => .str
  | .bool => .bool
  | .slice e => .slice e
  | .array n e => .arr n e
  | .struct fs => .st (fs.toList.map fun f => (f.offset, f.type))
  | .map k e => .map k e
  | _ => .other
def const1 (x : Value) : AV := .v x
def constA : Value → AV
  | .agg cs => if cs.toList.all Value.oneCell' then .agg (cs.toList.map const1) else .junk
  | x => const1 x
def aggV : Value → Bool
  | .agg _ => true
  | _ => false
structure TyFact (P : Program) (t : TypeId) (ty : Ty) : Prop where
  info : ((P.info? t).map fun i => (i.size, i.bytes, i.zero.map fun z => z.cells.toList.map const1)) = some (ty.size, ty.bytes, some ty.zero)
  und : (P.underlying t).map dcode = some ty.d
  cell : ty.zero.all AV.cell = true
  size : ty.zero.length = ty.size
  one : ((P.info? t).map fun i => i.zero.map aggV) = some (some ty.d.isAgg)
def TyOK (P : Program) (T : TypeId → Option Ty) : Prop := ∀ t ty, T t = some ty → TyFact P t ty
theorem rep_const1 (σ : Sg) (w : World) (x : Value) : Rep σ w (const1 x) x := rfl
theorem const1_cell (x : Value) (h : x.oneCell' = true) : (const1 x).cell = true := h
theorem rep_constA (σ : Sg) (w : World) (x : Value) : Rep σ w (constA x) x := by
  unfold constA
  split
  · rename_i cs
    split
    · rename_i h
      simp only [Rep]
      refine ⟨cs, rfl, by simp, ?_, ?_⟩
      · intro c hc
        simp only [List.mem_map] at hc
        obtain ⟨y, hy, rfl⟩ := hc
        exact const1_cell y (List.all_eq_true.1 h y hy)
      · rw [repL_iff]
        intro i hi
        simp only [List.length_map, Array.length_toList] at hi
        refine ⟨cs[i], by simp, ?_⟩
        simp only [List.getElem_map, Array.getElem_toList]
        exact rep_const1 σ w _
    · trivial
  · exact rep_const1 σ w _
section facts
variable {P : Program} {t : TypeId} {ty : Ty}
theorem TyFact.get (h : TyFact P t ty) : ∃ i z, P.info? t = some i ∧ i.size = ty.size ∧ i.bytes = ty.bytes ∧ i.zero = some z ∧ z.cells.toList.map const1 = ty.zero := by
  have h1 := h.info
  cases hi : P.info? t with
  | none => simp [hi] at h1
  | some i =>
    simp only [hi, Option.map_some, Option.some.injEq, Prod.mk.injEq] at h1
    obtain ⟨a1, a2, a3⟩ := h1
    cases hz : i.zero with
    | none => simp [hz] at a3
    | some z => exact ⟨i, z, rfl, a1, a2, hz, by simpa [hz] using a3⟩
theorem TyFact.desc (h : TyFact P t ty) : ∃ d, P.underlying t = some d ∧ dcode d = ty.d := by
  have h1 := h.und
  cases hi : P.underlying t with
  | none => simp [hi] at h1
  | some d => exact ⟨d, rfl, by simpa [hi] using h1⟩
theorem TyFact.slice {e : TypeId} (h : TyFact P t ty) (hd : ty.d = .slice e) : P.underlying t = some (.slice e) := by
  obtain ⟨d, h1, h2⟩ := h.desc
  rw [hd] at h2
  cases d <;> simp [dcode] at h2
  subst h2; exact h1
theorem TyFact.arr {n : Nat} {e : TypeId} (h : TyFact P t ty) (hd : ty.d = .arr n e) : P.underlying t = some (.array n e) := by
  obtain ⟨d, h1, h2⟩ := h.desc
  rw [hd] at h2
  cases d <;> simp [dcode] at h2
  obtain ⟨rfl, rfl⟩ := h2; exact h1
theorem TyFact.st {fs : List (Nat × TypeId)} (h : TyFact P t ty) (hd : ty.d = .st fs) : ∃ xs : Array Field, P.underlying t = some (.struct xs) ∧ xs.toList.map (fun f => (f.offset, f.type)) = fs := by
  obtain ⟨d, h1, h2⟩ := h.desc
  rw [hd] at h2
  cases d <;> simp [dcode] at h2
  exact ⟨_, h1, h2⟩
theorem TyFact.str (h : TyFact P t ty) (hd : ty.d = .str) : P.underlying t = some .string := by
  obtain ⟨d, h1, h2⟩ := h.desc
  rw [hd] at h2
  cases d <;> simp [dcode] at h2
  exact h1
theorem TyFact.bool (h : TyFact P t ty) (hd : ty.d = .bool) : P.underlying t = some .bool := by
  obtain ⟨d, h1, h2⟩ := h.desc
  rw [hd] at h2
  cases d <;> simp [dcode] at h2
  exact h1
theorem TyFact.int {k : IntKind} (h : TyFact P t ty) (hd : ty.d = .int k) : P.underlying t = some (.int k) := by
  obtain ⟨d, h1, h2⟩ := h.desc
  rw [hd] at h2
  cases d <;> simp [dcode] at h2
  subst h2; exact h1
theorem TyFact.map {k e : TypeId} (h : TyFact P t ty) (hd : ty.d = .map k e) : P.underlying t = some (.map k e) := by
  obtain ⟨d, h1, h2⟩ := h.desc
  rw [hd] at h2
  cases d <;> simp [dcode] at h2
  obtain ⟨rfl, rfl⟩ := h2; exact h1
theorem TyFact.run_size (h : TyFact P t ty) (w : World) : (sizeOf t).run P w = .ok ty.size w := by
  obtain ⟨i, z, h1, h2, _⟩ := h.get
  simp [sizeOf, typeInfo, h1, h2]
theorem TyFact.run_isAgg (h : TyFact P t ty) (w : World) : (isAgg t).run P w = .ok ty.d.isAgg w := by
  obtain ⟨d, h1, h2⟩ := h.desc
  rw [← h2]
  simp only [isAgg, Sem.run_bind, run_underlying h1, Result.andThen_ok]
  cases d <;> simp [dcode, TyD.isAgg]
theorem TyFact.run_zero (h : TyFact P t ty) (w : World) : ∃ z, (zeroValue t).run P w = .ok z w ∧ z.cells.toList.map const1 = ty.zero := by
  obtain ⟨i, z, h1, h2, h3, h4, h5⟩ := h.get
  exact ⟨z, by simp [zeroValue, typeInfo, h1, h4], h5⟩
theorem TyFact.run_zero1 (h : TyFact P t ty) (w : World) (hd : ty.d.isAgg = false) {z : AV} (hz : ty.zero = [z]) : ∃ v, (zeroValue t).run P w = .ok v w ∧ z = .v v := by
  obtain ⟨i, v, h1, _, _, h4, h5⟩ := h.get
  have ho := h.one
  rw [hd] at ho
  simp only [h1, h4, Option.map_some, Option.some.injEq] at ho
  refine ⟨v, by simp [zeroValue, typeInfo, h1, h4], ?_⟩
  rw [hz] at h5
  cases v <;> simp [aggV, Value.cells, const1] at ho h5 <;> exact h5.symm
end facts
theorem repL_const1 (σ : Sg) (w : World) (cs : List Value) : RepL σ w (cs.map const1) (fun i => cs[i]?) := by
  rw [repL_iff]
  intro i hi
  simp only [List.length_map] at hi
  exact ⟨cs[i], by simp, by simp only [List.getElem_map]; exact rep_const1 σ w _⟩
theorem RepL.list {σ : Sg} {w : World} {cs : List AV} {f : Nat → Option Value} (h : RepL σ w cs f) :
    ∃ vs : List Value, vs.length = cs.length ∧ (∀ i, i < vs.length → f i = vs[i]?) ∧ RepL σ w cs (fun i => vs[i]?) := by
  induction cs generalizing f with
  | nil => exact ⟨[], rfl, by simp, by simp [RepL]⟩
  | cons c cs ih =>
    simp only [RepL] at h
    obtain ⟨⟨u, hu, hr⟩, ht⟩ := h
    obtain ⟨vs, h1, h2, h3⟩ := ih ht
    refine ⟨u :: vs, by simp [h1], fun i hi => ?_, ?_⟩
    · cases i with
      | zero => simpa using hu
      | succ i => simpa using h2 i (by simpa using hi)
    · simp only [RepL]
      exact ⟨⟨u, by simp, hr⟩, by simpa using h3⟩
theorem RepL.drop {σ : Sg} {w : World} {cs : List AV} {f : Nat → Option Value} (h : RepL σ w cs f) (j : Nat) : RepL σ w (cs.drop j) (fun i => f (j + i)) := by
  rw [repL_iff] at h ⊢
  intro i hi
  simp only [List.length_drop] at hi
  obtain ⟨u, hu, hr⟩ := h (j + i) (by omega)
  exact ⟨u, hu, by simpa using hr⟩
theorem RepL.take {σ : Sg} {w : World} {cs : List AV} {f : Nat → Option Value} (h : RepL σ w cs f) (n : Nat) : RepL σ w (cs.take n) f := by
  rw [repL_iff] at h ⊢
  intro i hi
  simp only [List.length_take] at hi
  obtain ⟨u, hu, hr⟩ := h i (by omega)
  exact ⟨u, hu, by simpa using hr⟩
def cellsA : AV → Option (List AV)
  | .agg cs => some cs
  | .junk => none
  | .tup _ => none
  | .v x => if x.oneCell' then some [.v x] else none
  | x => some [x]
theorem cellsA_spec {σ : Sg} {w : World} {c : AV} {cs : List AV} {u : Value} (h : cellsA c = some cs) (hr : Rep σ w c u) :
    u.cells.size = cs.length ∧ (∀ c ∈ cs, c.cell = true) ∧ RepL σ w cs (fun i => u.cells[i]?) ∧ (∀ x ∈ u.cells.toList, x.oneCell' = true) := by
  have one : ∀ (d : AV), d.cell = true → Rep σ w d u → u.cells = #[u] ∧ u.oneCell' = true := by
    intro d hd hu
    have := rep_oneCell hu hd
    exact ⟨by cases u <;> simp_all [Value.cells, Value.oneCell'], this⟩
  have fin : ∀ (d : AV), d.cell = true → Rep σ w d u → u.cells.size = [d].length ∧ (∀ c ∈ [d], c.cell = true) ∧ RepL σ w [d] (fun i => u.cells[i]?) ∧ (∀ x ∈ u.cells.toList, x.oneCell' = true) := by
    intro d hd hu
    obtain ⟨e, e'⟩ := one d hd hu
    rw [e]
    exact ⟨rfl, by simpa using hd, by simp [RepL, hu], by simpa using e'⟩
  cases c with
  | junk => simp [cellsA] at h
  | tup vs => simp [cellsA] at h
  | v x =>
    simp only [cellsA] at h
    split at h
    · rename_i hx; injection h with h; subst h; exact fin _ hx hr
    · cases h
  | agg xs =>
    simp only [cellsA, Option.some.injEq] at h; subst h
    simp only [Rep] at hr
    obtain ⟨arr, rfl, h1, h2, h3⟩ := hr
    refine ⟨by simpa [Value.cells] using h1, h2, by simpa [Value.cells] using h3, ?_⟩
    intro x hx
    simp only [Value.cells] at hx
    obtain ⟨i, hi, rfl⟩ := List.getElem_of_mem hx
    rw [repL_iff] at h3
    simp only [Array.length_toList] at hi
    obtain ⟨u, hu, hr⟩ := h3 i (by omega)
    simp only [Array.getElem?_eq_getElem hi, Option.some.injEq] at hu
    subst hu
    simp only [Array.getElem_toList]
    exact rep_oneCell hr (h2 _ (List.getElem_mem _))
  | lst es => simp only [cellsA, Option.some.injEq] at h; subst h; exact fin _ rfl hr
  | iptr e j => simp only [cellsA, Option.some.injEq] at h; subst h; exact fin _ rfl hr
  | ref a b c => simp only [cellsA, Option.some.injEq] at h; subst h; exact fin _ rfl hr
  | ptr a b c d => simp only [cellsA, Option.some.injEq] at h; subst h; exact fin _ rfl hr
  | clo f cs => simp only [cellsA, Option.some.injEq] at h; subst h; exact fin _ rfl hr
  | bnd f cs => simp only [cellsA, Option.some.injEq] at h; subst h; exact fin _ rfl hr
  | map i => simp only [cellsA, Option.some.injEq] at h; subst h; exact fin _ rfl hr
  | lmap a b c => simp only [cellsA, Option.some.injEq] at h; subst h; exact fin _ rfl hr
end Go.Pg
