/-
  Contracts of functions, proved by going through their code. No conditions.
-/
import Derived.Laws.MakeOwn
import Derived.Laws.Strings
import Derived.Test.YtmcchoalekmklaaGreatZaa
set_option linter.unusedVariables false
set_option linter.unusedSimpArgs false
namespace Go.Pg
open Go Go.RowKit
def rowAt (H : Nat → Option AO) (id : Nat) : Option Row :=
  match H id with
  | some (.row r) => some r
  | _ => none
def rdPtr (H : Nat → Option AO) : AV → Option (List AV × Nat)
  | .iptr e j => some (e, j)
  | .ptr id i j tag => match rowAt H id with
    | some r => if r.lo ≤ tag then (r.es[i]?).map (·, j) else none
    | none => none
  | _ => none
def offA : AV → Nat → Option AV
  | .iptr e j, d => some (.iptr e (j + d))
  | .ptr id i j tag, d => some (.ptr id i (j + d) tag)
  | _, _ => none
def partA (y : Ty) (cs : List AV) (off : Nat) : Option AV :=
  if y.d.isAgg then (if off + y.size ≤ cs.length then some (.agg ((cs.drop off).take y.size)) else none) else cs[off]?
def loadA (T : TypeId → Option Ty) (H : Nat → Option AO) (t : TypeId) (p : AV) : Option AV :=
  match T t, rdPtr H p with
  | some y, some (e, j) => partA y e j
  | _, _ => none
def fieldAddrA (T : TypeId → Option Ty) (s : TypeId) (p : AV) (f : Nat) : Option AV :=
  match T s with
  | some { d := .st fs, .. } => match fs[f]? with
    | some (off, ft) => match T ft with
      | some y => if y.size = 0 then none else offA p off
      | none => none
    | none => none
  | _ => none
def fieldA (T : TypeId → Option Ty) (s : TypeId) (x : AV) (f : Nat) : Option AV :=
  match T s, x with
  | some { d := .st fs, .. }, .agg cs => match fs[f]? with
    | some (off, ft) => match T ft with
      | some y => partA y cs off
      | none => none
    | none => none
  | _, _ => none
def indexAddrA (T : TypeId → Option Ty) (H : Nat → Option AO) (t : TypeId) (x ix : AV) : Option AV :=
  match T t, ix with
  | some { d := .slice e, .. }, .v (.int _ i) => match T e with
    | some y => match x with
      | .lst es => if 0 ≤ i ∧ i < es.length then (if (es.getD i.toNat []).length = y.size then some (.iptr (es.getD i.toNat []) 0) else none) else none
      | .ref id off n => if 0 ≤ i ∧ i < n then (match rowAt H id with | some r => if r.k = y.size then some (.ptr id (off + i.toNat) 0 (off + n)) else none | none => none) else none
      | _ => none
    | none => none
  | some { d := .arr n e, .. }, .v (.int _ i) => match T e with
    | some y => if 0 ≤ i ∧ i < n then offA x (i.toNat * y.size) else none
    | none => none
  | _, _ => none
def indexA (T : TypeId → Option Ty) (t : TypeId) (x ix : AV) : Option AV :=
  match T t, x, ix with
  | some { d := .arr n e, .. }, .agg cs, .v (.int _ i) => match T e with
    | some y => if 0 ≤ i ∧ i < n then partA y cs (i.toNat * y.size) else none
    | none => none
  | some { d := .str, .. }, .v (.string s), .v (.int _ i) => if 0 ≤ i ∧ i < s.size then some (.v (.int .u8 ((s.data.toList.getD i.toNat 0).toNat : Int))) else none
  | _, _, _ => none
def extractA : AV → Nat → Option AV
  | .tup vs, i => vs[i]?
  | _, _ => none
def lenA (T : TypeId → Option Ty) (t : TypeId) (x : AV) : Option AV :=
  match T t, x with
  | some { d := .slice _, .. }, .lst es => some (.v (.int .i64 es.length))
  | some { d := .slice _, .. }, .ref _ _ n => some (.v (.int .i64 n))
  | some { d := .slice _, .. }, .v (.slice none 0 0) => some (.v (.int .i64 0))
  | some { d := .str, .. }, .v (.string s) => some (.v (.int .i64 s.size))
  | some { d := .arr n _, .. }, _ => some (.v (.int .i64 n))
  | _, _ => none
def intBinA (op : BinOp) (k : IntKind) (a b : Int) : Option AV :=
  match op with
  | .add => some (.v (.int k (k.wrap (a + b))))
  | .sub => some (.v (.int k (k.wrap (a - b))))
  | .mul => some (.v (.int k (k.wrap (a * b))))
  | .quo => if b = 0 then none else some (.v (.int k (k.wrap (a.tdiv b))))
  | .rem => if b = 0 then none else some (.v (.int k (a.tmod b)))
  | .eql => some (.v (.bool (a == b)))
  | .neq => some (.v (.bool (a != b)))
  | .lss => some (.v (.bool (decide (a < b))))
  | .leq => some (.v (.bool (decide (a ≤ b))))
  | .gtr => some (.v (.bool (decide (b < a))))
  | .geq => some (.v (.bool (decide (b ≤ a))))
  | .and => some (.v (.int k (k.wrap ((BitVec.ofInt k.bits a &&& BitVec.ofInt k.bits b).toNat))))
  | .or => some (.v (.int k (k.wrap ((BitVec.ofInt k.bits a ||| BitVec.ofInt k.bits b).toNat))))
  | .xor => some (.v (.int k (k.wrap ((BitVec.ofInt k.bits a ^^^ BitVec.ofInt k.bits b).toNat))))
  | .andNot => some (.v (.int k (k.wrap ((BitVec.ofInt k.bits a &&& ~~~ BitVec.ofInt k.bits b).toNat))))
  | .shl | .shr => none
def strBinA (op : BinOp) (a b : ByteArray) : Option AV :=
  match op with
  | .add => if a.size + b.size ≤ maxLen then some (.v (.string (a ++ b))) else none
  | .eql => some (.v (.bool (a.data.toList == b.data.toList)))
  | .neq => some (.v (.bool !(a.data.toList == b.data.toList)))
  | _ => none
def cellsEqA (T : TypeId → Option Ty) : List (Nat × TypeId) → List AV → List AV → Option Bool
  | [], _, _ => some true
  | (off, ft) :: fs, xs, ys =>
    match T ft, xs[off]?, ys[off]? with
    | some { d := .int _, .. }, some (.v (.int k a)), some (.v (.int k' b)) => if k = k' then (cellsEqA T fs xs ys).map (fun r => (a == b) && r) else none
    | some { d := .str, .. }, some (.v (.string a)), some (.v (.string b)) => (cellsEqA T fs xs ys).map (fun r => (a.data.toList == b.data.toList) && r)
    | some { d := .bool, .. }, some (.v (.bool a)), some (.v (.bool b)) => (cellsEqA T fs xs ys).map (fun r => (a == b) && r)
    | _, _, _ => none
def binA (T : TypeId → Option Ty) (eqT : TypeId → Bool) (op : BinOp) (t : TypeId) (x y : AV) : Option AV :=
  match x, y with
  | .v (.int k a), .v (.int k' b) =>
    match op with
    | .shl => if b < 0 then none else some (.v (.int k (k.wrap (a * 2 ^ (min b.toNat k.bits)))))
    | .shr => if b < 0 then none else some (.v (.int k (a.fdiv (2 ^ (min b.toNat k.bits)))))
    | _ => if k = k' then intBinA op k a b else none
  | .v (.string a), .v (.string b) => strBinA op a b
  | .v (.bool a), .v (.bool b) => match T t, op with
    | some { d := .bool, .. }, .eql => some (.v (.bool (a == b)))
    | some { d := .bool, .. }, .neq => some (.v (.bool !(a == b)))
    | _, _ => none
  | .agg xs, .agg ys => match T t with
    | some { d := .st fs, .. } => if eqT t then (match op with
        | .eql => (cellsEqA T fs xs ys).map fun r => .v (.bool r)
        | .neq => (cellsEqA T fs xs ys).map fun r => .v (.bool !r)
        | _ => none) else none
    | _ => none
  | _, _ => none
def unA (op : UnOp) (x : AV) : Option AV :=
  match op, x with
  | .not, .v (.bool b) => some (.v (.bool !b))
  | .neg, .v (.int k n) => some (.v (.int k (k.wrap (0 - n))))
  | _, _ => none
def convA (T : TypeId → Option Ty) (src dst : TypeId) (x : AV) : Option AV :=
  match T src, T dst, x with
  | some _, some { d := .int k, .. }, .v (.int _ n) => some (.v (.int k (k.wrap n)))
  | some _, some { d := .str, .. }, .v (.string s) => some (.v (.string s))
  | _, _, _ => none
def boundA (x : Option AV) (dflt : Nat) : Option Nat :=
  match x with
  | none => some dflt
  | some (.v (.int _ i)) => if 0 ≤ i then some i.toNat else none
  | _ => none
def sliceA (T : TypeId → Option Ty) (H : Nat → Option AO) (t : TypeId) (x : AV) (lo hi : Option AV) : Option AV :=
  match T t, x with
  | some { d := .str, .. }, .v (.string s) => match boundA lo 0, boundA hi s.size with
    | some l, some h => if l ≤ h ∧ h ≤ s.size then some (.v (.string (s.extract l h))) else none
    | _, _ => none
  | some { d := .slice e, .. }, .lst es => match T e, boundA lo 0, boundA hi es.length with
    | some y, some l, some h => if l ≤ h ∧ h ≤ es.length ∧ (∀ e ∈ es, e.length = y.size) then some (.lst ((es.take h).drop l)) else none
    | _, _, _ => none
  | some { d := .slice e, .. }, .ref id off n => match T e, rowAt H id, boundA lo 0, boundA hi n with
    | some y, some r, some l, some h => if l ≤ h ∧ h ≤ n ∧ r.k = y.size then some (.ref id (off + l) (h - l)) else none
    | _, _, _, _ => none
  | _, _ => none
def findM (k : Key) : List (Key × AV) → Option AV
  | [] => none
  | e :: es => if k.same e.1 then some e.2 else findM k es
def putM (k : Key) (x : AV) : List (Key × AV) → List (Key × AV)
  | [] => [(k, x)]
  | e :: es => if k.same e.1 then (k, x) :: es else e :: putM k x es
def keyA (T : TypeId → Option Ty) (eqT : TypeId → Bool) (kt : TypeId) (k : AV) : Option Key :=
  match T kt, k with
  | some { d := .str, .. }, .v (.string s) => some (.str s)
  | some { d := .int .i64, .. }, .v (.int .i64 n) => some (.int n)
  | some { d := .st [(0, t1), (1, t2)], .. }, .agg [.v (.int .i64 a), .v (.int .i64 b)] => match T t1, T t2 with
    | some { d := .int .i64, .. }, some { d := .int .i64, .. } => if eqT kt then some (.pair a b) else none
    | _, _ => none
  | _, _ => none
def shA (T : TypeId → Option Ty) (kt : TypeId) : Option KSh :=
  match T kt with
  | some { d := .str, .. } => some .str
  | some { d := .int .i64, .. } => some .int
  | some { d := .st [(0, _), (1, _)], .. } => some .pair
  | _ => none
def pickM (z : AV) (ok : Bool) : Option AV → AV
  | some x => if ok then .tup [x, .v (.bool true)] else x
  | none => if ok then .tup [z, .v (.bool false)] else z
def lookupA (T : TypeId → Option Ty) (eqT : TypeId → Bool) (H : Nat → Option AO) (t : TypeId) (m k : AV) (ok : Bool) : Option AV :=
  match T t, m with
  | some { d := .map kt et, .. }, .map id => match keyA T eqT kt k, T et, H id with
    | some key, some { zero := [z], d := d, .. }, some (.mp (.map sh) _ es) => if d.isAgg ∨ key.sh ≠ sh then none else
        some (pickM z ok (findM key es))
    | _, _, _ => none
  | some { d := .map kt et, .. }, .lmap sh ks vs => match keyA T eqT kt k, T et with
    | some key, some { zero := [z], d := d, .. } => if d.isAgg ∨ key.sh ≠ sh then none else
        some (pickM z ok (findM key (ks.zip vs)))
    | _, _ => none
  | _, _ => none
def minA (op : Builtin) : List AV → Option AV
  | [.v (.int k a), .v (.int k' b)] => if k = k' then (match op with
      | .min => some (.v (.int k (if b < a then b else a)))
      | .max => some (.v (.int k (if b > a then b else a)))
      | _ => none) else none
  | _ => none
section
variable {P : Program} {T : TypeId → Option Ty} {B0 : Nat} {S0 : Fr} {w : World} {H : Nat → Option AO} {σ : Sg}
theorem rowAt_eq {id : Nat} {r : Row} (h : rowAt H id = some r) : H id = some (.row r) := by
  unfold rowAt at h
  split at h
  · rename_i r' h'; rw [h']; injection h with h; rw [h]
  · cases h
theorem rdPtr_sound (hi : Inv B0 S0 w H σ) {p : AV} {u : Value} {e : List AV} {j : Nat} (hr : Rep σ w p u) (h : rdPtr H p = some (e, j)) :
    ∃ b o, u = .pointer (some ⟨b, o + j, none⟩) ∧ RepL σ w e (fun m => w.cell? ⟨b, o + m, none⟩) ∧ ∀ c ∈ e, c.cell = true := by
  cases p <;> simp only [rdPtr] at h <;> try contradiction
  · simp only [Option.some.injEq, Prod.mk.injEq] at h
    obtain ⟨rfl, rfl⟩ := h
    simp only [Rep] at hr
    obtain ⟨b, o, rfl, hS, hc, hl⟩ := hr
    exact ⟨b, o, rfl, RepL.mono (Le.of_pure σ w) _ _ _ (fun _ _ h => h) hl, hc⟩
  · rename_i id i j' tag
    split at h
    · rename_i r hrow
      split at h
      · rename_i hlo
        simp only [Option.map_eq_some_iff, Prod.mk.injEq] at h
        obtain ⟨e', he, rfl, rfl⟩ := h
        simp only [Rep] at hr
        obtain ⟨b, rfl, hown, h1, h2⟩ := hr
        have hR := hi.row id r (rowAt_eq hrow)
        obtain ⟨hlt, rfl⟩ := List.getElem?_eq_some_iff.1 he
        have hc : σ.cur id = some b := by
          rcases (hR.own b hown).1 with h | h
          · exact h
          · omega
        refine ⟨b, i * r.k, by rw [hR.k], hR.con b hc i hlt, (hR.each _ (List.getElem_mem _)).2⟩
      · cases h
    · cases h
theorem partA_sound (hT : TyOK P T) {t : TypeId} {y : Ty} (ht : T t = some y) {cs : List AV} {arr : Array Value} {off : Nat} {r : AV}
    (hs : arr.size = cs.length) (hc : ∀ c ∈ cs, c.cell = true) (hl : RepL σ w cs (fun i => arr[i]?)) (h : partA y cs off = some r) :
    ∃ v, (part t arr off).run P w = .ok v w ∧ Rep σ w r v := by
  have hf := hT t y ht
  unfold partA at h
  simp only [part, Sem.run_bind, hf.run_isAgg, Result.andThen_ok]
  by_cases hag : y.d.isAgg = true
  · simp only [hag, if_true, hf.run_size, Sem.run_bind, Result.andThen_ok, Sem.run_pure] at h ⊢
    split at h
    · rename_i hle
      injection h with h; subst h
      refine ⟨_, rfl, ?_⟩
      simp only [Rep]
      refine ⟨_, rfl, by simp; omega, fun c hc' => hc c (List.mem_of_mem_drop (List.mem_of_mem_take hc')), ?_⟩
      refine RepL.congr (fun i hi => ?_) (RepL.take (RepL.drop hl off) y.size)
      simp only [List.length_take, List.length_drop] at hi
      simp only [Array.getElem?_extract]
      rw [if_pos (by omega)]
    · cases h
  · simp only [hag, Bool.false_eq_true, if_false] at h ⊢
    obtain ⟨hlt, rfl⟩ := List.getElem?_eq_some_iff.1 h
    rw [repL_iff] at hl
    obtain ⟨u, hu, hr⟩ := hl off hlt
    exact ⟨u, by simp [hu], hr⟩
theorem loadA_sound (hT : TyOK P T) (hi : Inv B0 S0 w H σ) {t : TypeId} {p : AV} {u : Value} {r : AV} (hr : Rep σ w p u) (h : loadA T H t p = some r) :
    ∃ v, (Instr.loadAt t u).run P w = .ok v w ∧ Rep σ w r v := by
  unfold loadA at h
  split at h
  · rename_i y e j hy hp
    obtain ⟨b, o, rfl, hl, hc⟩ := rdPtr_sound hi hr hp
    have hf := hT t y hy
    unfold partA at h
    simp only [Instr.loadAt, Instr.sureAddr, Sem.run_bind, Sem.run_pure, Result.andThen_ok, loadVar, hf.run_isAgg, Sem.run_ite, hf.run_size]
    by_cases hag : y.d.isAgg = true
    · simp only [hag, if_true] at h ⊢
      split at h
      · rename_i hle
        injection h with h; subst h
        have hl' := RepL.take (RepL.drop hl j) y.size
        obtain ⟨vs, h1, h2, h3⟩ := hl'.list
        have hlen : vs.length = y.size := by rw [h1]; simp; omega
        have hload := run_loadCells_list (P := P) w ⟨b, o + j, none⟩ vs (fun i v hv => by
          rw [Addr.add_lit, ← hv, ← h2 i (List.getElem?_eq_some_iff.1 hv).1, Nat.add_assoc])
        rw [hlen] at hload
        rw [hload]
        refine ⟨_, rfl, ?_⟩
        simp only [Rep]
        exact ⟨_, rfl, by simp only [List.size_toArray]; exact h1, fun c hc' => hc c (List.mem_of_mem_drop (List.mem_of_mem_take hc')), by simpa using h3⟩
      · cases h
    · simp only [hag, Bool.false_eq_true, if_false] at h ⊢
      obtain ⟨hlt, rfl⟩ := List.getElem?_eq_some_iff.1 h
      rw [repL_iff] at hl
      obtain ⟨v, hv, hr⟩ := hl j hlt
      refine ⟨v, ?_, hr⟩
      simp [hv]
  · cases h
theorem offA_sound {p r : AV} {u : Value} {d : Nat} (hr : Rep σ w p u) (h : offA p d = some r) : ∃ a : Addr, u = .pointer (some a) ∧ Rep σ w r (.pointer (some (a.add d))) := by
  cases p <;> simp only [offA] at h <;> try contradiction
  all_goals (injection h with h; subst h; simp only [Rep] at hr ⊢)
  · obtain ⟨b, o, rfl, rest⟩ := hr
    exact ⟨_, rfl, b, o, by rw [Addr.add_lit, Nat.add_assoc], rest⟩
  · obtain ⟨b, rfl, rest⟩ := hr
    exact ⟨_, rfl, b, by rw [Addr.add_lit, Nat.add_assoc], rest⟩
theorem fieldAddrA_sound (hT : TyOK P T) {s : TypeId} {p r : AV} {u : Value} {f : Nat} (hr : Rep σ w p u) (h : fieldAddrA T s p f = some r) :
    ∃ v, (Instr.fieldAt s u f).run P w = .ok v w ∧ Rep σ w r v := by
  unfold fieldAddrA at h
  split at h
  · rename_i sz by_ z fs hs
    split at h
    · rename_i off ft hf
      split at h
      · rename_i y hy
        split at h
        · cases h
        · rename_i hne
          obtain ⟨a, rfl, hr'⟩ := offA_sound hr h
          obtain ⟨xs, hx, hm⟩ := (hT s _ hs).st rfl
          subst hm
          simp only [List.getElem?_map, Option.map_eq_some_iff] at hf
          obtain ⟨g, hg, he⟩ := hf
          simp only [Prod.mk.injEq] at he
          obtain ⟨rfl, rfl⟩ := he
          rw [Array.getElem?_toList] at hg
          refine ⟨.pointer (some (a.add g.offset)), ?_, hr'⟩
          simp [Instr.fieldAt, run_underlying hx, hg, Instr.sureAddr, fieldPlace, (hT _ y hy).run_size, hne]
      · cases h
    · cases h
  · cases h
theorem fieldA_sound (hT : TyOK P T) {s : TypeId} {x r : AV} {u : Value} {f : Nat} (hr : Rep σ w x u) (h : fieldA T s x f = some r) :
    ∃ v, (Instr.field s u f).run P w = .ok v w ∧ Rep σ w r v := by
  unfold fieldA at h
  split at h
  · rename_i sz by_ z fs cs hs
    split at h
    · rename_i off ft hf
      split at h
      · rename_i y hy
        simp only [Rep] at hr
        obtain ⟨arr, rfl, h1, h2, h3⟩ := hr
        obtain ⟨xs, hx, hm⟩ := (hT s _ hs).st rfl
        subst hm
        simp only [List.getElem?_map, Option.map_eq_some_iff] at hf
        obtain ⟨g, hg, he⟩ := hf
        simp only [Prod.mk.injEq] at he
        obtain ⟨rfl, rfl⟩ := he
        rw [Array.getElem?_toList] at hg
        obtain ⟨v, hv, hrv⟩ := partA_sound hT hy h1 h2 h3 h
        refine ⟨v, ?_, hrv⟩
        simp [Instr.field, run_underlying hx, hg, asAgg, hv]
      · cases h
    · cases h
  · cases h
end
end Go.Pg
