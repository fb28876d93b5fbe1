/-
  Contracts of functions, proved by going through their code. No conditions.
-/
import Derived.Lib.ItoaLen
import Derived.Lib.Builder
import Derived.Lib.UnsafeStr
import Derived.WalkKit
import Derived.Lib.Walk
import Derived.BigCall
import Derived.BigFrame
import Derived.Shelf.RegionOpen
import Derived.Test.YtbeiiipphicdlaaGreatDoorTak
import Derived.Test.YtbeiiipphicdlaaGreatDoorTal
set_option linter.unusedVariables false
set_option linter.unusedSimpArgs false
set_option maxRecDepth 10000
namespace Go.Proofs.Hz
open Go Go.Pg Go.Proofs Go.RowKit
def itoaB (n : Int) : ByteArray := ⟨(Lib.itoa n).toArray⟩
def joinB (xs : List ByteArray) (sep : ByteArray) : ByteArray := ⟨(Lib.join (xs.map (·.data.toList)) sep.data.toList).toArray⟩
abbrev eStr (s : ByteArray) : List AV := [at_ s]
theorem vals1 {σ : Sg} {w : World} {a : AV} {vals : Array Value} (hs : vals.size = 1) (h : RepL σ w [a] (fun i => vals[i]?)) : ∃ u, vals = #[u] ∧ Rep σ w a u := by
  simp only [RepL] at h
  obtain ⟨⟨u, hu, hr⟩, _⟩ := h
  refine ⟨u, ?_, hr⟩
  apply Array.ext
  · simpa using hs
  · intro i h1 h2
    simp at h2
    subst h2
    rw [Array.getElem?_eq_getElem h1] at hu
    simpa using hu
theorem vals2 {σ : Sg} {w : World} {a b : AV} {vals : Array Value} (hs : vals.size = 2) (h : RepL σ w [a, b] (fun i => vals[i]?)) : ∃ u v, vals = #[u, v] ∧ Rep σ w a u ∧ Rep σ w b v := by
  simp only [RepL] at h
  obtain ⟨⟨u, hu, hr⟩, ⟨v, hv, hr2⟩, _⟩ := h
  refine ⟨u, v, ?_, hr, hr2⟩
  apply Array.ext
  · simpa using hs
  · intro i h1 h2
    simp at h2
    rcases (show i = 0 ∨ i = 1 by omega) with rfl | rfl
    · rw [Array.getElem?_eq_getElem h1] at hu
      simpa using hu
    · have : vals[1]? = some v := hv
      rw [Array.getElem?_eq_getElem h1] at this
      simpa using this
theorem below_growN (w : World) (k : Nat) (os : Array Obj) : Below w.heap.size w (Go.Sort.grow (w.drewN k) os) := by
  refine ⟨rfl, rfl, rfl, ?_, fun b hb => ?_⟩
  · simp [Go.Sort.grow, World.drewN]
  · simp [Go.Sort.grow, World.drewN, Array.getElem?_append_left hb]
theorem Itoa_ok (n : Int) (h0 : -9223372036854775808 ≤ n) (h1 : n ≤ 9223372036854775807) : OKv cx 23 [ai n] (at_ (itoaB n)) := by
  refine ⟨⟨_, Tryz.func23, by decide, by kernel_rfl⟩, fun w S vals hE hS hsz hrep => ?_⟩
  obtain ⟨u, rfl, hu⟩ := vals1 hsz hrep
  simp only [Rep] at hu
  subst hu
  refine (Tryz.strconv_Itoa n h0 h1 w hE.tabs).mono ?_
  rintro e w' ⟨rfl, k, os, rfl⟩
  exact ⟨below_growN w k os, _, _, rfl, rfl, rfl⟩
theorem itoaB_size (n : Int) (h0 : -9223372036854775808 ≤ n) (h1 : n ≤ 9223372036854775807) : (itoaB n).size ≤ 21 := by
  have := Lib.itoa_length_le n h0 h1
  unfold itoaB
  simpa [ByteArray.size] using this
theorem Join_ok (xs : List ByteArray) (sep : ByteArray) (hN : xs.length ≤ 140737488355328) (hlen : (joinB xs sep).size ≤ 140737488355328) : OKv cx 49 [.lst (xs.map eStr), at_ sep] (at_ (joinB xs sep)) := by
  refine ⟨⟨_, Tryz.func49, by decide, by kernel_rfl⟩, fun w S vals hE hS hsz hrep => ?_⟩
  obtain ⟨u, v, rfl, hu, hv⟩ := vals2 hsz hrep
  simp only [Rep] at hv
  subst hv
  simp only [Rep] at hu
  obtain ⟨A, cap, k, rfl, g1, g2, g3, g4⟩ := hu
  rw [List.length_map] at g1 ⊢
  cases xs with
  | nil =>
    refine (Tryz.strings_Join_none A cap sep w).mono ?_
    rintro e w' ⟨rfl, rfl⟩
    exact ⟨Below.refl _ _, _, _, rfl, rfl, rfl⟩
  | cons x0 xs =>
    obtain ⟨b, o, rfl, hb, hR⟩ := g4 (by simp)
    have hk : k = 1 := (g3 (eStr x0) (by simp)).1.symm
    subst hk
    rw [repLL_iff] at hR
    have hl : (Lib.join ((x0 :: xs).map (·.data.toList)) sep.data.toList).length ≤ 140737488355328 := by
      unfold joinB at hlen
      simpa [ByteArray.size] using hlen
    refine (Tryz.strings_Join b o cap (x0 :: xs) sep w (fun j x hx => ?_) (hS b hb) hN g1 hl).mono ?_
    · obtain ⟨hj, hxe⟩ := List.getElem?_eq_some_iff.1 hx
      have h1 := hR j (by rw [List.length_map]; exact hj)
      have he : ((x0 :: xs).map eStr)[j]'(by rw [List.length_map]; exact hj) = [at_ x] := by rw [List.getElem_map, hxe]
      rw [he] at h1
      simp only [RepL, Rep] at h1
      obtain ⟨⟨u, hu, hr⟩, _⟩ := h1
      subst hr
      simpa using hu
    · rintro e w' ⟨rfl, hb'⟩
      exact ⟨hb', _, _, rfl, rfl, rfl⟩
def bRow (id G : Nat) (l : ByteArray) : Row := { k := 2, es := [[.ptr id 0 0 1, .ref G 0 l.size]], ty := 60 }
def gRow (l : ByteArray) : Row := { k := 1, es := strE l, ty := 5, lo := l.size }
abbrev freshB : Row := { k := 2, es := [[.v (.pointer none), .v (.slice none 0 0)]], ty := 60 }
theorem lies60 (c : Nat) (hc : 1 ≤ c) : liesAt Tryz.prog Tryz.prog.depth 60 c 0 60 1 = true := by
  obtain ⟨d, hd⟩ : ∃ d, Tryz.prog.depth = d + 1 := ⟨Tryz.prog.depth - 1, by kernel_rfl⟩
  have h1 : Tryz.prog.cellsOf 60 = 2 := by kernel_rfl
  have h2 : sameLayout Tryz.prog Tryz.prog.depth 60 60 = true := by kernel_rfl
  have hr : rowAt Tryz.prog (sameLayout Tryz.prog Tryz.prog.depth · 60) Tryz.prog.depth 60 c 0 1 = true := by
    rw [show rowAt Tryz.prog (sameLayout Tryz.prog Tryz.prog.depth · 60) Tryz.prog.depth = rowAt Tryz.prog (sameLayout Tryz.prog Tryz.prog.depth · 60) (d + 1) by rw [hd]]
    unfold rowAt
    simp only [h1, h2]
    simp [hc]
  rw [show liesAt Tryz.prog Tryz.prog.depth = liesAt Tryz.prog (d + 1) by rw [hd]]
  unfold liesAt
  rw [hr, Bool.true_or]
section
variable {N : Nat} {Q : Exit → St → Prop} {s : St} {ops : Array Oper} {rest : List Oper} {d : Nat} {ty : TypeId} {ps : String} {af : Array Edge}
theorem P.eqNil {x : Operand} (hN : d < N) (hx : s.ev x = .v (.pointer none)) (k : AWL cx N ops Q rest (s.put d (ab true) none)) :
    AWL cx N ops Q (⟨some d, .binOp .eql 57 x (.const (.pointer none)) 57, ty, ps, af, none⟩ :: rest) s := by
  refine AWL.pureOp rfl rfl hN (r := ab true) (fun S0 w0 a w σ hσ => ?_) k
  have hv := hσ.ev x
  rw [hx] at hv
  simp only [Rep] at hv
  refine ⟨.bool true, ?_, rfl⟩
  have := run_eql_pointer_nil (P := Tryz.prog) (w := w) 57 none (by kernel_rfl)
  simp only [execOp, hv, Sem.run_bind]
  exact congrArg (fun z => Result.andThen z fun a w => (pure (Next.value a) : Sem Next).run Tryz.prog w) this
theorem P.eqNil' {x : Operand} {id i j tag : Nat} (hN : d < N) (hx : s.ev x = .ptr id i j tag) (k : AWL cx N ops Q rest (s.put d (ab false) none)) :
    AWL cx N ops Q (⟨some d, .binOp .eql 57 x (.const (.pointer none)) 57, ty, ps, af, none⟩ :: rest) s := by
  refine AWL.pureOp rfl rfl hN (r := ab false) (fun S0 w0 a w σ hσ => ?_) k
  have hv := hσ.ev x
  rw [hx] at hv
  simp only [Rep] at hv
  obtain ⟨b, hv, _⟩ := hv
  refine ⟨.bool false, ?_, rfl⟩
  have := run_eql_pointer_nil (P := Tryz.prog) (w := w) 57 (some ⟨b, i * σ.k id + j, none⟩) (by kernel_rfl)
  simp only [execOp, hv, Sem.run_bind]
  exact congrArg (fun z => Result.andThen z fun a w => (pure (Next.value a) : Sem Next).run Tryz.prog w) this
theorem ptr_block {B0 : Nat} {S0 : Fr} {w : World} {H : Nat → Option AO} {σ : Sg} (hi : Inv B0 S0 w H σ) {id i j tag : Nat} {r : Row} (hr : Pg.rowAt H id = some r) (hlo : r.lo ≤ tag) {u : Value} (h : Rep σ w (.ptr id i j tag) u) :
    ∃ b arr, u = .pointer (some ⟨b, i * r.k + j, none⟩) ∧ σ.cur id = some b ∧ w.heap[b]? = some (.cells arr r.ty (0, 0)) ∧ arr.size = σ.cap b * r.k ∧ i < r.es.length ∧ r.es.length ≤ σ.cap b := by
  have hR := hi.row id r (rowAt_eq hr)
  simp only [Rep] at h
  obtain ⟨b, rfl, hown, h1, h2⟩ := h
  have hc : σ.cur id = some b := by
    rcases (hR.own b hown).1 with h | h
    · exact h
    · omega
  obtain ⟨a1, a2, a3, a4, arr, a5, a6⟩ := hR.cur b hc
  exact ⟨b, arr, by rw [hR.k], hc, a5, a6, by omega, a3⟩
theorem P.neqSame {x y : Operand} {id i j tag tag' : Nat} {r : Row} (hN : d < N) (hx : s.ev x = .ptr id i j tag) (hy : s.ev y = .ptr id i j tag') (hr : Pg.rowAt s.H id = some r) (h1 : r.lo ≤ tag) (h2 : r.lo ≤ tag')
    (k : AWL cx N ops Q rest (s.put d (ab false) none)) : AWL cx N ops Q (⟨some d, .binOp .neq 57 x y 57, ty, ps, af, none⟩ :: rest) s := by
  refine AWL.pureOp rfl rfl hN (r := ab false) (fun S0 w0 a w σ hσ => ?_) k
  have hv := hσ.ev x
  rw [hx] at hv
  have hv2 := hσ.ev y
  rw [hy] at hv2
  obtain ⟨b, arr, e1, c1, _⟩ := ptr_block hσ.inv hr h1 hv
  obtain ⟨b', arr', e1', c1', _⟩ := ptr_block hσ.inv hr h2 hv2
  rw [c1] at c1'; injection c1' with c1'; subst c1'
  obtain ⟨jj, hj, _⟩ := Option.map_eq_some_iff.1 (show (Tryz.prog.info? 60).map (·.size) = some 2 by kernel_rfl)
  refine ⟨.bool false, ?_, rfl⟩
  have := Lib.run_neq_ptr_same (P := Tryz.prog) w (tp := 57) (te := 60) ⟨b, i * r.k + j, none⟩ Tryz.underlying57 hj
  simp only [execOp, e1, e1', Sem.run_bind]
  exact congrArg (fun z => Result.andThen z fun a w => (pure (Next.value a) : Sem Next).run Tryz.prog w) this
theorem P.toUnsafe {x : Operand} {id tag : Nat} {r : Row} (hN : d < N) (hx : s.ev x = .ptr id 0 0 tag) (hr : Pg.rowAt s.H id = some r) (h1 : r.lo ≤ tag) (hk : r.k = 2) (ht : r.ty = 60)
    (k : AWL cx N ops Q rest (s.put d (.ptr id 0 0 tag) none)) : AWL cx N ops Q (⟨some d, .convert 57 125 x, ty, ps, af, none⟩ :: rest) s := by
  refine AWL.pureOp rfl rfl hN (r := .ptr id 0 0 tag) (fun S0 w0 a w σ hσ => ?_) k
  have hv := hσ.ev x
  rw [hx] at hv
  obtain ⟨b, arr, e1, c1, e2, e3, e4, e5⟩ := ptr_block hσ.inv hr h1 hv
  obtain ⟨jj, hj, hjs⟩ := Option.map_eq_some_iff.1 (show (Tryz.prog.info? 60).map (·.size) = some 2 by kernel_rfl)
  refine ⟨a.eval x, ?_, hv⟩
  have hsh : w.shape? b = some (60, arr.size) := by simp [World.shape?, e2, ht]
  have := Lib.run_to_unsafe (P := Tryz.prog) w (src := 57) (dst := 125) ⟨b, 0 * r.k + 0, none⟩ Tryz.underlying57 Tryz.underlying125 hj (by rw [hjs]; decide) hsh (by rw [e3, hk]; simp; omega)
  simp only [execOp, e1, Sem.run_bind]
  exact congrArg (fun z => Result.andThen z fun a w => (pure (Next.value a) : Sem Next).run Tryz.prog w) this
theorem P.fromUnsafe {x : Operand} {id tag : Nat} {r : Row} (hN : d < N) (hx : s.ev x = .ptr id 0 0 tag) (hr : Pg.rowAt s.H id = some r) (h1 : r.lo ≤ tag) (hk : r.k = 2) (ht : r.ty = 60)
    (k : AWL cx N ops Q rest (s.put d (.ptr id 0 0 tag) none)) : AWL cx N ops Q (⟨some d, .convert 125 57 x, ty, ps, af, none⟩ :: rest) s := by
  refine AWL.pureOp rfl rfl hN (r := .ptr id 0 0 tag) (fun S0 w0 a w σ hσ => ?_) k
  have hv := hσ.ev x
  rw [hx] at hv
  obtain ⟨b, arr, e1, c1, e2, e3, e4, e5⟩ := ptr_block hσ.inv hr h1 hv
  obtain ⟨jj, hj, hjs⟩ := Option.map_eq_some_iff.1 (show (Tryz.prog.info? 60).map (·.size) = some 2 by kernel_rfl)
  refine ⟨a.eval x, ?_, hv⟩
  have hsh : w.shape? b = some (60, arr.size) := by simp [World.shape?, e2, ht]
  have hc2 : Tryz.prog.cellsOf 60 = 2 := by kernel_rfl
  have := Lib.run_from_unsafe (P := Tryz.prog) w (src := 125) (dst := 57) (u := 60) ⟨b, 0, none⟩ Tryz.underlying125 Tryz.underlying57 hj hsh (by
    rw [hc2, e3, hk, Nat.mul_div_cancel _ (by decide)]
    exact lies60 _ (by omega))
  have hz : (0 * r.k + 0 : Nat) = 0 := by omega
  rw [hz] at e1
  simp only [execOp, e1, Sem.run_bind]
  exact congrArg (fun z => Result.andThen z fun a w => (pure (Next.value a) : Sem Next).run Tryz.prog w) this
theorem P.noEscape {x : Operand} {r : AV} {tys : Array TypeId} (hN : d < N) (hx : s.ev x = r) (k : AWL cx N ops Q rest (s.put d r none)) :
    AWL cx N ops Q (⟨some d, .call { callee := .value (.func 71), args := #[x], argTypes := tys }, ty, ps, af, none⟩ :: rest) s := by
  refine AWL.pureOp rfl rfl hN (r := r) (fun S0 w0 a w σ hσ => ⟨a.eval x, ?_, hx ▸ hσ.ev x⟩) k
  have hrun : (callFunc 71 #[a.eval x]).run Tryz.prog w = .ok (.value (a.eval x)) w := by
    rw [run_callFunc_extern Tryz.func71 (by kernel_rfl) (by kernel_rfl) (by kernel_rfl) (e := Extern.AbiNoEscape.same) (by kernel_rfl)]
    rw [Lib.run_noEscape]
    rfl
  have he : a.eval (.func 71) = .func (.func 71) #[] #[] := rfl
  simp only [execOp, resolve, he, Deferred.ofValue, Sem.run_bind, Sem.run_pure, Result.andThen_ok, invoke]
  simp only [List.map_toArray, List.map_cons, List.map_nil, Array.empty_append, Array.append_empty]
  exact hrun
end
end Go.Proofs.Hz

set_option maxHeartbeats 8000000
namespace Go.Proofs.Hz
open Go Go.Pg Go.Proofs
theorem cI : constA .nilIface = .v .nilIface := rfl
theorem cP : constA (.pointer none) = .v (.pointer none) := rfl
theorem byteZero : ∀ i, cx.P.info? 5 = some i → i.zero = some (.int .u8 0) := by
  intro i hi
  have h : (Tryz.prog.info? 5).map (·.zero) = some (some (.int .u8 0)) := by kernel_rfl
  have hi' : Tryz.prog.info? 5 = some i := hi
  rw [hi'] at h
  simpa using h
theorem strE_app (a b : ByteArray) : strE a ++ strE b = strE (a ++ b) := by simp [strE]
theorem maxS (a : Nat) : max a (a + 1) = a + 1 := by omega
theorem bsz (a b : ByteArray) : a.size + b.size = (a ++ b).size := by simp
theorem cc_fresh {args : List AV} {H : Nat → Option AO} {nx id : Nat} (ha : args = [.ptr id 0 0 1]) (hr : Pg.rowAt H id = some freshB) :
    OKm cx 48 args H nx (fun r h n => r = .tup [] ∧ h = updH H id (.row { k := 2, es := [[.ptr id 0 0 1, .v (.slice none 0 0)]], ty := 60 }) ∧ n = nx) := by
  subst ha
  refine OKm.of_body cx_ok (rs := []) Tryz.func48 rfl (by decide +kernel) rfl (by simp [Tryz.ntmps48]) ?_
  simp only [Tryz.ntmps48]
  repeat' first
    | apply AW.seq | apply AW.region | apply AW.ret | apply AW.block | apply AW.skip | apply AW.exit | apply AW.scope | apply AW.label | apply AWL.nil
    | ((first | (apply W.step cx_ok; decide) | apply W.store cx_ok | apply AW.cond); (simp (disch := omega) only [push_cast, simprocAttr, hr] <;> rfl); all_goals try ((with_reducible intro hI); try first | (cases hI; done) | (simp only [INTS] at hI; try first | (exfalso; omega) | (have hT : True := hI; clear hT hI))))
    | ((first | apply W.retC | apply W.endC' | apply W.retM | apply W.endM' | apply W.ret1 | apply W.end1 | apply W.ret2 | apply W.end2 | apply W.ret3 | apply W.end3 | apply W.ret0 | apply W.end0); (iterate 2 (try (simp (disch := omega) only [push_cast, simprocAttr, hr] <;> rfl))))
    | ((apply P.eqNil; decide); (simp (disch := omega) only [push_cast, simprocAttr, hr] <;> rfl))
    | ((apply P.eqNil'; decide); (simp (disch := omega) only [push_cast, simprocAttr, hr] <;> rfl))
    | ((first | (apply P.neqSame; decide)); (iterate 3 (simp (disch := omega) only [push_cast, simprocAttr, hr] <;> rfl)); exact Nat.zero_le _; exact Nat.zero_le _)
    | ((first | (apply P.toUnsafe; decide) | (apply P.fromUnsafe; decide)); (iterate 2 (simp (disch := omega) only [push_cast, simprocAttr, hr] <;> rfl)); exact Nat.zero_le _; rfl; rfl)
    | ((apply P.noEscape; decide); (simp (disch := omega) only [push_cast, simprocAttr, hr] <;> rfl))
    | ((apply AWL.appendS cx_ok rfl rfl; decide; rfl; rfl; rfl; rfl; rfl; rfl; rfl; rfl; exact byteZero; (iterate 2 (simp (disch := omega) only [push_cast, simprocAttr, hr] <;> rfl)); omega; ((try dsimp only); (try simp only [strE_length, List.length_nil]); omega)))
    | ((first | apply W.retX | apply W.endX); (simp (disch := omega) only [push_cast, simprocAttr, hr] <;> rfl); (refine ⟨?_, ?_, ?_⟩ <;> (first | rfl | (simp (disch := omega) only [push_cast, simprocAttr, hr] <;> rfl))))
theorem cc_used {args : List AV} {H : Nat → Option AO} {nx id G : Nat} {l : ByteArray} (ha : args = [.ptr id 0 0 1]) (hr : Pg.rowAt H id = some (bRow id G l)) :
    OKm cx 48 args H nx (fun r h n => r = .tup [] ∧ h = H ∧ n = nx) := by
  subst ha
  refine OKm.of_body cx_ok (rs := []) Tryz.func48 rfl (by decide +kernel) rfl (by simp [Tryz.ntmps48]) ?_
  simp only [Tryz.ntmps48]
  repeat' first
    | apply AW.seq | apply AW.region | apply AW.ret | apply AW.block | apply AW.skip | apply AW.exit | apply AW.scope | apply AW.label | apply AWL.nil
    | ((first | (apply W.step cx_ok; decide) | apply W.store cx_ok | apply AW.cond); (simp (disch := omega) only [push_cast, simprocAttr, hr, bRow] <;> rfl); all_goals try ((with_reducible intro hI); try first | (cases hI; done) | (simp only [INTS] at hI; try first | (exfalso; omega) | (have hT : True := hI; clear hT hI))))
    | ((first | apply W.retC | apply W.endC' | apply W.retM | apply W.endM' | apply W.ret1 | apply W.end1 | apply W.ret2 | apply W.end2 | apply W.ret3 | apply W.end3 | apply W.ret0 | apply W.end0); (iterate 2 (try (simp (disch := omega) only [push_cast, simprocAttr, hr, bRow] <;> rfl))))
    | ((apply P.eqNil; decide); (simp (disch := omega) only [push_cast, simprocAttr, hr, bRow] <;> rfl))
    | ((apply P.eqNil'; decide); (simp (disch := omega) only [push_cast, simprocAttr, hr, bRow] <;> rfl))
    | ((first | (apply P.neqSame; decide)); (iterate 3 (simp (disch := omega) only [push_cast, simprocAttr, hr, bRow] <;> rfl)); exact Nat.zero_le _; exact Nat.zero_le _)
    | ((first | (apply P.toUnsafe; decide) | (apply P.fromUnsafe; decide)); (iterate 2 (simp (disch := omega) only [push_cast, simprocAttr, hr, bRow] <;> rfl)); exact Nat.zero_le _; rfl; rfl)
    | ((apply P.noEscape; decide); (simp (disch := omega) only [push_cast, simprocAttr, hr, bRow] <;> rfl))
    | ((apply AWL.appendS cx_ok rfl rfl; decide; rfl; rfl; rfl; rfl; rfl; rfl; rfl; rfl; exact byteZero; (iterate 2 (simp (disch := omega) only [push_cast, simprocAttr, hr, bRow] <;> rfl)); omega; ((try dsimp only); (try simp only [strE_length, List.length_nil]); omega)))
    | ((first | apply W.retX | apply W.endX); (simp (disch := omega) only [push_cast, simprocAttr, hr, bRow] <;> rfl); (refine ⟨?_, ?_, ?_⟩ <;> (first | rfl | (simp (disch := omega) only [push_cast, simprocAttr, hr, bRow] <;> rfl))))
theorem ws_fresh {args : List AV} {H : Nat → Option AO} {nx id : Nat} {b : ByteArray} (ha : args = [.ptr id 0 0 1, at_ b]) (hr : Pg.rowAt H id = some freshB) (hid : id < nx) (hb0 : 0 < b.size) (hb : b.size ≤ 140737488355328) :
    OKm cx 21 args H nx (fun r h n => r = .tup [ai b.size, .v .nilIface] ∧ h = updH (updH H nx (.row (gRow b))) id (.row (bRow id nx b)) ∧ n = nx + 1) := by
  subst ha
  have h1 : id ≠ nx := by omega
  have h2 : nx ≠ id := by omega
  refine OKm.of_body cx_ok (rs := [.tmp 4, .tmp 5]) Tryz.func21 rfl (by decide +kernel) rfl (by simp [Tryz.ntmps21]) ?_
  simp only [Tryz.ntmps21]
  repeat' first
    | apply AW.seq | apply AW.region | apply AW.ret | apply AW.block | apply AW.skip | apply AW.exit | apply AW.scope | apply AW.label | apply AWL.nil
    | ((first | (apply W.step cx_ok; decide) | apply W.store cx_ok | apply AW.cond); (simp (disch := omega) only [push_cast, simprocAttr, hr, h1, h2, cI, cP, bRow, gRow, strE_app, maxS, upd_twice, List.nil_append, strE_length, bsz] <;> rfl); all_goals try ((with_reducible intro hI); try first | (cases hI; done) | (simp only [INTS] at hI; try first | (exfalso; omega) | (have hT : True := hI; clear hT hI))))
    | ((first | apply W.retC | apply W.endC' | apply W.retM | apply W.endM' | apply W.ret1 | apply W.end1 | apply W.ret2 | apply W.end2 | apply W.ret3 | apply W.end3 | apply W.ret0 | apply W.end0); (iterate 2 (try (simp (disch := omega) only [push_cast, simprocAttr, hr, h1, h2, cI, cP, bRow, gRow, strE_app, maxS, upd_twice, List.nil_append, strE_length, bsz] <;> rfl))))
    | ((apply P.eqNil; decide); (simp (disch := omega) only [push_cast, simprocAttr, hr, h1, h2, cI, cP, bRow, gRow, strE_app, maxS, upd_twice, List.nil_append, strE_length, bsz] <;> rfl))
    | ((apply P.eqNil'; decide); (simp (disch := omega) only [push_cast, simprocAttr, hr, h1, h2, cI, cP, bRow, gRow, strE_app, maxS, upd_twice, List.nil_append, strE_length, bsz] <;> rfl))
    | ((first | (apply P.neqSame; decide)); (iterate 3 (simp (disch := omega) only [push_cast, simprocAttr, hr, h1, h2, cI, cP, bRow, gRow, strE_app, maxS, upd_twice, List.nil_append, strE_length, bsz] <;> rfl)); exact Nat.zero_le _; exact Nat.zero_le _)
    | ((first | (apply P.toUnsafe; decide) | (apply P.fromUnsafe; decide)); (iterate 2 (simp (disch := omega) only [push_cast, simprocAttr, hr, h1, h2, cI, cP, bRow, gRow, strE_app, maxS, upd_twice, List.nil_append, strE_length, bsz] <;> rfl)); exact Nat.zero_le _; rfl; rfl)
    | ((apply P.noEscape; decide); (simp (disch := omega) only [push_cast, simprocAttr, hr, h1, h2, cI, cP, bRow, gRow, strE_app, maxS, upd_twice, List.nil_append, strE_length, bsz] <;> rfl))
    | ((apply AWL.appendS cx_ok rfl rfl; decide; rfl; rfl; rfl; rfl; rfl; rfl; rfl; rfl; exact byteZero; (iterate 2 (simp (disch := omega) only [push_cast, simprocAttr, hr, h1, h2, cI, cP, bRow, gRow, strE_app, maxS, upd_twice, List.nil_append, strE_length, bsz] <;> rfl)); omega; ((try dsimp only); (try simp only [strE_length, List.length_nil]); omega)))
    | ((apply W.callm cx_ok; decide); (simp (disch := omega) only [push_cast, simprocAttr, hr, h1, h2, cI, cP, bRow, gRow, strE_app, maxS, upd_twice, List.nil_append, strE_length, bsz] <;> rfl); (refine cc_fresh (id := id) ?_ ?_); (iterate 2 (simp (disch := omega) only [push_cast, simprocAttr, hr, h1, h2, cI, cP, bRow, gRow, strE_app, maxS, upd_twice, List.nil_append, strE_length, bsz] <;> rfl)); (try omega); (try omega); (rintro r H' nx' ⟨rfl, rfl, rfl⟩))
    | ((apply D.callm cx_ok; decide; decide); (simp (disch := omega) only [push_cast, simprocAttr, hr, h1, h2, cI, cP, bRow, gRow, strE_app, maxS, upd_twice, List.nil_append, strE_length, bsz] <;> rfl); (refine cc_fresh (id := id) ?_ ?_); (iterate 2 (simp (disch := omega) only [push_cast, simprocAttr, hr, h1, h2, cI, cP, bRow, gRow, strE_app, maxS, upd_twice, List.nil_append, strE_length, bsz] <;> rfl)); (try omega); (try omega); (first | exact .inl rfl | exact .inr (fun j x hj hx => upd_keep (by decide) (by decide) j x hj hx)))
    | ((first | apply W.retX | apply W.endX); (simp (disch := omega) only [push_cast, simprocAttr, hr, h1, h2, cI, cP, bRow, gRow, strE_app, maxS, upd_twice, List.nil_append, strE_length, bsz] <;> rfl); (refine ⟨?_, ?_, ?_⟩ <;> (first | rfl | (simp (disch := omega) only [push_cast, simprocAttr, hr, h1, h2, cI, cP, bRow, gRow, strE_app, maxS, upd_twice, List.nil_append, strE_length, bsz] <;> rfl))))
theorem ws_used {args : List AV} {H : Nat → Option AO} {nx id G : Nat} {l b : ByteArray} (ha : args = [.ptr id 0 0 1, at_ b]) (hr : Pg.rowAt H id = some (bRow id G l)) (hg : Pg.rowAt H G = some (gRow l)) (h1 : G ≠ id) (hb0 : 0 < b.size) (hb : l.size + b.size ≤ 140737488355328) :
    OKm cx 21 args H nx (fun r h n => r = .tup [ai b.size, .v .nilIface] ∧ h = updH (updH H G (.row (gRow (l ++ b)))) id (.row (bRow id G (l ++ b))) ∧ n = nx) := by
  subst ha
  have h2 : id ≠ G := fun e => h1 e.symm
  refine OKm.of_body cx_ok (rs := [.tmp 4, .tmp 5]) Tryz.func21 rfl (by decide +kernel) rfl (by simp [Tryz.ntmps21]) ?_
  simp only [Tryz.ntmps21]
  repeat' first
    | apply AW.seq | apply AW.region | apply AW.ret | apply AW.block | apply AW.skip | apply AW.exit | apply AW.scope | apply AW.label | apply AWL.nil
    | ((first | (apply W.step cx_ok; decide) | apply W.store cx_ok | apply AW.cond); (simp (disch := omega) only [push_cast, simprocAttr, hr, hg, h1, h2, cI, cP, bRow, gRow, strE_app, maxS, upd_twice, List.nil_append, strE_length, bsz] <;> rfl); all_goals try ((with_reducible intro hI); try first | (cases hI; done) | (simp only [INTS] at hI; try first | (exfalso; omega) | (have hT : True := hI; clear hT hI))))
    | ((first | apply W.retC | apply W.endC' | apply W.retM | apply W.endM' | apply W.ret1 | apply W.end1 | apply W.ret2 | apply W.end2 | apply W.ret3 | apply W.end3 | apply W.ret0 | apply W.end0); (iterate 2 (try (simp (disch := omega) only [push_cast, simprocAttr, hr, hg, h1, h2, cI, cP, bRow, gRow, strE_app, maxS, upd_twice, List.nil_append, strE_length, bsz] <;> rfl))))
    | ((apply P.eqNil; decide); (simp (disch := omega) only [push_cast, simprocAttr, hr, hg, h1, h2, cI, cP, bRow, gRow, strE_app, maxS, upd_twice, List.nil_append, strE_length, bsz] <;> rfl))
    | ((apply P.eqNil'; decide); (simp (disch := omega) only [push_cast, simprocAttr, hr, hg, h1, h2, cI, cP, bRow, gRow, strE_app, maxS, upd_twice, List.nil_append, strE_length, bsz] <;> rfl))
    | ((first | (apply P.neqSame; decide)); (iterate 3 (simp (disch := omega) only [push_cast, simprocAttr, hr, hg, h1, h2, cI, cP, bRow, gRow, strE_app, maxS, upd_twice, List.nil_append, strE_length, bsz] <;> rfl)); exact Nat.zero_le _; exact Nat.zero_le _)
    | ((first | (apply P.toUnsafe; decide) | (apply P.fromUnsafe; decide)); (iterate 2 (simp (disch := omega) only [push_cast, simprocAttr, hr, hg, h1, h2, cI, cP, bRow, gRow, strE_app, maxS, upd_twice, List.nil_append, strE_length, bsz] <;> rfl)); exact Nat.zero_le _; rfl; rfl)
    | ((apply P.noEscape; decide); (simp (disch := omega) only [push_cast, simprocAttr, hr, hg, h1, h2, cI, cP, bRow, gRow, strE_app, maxS, upd_twice, List.nil_append, strE_length, bsz] <;> rfl))
    | ((apply AWL.appendS cx_ok rfl rfl; decide; rfl; rfl; rfl; rfl; rfl; rfl; rfl; rfl; exact byteZero; (iterate 2 (simp (disch := omega) only [push_cast, simprocAttr, hr, hg, h1, h2, cI, cP, bRow, gRow, strE_app, maxS, upd_twice, List.nil_append, strE_length, bsz] <;> rfl)); omega; ((try dsimp only); (try simp only [strE_length, List.length_nil]); omega)))
    | ((apply W.callm cx_ok; decide); (simp (disch := omega) only [push_cast, simprocAttr, hr, hg, h1, h2, cI, cP, bRow, gRow, strE_app, maxS, upd_twice, List.nil_append, strE_length, bsz] <;> rfl); (refine cc_used (id := id) (G := G) (l := l) ?_ ?_); (iterate 2 (simp (disch := omega) only [push_cast, simprocAttr, hr, hg, h1, h2, cI, cP, bRow, gRow, strE_app, maxS, upd_twice, List.nil_append, strE_length, bsz] <;> rfl)); (try omega); (try omega); (rintro r H' nx' ⟨rfl, rfl, rfl⟩))
    | ((apply D.callm cx_ok; decide; decide); (simp (disch := omega) only [push_cast, simprocAttr, hr, hg, h1, h2, cI, cP, bRow, gRow, strE_app, maxS, upd_twice, List.nil_append, strE_length, bsz] <;> rfl); (refine cc_used (id := id) (G := G) (l := l) ?_ ?_); (iterate 2 (simp (disch := omega) only [push_cast, simprocAttr, hr, hg, h1, h2, cI, cP, bRow, gRow, strE_app, maxS, upd_twice, List.nil_append, strE_length, bsz] <;> rfl)); (try omega); (try omega); (first | exact .inl rfl | exact .inr (fun j x hj hx => upd_keep (by decide) (by decide) j x hj hx)))
    | ((first | apply W.retX | apply W.endX); (simp (disch := omega) only [push_cast, simprocAttr, hr, hg, h1, h2, cI, cP, bRow, gRow, strE_app, maxS, upd_twice, List.nil_append, strE_length, bsz] <;> rfl); (refine ⟨?_, ?_, ?_⟩ <;> (first | rfl | (simp (disch := omega) only [push_cast, simprocAttr, hr, hg, h1, h2, cI, cP, bRow, gRow, strE_app, maxS, upd_twice, List.nil_append, strE_length, bsz] <;> rfl))))
end Go.Proofs.Hz

set_option maxRecDepth 100000
set_option maxHeartbeats 4000000
namespace Go.Proofs.Hz
open Go Go.Pg Go.Proofs Go.RowKit
theorem str_walk (b g cap : Nat) (cur : Array Value) (l : List UInt8) (w : World) (c1' : w.cell? ⟨b, 1, none⟩ = some (.slice (some ⟨g, 0, none⟩) l.length cap)) (hg : w.heap[g]? = some (.cells cur 5 (0, 0))) (hn : l.length ≤ cap) (hcm : cap ≤ maxLen)
    (hcs : cur.size = cap) (hcells : ∀ (j : Nat) x, l[j]? = some x → cur[j]? = some (.int .u8 x.toNat)) (h0 : l ≠ []) :
    Calls Tryz.prog 25 #[.pointer (some ⟨b, 0, none⟩)] w fun e w' => e = .returned (.string ⟨l.toArray⟩) ∧ Below g w w' := by
  have hl0 : l.length ≠ 0 := by simpa using h0
  have c1 : w.drew.cell? ⟨b, 1, none⟩ = some (.slice (some ⟨g, 0, none⟩) l.length cap) := c1'
  have hSD : (Builtin.unsafeSliceData_ #[58] 106 #[.slice (some ⟨g, 0, none⟩) l.length cap]).run Tryz.prog w.drew = .ok (.pointer (some ⟨g, 0, none⟩)) w.drew :=
    Lib.run_unsafeSliceData_row _ _ _ _ _ _ (by omega)
  have hUS : (Builtin.unsafeString_ #[106, 3] 9 #[.pointer (some ⟨g, 0, none⟩), .int .i64 l.length]).run Tryz.prog w.drew = .ok (.string ⟨l.toArray⟩) (w.drew.freeze ⟨g, 0, none⟩ l.length) := by
    have hg' : w.drew.heap[g]? = some (.cells cur 5 (0, 0)) := hg
    refine Lib.run_unsafeString_row w.drew 106 3 9 5 Tryz.underlying106 (by kernel_rfl) g cur.size (by simp [World.shape?, hg']) l h0 (by omega) (by unfold maxLen at hcm; omega) ?_
    intro j x hx
    have := hcells j x hx
    simp [World.cell?, hg', Addr.add_lit, this]
  have mixed : Tryz.prog.follows .mixedOrders = true := rfl
  go_enter Tryz.func25, Tryz.ntmps25
  go_wp2
  go_region_o
  all_goals (go_wp2; go_ret; exact ⟨rfl, Lib.below_freeze (Below.drew (Below.refl g w)) (p := ⟨g, 0, none⟩) (Nat.le_refl _) _⟩)
theorem string_call {H : Nat → Option AO} {id G : Nat} {l : ByteArray} (h1 : Pg.rowAt H id = some (bRow id G l)) (h2 : Pg.rowAt H G = some (gRow l)) (hl : 0 < l.size) {args : List AV} (ha : args = [.ptr id 0 0 1]) :
    ∀ (S0 : Fr) (w0 w : World) (σ : Sg) (vals : Array Value), cx.E w0 → Inv w0.heap.size S0 w H σ → Below w0.heap.size w0 w → vals.size = args.length → RepL σ w args (fun i => vals[i]?) →
      Calls cx.P 25 vals w fun e w' => Below w0.heap.size w0 w' ∧ ∃ v, e = .returned v ∧ Rep (pureSg fun _ => False) w' (at_ l) v := by
  intro S0 w0 w σ vals hE hi hb hs hr
  subst ha
  obtain ⟨u, rfl, hu⟩ := vals1 hs hr
  obtain ⟨b, arr, rfl, hc, hh, harr, _, _⟩ := ptr_block hi h1 (Nat.zero_le _) hu
  have hR := hi.row id _ (rowAt_eq h1)
  have hcon := hR.con b hc 0 (by simp [bRow])
  have e0 : (bRow id G l).es[0]'(by simp [bRow]) = [AV.ptr id 0 0 1, .ref G 0 l.size] := rfl
  rw [e0] at hcon
  simp only [RepL] at hcon
  obtain ⟨_, ⟨v, hv, hrv⟩, _⟩ := hcon
  simp only [Rep] at hrv
  obtain ⟨_, A, cap, rfl, g1, g2, g3, g4⟩ := hrv
  have hG := hi.row G _ (rowAt_eq h2)
  have hlen : σ.len G = l.size := by rw [hG.len]; exact strE_length l
  rcases g4 trivial hlen.symm with ⟨_, hz, _⟩ | ⟨g, hcg, rfl, hcap⟩
  · omega
  · obtain ⟨a1, a2, a3, a4, cur, a5, a6⟩ := hG.cur g hcg
    have hbg := hi.own_lt g G a1
    have hes : (gRow l).es = strE l := rfl
    have hll : l.data.toList.length = l.size := by rw [Array.length_toList]; rfl
    have hz : ((0 * (bRow id G l).k + 0 : Nat)) = 0 := by simp
    rw [hz]
    have hc1 : w.cell? ⟨b, 1, none⟩ = some (.slice (some ⟨g, 0, none⟩) l.data.toList.length cap) := by
      rw [hll, ← hv]
      congr 1
    refine (str_walk b g cap cur l.data.toList w hc1 a5 (by rw [hll]; exact g1) g2 (by rw [a6, hcap]; simp [gRow]) (fun j x hx => ?_) (fun h => by rw [h] at hll; simp at hll; omega)).mono ?_
    · obtain ⟨hj, rfl⟩ := List.getElem?_eq_some_iff.1 hx
      have hjl : j < (gRow l).es.length := by rw [hes, strE_length, ← hll]; exact hj
      have hce := hG.con g hcg j hjl
      have he : (gRow l).es[j] = [AV.v (.int .u8 (l.data.toList[j]).toNat)] := by simp [gRow, strE]
      rw [he] at hce
      simp only [RepL, Rep] at hce
      obtain ⟨⟨u, hu1, rfl⟩, _⟩ := hce
      have : w.cell? ⟨g, j, none⟩ = cur[j]? := cell_of_row w g j cur (gRow l).ty (0, 0) a5
      have hk1 : (gRow l).k = 1 := rfl
      rw [hk1, Nat.mul_one, Nat.add_zero, this] at hu1
      exact hu1
    · rintro e w' ⟨rfl, hb'⟩
      refine ⟨?_, _, rfl, ?_⟩
      · exact hb.trans ⟨hb'.os, hb'.tape, hb'.output, hb'.size, fun k hk => hb'.block k (by omega)⟩
      · have : (⟨l.data.toList.toArray⟩ : ByteArray) = l := by cases l; simp
        simp only [Rep, this]
end Go.Proofs.Hz

namespace Go.Proofs.Hz
open Go Go.Pg Go.Proofs
def wordsB (xs : List ByteArray) : ByteArray := joinB xs (ByteArray.mk #[32]) ++ ByteArray.mk #[10]
def spanB (s : Span) : ByteArray := itoaB s.lo ++ ByteArray.mk #[45] ++ itoaB s.hi
theorem words_ok (xs : List ByteArray) (hN : xs.length ≤ 140737488355328) (hlen : (joinB xs (ByteArray.mk #[32])).size ≤ 140737488355328) : OKv cx 22 [.lst (xs.map eStr)] (at_ (wordsB xs)) := by
  have hc : (joinB xs (ByteArray.mk #[32])).size + (ByteArray.mk #[10]).size ≤ maxLen := by
    have : (ByteArray.mk #[10]).size = 1 := rfl
    rw [this]; unfold maxLen; omega
  refine OKat.of_body (rs := [2]) Tryz.func22 rfl (by decide +kernel) rfl (by simp [Tryz.ntmps22]) ?_
  simp only [Tryz.ntmps22]
  repeat' first
    | apply AW.seq | apply AW.region | apply AW.ret | apply AW.block | apply AW.skip | apply AW.exit | apply AW.scope | apply AW.label | apply AWL.nil
    | ((first | (apply W.step cx_ok; decide) | apply AW.cond); (simp (disch := omega) only [push_cast, simprocAttr, hc] <;> rfl); all_goals try ((with_reducible intro hI); try first | (cases hI; done) | (simp only [INTS] at hI; try first | (exfalso; omega) | (have hT : True := hI; clear hT hI))))
    | ((apply W.callv cx_ok; decide); (iterate 2 (simp (disch := omega) only [push_cast, simprocAttr, hc] <;> rfl)); (with_reducible first | exact Join_ok _ _ hN hlen); try first | rfl | (simp (disch := omega) only [push_cast, simprocAttr, hc] <;> rfl))
    | ((first | apply W.ret1 | apply W.end1); (iterate 2 (try (simp (disch := omega) only [push_cast, simprocAttr, hc] <;> rfl))))
  all_goals (show _ = _; rfl)
theorem pure_str (l : List ByteArray) : (l.map eStr).all pureL = true := by
  rw [List.all_eq_true]; intro x hx; obtain ⟨a, _, rfl⟩ := List.mem_map.1 hx; rfl
theorem take_str (l : List ByteArray) : (l.map eStr).take l.length = l.map eStr := by rw [List.take_of_length_le (by simp)]
theorem spans_ok (l : List Span) (hl : l.length ≤ 1048576) (hb : ∀ x ∈ l, 0 ≤ x.lo ∧ x.lo ≤ x.hi ∧ x.hi ≤ 2147483648) : OKv cx 24 [lSpan l] (.lst ((l.map spanB).map eStr)) := by
  refine OKat.of_body (rs := [2]) Tryz.func24 rfl (by decide +kernel) rfl (by simp [Tryz.ntmps24]) ?_
  simp only [Tryz.ntmps24]
  repeat' first
    | apply AW.seq | apply AW.region | apply AW.ret | apply AW.block | apply AW.skip | apply AW.exit | apply AW.scope | apply AW.label | apply AWL.nil | apply D.nil
    | refine W.draw cx_mixed (by decide +kernel) ?_
    | ((first | (apply W.step cx_ok; decide) | (apply D.step cx_ok; decide; decide) | apply W.store cx_ok | apply AW.cond); (simp (disch := omega) only [push_cast, simprocAttr] <;> rfl); all_goals try ((with_reducible intro hI); try first | (cases hI; done) | (simp only [INTS] at hI; try first | (exfalso; omega) | (have hT : True := hI; clear hT hI))))
    | ((first | apply W.ret1 | apply W.end1); (iterate 2 (try (simp (disch := omega) only [push_cast, simprocAttr] <;> rfl))))
  refine AW.adopt 3 1 9 ?_ ?_
  · simp only [push_cast, simprocAttr]
  refine AW.loop (fun n s => ∃ (k : Nat) (out : List ByteArray) (rest : List Span), n = rest.length ∧ (l.drop k = rest) ∧ (out ++ rest.map spanB = l.map spanB) ∧ (out.length = k) ∧ 1 ≤ s.nx ∧ s.tm 3 = .ref 0 0 out.length ∧ s.tm 6 = lSpan l ∧ s.tm 7 = ai l.length ∧ s.tm 8 = ai k ∧ Pg.rowAt s.H (0) = some ({ k := 1, es := out.map eStr, ty := 9, lo := out.length })) (l.length) ⟨0, [], _, rfl, rfl, rfl, rfl, ?_, ?_, ?_, ?_, ?_, ?_⟩ ?_
  iterate 6 (first | (simp (disch := omega) only [push_cast, simprocAttr] <;> first | rfl | omega) | omega)
  rintro n s ⟨k, out, rest, hn, hp0, hp1, hp2, hnl, hS⟩
  have hZ : (0 : Nat) ≠ s.nx ∧ s.nx ≠ (0 : Nat) := by omega
  refine AW.fresh fun hfr => ?_
  rcases rest with _ | ⟨x, rest⟩
  · have hk := drop_nil hp0
    repeat' first
      | apply AW.seq | apply AW.region | apply AW.ret | apply AW.block | apply AW.skip | apply AW.exit | apply AW.scope | apply AW.label | apply AWL.nil | apply D.nil
      | refine W.draw cx_mixed (by decide +kernel) ?_
      | ((first | (apply W.step cx_ok; decide) | (apply D.step cx_ok; decide; decide) | apply W.store cx_ok | apply AW.cond); (simp (disch := omega) only [push_cast, simprocAttr, hS, hZ, hk, pure_str, take_str] <;> rfl); all_goals try ((with_reducible intro hI); try first | (cases hI; done) | (simp only [INTS] at hI; try first | (exfalso; omega) | (have hT : True := hI; clear hT hI))))
      | ((first | apply W.ret1 | apply W.end1); (iterate 2 (try (simp (disch := omega) only [push_cast, simprocAttr, hS, hZ, hk, pure_str, take_str] <;> rfl))))
    have ho : out = l.map spanB := by simpa using hp1
    all_goals (show _ = _; rw [ho])
  · obtain ⟨hk, hg, hd', hl', hm, hx⟩ := drop_cons hp0 eSpan []
    have hbx := hb x hm
    have s1 := itoaB_size x.lo (by omega) (by omega)
    have s2 := itoaB_size x.hi (by omega) (by omega)
    have s3 : (ByteArray.mk #[45]).size = 1 := rfl
    have hc1 : (itoaB x.lo).size + (ByteArray.mk #[45]).size ≤ maxLen := by rw [s3]; unfold maxLen; omega
    have hc2 : (itoaB x.lo ++ ByteArray.mk #[45]).size + (itoaB x.hi).size ≤ maxLen := by rw [ByteArray.size_append, s3]; unfold maxLen; omega
    have hfz : ∀ m, s.H (s.nx + m) = none := fun m => hfr _ (by omega)
    repeat' first
      | apply AW.seq | apply AW.region | apply AW.ret | apply AW.block | apply AW.skip | apply AW.exit | apply AW.scope | apply AW.label | apply AWL.nil | apply D.nil
      | refine AW.draw (id := 5) cx_mixed [10, 11] [] [] 12 (by decide +kernel) ?_
      | refine W.draw cx_mixed (by decide +kernel) ?_
      | ((first | (apply W.step cx_ok; decide) | (apply D.step cx_ok; decide; decide) | apply W.store cx_ok | apply AW.cond); (simp (disch := omega) only [push_cast, simprocAttr, hS, hZ, hk, hg, hc1, hc2, hfz, Nat.add_assoc, List.length_append, List.map_append, List.append_assoc, List.length_cons, List.length_nil, List.isEmpty_cons, List.isEmpty_nil] <;> rfl); all_goals try ((with_reducible intro hI); try first | (cases hI; done) | (simp only [INTS] at hI; try first | (exfalso; omega) | (have hT : True := hI; clear hT hI))))
      | ((first | (apply D.store cx_ok; decide) | (apply D.stept cx_ok; decide; decide) | (apply D.stepm cx_ok; decide; decide)); (simp (disch := omega) only [push_cast, simprocAttr, hS, hZ, hk, hg, hc1, hc2, hfz, Nat.add_assoc, List.length_append, List.map_append, List.append_assoc, List.length_cons, List.length_nil, List.isEmpty_cons, List.isEmpty_nil] <;> rfl); try first | exact .inl rfl | exact .inr (by simp))
      | ((apply D.alloc cx_ok; decide; decide); (simp (disch := omega) only [push_cast, simprocAttr, hS, hZ, hk, hg, hc1, hc2, hfz, Nat.add_assoc, List.length_append, List.map_append, List.append_assoc, List.length_cons, List.length_nil, List.isEmpty_cons, List.isEmpty_nil] <;> rfl); (simp (disch := omega) only [push_cast, simprocAttr, hS, hZ, hk, hg, hc1, hc2, hfz, Nat.add_assoc, List.length_append, List.map_append, List.append_assoc, List.length_cons, List.length_nil, List.isEmpty_cons, List.isEmpty_nil, updH_at, Nat.add_assoc]); (simp (disch := omega) only [push_cast, simprocAttr, hS, hZ, hk, hg, hc1, hc2, hfz, Nat.add_assoc, List.length_append, List.map_append, List.append_assoc, List.length_cons, List.length_nil, List.isEmpty_cons, List.isEmpty_nil] <;> omega))
      | ((apply D.alloct cx_ok; decide; decide); (simp (disch := omega) only [push_cast, simprocAttr, hS, hZ, hk, hg, hc1, hc2, hfz, Nat.add_assoc, List.length_append, List.map_append, List.append_assoc, List.length_cons, List.length_nil, List.isEmpty_cons, List.isEmpty_nil] <;> rfl); first | exact .inl rfl | exact .inr (by simp))
      | (apply D.append cx_ok; decide; decide; rfl; rfl; rfl; decide; (iterate 3 (simp (disch := omega) only [push_cast, simprocAttr, hS, hZ, hk, hg, hc1, hc2, hfz, Nat.add_assoc, List.length_append, List.map_append, List.append_assoc, List.length_cons, List.length_nil, List.isEmpty_cons, List.isEmpty_nil] <;> rfl)); simp; (rfl); ((try dsimp only); (try simp only [List.length_map, List.length_append, List.length_cons, List.length_nil]); omega); ((try dsimp only); (try simp only [List.length_map, List.length_append, List.length_cons, List.length_nil]); omega); first | exact .inl rfl | exact .inr (by simp))
      | ((first | (apply W.callv cx_ok; decide) | (apply D.callv cx_ok; decide; decide) | (apply D.callvt cx_ok; decide; decide)); (iterate 2 (simp (disch := omega) only [push_cast, simprocAttr, hS, hZ, hk, hg, hc1, hc2, hfz, Nat.add_assoc, List.length_append, List.map_append, List.append_assoc, List.length_cons, List.length_nil, List.isEmpty_cons, List.isEmpty_nil] <;> rfl)); (with_reducible first | exact Itoa_ok _ (by omega) (by omega)); try first | rfl | (simp (disch := omega) only [push_cast, simprocAttr, hS, hZ, hk, hg, hc1, hc2, hfz, Nat.add_assoc, List.length_append, List.map_append, List.append_assoc, List.length_cons, List.length_nil, List.isEmpty_cons, List.isEmpty_nil] <;> rfl))
      | ((first | apply W.ret1 | apply W.end1); (iterate 2 (try (simp (disch := omega) only [push_cast, simprocAttr, hS, hZ, hk, hg, hc1, hc2, hfz, Nat.add_assoc, List.length_append, List.map_append, List.append_assoc, List.length_cons, List.length_nil, List.isEmpty_cons, List.isEmpty_nil] <;> rfl))))
    all_goals
      (have hp1' : (out ++ [spanB x]) ++ rest.map spanB = l.map spanB := by simpa using hp1
       (refine ⟨rest.length, ?_, k + 1, out ++ [spanB x], rest, rfl, hd', hp1', (by simp; omega), ?_, ?_, ?_, ?_, ?_, ?_⟩; ((simp only [List.length_cons] at *; omega)); all_goals first | (simp (disch := omega) only [push_cast, simprocAttr, hS, hZ, hg, hk, spanB, List.length_append, List.map_append, List.append_assoc, List.length_cons, List.length_nil, List.isEmpty_cons, List.isEmpty_nil] <;> first | rfl | omega) | omega))
end Go.Proofs.Hz

namespace Go.Proofs.Hz
open Go Go.Pg Go.Proofs
theorem In_ok (n lo hi : Int) : OKv cx 75 [ai n, ai lo, ai hi] (ab (decide (lo ≤ n) && decide (n ≤ hi))) := by
  refine OKat.of_body (rs := [6]) Tryz.func75 rfl (by decide +kernel) rfl (by simp [Tryz.ntmps75]) ?_
  simp only [Tryz.ntmps75]
  repeat' first
    | apply AW.seq | apply AW.region | apply AW.ret | apply AW.block | apply AW.skip | apply AW.exit | apply AW.scope | apply AW.label | apply AWL.nil
    | ((first | (apply W.step cx_ok; decide) | (apply W.gS; rfl; decide) | apply AW.cond); (simp (disch := omega) only [push_cast, simprocAttr] <;> rfl); all_goals try ((with_reducible intro hI); try first | (cases hI; done) | (simp only [INTS] at hI; try first | (exfalso; omega) | (have hT : True := hI; clear hT hI))))
    | ((first | apply W.ret1 | apply W.end1); (iterate 2 (try (simp (disch := omega) only [push_cast, simprocAttr] <;> rfl))))
  all_goals (show _ = _; first | (simp [*]; done) | (simp; omega))
theorem time_ok (t : Int) : OKv cx 42 [ai t] (ab (decide (0 ≤ t) && decide (t ≤ 1073741823))) := by
  refine OKat.of_body (rs := [2]) Tryz.func42 rfl (by decide +kernel) rfl (by simp [Tryz.ntmps42]) ?_
  simp only [Tryz.ntmps42]
  repeat' first
    | apply AW.seq | apply AW.region | apply AW.ret | apply AW.block | apply AW.skip | apply AW.exit | apply AW.scope | apply AW.label | apply AWL.nil
    | ((first | (apply W.step cx_ok; decide) | (apply W.gS; rfl; decide) | apply AW.cond); (simp (disch := omega) only [push_cast, simprocAttr] <;> rfl); all_goals try ((with_reducible intro hI); try first | (cases hI; done) | (simp only [INTS] at hI; try first | (exfalso; omega) | (have hT : True := hI; clear hT hI))))
    | ((first | apply W.ret1 | apply W.end1); (iterate 2 (try (simp (disch := omega) only [push_cast, simprocAttr] <;> rfl))))
  all_goals (show _ = _; first | (simp [*]; done) | (simp; omega))
theorem index_ok (n m : Int) : OKv cx 47 [ai n, ai m] (ab (decide (0 ≤ n) && decide (n < m))) := by
  refine OKat.of_body (rs := [4]) Tryz.func47 rfl (by decide +kernel) rfl (by simp [Tryz.ntmps47]) ?_
  simp only [Tryz.ntmps47]
  repeat' first
    | apply AW.seq | apply AW.region | apply AW.ret | apply AW.block | apply AW.skip | apply AW.exit | apply AW.scope | apply AW.label | apply AWL.nil
    | ((first | (apply W.step cx_ok; decide) | (apply W.gS; rfl; decide) | apply AW.cond); (simp (disch := omega) only [push_cast, simprocAttr] <;> rfl); all_goals try ((with_reducible intro hI); try first | (cases hI; done) | (simp only [INTS] at hI; try first | (exfalso; omega) | (have hT : True := hI; clear hT hI))))
    | ((first | apply W.ret1 | apply W.end1); (iterate 2 (try (simp (disch := omega) only [push_cast, simprocAttr] <;> rfl))))
  all_goals (show _ = _; first | (simp [*]; done) | (simp; omega))
end Go.Proofs.Hz
