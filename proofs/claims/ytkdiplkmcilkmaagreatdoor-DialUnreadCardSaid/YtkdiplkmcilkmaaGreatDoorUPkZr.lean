/-
  Contracts of functions, proved by going through their code. No conditions.
-/
import Derived.ChangeKeysEq
import Derived.Test.YtkdiplkmcilkmaaGreatDoorYba
set_option linter.unusedVariables false
set_option linter.unusedSimpArgs false
namespace Go.Pg
open Go Go.RowKit
section
variable {P : Program} {T : TypeId → Option Ty} {σ : Sg} {w : World}
structure PairFact (P : Program) (t e : TypeId) : Prop where
  und : P.underlying t = some (.array 2 e)
  inf : ∃ i, P.info? e = some i
  int : P.underlying e = some (.int .i64)
  key : P.plainKey e = true
  one : P.cellsOf e = 1
  guard : P.eqGuardType P.depth t = false
theorem run_eqPair {t e : TypeId} (h : PairFact P t e) {a b c d : Int} {xs ys : Array Value} (x0 : xs[0]? = some (.int .i64 a)) (x1 : xs[1]? = some (.int .i64 b)) (y0 : ys[0]? = some (.int .i64 c)) (y1 : ys[1]? = some (.int .i64 d)) :
    (Op.equalIn 10000 t (.agg xs) (.agg ys)).run P w = .ok (a == c && b == d) w := by
  obtain ⟨i, hi⟩ := h.inf
  have e3 := fun (k : IntKind) (u v : Int) => run_equalIn_int (P := P) w 9998 e k _ u v h.int
  rw [run_equalIn_array (P := P) w 9999 xs ys h.und hi, h.one]
  have hr : List.range 2 = [0, 1] := rfl
  rw [hr]
  have p0 := run_part_plain (P := P) w h.key (xs := xs) (off := 0) x0
  have p1 := run_part_plain (P := P) w h.key (xs := xs) (off := 1) x1
  have q0 := run_part_plain (P := P) w h.key (xs := ys) (off := 0) y0
  have q1 := run_part_plain (P := P) w h.key (xs := ys) (off := 1) y1
  simp only [Op.eqItems, Sem.run_bind, Nat.zero_mul, Nat.one_mul, p0, q0, p1, q1, Result.andThen_ok, e3, Sem.run_ite, Sem.run_pure]
  cases (a == c) <;> cases (b == d) <;> simp
end
section
variable {C : Cx} {N : Nat} {Q : Exit → St → Prop} {s : St} {ops : Array Oper} {rest : List Oper} {ty : TypeId} {ps : String} {af : Array Edge} {d : Nat} {tg mk av : List Nat} {H0 : Nat → Option AO} {b i : Nat} {Fin : St → Prop}
end
end Go.Pg
