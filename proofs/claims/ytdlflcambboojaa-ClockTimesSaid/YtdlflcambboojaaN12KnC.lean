/-
  Contracts of functions, proved by going through their code. No conditions.
-/
import Derived.Test.YtdlflcambboojaaMaa
import Derived.Test.YtdlflcambboojaaMbf
set_option linter.unusedVariables false
set_option linter.unusedSimpArgs false
set_option maxRecDepth 100000
namespace Go.Proofs.Ks
open Go Go.Pg Go.Proofs Go.ChangeShapes Go.WideShapes Go.ChangeAt Go.RowKit
section
variable {H : Type} {enc : TypeId × Value → H} {W : World} {spare : Nat → Bool} {held : Bool} {r : Reach} {base : Nat} {v : Value} {d : DataW H} {ps : List MemPlace}
theorem arg_i16 (hv : Value.okWide Try.prog W r base 86 v) (h : DataW.Trod enc Try.prog W 0 spare held 86 v d ps) : ∃ n : Int, (-32768 ≤ n ∧ n ≤ 32767) ∧ Rep (pureSg (Old W)) W (.v (.int .i16 n)) v := by
  obtain ⟨n, rfl⟩ := okWide_int Try.underlying86 hv
  obtain ⟨a, g, h⟩ := arg_one (e := fun n : Int => AV.v (.int .i16 n)) (Reads.int Try.underlying86) rfl h
  refine ⟨a, ?_, h⟩
  simp [Lit.wf, IntKind.min, IntKind.max, IntKind.signed, IntKind.bits] at g
  omega
end
end Go.Proofs.Ks
