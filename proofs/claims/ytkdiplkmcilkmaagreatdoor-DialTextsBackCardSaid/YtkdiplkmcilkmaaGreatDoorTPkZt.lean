/-
  Contracts of functions, proved by going through their code. No conditions.
-/
import Derived.Laws.IdiomStrings
import Derived.Test.YtkdiplkmcilkmaaGreatDoorTaj
set_option linter.unusedVariables false
set_option linter.unusedSimpArgs false
namespace Go.Pg
open Go Go.RowKit
section
variable {C : Cx} {N : Nat} {Q : Exit → St → Prop} {s : St} {ops : Array Oper} {rest : List Oper} {ty : TypeId} {ps : String} {af : Array Edge} {d : Nat}
theorem W.byteStr (hN : d < N) {src dst e : TypeId} {x : Operand} {id : Nat} {r : Row} {c : Int} (h1 : C.P.underlying src = some (.slice e)) (h2 : C.P.underlying e = some (.int .u8)) (h3 : C.P.underlying dst = some .string)
    (hx : s.ev x = .ref id 0 1) (hr : rowAt s.H id = some r) (he : r.es = [[.v (.int .u8 c)]]) (hc : 0 ≤ c ∧ c < 256)
    (k : AWL C N ops Q rest (s.put d (.v (.string (ByteArray.mk #[UInt8.ofNat c.toNat]))) none)) : AWL C N ops Q (⟨some d, .convert src dst x, ty, ps, af, none⟩ :: rest) s := by
  refine AWL.pureOp rfl rfl hN (fun S0 w0 a w σ hσ => ?_) k
  have hv := hσ.ev x
  rw [hx] at hv
  simp only [Rep] at hv
  obtain ⟨_, A, cap, hu, g1, g2, g3, g4⟩ := hv
  have hR := hσ.inv.row id r (rowAt_eq hr)
  have hk : r.k = 1 := by
    have := (hR.each [.v (.int .u8 c)] (by rw [he]; simp)).1
    simpa using this.symm
  have hlen : σ.len id = 1 := by rw [hR.len, he]; rfl
  rcases g4 trivial hlen.symm with ⟨_, h0, _⟩ | ⟨b, hb, rfl, hcap⟩
  · cases h0
  have hcon := hR.con b hb 0 (by simp [he])
  simp only [he, List.getElem_cons_zero, RepL, Rep, Nat.zero_mul, Nat.add_zero, Nat.zero_add] at hcon
  obtain ⟨⟨u, hu1, rfl⟩, _⟩ := hcon
  have hn : (UInt8.ofNat c.toNat).toNat = c.toNat := by rw [UInt8.toNat_ofNat']; omega
  have hcell : ∀ j (hj : j < [UInt8.ofNat c.toNat].length), w.cell? ((⟨b, 0, none⟩ : Addr).add j) = some (.int .u8 (([UInt8.ofNat c.toNat])[j].toNat : Int)) := by
    intro j hj
    have : j = 0 := by simpa using hj
    subst this
    simp only [List.getElem_cons_zero, hn]
    rw [Int.toNat_of_nonneg hc.1]
    exact hu1
  have hrun := run_convert_bytes_back (P := C.P) w src dst e ⟨b, 0, none⟩ cap [UInt8.ofNat c.toNat] h1 h2 h3 hcell
  refine ⟨.string (ByteArray.mk #[UInt8.ofNat c.toNat]), ?_, rfl⟩
  simp only [execOp, hu, Sem.run_bind]
  exact congrArg (fun z => Result.andThen z fun a w => (pure (Next.value a) : Sem Next).run C.P w) hrun
end
end Go.Pg
