/-
  Contracts of functions, proved by going through their code. No conditions.
-/
import Derived.Test.YtkdiplkmcilkmaaGreatDoorUPkZr
set_option linter.unusedVariables false
set_option linter.unusedSimpArgs false
namespace Go.Pg
open Go Go.RowKit
section
variable {C : Cx} {N : Nat} {Q : Exit → St → Prop} {s : St} {ops : Array Oper} {rest : List Oper} {ty : TypeId} {ps : String} {af : Array Edge} {d : Nat} {tg mk av : List Nat} {H0 : Nat → Option AO} {b i : Nat} {Fin : St → Prop}
theorem W.nePair (hC : C.OK) (hN : d < N) {t t2 e : TypeId} {x y : Operand} (hE : PairFact C.P t e) {a0 a1 b0 b1 : Int} (hx : s.ev x = .agg [.v (.int .i64 a0), .v (.int .i64 a1)]) (hy : s.ev y = .agg [.v (.int .i64 b0), .v (.int .i64 b1)])
    (k : AWL C N ops Q rest (s.put d (.v (.bool (!(a0 == b0 && a1 == b1)))) none)) : AWL C N ops Q (⟨some d, .binOp .neq t x y t2, ty, ps, af, none⟩ :: rest) s := by
  rintro S0 w0 a w hE0 ⟨σ, hσ⟩
  have h1 := hσ.ev x
  have h2 := hσ.ev y
  rw [hx] at h1
  rw [hy] at h2
  simp only [Rep] at h1 h2
  obtain ⟨ax, ux, e1, e2, e3⟩ := h1
  obtain ⟨ay, uy, g1, g2, g3⟩ := h2
  simp only [RepL, Rep] at e3 g3
  obtain ⟨⟨_, x0, rfl⟩, ⟨_, x1, rfl⟩, _⟩ := e3
  obtain ⟨⟨_, y0, rfl⟩, ⟨_, y1, rfl⟩, _⟩ := g3
  have key : (Op.equalIn 10000 t (.agg ax) (.agg ay)).run C.P w = .ok (a0 == b0 && a1 == b1) w := run_eqPair hE (by simpa using x0) (by simpa using x1) (by simpa using y0) (by simpa using y1)
  have hrun : (execOp a.eval ⟨some d, .binOp .neq t x y t2, ty, ps, af, none⟩).run C.P w = .ok (.value (.bool (!(a0 == b0 && a1 == b1)))) w := by
    simp only [execOp, ux, uy, Sem.run_bind, run_eqGuard_agg w .neq t x y ax ay hE.guard, Result.andThen_ok]
    rw [run_neq_struct, key]; rfl
  refine wpListIn_plain rfl fun K hK => Oper.wpIn_of_wp C.hF (fun c e => by cases e) ?_
  simp only [Oper.wp, Oper.upon, hrun]
  have hs' := hσ.put hN (s' := s.put d (.v (.bool (!(a0 == b0 && a1 == b1)))) none) (r := .v (.bool (!(a0 == b0 && a1 == b1)))) (v := .bool (!(a0 == b0 && a1 == b1))) hσ.inv hσ.nx (Le.refl _ _ fun _ _ ho => hσ.inv.al_of_own ho) (Below.refl _ _) rfl rfl
  exact hK _ _ (k S0 w0 _ w hE0 ⟨σ, hs'⟩)
theorem D.nePair (hC : C.OK) (hN : d < N) (hi : i ∉ tg ∧ i ∉ mk) {t t2 e : TypeId} {x y : Operand} (hE : PairFact C.P t e) {a0 a1 b0 b1 : Int} (hx : s.ev x = .agg [.v (.int .i64 a0), .v (.int .i64 a1)]) (hy : s.ev y = .agg [.v (.int .i64 b0), .v (.int .i64 b1)])
    (k : DW C N ops H0 b tg mk av Fin (i + 1) rest (s.put d (.v (.bool (!(a0 == b0 && a1 == b1)))) none)) : DW C N ops H0 b tg mk av Fin i (⟨some d, .binOp .neq t x y t2, ty, ps, af, none⟩ :: rest) s := by
  refine ⟨.v (.bool (!(a0 == b0 && a1 == b1))), s.put d (.v (.bool (!(a0 == b0 && a1 == b1)))) none, rfl, ?_, k⟩
  rw [if_neg hi.1, if_neg hi.2]
  refine ⟨none, rfl, rfl, .inl rfl, fun s' hx' _ ht => ?_⟩
  have hev := ev_congr ht
  exact one_of_AWL (W.nePair hC hN hE (by rw [hev x (by simp [Op.operands])]; exact hx) (by rw [hev y (by simp [Op.operands])]; exact hy) (AWL.nil ⟨rfl, rfl⟩))
end
end Go.Pg
