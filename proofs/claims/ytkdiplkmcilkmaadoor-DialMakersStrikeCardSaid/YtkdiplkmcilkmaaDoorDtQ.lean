/-
  Contracts of functions, proved by going through their code. No conditions.
-/
import Derived.Test.YtkdiplkmcilkmaaDoorDaw
import Derived.Test.YtkdiplkmcilkmaaDoorDtG
import Derived.Test.YtkdiplkmcilkmaaDoorDtI
import Derived.Test.YtkdiplkmcilkmaaDoorDtP
set_option linter.unusedVariables false
set_option linter.unusedSimpArgs false
namespace Go.Proofs.Ds
open Go Go.Pg Go.Proofs
section
variable {p mi di : Nat} {tr t0 ap s : Int}
theorem arc_struck (h : 0 ≤ ap ∧ ap ≤ 60) (f : Int) : validA ⟨angF f, ap⟩ = true :=
  validA_iff.2 ⟨(angF_bd _).1, (angF_bd _).2, h.1, by dsimp only; omega, .inl (by dsimp only; omega)⟩
theorem mark_struck (hp : p < 4096) (hd : di < 4096) (ht : 0 ≤ tr ∧ tr ≤ 3) (ha : 0 ≤ ap ∧ ap ≤ 60) : markV (struckF p tr ⟨t0, ap⟩ mi di s) = true := by
  have l1 := seenF_lt (mi := mi) hp hd
  have l2 := drop_lt (p := 4095) (q := seenF p mi di) (by omega)
  refine markV_iff.2 ⟨arc_struck ha _, ht, ?_, ?_, ?_⟩
  · unfold struckF; dsimp only; omega
  · unfold struckF; dsimp only; omega
  · unfold struckF
    simp only [Int.toNat_natCast]
    exact (compl l1).1
theorem arcs_sub {x y : Arc} (hx : validA x = true) (hy : validA y = true) (h : ∀ z, 0 ≤ z → z ≤ 43199 → hasF y z = true → hasF x z = true) : arcsF (meetF (spansS [x]) (spansS [y])) = [y] := by
  have vx : ∀ w ∈ [x], validA w = true := fun w hw => by rw [List.mem_singleton.1 hw]; exact hx
  have vy : ∀ w ∈ [y], validA w = true := fun w hw => by rw [List.mem_singleton.1 hw]; exact hy
  obtain ⟨x1, x2, x3⟩ := spans_spec vx
  obtain ⟨y1, y2, y3⟩ := spans_spec vy
  obtain ⟨m1, m2⟩ := meet_spec x1 y1
  have e : meetF (spansS [x]) (spansS [y]) = spansS [y] := by
    refine canon_ext m1 y1 fun z => ?_
    rw [m2]
    refine ⟨fun g => g.2, fun g => ⟨?_, g⟩⟩
    have hb := mem_inC y2 g
    have p1 : ∀ w : Arc, piecesL [w] = piecesF w := fun w => by unfold piecesL; simp
    rw [y3, p1] at g
    rw [x3, p1]
    exact (has_mem hx hb.1 hb.2).1 (h z hb.1 hb.2 ((has_mem hy hb.1 hb.2).2 g))
  rw [e]
  exact arcs_one hy
end
end Go.Proofs.Ds
