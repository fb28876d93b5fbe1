/-
  Contracts of functions, proved by going through their code. No conditions.
-/
import Derived.Test.YtdlflcambboojaaMaa
import Derived.Test.YtdlflcambboojaaMbf
import Derived.Test.YtdlflcambboojaaN18LwL
set_option linter.unusedVariables false
set_option linter.unusedSimpArgs false
set_option maxRecDepth 100000
namespace Go.Proofs.Ks
open Go Go.Pg Go.Proofs Go.ChangeShapes Go.WideShapes Go.ChangeAt Go.RowKit
open Go.Proofs.Ytdlflcambboojaa
theorem lifted18 (os : Os) (started : os.Started) (H : Type) (enc : TypeId × Value → H) :
    ReturnsInHanded {} Try.checked os 18 .any (fun w args => (Rows.clockProvesSpec.pre enc Try.prog Try.f18 [] false w args ∧ laidMetH Try.prog laid0 w) ∧ sizedMet enc Try.prog Try.f18 (OpenSpec.ofChange Rows.clockProvesSpec) false w args)
      (Rows.clockProvesSpec.post enc Try.prog Try.f18 false true false false) := by
  refine returnsInHanded_of_change_and (C := Try.checked) (X := fun w _ => laidMetH Try.prog laid0 w) (fun _ _ _ hh h => h.of_heap hh) own_knob started (by kernel_rfl) Try.func18
    (ChangeSpec.witness_shaped (enc := enc) (C := Try.checked) (os := os) (X := fun w _ => laidMetH Try.prog laid0 w) false (World.doorLaid Try.prog 400 os) #[.agg #[.int .i64 0, .int .i64 0, .int .i64 0, .int .i64 0, .int .i64 0, .int .i64 0, .int .i64 0, .int .i64 0, .int .i64 0, .int .i64 0, .int .i64 0, .slice none 0 0, .slice none 0 0, .slice none 0 0], .slice none 0 0, .int .i64 0, .int .i64 0, .slice none 0 0, .slice none 0 0, .slice none 0 0] 8 rfl (World.shaped_of_RefB (by kernel_rfl) (by kernel_rfl)) (by kernel_rfl) (by kernel_rfl) (by kernel_rfl) (door_met os _)) ?_
  intro W base args ds gs before hval0 hW _ _ hL _
  have hval : ∀ (j : Nat) t v, Try.f18.params[j]? = some t → args[j]? = some v → Value.okWide Try.prog W .any base t v := hval0
  have hW' := hW
  obtain ⟨p, q, hA0, hV, e, hfz, hnd⟩ := hW
  have hA : DataW.TrodAll enc Try.prog W 0 (fun _ => true) true Try.f18.params.toList args.toList ds p := hA0
  rw [Try.params18] at hA hval
  obtain ⟨v0, l0, d0, s0, p0, q0, e0, f0, h0, hA⟩ := trodAll_pop hA
  obtain ⟨v1, l1, d1, s1, p1, q1, e1, f1, h1, hA⟩ := trodAll_pop hA
  obtain ⟨v2, l2, d2, s2, p2, q2, e2, f2, h2, hA⟩ := trodAll_pop hA
  obtain ⟨v3, l3, d3, s3, p3, q3, e3, f3, h3, hA⟩ := trodAll_pop hA
  obtain ⟨v4, l4, d4, s4, p4, q4, e4, f4, h4, hA⟩ := trodAll_pop hA
  obtain ⟨v5, l5, d5, s5, p5, q5, e5, f5, h5, hA⟩ := trodAll_pop hA
  obtain ⟨v6, l6, d6, s6, p6, q6, e6, f6, h6, hA⟩ := trodAll_pop hA
  have ez := trodAll_end hA
  obtain rfl : args = #[v0, v1, v2, v3, v4, v5, v6] := by rw [← Array.toList_inj]; simp [e0, e1, e2, e3, e4, e5, e6, ez]
  obtain ⟨x0, in0, r0⟩ := arg_rec (hval 0 30 v0 rfl rfl) h0
  obtain ⟨x1, in1, _, r1⟩ := arg_ints (hval 1 41 v1 rfl rfl) h1
  obtain ⟨x2, in2, r2⟩ := arg_int (hval 2 3 v2 rfl rfl) h2
  obtain ⟨x3, in3, r3⟩ := arg_int (hval 3 3 v3 rfl rfl) h3
  obtain ⟨x4, in4, _, r4⟩ := arg_ints (hval 4 41 v4 rfl rfl) h4
  obtain ⟨x5, in5, _, r5⟩ := arg_ints (hval 5 41 v5 rfl rfl) h5
  obtain ⟨x6, in6, _, r6⟩ := arg_ints (hval 6 41 v6 rfl rfl) h6
  refine (run_true (law18_ok x0 x1 x2 x3 x4 x5 x6) trivial rfl ⟨⟨v0, rfl, r0⟩, ⟨v1, rfl, r1⟩, ⟨v2, rfl, r2⟩, ⟨v3, rfl, r3⟩, ⟨v4, rfl, r4⟩, ⟨v5, rfl, r5⟩, ⟨v6, rfl, r6⟩, trivial⟩).mono ?_
  rintro e W' ⟨rfl, hb⟩
  refine ⟨_, rfl, law_post rfl (by kernel_rfl) (by kernel_rfl) (fun ds hds => ?_) hW' hb⟩
  rw [Try.params18] at hds
  match ds, hds with
  | [_, _, _, _, _, _, _], _ => rfl
theorem liftd18 (os : Os) (started : os.Started) (H : Type) (enc : TypeId × Value → H) :
    ReturnsInHanded {} Try.checked os 18 .any (fun w args => Rows.clockProvesSpec.pre enc Try.prog Try.f18 [] false w args ∧ sizedMet enc Try.prog Try.f18 (OpenSpec.ofChange Rows.clockProvesSpec) false w args)
      (Rows.clockProvesSpec.post enc Try.prog Try.f18 false true false false) := by
  have h := lifted18 os started H enc
  simp only [laid0_met, zS] at h
  exact h
theorem row18 : Rows.ClockProvesSaid :=
  OpenClaim.holds_of_wide 18 Try.f18 rfl rfl rfl rfl rfl rfl rfl ⟨rfl, rfl, rfl, rfl, rfl⟩ rfl rfl rfl rfl rfl (by kernel_rfl) Try.func18 (by kernel_rfl)
    (of_decide_eq_true (by kernel_rfl)) (by unfold Func.isWrapper; first | (rw [if_pos (by decide +kernel)]; kernel_rfl) | (rw [if_neg (by decide +kernel)]; exact ⟨rfl, rfl⟩))
    (fun os started H enc _ => liftd18 os started H enc)
end Go.Proofs.Ks
namespace Go.Proofs.Ytdlflcambboojaa
theorem clockProves_proved : Rows.ClockProvesSaid := Go.Proofs.Ks.row18
end Go.Proofs.Ytdlflcambboojaa
