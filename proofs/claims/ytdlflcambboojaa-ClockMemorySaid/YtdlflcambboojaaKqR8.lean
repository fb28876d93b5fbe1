/-
  Contracts of functions, proved by going through their code. No conditions.
-/
import Derived.Test.YtdlflcambboojaaVaa
import Derived.Test.YtdlflcambboojaaVbf
import Derived.Test.YtdlflcambboojaaN8KqC
set_option linter.unusedVariables false
set_option linter.unusedSimpArgs false
set_option maxRecDepth 100000
namespace Go.Proofs.Ks
open Go Go.Pg Go.Proofs Go.ChangeShapes Go.WideShapes Go.ChangeAt Go.RowKit
open Go.Proofs.Ytdlflcambboojaa
theorem lifted8 (os : Os) (started : os.Started) (H : Type) (enc : TypeId × Value → H) :
    ReturnsInHanded {} Try.checked os 8 .any (fun w args => (Rows.clockMemorySpec.pre enc Try.prog Try.f8 [] false w args ∧ laidMetH Try.prog laid0 w) ∧ sizedMet enc Try.prog Try.f8 (OpenSpec.ofChange Rows.clockMemorySpec) false w args)
      (Rows.clockMemorySpec.post enc Try.prog Try.f8 false true false false) := by
  refine returnsInHanded_of_change_and (C := Try.checked) (X := fun w _ => laidMetH Try.prog laid0 w) (fun _ _ _ hh h => h.of_heap hh) own_knob started (by kernel_rfl) Try.func8
    (ChangeSpec.witness_shaped (enc := enc) (C := Try.checked) (os := os) (X := fun w _ => laidMetH Try.prog laid0 w) false (World.doorLaid Try.prog 400 os) #[.agg #[.int .i64 0, .int .i64 0, .int .i64 0, .int .i64 0, .int .i64 0, .int .i64 0, .int .i64 0, .int .i64 0, .int .i64 0, .int .i64 0, .int .i64 0, .slice none 0 0, .slice none 0 0, .slice none 0 0], .slice none 0 0] 8 rfl (World.shaped_of_RefB (by kernel_rfl) (by kernel_rfl)) (by kernel_rfl) (by kernel_rfl) (by kernel_rfl) (door_met os _)) ?_
  intro W base args ds gs before hval0 hW _ _ hL _
  have hval : ∀ (j : Nat) t v, Try.f8.params[j]? = some t → args[j]? = some v → Value.okWide Try.prog W .any base t v := hval0
  have hW' := hW
  obtain ⟨p, q, hA0, hV, e, hfz, hnd⟩ := hW
  have hA : DataW.TrodAll enc Try.prog W 0 (fun _ => true) true Try.f8.params.toList args.toList ds p := hA0
  rw [Try.params8] at hA hval
  obtain ⟨v0, l0, d0, s0, p0, q0, e0, f0, h0, hA⟩ := trodAll_pop hA
  obtain ⟨v1, l1, d1, s1, p1, q1, e1, f1, h1, hA⟩ := trodAll_pop hA
  have ez := trodAll_end hA
  obtain rfl : args = #[v0, v1] := by rw [← Array.toList_inj]; simp [e0, e1, ez]
  obtain ⟨x0, in0, r0⟩ := arg_rec (hval 0 30 v0 rfl rfl) h0
  obtain ⟨x1, in1, _, r1⟩ := arg_ints (hval 1 41 v1 rfl rfl) h1
  refine (run_true (law8_ok x0 x1) trivial rfl ⟨⟨v0, rfl, r0⟩, ⟨v1, rfl, r1⟩, trivial⟩).mono ?_
  rintro e W' ⟨rfl, hb⟩
  refine ⟨_, rfl, law_post rfl (by kernel_rfl) (by kernel_rfl) (fun ds hds => ?_) hW' hb⟩
  rw [Try.params8] at hds
  match ds, hds with
  | [_, _], _ => rfl
theorem liftd8 (os : Os) (started : os.Started) (H : Type) (enc : TypeId × Value → H) :
    ReturnsInHanded {} Try.checked os 8 .any (fun w args => Rows.clockMemorySpec.pre enc Try.prog Try.f8 [] false w args ∧ sizedMet enc Try.prog Try.f8 (OpenSpec.ofChange Rows.clockMemorySpec) false w args)
      (Rows.clockMemorySpec.post enc Try.prog Try.f8 false true false false) := by
  have h := lifted8 os started H enc
  simp only [laid0_met, zS] at h
  exact h
theorem row8 : Rows.ClockMemorySaid :=
  OpenClaim.holds_of_wide 8 Try.f8 rfl rfl rfl rfl rfl rfl rfl ⟨rfl, rfl, rfl, rfl, rfl⟩ rfl rfl rfl rfl rfl (by kernel_rfl) Try.func8 (by kernel_rfl)
    (of_decide_eq_true (by kernel_rfl)) (by unfold Func.isWrapper; first | (rw [if_pos (by decide +kernel)]; kernel_rfl) | (rw [if_neg (by decide +kernel)]; exact ⟨rfl, rfl⟩))
    (fun os started H enc _ => liftd8 os started H enc)
end Go.Proofs.Ks
namespace Go.Proofs.Ytdlflcambboojaa
theorem clockMemory_proved : Rows.ClockMemorySaid := Go.Proofs.Ks.row8
end Go.Proofs.Ytdlflcambboojaa
