/-
  TopTrueWalksAreNotRefuted: the row and the card. No conditions.
-/
import Derived.Test.YtmcchoalekmklaaGreatZaw
import Derived.Test.YtmcchoalekmklaaGreatZba
import Derived.Test.YtmcchoalekmklaaGreatZbh
import Derived.Test.YtmcchoalekmklaaGreatZbl
set_option linter.unusedVariables false
set_option linter.unusedSimpArgs false
set_option maxRecDepth 100000
namespace Go.Proofs.Yt
open Go Go.Pg Go.Proofs Go.ChangeShapes Go.WideShapes Go.ChangeAt Go.RowKit
open Go.Proofs.Ks (run_true law_post own_knob laid0 laid0_met door_met trodAll_pop trodAll_end)
open Go.Proofs.YtmcchoalekmklaaGreat
theorem lifted3 (os : Os) (started : os.Started) (H : Type) (enc : TypeId × Value → H) :
    ReturnsInHanded {} Tryz.checked os 3 .any (fun w args => (Rows.topTrueWalksAreNotRefutedSpec.pre enc Tryz.prog Tryz.f3 [] false w args ∧ laidMetH Tryz.prog laid0 w) ∧ sizedMet enc Tryz.prog Tryz.f3 (OpenSpec.ofChange Rows.topTrueWalksAreNotRefutedSpec) false w args)
      (Rows.topTrueWalksAreNotRefutedSpec.post enc Tryz.prog Tryz.f3 false true false false) := by
  refine returnsInHanded_of_change_and (C := Tryz.checked) (X := fun w _ => laidMetH Tryz.prog laid0 w) (fun _ _ _ hh h => h.of_heap hh) own_knob started (by kernel_rfl) Tryz.func3
    (ChangeSpec.witness_shaped (enc := enc) (C := Tryz.checked) (os := os) (X := fun w _ => laidMetH Tryz.prog laid0 w) false (World.doorLaid Tryz.prog 400 os) #[.agg #[.slice none 0 0, .slice none 0 0, .slice none 0 0], .int .i64 0, .int .i64 0, .slice none 0 0, .agg #[.int .i64 0, .int .i64 0, .int .i64 0, .int .i64 0, .int .i64 0, .int .i64 0, .int .i64 0, .int .i64 0, .int .i64 0, .int .i64 0, .int .i64 0, .slice none 0 0], .agg #[.int .i64 0, .int .i64 0, .slice none 0 0], .slice none 0 0, .agg #[.int .i64 0, .int .i64 0, .int .i64 0], .slice none 0 0, .slice none 0 0] 8 rfl (World.shaped_of_RefB (by kernel_rfl) (by kernel_rfl)) (by kernel_rfl) (by kernel_rfl) (by kernel_rfl) (door_met os _)) ?_
  intro W base args ds gs before hval0 hW _ _ hL _
  have hval : ∀ (j : Nat) t v, Tryz.f3.params[j]? = some t → args[j]? = some v → Value.okWide Tryz.prog W .any base t v := hval0
  have hW' := hW
  obtain ⟨p, q, hA0, hV, e, hfz, hnd⟩ := hW
  have hA : DataW.TrodAll enc Tryz.prog W 0 (fun _ => true) true Tryz.f3.params.toList args.toList ds p := hA0
  rw [Tryz.params3] at hA hval
  obtain ⟨v0, l0, d0, s0, p0, q0, e0, f0, h0, hA⟩ := trodAll_pop hA
  obtain ⟨v1, l1, d1, s1, p1, q1, e1, f1, h1, hA⟩ := trodAll_pop hA
  obtain ⟨v2, l2, d2, s2, p2, q2, e2, f2, h2, hA⟩ := trodAll_pop hA
  obtain ⟨v3, l3, d3, s3, p3, q3, e3, f3, h3, hA⟩ := trodAll_pop hA
  obtain ⟨v4, l4, d4, s4, p4, q4, e4, f4, h4, hA⟩ := trodAll_pop hA
  obtain ⟨v5, l5, d5, s5, p5, q5, e5, f5, h5, hA⟩ := trodAll_pop hA
  obtain ⟨v6, l6, d6, s6, p6, q6, e6, f6, h6, hA⟩ := trodAll_pop hA
  obtain ⟨v7, l7, d7, s7, p7, q7, e7, f7, h7, hA⟩ := trodAll_pop hA
  obtain ⟨v8, l8, d8, s8, p8, q8, e8, f8, h8, hA⟩ := trodAll_pop hA
  obtain ⟨v9, l9, d9, s9, p9, q9, e9, f9, h9, hA⟩ := trodAll_pop hA
  have ez := trodAll_end hA
  obtain rfl : args = #[v0, v1, v2, v3, v4, v5, v6, v7, v8, v9] := by rw [← Array.toList_inj]; simp [e0, e1, e2, e3, e4, e5, e6, e7, e8, e9, ez]
  obtain ⟨x0, in0, r0⟩ := Hs.arg_house (hval 0 26 v0 rfl rfl) h0
  obtain ⟨x1, in1, r1⟩ := Ks.arg_int (hval 1 3 v1 rfl rfl) h1
  obtain ⟨x2, in2, r2⟩ := Ks.arg_int (hval 2 3 v2 rfl rfl) h2
  obtain ⟨x3, in3, r3⟩ := Hs.arg_steps (hval 3 27 v3 rfl rfl) h3
  obtain ⟨x4, in4, r4⟩ := Ks.arg_session (hval 4 32 v4 rfl rfl) h4
  obtain ⟨x5, in5, r5⟩ := Ks.arg_run (hval 5 35 v5 rfl rfl) h5
  obtain ⟨x6, in6, r6⟩ := Ds.arg_keys (hval 6 36 v6 rfl rfl) h6
  obtain ⟨x7, in7, r7⟩ := Ds.arg_ink (hval 7 38 v7 rfl rfl) h7
  obtain ⟨x8, in8, r8⟩ := arg_hits (hval 8 39 v8 rfl rfl) h8
  obtain ⟨x9, in9, _, r9⟩ := Ks.arg_ints (hval 9 40 v9 rfl rfl) h9
  refine (run_true (law3_ok x0 x1 x2 x3 x4 x5 x6 x7 x8 x9 in0.names in0.doors) trivial rfl ⟨⟨v0, rfl, r0⟩, ⟨v1, rfl, r1⟩, ⟨v2, rfl, r2⟩, ⟨v3, rfl, r3⟩, ⟨v4, rfl, r4⟩, ⟨v5, rfl, r5⟩, ⟨v6, rfl, r6⟩, ⟨v7, rfl, r7⟩, ⟨v8, rfl, r8⟩, ⟨v9, rfl, r9⟩, trivial⟩).mono ?_
  rintro e W' ⟨rfl, hb⟩
  refine ⟨_, rfl, law_post rfl (by kernel_rfl) (by kernel_rfl) (fun ds hds => ?_) hW' hb⟩
  rw [Tryz.params3] at hds
  match ds, hds with
  | [_, _, _, _, _, _, _, _, _, _], _ => rfl
theorem liftd3 (os : Os) (started : os.Started) (H : Type) (enc : TypeId × Value → H) :
    ReturnsInHanded {} Tryz.checked os 3 .any (fun w args => Rows.topTrueWalksAreNotRefutedSpec.pre enc Tryz.prog Tryz.f3 [] false w args ∧ sizedMet enc Tryz.prog Tryz.f3 (OpenSpec.ofChange Rows.topTrueWalksAreNotRefutedSpec) false w args)
      (Rows.topTrueWalksAreNotRefutedSpec.post enc Tryz.prog Tryz.f3 false true false false) := by
  have h := lifted3 os started H enc
  simp only [laid0_met, and_true] at h
  exact h
theorem row3 : Rows.TopTrueWalksAreNotRefutedSaid :=
  OpenClaim.holds_of_wide 3 Tryz.f3 rfl rfl rfl rfl rfl rfl rfl ⟨rfl, rfl, rfl, rfl, rfl⟩ rfl rfl rfl rfl rfl (by kernel_rfl) Tryz.func3 (by kernel_rfl)
    (of_decide_eq_true (by kernel_rfl)) (by unfold Func.isWrapper; first | (rw [if_pos (by decide +kernel)]; kernel_rfl) | (rw [if_neg (by decide +kernel)]; exact ⟨rfl, rfl⟩))
    (fun os started H enc _ => liftd3 os started H enc)
end Go.Proofs.Yt
namespace Go.Proofs.YtmcchoalekmklaaGreat
theorem topTrueWalksAreNotRefuted_proved : Rows.TopTrueWalksAreNotRefutedSaid := Go.Proofs.Yt.row3
end Go.Proofs.YtmcchoalekmklaaGreat
