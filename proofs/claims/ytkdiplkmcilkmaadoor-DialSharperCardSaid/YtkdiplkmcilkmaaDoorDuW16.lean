/-
  DialSharperCardSaid: the row and the card. No conditions.
-/
import Derived.Test.YtkdiplkmcilkmaaDoorDbb
import Derived.Test.YtkdiplkmcilkmaaDoorDvN
set_option linter.unusedVariables false
set_option linter.unusedSimpArgs false
set_option maxRecDepth 100000
namespace Go.Proofs.Ds
open Go Go.Pg Go.Proofs Go.ChangeShapes Go.WideShapes Go.ChangeAt Go.RowKit
open Go.Proofs.YtkdiplkmcilkmaaDoor
theorem lifted16 (os : Os) (started : os.Started) (H : Type) (enc : TypeId × Value → H) :
    ReturnsInHanded {} Tryd.checked os 16 .any (fun w args => (Rows.dialSharperSpec.pre enc Tryd.prog Tryd.f16 [] false w args ∧ laidMetH Tryd.prog laid3 w) ∧ sizedMet enc Tryd.prog Tryd.f16 (OpenSpec.ofChange Rows.dialSharperSpec) false w args)
      (Rows.dialSharperSpec.post enc Tryd.prog Tryd.f16 false true false false) := by
  refine returnsInHanded_of_change_and (C := Tryd.checked) (X := fun w _ => laidMetH Tryd.prog laid3 w) (fun _ _ _ hh h => h.of_heap hh) own_knob started (by kernel_rfl) Tryd.func16
    (ChangeSpec.witness_shaped (enc := enc) (C := Tryd.checked) (os := os) (X := fun w _ => laidMetH Tryd.prog laid3 w) false (World.doorLaid Tryd.prog 400 os) #[.slice none 0 0, .agg #[.int .i64 0, .int .i64 0, .int .i64 0, .int .i64 0, .int .i64 0], .agg #[.int .i64 0, .int .i64 0, .int .i64 0, .int .i64 0, .int .i64 0], z3, .int .i64 0, .int .i64 0] 8 rfl (World.shaped_of_RefB (by kernel_rfl) (by kernel_rfl)) (by kernel_rfl) (by kernel_rfl) (by kernel_rfl) (door_met os _)) ?_
  intro W base args ds gs before hval0 hW _ _ hL _
  have hval : ∀ (j : Nat) t v, Tryd.f16.params[j]? = some t → args[j]? = some v → Value.okWide Tryd.prog W .any base t v := hval0
  have hW' := hW
  obtain ⟨p, q, hA0, hV, e, hfz, hnd⟩ := hW
  have hA : DataW.TrodAll enc Tryd.prog W 0 (fun _ => true) true Tryd.f16.params.toList args.toList ds p := hA0
  rw [Tryd.params16] at hA hval
  obtain ⟨v0, l0, d0, s0, p0, q0, e0, f0, h0, hA⟩ := trodAll_pop hA
  obtain ⟨v1, l1, d1, s1, p1, q1, e1, f1, h1, hA⟩ := trodAll_pop hA
  obtain ⟨v2, l2, d2, s2, p2, q2, e2, f2, h2, hA⟩ := trodAll_pop hA
  obtain ⟨v3, l3, d3, s3, p3, q3, e3, f3, h3, hA⟩ := trodAll_pop hA
  obtain ⟨v4, l4, d4, s4, p4, q4, e4, f4, h4, hA⟩ := trodAll_pop hA
  obtain ⟨v5, l5, d5, s5, p5, q5, e5, f5, h5, hA⟩ := trodAll_pop hA
  have ez := trodAll_end hA
  obtain rfl : args = #[v0, v1, v2, v3, v4, v5] := by rw [← Array.toList_inj]; simp [e0, e1, e2, e3, e4, e5, ez]
  obtain ⟨x0, in0, r0⟩ := arg_keys (hval 0 76 v0 rfl rfl) h0
  obtain ⟨x1, in1, r1⟩ := arg_mark (hval 1 42 v1 rfl rfl) h1
  obtain ⟨x2, in2, r2⟩ := arg_mark (hval 2 42 v2 rfl rfl) h2
  obtain ⟨x3, in3, r3⟩ := arg_ink (hval 3 48 v3 rfl rfl) h3
  obtain ⟨x4, in4, r4⟩ := arg_int (hval 4 3 v4 rfl rfl) h4
  obtain ⟨x5, in5, r5⟩ := arg_int (hval 5 3 v5 rfl rfl) h5
  refine (run_true (law16_ok sanity_ok sort130_0 x0 x1 x2 x3 x4 x5) (tabs_of hL) rfl ⟨⟨v0, rfl, r0⟩, ⟨v1, rfl, r1⟩, ⟨v2, rfl, r2⟩, ⟨v3, rfl, r3⟩, ⟨v4, rfl, r4⟩, ⟨v5, rfl, r5⟩, trivial⟩).mono ?_
  rintro e W' ⟨rfl, hb⟩
  refine ⟨_, rfl, law_post rfl (by kernel_rfl) (by kernel_rfl) (fun ds hds => ?_) hW' hb⟩
  rw [Tryd.params16] at hds
  match ds, hds with
  | [_, _, _, _, _, _], _ => rfl
theorem row16 : Rows.DialSharperSaid :=
  OpenClaim.holds_of_wide 16 Tryd.f16 rfl rfl rfl rfl rfl rfl rfl ⟨rfl, rfl, rfl, rfl, rfl⟩ rfl rfl rfl rfl rfl (by kernel_rfl) Tryd.func16 (by kernel_rfl)
    (of_decide_eq_true (by kernel_rfl)) (by unfold Func.isWrapper; first | (rw [if_pos (by decide +kernel)]; kernel_rfl) | (rw [if_neg (by decide +kernel)]; exact ⟨rfl, rfl⟩))
    (fun os started H enc _ => lifted16 os started H enc)
theorem card16 : Rows.DialSharperCardSaid :=
  Claim7.holds_tied_plain_at .later [] [.data, .data, .data] true (true, "361d8b20da6ee4fe2b2f4ccc1f82ebd99e86086e9cb1cc233313035315c0b10f") false
    row16 (fun _ h => by cases h) (by kernel_rfl) (fun _ h => by cases h) dialSharper_row_tie rfl ⟨rfl, rfl⟩ (by kernel_rfl) rfl
    (fun f fn hf hfn => by
      obtain rfl : f = 16 := Option.some.inj ((show Tryd.prog.funcNamed "patrol/patrollaw01.DialSharper" = some 16 by kernel_rfl).symm.trans hf) |>.symm
      obtain rfl : fn = Tryd.f16 := (Option.some.inj (Tryd.func16.symm.trans hfn)).symm
      exact ⟨by kernel_rfl, fun j t ht => by
        rw [Tryd.params16] at ht
        have hall : ∀ t ∈ [76, 42, 42, 48, 3, 3], Tryd.prog.wantsStandIn t = false := by
          intro t ht
          have := List.all_eq_true.1 (show ([76, 42, 42, 48, 3, 3].all fun t => !Tryd.prog.wantsStandIn t) = true by kernel_rfl) t ht
          simpa using this
        exact hall t (List.mem_of_getElem? (by simpa using ht))⟩)
    (by kernel_rfl)
end Go.Proofs.Ds
namespace Go.Proofs.YtkdiplkmcilkmaaDoor
theorem dialSharper_proved : Rows.DialSharperCardSaid := Go.Proofs.Ds.card16
end Go.Proofs.YtkdiplkmcilkmaaDoor
