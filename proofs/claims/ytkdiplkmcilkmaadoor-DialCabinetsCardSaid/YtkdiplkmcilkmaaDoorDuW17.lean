/-
  DialCabinetsCardSaid: the row and the card. No conditions.
-/
import Derived.Test.YtkdiplkmcilkmaaDoorDbb
import Derived.Test.YtkdiplkmcilkmaaDoorDvO
set_option linter.unusedVariables false
set_option linter.unusedSimpArgs false
set_option maxRecDepth 100000
namespace Go.Proofs.Ds
open Go Go.Pg Go.Proofs Go.ChangeShapes Go.WideShapes Go.ChangeAt Go.RowKit
open Go.Proofs.YtkdiplkmcilkmaaDoor
theorem lifted17 (os : Os) (started : os.Started) (H : Type) (enc : TypeId × Value → H) :
    ReturnsInHanded {} Tryd.checked os 17 .any (fun w args => (Rows.dialCabinetsSpec.pre enc Tryd.prog Tryd.f17 [] false w args ∧ laidMetH Tryd.prog laid3 w) ∧ sizedMet enc Tryd.prog Tryd.f17 (OpenSpec.ofChange Rows.dialCabinetsSpec) false w args)
      (Rows.dialCabinetsSpec.post enc Tryd.prog Tryd.f17 false true false false) := by
  refine returnsInHanded_of_change_and (C := Tryd.checked) (X := fun w _ => laidMetH Tryd.prog laid3 w) (fun _ _ _ hh h => h.of_heap hh) own_knob started (by kernel_rfl) Tryd.func17
    (ChangeSpec.witness_shaped (enc := enc) (C := Tryd.checked) (os := os) (X := fun w _ => laidMetH Tryd.prog laid3 w) false (World.doorLaid Tryd.prog 400 os) #[.slice none 0 0, .agg #[.int .i64 0, .int .i64 0, .int .i64 0, .int .i64 0, .int .i64 0], z3, .int .i64 0, .int .i64 0] 8 rfl (World.shaped_of_RefB (by kernel_rfl) (by kernel_rfl)) (by kernel_rfl) (by kernel_rfl) (by kernel_rfl) (door_met os _)) ?_
  intro W base args ds gs before hval0 hW _ _ hL _
  have hval : ∀ (j : Nat) t v, Tryd.f17.params[j]? = some t → args[j]? = some v → Value.okWide Tryd.prog W .any base t v := hval0
  have hW' := hW
  obtain ⟨p, q, hA0, hV, e, hfz, hnd⟩ := hW
  have hA : DataW.TrodAll enc Tryd.prog W 0 (fun _ => true) true Tryd.f17.params.toList args.toList ds p := hA0
  rw [Tryd.params17] at hA hval
  obtain ⟨v0, l0, d0, s0, p0, q0, e0, f0, h0, hA⟩ := trodAll_pop hA
  obtain ⟨v1, l1, d1, s1, p1, q1, e1, f1, h1, hA⟩ := trodAll_pop hA
  obtain ⟨v2, l2, d2, s2, p2, q2, e2, f2, h2, hA⟩ := trodAll_pop hA
  obtain ⟨v3, l3, d3, s3, p3, q3, e3, f3, h3, hA⟩ := trodAll_pop hA
  obtain ⟨v4, l4, d4, s4, p4, q4, e4, f4, h4, hA⟩ := trodAll_pop hA
  have ez := trodAll_end hA
  obtain rfl : args = #[v0, v1, v2, v3, v4] := by rw [← Array.toList_inj]; simp [e0, e1, e2, e3, e4, ez]
  obtain ⟨x0, in0, r0⟩ := arg_keys (hval 0 76 v0 rfl rfl) h0
  obtain ⟨x1, in1, r1⟩ := arg_mark (hval 1 42 v1 rfl rfl) h1
  obtain ⟨x2, in2, r2⟩ := arg_ink (hval 2 48 v2 rfl rfl) h2
  obtain ⟨x3, in3, r3⟩ := arg_int (hval 3 3 v3 rfl rfl) h3
  obtain ⟨x4, in4, r4⟩ := arg_int (hval 4 3 v4 rfl rfl) h4
  refine (run_true (law17_ok sanity_ok x0 x1 x2 x3 x4) (tabs_of hL) rfl ⟨⟨v0, rfl, r0⟩, ⟨v1, rfl, r1⟩, ⟨v2, rfl, r2⟩, ⟨v3, rfl, r3⟩, ⟨v4, rfl, r4⟩, trivial⟩).mono ?_
  rintro e W' ⟨rfl, hb⟩
  refine ⟨_, rfl, law_post rfl (by kernel_rfl) (by kernel_rfl) (fun ds hds => ?_) hW' hb⟩
  rw [Tryd.params17] at hds
  match ds, hds with
  | [_, _, _, _, _], _ => rfl
theorem row17 : Rows.DialCabinetsSaid :=
  OpenClaim.holds_of_wide 17 Tryd.f17 rfl rfl rfl rfl rfl rfl rfl ⟨rfl, rfl, rfl, rfl, rfl⟩ rfl rfl rfl rfl rfl (by kernel_rfl) Tryd.func17 (by kernel_rfl)
    (of_decide_eq_true (by kernel_rfl)) (by unfold Func.isWrapper; first | (rw [if_pos (by decide +kernel)]; kernel_rfl) | (rw [if_neg (by decide +kernel)]; exact ⟨rfl, rfl⟩))
    (fun os started H enc _ => lifted17 os started H enc)
theorem card17 : Rows.DialCabinetsCardSaid :=
  Claim7.holds_tied_plain_at .later [] [.data, .data, .data] true (true, "361d8b20da6ee4fe2b2f4ccc1f82ebd99e86086e9cb1cc233313035315c0b10f") false
    row17 (fun _ h => by cases h) (by kernel_rfl) (fun _ h => by cases h) dialCabinets_row_tie rfl ⟨rfl, rfl⟩ (by kernel_rfl) rfl
    (fun f fn hf hfn => by
      obtain rfl : f = 17 := Option.some.inj ((show Tryd.prog.funcNamed "patrol/patrollaw01.DialCabinets" = some 17 by kernel_rfl).symm.trans hf) |>.symm
      obtain rfl : fn = Tryd.f17 := (Option.some.inj (Tryd.func17.symm.trans hfn)).symm
      exact ⟨by kernel_rfl, fun j t ht => by
        rw [Tryd.params17] at ht
        have hall : ∀ t ∈ [76, 42, 48, 3, 3], Tryd.prog.wantsStandIn t = false := by
          intro t ht
          have := List.all_eq_true.1 (show ([76, 42, 48, 3, 3].all fun t => !Tryd.prog.wantsStandIn t) = true by kernel_rfl) t ht
          simpa using this
        exact hall t (List.mem_of_getElem? (by simpa using ht))⟩)
    (by kernel_rfl)
end Go.Proofs.Ds
namespace Go.Proofs.YtkdiplkmcilkmaaDoor
theorem dialCabinets_proved : Rows.DialCabinetsCardSaid := Go.Proofs.Ds.card17
end Go.Proofs.YtkdiplkmcilkmaaDoor
