/-
  DialUnreadCardSaid: the row and the card. No conditions.
-/
import Derived.Test.YtkdiplkmcilkmaaGreatDoorYba
import Derived.Test.YtkdiplkmcilkmaaGreatDoorUEvF
set_option linter.unusedVariables false
set_option linter.unusedSimpArgs false
set_option maxRecDepth 100000
namespace Go.Proofs.Dz
open Go Go.Pg Go.Proofs Go.Proofs.Ds Go.ChangeShapes Go.WideShapes Go.ChangeAt Go.RowKit
open Go.Proofs.YtkdiplkmcilkmaaGreatDoor
theorem lifted4 (os : Os) (started : os.Started) (H : Type) (enc : TypeId × Value → H) :
    ReturnsInHanded {} Tryz.checked os 4 .any (fun w args => (Rows.dialUnreadSpec.pre enc Tryz.prog Tryz.f4 [] false w args ∧ laidMetH Tryz.prog laid3 w) ∧ sizedMet enc Tryz.prog Tryz.f4 (OpenSpec.ofChange Rows.dialUnreadSpec) false w args)
      (Rows.dialUnreadSpec.post enc Tryz.prog Tryz.f4 false true false false) := by
  refine returnsInHanded_of_change_and (C := Tryz.checked) (X := fun w _ => laidMetH Tryz.prog laid3 w) (fun _ _ _ hh h => h.of_heap hh) own_knob started (by kernel_rfl) Tryz.func4
    (ChangeSpec.witness_shaped (enc := enc) (C := Tryz.checked) (os := os) (X := fun w _ => laidMetH Tryz.prog laid3 w) false (World.doorLaid Tryz.prog 400 os) #[.slice none 0 0, .slice none 0 0, z3] 8 rfl (World.shaped_of_RefB (by kernel_rfl) (by kernel_rfl)) (by kernel_rfl) (by kernel_rfl) (by kernel_rfl) (door_met os _)) ?_
  intro W base args ds gs before hval0 hW _ _ hL _
  have hval : ∀ (j : Nat) t v, Tryz.f4.params[j]? = some t → args[j]? = some v → Value.okWide Tryz.prog W .any base t v := hval0
  have hW' := hW
  obtain ⟨p, q, hA0, hV, e, hfz, hnd⟩ := hW
  have hA : DataW.TrodAll enc Tryz.prog W 0 (fun _ => true) true Tryz.f4.params.toList args.toList ds p := hA0
  rw [Tryz.params4] at hA hval
  obtain ⟨v0, l0, d0, s0, p0, q0, e0, f0, h0, hA⟩ := trodAll_pop hA
  obtain ⟨v1, l1, d1, s1, p1, q1, e1, f1, h1, hA⟩ := trodAll_pop hA
  obtain ⟨v2, l2, d2, s2, p2, q2, e2, f2, h2, hA⟩ := trodAll_pop hA
  have ez := trodAll_end hA
  obtain rfl : args = #[v0, v1, v2] := by rw [← Array.toList_inj]; simp [e0, e1, e2, ez]
  obtain ⟨x0, in0, r0⟩ := arg_keys (hval 0 22 v0 rfl rfl) h0
  obtain ⟨x1, in1, r1⟩ := arg_marks (hval 1 51 v1 rfl rfl) h1
  obtain ⟨x2, in2, r2⟩ := arg_ink (hval 2 30 v2 rfl rfl) h2
  refine (run_true (law4_ok sanity_ok x0 x1 x2) (tabs_of hL) rfl ⟨⟨v0, rfl, r0⟩, ⟨v1, rfl, r1⟩, ⟨v2, rfl, r2⟩, trivial⟩).mono ?_
  rintro e W' ⟨rfl, hb⟩
  refine ⟨_, rfl, law_post rfl (by kernel_rfl) (by kernel_rfl) (fun ds hds => ?_) hW' hb⟩
  rw [Tryz.params4] at hds
  match ds, hds with
  | [_, _, _], _ => rfl
theorem row4 : Rows.DialUnreadSaid :=
  OpenClaim.holds_of_wide 4 Tryz.f4 rfl rfl rfl rfl rfl rfl rfl ⟨rfl, rfl, rfl, rfl, rfl⟩ rfl rfl rfl rfl rfl (by kernel_rfl) Tryz.func4 (by kernel_rfl)
    (of_decide_eq_true (by kernel_rfl)) (by unfold Func.isWrapper; first | (rw [if_pos (by decide +kernel)]; kernel_rfl) | (rw [if_neg (by decide +kernel)]; exact ⟨rfl, rfl⟩))
    (fun os started H enc _ => lifted4 os started H enc)
theorem card4 : Rows.DialUnreadCardSaid :=
  Claim7.holds_tied_plain_at .later [] [.data, .data, .data] true (true, "8a07cd88e9b98759b0e02e993bd3472d129c76626b6c29ae5629b088b038583d") true
    row4 (fun _ h => by cases h) (by kernel_rfl) (fun _ h => by cases h) dialUnread_row_tie rfl ⟨rfl, rfl⟩ (by kernel_rfl) rfl
    (fun f fn hf hfn => by
      obtain rfl : f = 4 := Option.some.inj ((show Tryz.prog.funcNamed "patrol/patrollaw01.DialUnread" = some 4 by kernel_rfl).symm.trans hf) |>.symm
      obtain rfl : fn = Tryz.f4 := (Option.some.inj (Tryz.func4.symm.trans hfn)).symm
      exact ⟨by kernel_rfl, fun j t ht => by
        rw [Tryz.params4] at ht
        have hall : ∀ t ∈ [22, 51, 30], Tryz.prog.wantsStandIn t = false := by
          intro t ht
          have := List.all_eq_true.1 (show ([22, 51, 30].all fun t => !Tryz.prog.wantsStandIn t) = true by kernel_rfl) t ht
          simpa using this
        exact hall t (List.mem_of_getElem? (by simpa using ht))⟩)
    (by kernel_rfl)
end Go.Proofs.Dz
namespace Go.Proofs.YtkdiplkmcilkmaaGreatDoor
theorem dialUnread_proved : Rows.DialUnreadCardSaid := Go.Proofs.Dz.card4
end Go.Proofs.YtkdiplkmcilkmaaGreatDoor
