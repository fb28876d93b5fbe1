/-
  HouseTextsBackCardSaid: the row and the card. No conditions.
-/
import Derived.Test.YtbeiiipphicdlaaGreatDoorTbj
set_option linter.unusedVariables false
set_option linter.unusedSimpArgs false
set_option maxRecDepth 100000
namespace Go.Proofs.Hz
open Go Go.Pg Go.Proofs Go.ChangeShapes Go.WideShapes Go.ChangeAt Go.RowKit
open Go.Proofs.YtbeiiipphicdlaaGreatDoor
theorem lifted4 (os : Os) (started : os.Started) (H : Type) (enc : TypeId × Value → H) :
    ReturnsInHanded {} Tryz.checked os 4 .any (fun w args => (Rows.houseTextsBackSpec.pre enc Tryz.prog Tryz.f4 [] false w args ∧ laidMetH Tryz.prog laid5 w) ∧ sizedMet enc Tryz.prog Tryz.f4 (OpenSpec.ofChange Rows.houseTextsBackSpec) false w args)
      (Rows.houseTextsBackSpec.post enc Tryz.prog Tryz.f4 false true false false) := by
  refine handed_shaped (C := Tryz.checked) (X := fun w _ => laidMetH Tryz.prog laid5 w) (fun _ _ _ hh h => h.of_heap hh) own_knob started (by kernel_rfl) Tryz.func4
    (ChangeSpec.witness_shaped (enc := enc) (C := Tryz.checked) (os := os) (X := fun w _ => laidMetH Tryz.prog laid5 w) false (World.laidAll Tryz.prog os laid5) #[zHouse, .string ByteArray.empty] 8 (World.laidAll_os _ _ _) (shaped5 os) (by kernel_rfl) (by kernel_rfl) (by kernel_rfl) (met5 os _)) ?_
  intro W base args ds gs before hval0 hW hL hsh
  have hval : ∀ (j : Nat) t v, Tryz.f4.params[j]? = some t → args[j]? = some v → Value.okWide Tryz.prog W .any base t v := hval0
  have hW' := hW
  obtain ⟨p, q, hA0, hV, e, hfz, hnd⟩ := hW
  have hA : DataW.TrodAll enc Tryz.prog W 0 (fun _ => true) true Tryz.f4.params.toList args.toList ds p := hA0
  rw [Tryz.params4] at hA hval
  obtain ⟨v0, l0, d0, s0, p0, q0, e0, f0, h0, hA⟩ := trodAll_pop hA
  obtain ⟨v1, l1, d1, s1, p1, q1, e1, f1, h1, hA⟩ := trodAll_pop hA
  have ez := trodAll_end hA
  obtain rfl : args = #[v0, v1] := by rw [← Array.toList_inj]; simp [e0, e1, ez]
  obtain ⟨x0, in0, r0⟩ := arg_house (hval 0 26 v0 rfl rfl) h0
  obtain ⟨x1, in1, r1⟩ := arg_string (hval 1 9 v1 rfl rfl) h1
  refine (run_true5 (law4_ok sanity_ok x0 x1 in0.1) (env_of hL hsh) rfl ⟨⟨v0, rfl, r0⟩, ⟨v1, rfl, r1⟩, trivial⟩).mono ?_
  rintro e W' ⟨rfl, hb⟩
  refine ⟨_, rfl, law_post rfl (by kernel_rfl) (by kernel_rfl) (fun ds hds => ?_) hW' hb⟩
  rw [Tryz.params4] at hds
  match ds, hds with
  | [_, _], _ => rfl
theorem row4 : Rows.HouseTextsBackSaid :=
  OpenClaim.holds_of_wide 4 Tryz.f4 rfl rfl rfl rfl rfl rfl rfl ⟨rfl, rfl, rfl, rfl, rfl⟩ rfl rfl rfl rfl rfl (by kernel_rfl) Tryz.func4 (by kernel_rfl)
    (of_decide_eq_true (by kernel_rfl)) (by unfold Func.isWrapper; first | (rw [if_pos (by decide +kernel)]; kernel_rfl) | (rw [if_neg (by decide +kernel)]; exact ⟨rfl, rfl⟩))
    (fun os started H enc _ => lifted4 os started H enc)
theorem card4 : Rows.HouseTextsBackCardSaid :=
  Claim7.holds_tied_plain_at .later [] [.data, .data, .data, .data, .sentinel, .sentinel, .pinned] true (true, "4372a95b5dc755aa430c109622dd62048ad0b164d7a0b25ce90610fcd98fd0e5") true
    row4 (fun _ h => by cases h) (by kernel_rfl) (fun _ h => by cases h) houseTextsBack_row_tie rfl ⟨rfl, rfl⟩ (by kernel_rfl) rfl
    (fun f fn hf hfn => by
      obtain rfl : f = 4 := Option.some.inj ((show Tryz.prog.funcNamed "patrol/patrollaw03.HouseTextsBack" = some 4 by kernel_rfl).symm.trans hf) |>.symm
      obtain rfl : fn = Tryz.f4 := (Option.some.inj (Tryz.func4.symm.trans hfn)).symm
      exact ⟨by kernel_rfl, fun j t ht => by
        rw [Tryz.params4] at ht
        have hall : ∀ t ∈ [26, 9], Tryz.prog.wantsStandIn t = false := by
          intro t ht
          have := List.all_eq_true.1 (show ([26, 9].all fun t => !Tryz.prog.wantsStandIn t) = true by kernel_rfl) t ht
          simpa using this
        exact hall t (List.mem_of_getElem? (by simpa using ht))⟩)
    (by kernel_rfl)
end Go.Proofs.Hz
namespace Go.Proofs.YtbeiiipphicdlaaGreatDoor
theorem houseTextsBack_proved : Rows.HouseTextsBackCardSaid := Go.Proofs.Hz.card4
end Go.Proofs.YtbeiiipphicdlaaGreatDoor
