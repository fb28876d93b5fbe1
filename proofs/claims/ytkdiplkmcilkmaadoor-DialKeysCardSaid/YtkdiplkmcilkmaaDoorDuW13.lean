/-
  DialKeysCardSaid: the row and the card. No conditions.
-/
import Derived.Test.YtkdiplkmcilkmaaDoorDbb
import Derived.Test.YtkdiplkmcilkmaaDoorDvK
set_option linter.unusedVariables false
set_option linter.unusedSimpArgs false
set_option maxRecDepth 100000
namespace Go.Proofs.Ds
open Go Go.Pg Go.Proofs Go.ChangeShapes Go.WideShapes Go.ChangeAt Go.RowKit
open Go.Proofs.YtkdiplkmcilkmaaDoor
theorem lifted13 (os : Os) (started : os.Started) (H : Type) (enc : TypeId × Value → H) :
    ReturnsInHanded {} Tryd.checked os 13 .any (fun w args => (Rows.dialKeysSpec.pre enc Tryd.prog Tryd.f13 [] false w args ∧ laidMetH Tryd.prog laid3 w) ∧ sizedMet enc Tryd.prog Tryd.f13 (OpenSpec.ofChange Rows.dialKeysSpec) false w args)
      (Rows.dialKeysSpec.post enc Tryd.prog Tryd.f13 false true false false) := by
  refine returnsInHanded_of_change_and (C := Tryd.checked) (X := fun w _ => laidMetH Tryd.prog laid3 w) (fun _ _ _ hh h => h.of_heap hh) own_knob started (by kernel_rfl) Tryd.func13
    (ChangeSpec.witness_shaped (enc := enc) (C := Tryd.checked) (os := os) (X := fun w _ => laidMetH Tryd.prog laid3 w) false (World.doorLaid Tryd.prog 400 os) #[.slice none 0 0, z3] 8 rfl (World.shaped_of_RefB (by kernel_rfl) (by kernel_rfl)) (by kernel_rfl) (by kernel_rfl) (by kernel_rfl) (door_met os _)) ?_
  intro W base args ds gs before hval0 hW _ _ hL _
  have hval : ∀ (j : Nat) t v, Tryd.f13.params[j]? = some t → args[j]? = some v → Value.okWide Tryd.prog W .any base t v := hval0
  have hW' := hW
  obtain ⟨p, q, hA0, hV, e, hfz, hnd⟩ := hW
  have hA : DataW.TrodAll enc Tryd.prog W 0 (fun _ => true) true Tryd.f13.params.toList args.toList ds p := hA0
  rw [Tryd.params13] at hA hval
  obtain ⟨v0, l0, d0, s0, p0, q0, e0, f0, h0, hA⟩ := trodAll_pop hA
  obtain ⟨v1, l1, d1, s1, p1, q1, e1, f1, h1, hA⟩ := trodAll_pop hA
  have ez := trodAll_end hA
  obtain rfl : args = #[v0, v1] := by rw [← Array.toList_inj]; simp [e0, e1, ez]
  obtain ⟨x0, in0, r0⟩ := arg_keys (hval 0 76 v0 rfl rfl) h0
  obtain ⟨x1, in1, r1⟩ := arg_ink (hval 1 48 v1 rfl rfl) h1
  refine (run_true (law13_ok sanity_ok x0 x1) (tabs_of hL) rfl ⟨⟨v0, rfl, r0⟩, ⟨v1, rfl, r1⟩, trivial⟩).mono ?_
  rintro e W' ⟨rfl, hb⟩
  refine ⟨_, rfl, law_post rfl (by kernel_rfl) (by kernel_rfl) (fun ds hds => ?_) hW' hb⟩
  rw [Tryd.params13] at hds
  match ds, hds with
  | [_, _], _ => rfl
theorem row13 : Rows.DialKeysSaid :=
  OpenClaim.holds_of_wide 13 Tryd.f13 rfl rfl rfl rfl rfl rfl rfl ⟨rfl, rfl, rfl, rfl, rfl⟩ rfl rfl rfl rfl rfl (by kernel_rfl) Tryd.func13 (by kernel_rfl)
    (of_decide_eq_true (by kernel_rfl)) (by unfold Func.isWrapper; first | (rw [if_pos (by decide +kernel)]; kernel_rfl) | (rw [if_neg (by decide +kernel)]; exact ⟨rfl, rfl⟩))
    (fun os started H enc _ => lifted13 os started H enc)
theorem card13 : Rows.DialKeysCardSaid :=
  Claim7.holds_tied_plain_at .later [] [.data, .data, .data] true (true, "361d8b20da6ee4fe2b2f4ccc1f82ebd99e86086e9cb1cc233313035315c0b10f") false
    row13 (fun _ h => by cases h) (by kernel_rfl) (fun _ h => by cases h) dialKeys_row_tie rfl ⟨rfl, rfl⟩ (by kernel_rfl) rfl
    (fun f fn hf hfn => by
      obtain rfl : f = 13 := Option.some.inj ((show Tryd.prog.funcNamed "patrol/patrollaw01.DialKeys" = some 13 by kernel_rfl).symm.trans hf) |>.symm
      obtain rfl : fn = Tryd.f13 := (Option.some.inj (Tryd.func13.symm.trans hfn)).symm
      exact ⟨by kernel_rfl, fun j t ht => by
        rw [Tryd.params13] at ht
        have hall : ∀ t ∈ [76, 48], Tryd.prog.wantsStandIn t = false := by
          intro t ht
          have := List.all_eq_true.1 (show ([76, 48].all fun t => !Tryd.prog.wantsStandIn t) = true by kernel_rfl) t ht
          simpa using this
        exact hall t (List.mem_of_getElem? (by simpa using ht))⟩)
    (by kernel_rfl)
end Go.Proofs.Ds
namespace Go.Proofs.YtkdiplkmcilkmaaDoor
theorem dialKeys_proved : Rows.DialKeysCardSaid := Go.Proofs.Ds.card13
end Go.Proofs.YtkdiplkmcilkmaaDoor
