/-
  Contracts of functions, proved by going through their code. No conditions.
-/
import Derived.Test.YtkdiplkmcilkmaaGreatDoorTay
set_option linter.unusedVariables false
set_option linter.unusedSimpArgs false
set_option maxRecDepth 100000
set_option maxHeartbeats 4000000
namespace Go.Proofs.Dz
open Go Go.Pg Go.Proofs Go.Proofs.Ds Go.RowKit
theorem str_walk0 (b : Nat) (w : World) (c1' : w.cell? ⟨b, 1, none⟩ = some (.slice none 0 0)) :
    Calls Tryz.prog 52 #[.pointer (some ⟨b, 0, none⟩)] w fun e w' => e = .returned (.string .empty) ∧ Below w.heap.size w w' := by
  have c1 : w.drew.cell? ⟨b, 1, none⟩ = some (.slice none 0 0) := c1'
  have hSD : (Builtin.unsafeSliceData_ #[84] 118 #[.slice none 0 0]).run Tryz.prog w.drew = .ok (.pointer none) w.drew := Lib.run_unsafeSliceData_nil ..
  have hUS : (Builtin.unsafeString_ #[118, 3] 9 #[.pointer none, .int .i64 0]).run Tryz.prog w.drew = .ok (.string .empty) w.drew := Lib.run_unsafeString_none ..
  have mixed : Tryz.prog.follows .mixedOrders = true := rfl
  go_enter Tryz.func52, Tryz.ntmps52
  go_wp2
  go_region_o
  all_goals (go_wp2; go_ret; exact ⟨rfl, Below.drew (Below.refl _ w)⟩)
theorem string_call0 {H : Nat → Option AO} {id : Nat} (h1 : Pg.rowAt H id = some freshB) {args : List AV} (ha : args = [.ptr id 0 0 1]) :
    ∀ (S0 : Fr) (w0 w : World) (σ : Sg) (vals : Array Value), cx.E w0 → Inv w0.heap.size S0 w H σ → Below w0.heap.size w0 w → vals.size = args.length → RepL σ w args (fun i => vals[i]?) →
      Calls cx.P 52 vals w fun e w' => Below w0.heap.size w0 w' ∧ ∃ v, e = .returned v ∧ Rep (pureSg fun _ => False) w' (at_ ByteArray.empty) v := by
  intro S0 w0 w σ vals hE hi hb hs hr
  subst ha
  obtain ⟨u, rfl, hu⟩ := vals1 hs hr
  obtain ⟨b, arr, rfl, hc, hh, harr, _, _⟩ := ptr_block hi h1 (Nat.zero_le _) hu
  have hR := hi.row id _ (rowAt_eq h1)
  have hcon := hR.con b hc 0 (by simp)
  have e0 : freshB.es[0]'(by simp) = [AV.v (.pointer none), .v (.slice none 0 0)] := rfl
  rw [e0] at hcon
  simp only [RepL, Rep] at hcon
  obtain ⟨_, ⟨v, hv, rfl⟩, _⟩ := hcon
  have hz : ((0 * freshB.k + 0 : Nat)) = 0 := by simp
  rw [hz]
  have hc1 : w.cell? ⟨b, 1, none⟩ = some (.slice none 0 0) := by
    rw [← hv]
  refine (str_walk0 b w hc1).mono ?_
  rintro e w' ⟨rfl, hb'⟩
  exact ⟨hb.trans ⟨hb'.os, hb'.tape, hb'.output, Nat.le_trans (Nat.le_refl _) hb'.size, fun k hk => hb'.block k (Nat.lt_of_lt_of_le hk hb.size)⟩, _, rfl, rfl⟩
end Go.Proofs.Dz
