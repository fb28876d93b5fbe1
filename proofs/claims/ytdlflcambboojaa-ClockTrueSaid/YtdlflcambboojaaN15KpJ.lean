/-
  Contracts of functions, proved by going through their code. No conditions.
-/
import Derived.Test.YtdlflcambboojaaRaa
import Derived.Test.YtdlflcambboojaaN15KlX
import Derived.Test.YtdlflcambboojaaN15KpI
import Derived.Test.YtdlflcambboojaaN15LwM
set_option linter.unusedVariables false
set_option linter.unusedSimpArgs false
namespace Go.Proofs.Ks
open Go Go.Pg Go.Proofs
theorem playsE_B {s : Session} {x : Run} (h : playsE s x = 0) : RunV x ∧ runE x = 0 ∧ playsB s x = true ∧ s.stops.Pairwise (fun a c => a.pos ≠ c.pos) := by
  unfold playsE at h
  by_cases h1 : checkE ⟨s, [], []⟩ = 0
  · rw [if_pos h1] at h
    by_cases h2 : runE x = 0
    · rw [if_pos h2] at h
      have hx := runE_V h2
      rw [plays_same (stops_apart h1) fun y hy => (leg_bd (hx.legs y hy)).1] at h
      cases hp : playsB s x with
      | true => exact ⟨hx, h2, rfl, stops_apart h1⟩
      | false => rw [hp, if_neg (by decide)] at h; cases h
    · rw [if_neg h2] at h; exact absurd h h2
  · rw [if_neg h1] at h; exact absurd h h1
theorem true_sat {r : Rec} {x : Run} {ts : List Int} (hc : checkE r = 0) (hp : playsE r.s x = 0) (hl : ts.length = r.strikes.length) (hq : (List.range ts.length).all (QB r x ts) = true) :
    RunV x ∧ ∃ f, Sat f (linksR r []) ∧ f 0 = 0 ∧ f 1 = x.start ∧ f 2 = x.start + sumT x.legs ∧ ∀ i t, ts[i]? = some t → f (3 + i) = t ∧ 0 ≤ t ∧ t ≤ 1073741823 := by
  obtain ⟨hx, hr, hb, hd⟩ := playsE_B hp
  have hv := checkE_V hc
  have hQ : ∀ i, i < r.strikes.length → QB r x ts i = true := fun i hi => List.all_eq_true.1 hq i (List.mem_range.2 (by omega))
  have get : ∀ i a, r.strikes[i]? = some a → ((x.start ≤ ts.getD i 0 ∧ ts.getD i 0 ≤ x.start + sumT x.legs) ∧ a.pos.lo ≤ needF x.legs (ts.getD i 0 - x.start) x.micro / 1000000 ∧ needF x.legs (ts.getD i 0 - x.start) x.micro / 1000000 ≤ a.pos.hi) ∧ (i = 0 ∨ ts.getD (i - 1) 0 ≤ ts.getD i 0) ∧ ∀ y ∈ r.sights, y.strike = a.id → y.seen.lo ≤ ts.getD i 0 ∧ ts.getD i 0 ≤ y.seen.hi := fun i a ha => by
    have h := hQ i (List.getElem?_eq_some_iff.1 ha).1
    unfold QB at h
    rw [show r.strikes.getD i default = a by rw [List.getD_eq_getElem?_getD, ha]; rfl] at h
    simp only [Bool.and_eq_true, Bool.or_eq_true, decide_eq_true_eq, List.all_eq_true] at h
    obtain ⟨h1, h2, h3, h4, h5⟩ := h
    unfold needleP at h1 h2 h3
    rw [if_pos hr] at h1 h2 h3
    by_cases hi : ts.getD i 0 < x.start ∨ x.start + sumT x.legs < ts.getD i 0
    · rw [if_pos hi] at h1; cases h1
    · rw [if_neg hi] at h2 h3
      refine ⟨⟨⟨by omega, by omega⟩, h2, h3⟩, h4, fun y hy he => ?_⟩
      have := h5 y hy
      unfold SB at this
      exact of_decide_eq_true this he
  have hT := run_tim hv hx hb hd (ts := fun i => ts.getD i 0) (K := 50000) rfl (fun i a ha => (get i a ha).1)
    (fun i hi => by
      rcases (get (i + 1) _ (List.getElem?_eq_getElem hi)).2.1 with h | h
      · omega
      · exact h)
    (fun y hy => by
      obtain ⟨u, u1, u2⟩ := strikeI_get (hv.sights y hy).2.2.2
      exact (get _ u u1).2.2 y hy u2.symm)
  refine ⟨hx, _, sat_of hv hT, rfl, rfl, rfl, fun i t ht => ?_⟩
  have hi : i < r.strikes.length := by rw [← hl]; exact (List.getElem?_eq_some_iff.1 ht).1
  have e : ts.getD i 0 = t := by rw [List.getD_eq_getElem?_getD, ht]; rfl
  refine ⟨(pot_strike hi).trans e, ?_⟩
  have := (get i _ (List.getElem?_eq_getElem hi)).1.1
  have h1 := hx.start
  have h2 := hx.time
  omega
end Go.Proofs.Ks
