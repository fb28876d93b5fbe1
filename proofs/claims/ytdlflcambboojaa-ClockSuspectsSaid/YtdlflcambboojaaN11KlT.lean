/-
  Contracts of functions, proved by going through their code. No conditions.
-/
import Derived.Test.YtdlflcambboojaaSaa
import Derived.Test.YtdlflcambboojaaSaz
import Derived.Test.YtdlflcambboojaaN11KlS
set_option linter.unusedVariables false
set_option linter.unusedSimpArgs false
namespace Go.Proofs.Ks
open Go Go.Proofs
theorem pot_of_noNeg {L : List Lk} {n : Nat} {B : Int} (hL : ∀ l ∈ L, l.a < n ∧ l.b < n) (hB0 : 0 ≤ B) (hB : ∀ l ∈ L, -B ≤ l.m ∧ l.m ≤ B) (hfar : B * (n : Int) < far) (hn : NoNeg L) : ∃ f, Sat f L := by
  have hd := lengths_dist hL hB0 hB hfar hn (-1)
  refine ⟨fun k => (lengthsF n L (-1)).1.getD k 0, fun l hl => ?_⟩
  obtain ⟨la, lb⟩ := hL l hl
  have hsrc : ∀ k, k < n → SrcF n (-1) k := fun k hk => ⟨hk, .inl (by decide)⟩
  have h0 : (lengthsF n L (-1)).1.getD l.a 0 ≤ 0 := hd.low l.a [] l.a (hsrc _ la) rfl
  have hf : (0 : Int) < far := by decide
  obtain ⟨s, p, hs, hw, hp⟩ := hd.real l.a la (by omega)
  have := hd.low s (p ++ [l]) l.b hs (hw.snoc hl)
  rw [lenW_append] at this
  have e : lenW [l] = l.m := by simp [lenW]
  rw [e, hp] at this
  exact this
theorem facts_far {n : Nat} (hn : n ≤ 100) : (1073741823 : Int) * (n : Int) < far := by unfold far; omega
theorem cons_sat {r : Rec} (hv : r.V) {more : List Int} (hml : more.length ≤ 8) (hmb : ∀ a ∈ more, 0 ≤ a ∧ a ≤ 43200) : consP r more = true ↔ ∃ f, Sat f (linksR r more) := by
  obtain ⟨h1, h2, h3, h4, h5⟩ := links_facts hv hml hmb
  unfold consP
  rw [decide_eq_true_eq, lengths_noNeg h3 (by decide : (0 : Int) ≤ 1073741823) h4 (facts_far h1)]
  constructor
  · exact pot_of_noNeg h3 (by decide) h4 (facts_far h1)
  · rintro ⟨f, hf⟩; exact NoNeg.of_pot hf
theorem cons_tim {r : Rec} (hv : r.V) {more : List Int} (hml : more.length ≤ 8) (hmb : ∀ a ∈ more, 0 ≤ a ∧ a ≤ 43200) : consP r more = true ↔ ∃ o ti te ts P, Tim r (marksR r more) o ti te ts P := by
  rw [cons_sat hv hml hmb]
  constructor
  · rintro ⟨f, hf⟩; exact ⟨_, _, _, _, _, tim_of hv hf⟩
  · rintro ⟨o, ti, te, ts, P, h⟩; exact ⟨_, sat_of hv h⟩
theorem marks_ends (r : Rec) (more : List Int) : r.s.zero.lo ∈ marksR r more ∧ r.s.zero.hi + 1 ∈ marksR r more ∧ r.s.fin.lo ∈ marksR r more ∧ r.s.fin.hi + 1 ∈ marksR r more ∧ ∀ x ∈ r.strikes, x.pos.lo ∈ marksR r more ∧ x.pos.hi + 1 ∈ marksR r more :=
  ⟨marksR_mem.2 (.inl (.inl rfl)), marksR_mem.2 (.inl (.inr (.inl rfl))), marksR_mem.2 (.inl (.inr (.inr (.inl rfl)))), marksR_mem.2 (.inl (.inr (.inr (.inr rfl)))), fun x hx => ⟨marksR_mem.2 (.inr (.inl ⟨x, hx, .inl rfl⟩)), marksR_mem.2 (.inr (.inl ⟨x, hx, .inr rfl⟩))⟩⟩
theorem tight_prog {r : Rec} (hv : r.V) {more : List Int} (hml : more.length ≤ 8) (hmb : ∀ a ∈ more, 0 ≤ a ∧ a ≤ 43200) :
    (∃ o, tightR r more = some o ∧ consP r more = true ∧ ∀ i k, i < (nodesR r more).length → spanF (nodesR r more) (linksR r more) i k = ⟨-((lengthsF (nodesR r more).length (linksR r more) (k : Int)).1.getD i 0), mget o i k⟩ ∧ (k < (nodesR r more).length → spanF (nodesR r more) (linksR r more) i k = ⟨-(mget o k i), mget o i k⟩)) ∨
    (tightR r more = none ∧ consP r more = false) := by
  obtain ⟨h1, h2, h3, h4, h5⟩ := links_facts hv hml hmb
  rcases both_ways h3 (by decide : (0 : Int) ≤ 1073741823) h4 (facts_far h1) with ⟨o, e1, e2, e3, e4⟩ | ⟨e1, e2⟩
  · refine .inl ⟨o, e1, by unfold consP; exact decide_eq_true e2, fun i k hi => ?_⟩
    have hik : spanF (nodesR r more) (linksR r more) i k = ⟨-((lengthsF (nodesR r more).length (linksR r more) (k : Int)).1.getD i 0), mget o i k⟩ := by
      unfold spanF mget
      rw [← e4 i hi]
    refine ⟨hik, fun hk => ?_⟩
    rw [hik, e4 k hk]; rfl
  · exact .inr ⟨e1, by unfold consP; exact decide_eq_false e2⟩
end Go.Proofs.Ks
