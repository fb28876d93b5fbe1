/-
  Contracts of functions, proved by going through their code. No conditions.
-/
import Derived.Test.YtdlflcambboojaaRaa
import Derived.Test.YtdlflcambboojaaRaz
import Derived.Test.YtdlflcambboojaaN15KlS
set_option linter.unusedVariables false
set_option linter.unusedSimpArgs false
namespace Go.Proofs.Ks
open Go Go.Proofs
theorem pot_of_noNeg {L : List Lk} {n : Nat} {B : Int} (hL : ∀ l ∈ L, l.a < n ∧ l.b < n) (hB0 : 0 ≤ B) (hB : ∀ l ∈ L, -B ≤ l.m ∧ l.m ≤ B) (hfar : B * (n : Int) < far) (hn : NoNeg L) : ∃ f, Sat f L := by
  have hd := lengths_dist hL hB0 hB hfar hn (-1)
  refine ⟨fun k => (lengthsF n L (-1)).1.getD k 0, fun l hl => ?_⟩
  obtain ⟨la, lb⟩ := hL l hl
  have hsrc : ∀ k, k < n → SrcF n (-1) k := fun k hk => ⟨hk, .inl (by decide)⟩
  have h0 : (lengthsF n L (-1)).1.getD l.a 0 ≤ 0 := hd.low l.a [] l.a (hsrc _ la) rfl
  have hf : (0 : Int) < far := by decide
  obtain ⟨s, p, hs, hw, hp⟩ := hd.real l.a la (by omega)
  have := hd.low s (p ++ [l]) l.b hs (hw.snoc hl)
  rw [lenW_append] at this
  have e : lenW [l] = l.m := by simp [lenW]
  rw [e, hp] at this
  exact this
theorem facts_far {n : Nat} (hn : n ≤ 100) : (1073741823 : Int) * (n : Int) < far := by unfold far; omega
theorem cons_sat {r : Rec} (hv : r.V) {more : List Int} (hml : more.length ≤ 8) (hmb : ∀ a ∈ more, 0 ≤ a ∧ a ≤ 43200) : consP r more = true ↔ ∃ f, Sat f (linksR r more) := by
  obtain ⟨h1, h2, h3, h4, h5⟩ := links_facts hv hml hmb
  unfold consP
  rw [decide_eq_true_eq, lengths_noNeg h3 (by decide : (0 : Int) ≤ 1073741823) h4 (facts_far h1)]
  constructor
  · exact pot_of_noNeg h3 (by decide) h4 (facts_far h1)
  · rintro ⟨f, hf⟩; exact NoNeg.of_pot hf
theorem marks_ends (r : Rec) (more : List Int) : r.s.zero.lo ∈ marksR r more ∧ r.s.zero.hi + 1 ∈ marksR r more ∧ r.s.fin.lo ∈ marksR r more ∧ r.s.fin.hi + 1 ∈ marksR r more ∧ ∀ x ∈ r.strikes, x.pos.lo ∈ marksR r more ∧ x.pos.hi + 1 ∈ marksR r more :=
  ⟨marksR_mem.2 (.inl (.inl rfl)), marksR_mem.2 (.inl (.inr (.inl rfl))), marksR_mem.2 (.inl (.inr (.inr (.inl rfl)))), marksR_mem.2 (.inl (.inr (.inr (.inr rfl)))), fun x hx => ⟨marksR_mem.2 (.inr (.inl ⟨x, hx, .inl rfl⟩)), marksR_mem.2 (.inr (.inl ⟨x, hx, .inr rfl⟩))⟩⟩
end Go.Proofs.Ks
