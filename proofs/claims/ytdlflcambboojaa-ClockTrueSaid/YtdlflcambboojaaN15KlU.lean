/-
  Contracts of functions, proved by going through their code. No conditions.
-/
import Derived.Test.YtdlflcambboojaaRaa
import Derived.Test.YtdlflcambboojaaRbb
import Derived.Test.YtdlflcambboojaaRbe
import Derived.Test.YtdlflcambboojaaN15KlT
set_option linter.unusedVariables false
set_option linter.unusedSimpArgs false
namespace Go.Proofs.Ks
open Go Go.Pg Go.Proofs
theorem Wk.sub {L M : List Lk} (h : ∀ l ∈ L, l ∈ M) : ∀ {p : List Lk} {i k : Nat}, Wk L i p k → Wk M i p k
  | [], _, _, hw => hw
  | _ :: _, _, _, ⟨h1, h2, h3⟩ => ⟨h _ h1, h2, Wk.sub h h3⟩
theorem NoNeg.sub {L M : List Lk} (h : ∀ l ∈ L, l ∈ M) (hn : NoNeg M) : NoNeg L := fun i p hw => hn i p (hw.sub h)
theorem Dist.same {L M : List Lk} (h : ∀ l, l ∈ L ↔ l ∈ M) {n : Nat} {Src : Nat → Prop} {inf : Int} {d : Nat → Int} (hd : Dist L n Src inf d) : Dist M n Src inf d :=
  ⟨hd.le, fun k hk hi => by obtain ⟨s, p, h1, h2, h3⟩ := hd.real k hk hi; exact ⟨s, p, h1, h2.sub fun l hl => (h l).1 hl, h3⟩, fun s p k hs hw => hd.low s p k hs (hw.sub fun l hl => (h l).2 hl)⟩
def spansQ (r : Rec) : List Span × Int := if checkE r = 0 then (if consP r [] = true then (spansP r, 0) else ([], 9)) else ([], checkE r)
theorem Spans_ok (r : Rec) : OKv cx 34 [.agg (eRec r)] (.tup [lSpan (spansQ r).1, ai (spansQ r).2]) := by
  unfold spansQ
  rcases solved0 r with ⟨h1, h2⟩ | ⟨h1, h2, h3⟩ | ⟨h1, h2, h3⟩
  · rw [if_neg h1]
    exact Spans_err r _ h1 h2
  · rw [if_pos h1, h2, if_neg (by decide)]
    exact Spans_err r 9 (by decide) h3
  · rw [if_pos h1, h2, if_pos rfl]
    exact Spans_good r h1 h2
end Go.Proofs.Ks
