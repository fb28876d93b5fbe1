/-
  Contracts of functions, proved by going through their code. No conditions.
-/
import Derived.Test.YtdlflcambboojaaVaa
import Derived.Test.YtdlflcambboojaaVaq
set_option linter.unusedVariables false
set_option linter.unusedSimpArgs false
set_option maxHeartbeats 8000000
set_option maxRecDepth 10000
namespace Go.Proofs.Ks
open Go Go.Pg Go.Proofs
theorem relax_bd {d b : List Int} {c : Int} {n S k : Nat} {l : Lk} (h : BdD d n S) (ha : l.a < n) (hb : l.b < n) (hm : -1073741823 ≤ l.m ∧ l.m ≤ 1073741823) : BdD (relax (d, b, c) k l).1 n (S + 1) := by
  unfold relax
  split
  · rename_i hi; exact h.relax ha hb hm hi.2
  · exact h.mono (Nat.le_succ _)
theorem round_bd {n : Nat} : ∀ (R : List Lk) (k S : Nat) (p : BS), (∀ l ∈ R, l.a < n ∧ l.b < n) → (∀ l ∈ R, -1073741823 ≤ l.m ∧ l.m ≤ 1073741823) → BdD p.1 n S → BdD (roundF R k p).1 n (S + R.length)
  | [], _, _, _, _, _, h => h
  | l :: R, k, S, p, hL, hm, h => by
    obtain ⟨d, b, c⟩ := p
    have h1 := relax_bd (b := b) (c := c) (k := k) h (hL l (by simp)).1 (hL l (by simp)).2 (hm l (by simp))
    have := round_bd R (k + 1) (S + 1) _ (fun x hx => hL x (by simp [hx])) (fun x hx => hm x (by simp [hx])) h1
    rw [List.length_cons, show S + (R.length + 1) = S + 1 + R.length by omega]
    exact this
theorem loop_bd {n : Nat} {L : List Lk} (hL : ∀ l ∈ L, l.a < n ∧ l.b < n) (hm : ∀ l ∈ L, -1073741823 ≤ l.m ∧ l.m ≤ 1073741823) : ∀ (c S : Nat) (d b : List Int), BdD d n S → BdD (loopF L c d b).1 n (S + c * L.length)
  | 0, S, d, b, h => by
    unfold loopF
    rcases last_case L 0 d b with ⟨e, _⟩ | ⟨_, _, _, _, e⟩ <;> rw [e] <;> exact h.mono (by omega)
  | c + 1, S, d, b, h => by
    have h1 := round_bd L 0 S (d, b, -1) hL hm h
    unfold loopF
    rw [Nat.succ_mul]
    split
    · exact h1.mono (by omega)
    · exact (loop_bd hL hm c (S + L.length) _ _ h1).mono (by omega)
theorem lengths_bd {nd : List Node} {L : List Lk} (f : Int) (hn : nd.length ≤ 100) (hll : L.length ≤ 10000) (hL : ∀ l ∈ L, l.a < nd.length ∧ l.b < nd.length) (hm : ∀ l ∈ L, -1073741823 ≤ l.m ∧ l.m ≤ 1073741823) : BdD (lengthsF nd.length L f).1 nd.length 1000000 := by
  refine (loop_bd hL hm nd.length 0 _ _ (BdD.init nd.length f)).mono ?_
  have := Nat.mul_le_mul hn hll
  omega
theorem consistent_ok (nd : List Node) (L : List Lk) (hn : nd.length ≤ 100) (hll : L.length ≤ 10000) (hL : ∀ l ∈ L, l.a < nd.length ∧ l.b < nd.length) (hm : ∀ l ∈ L, -1073741823 ≤ l.m ∧ l.m ≤ 1073741823) :
    OKv cx 98 [gSys nd L] (ab (decide ((lengthsF nd.length L (-1)).2.2 < 0))) := by
  refine OKat.of_body (rs := [2]) Try.func98 rfl (by decide +kernel) rfl (by simp [Try.ntmps98]) ?_
  simp only [Try.ntmps98]
  repeat' first
    | apply jA | apply jB | apply jC | apply jD | apply jE | apply jF | apply jG | apply jH | apply jI
    | ((first | (apply jK cx_ok; decide) | apply jR); (simp (disch := omega) only [push_cast, simprocAttr] <;> rfl); all_goals try ((with_reducible intro hI); try first | (cases hI; done) | (simp only [INTS, zL] at hI; try first | (exfalso; omega) | (have hT : True := hI; clear hT hI))))
    | ((apply jV cx_ok; decide); (iterate 2 (simp (disch := omega) only [push_cast, simprocAttr] <;> rfl)); (with_reducible first | exact lengths_ok nd L _ hn hll hL hm); try first | rfl | (simp (disch := omega) only [push_cast, simprocAttr] <;> rfl))
    | ((first | apply jf | apply jg); (iterate 2 (try (simp (disch := omega) only [push_cast, simprocAttr] <;> rfl))))
  all_goals (show _ = _; rfl)
def spanF (nd : List Node) (L : List Lk) (f t : Nat) : Span := ⟨-((lengthsF nd.length L (t : Int)).1.getD f 0), (lengthsF nd.length L (f : Int)).1.getD t 0⟩
theorem span_ok (nd : List Node) (L : List Lk) (f t : Nat) (hn : nd.length ≤ 100) (hll : L.length ≤ 10000) (hL : ∀ l ∈ L, l.a < nd.length ∧ l.b < nd.length) (hm : ∀ l ∈ L, -1073741823 ≤ l.m ∧ l.m ≤ 1073741823) (hf : f < nd.length) (ht : t < nd.length) :
    OKv cx 82 [gSys nd L, ai f, ai t] (.agg (eSpan (spanF nd L f t))) := by
  obtain ⟨l1, b1⟩ := lengths_bd (nd := nd) (f : Int) hn hll hL hm
  obtain ⟨l2, b2⟩ := lengths_bd (nd := nd) (t : Int) hn hll hL hm
  have c1 := b1 t ht
  have c2 := b2 f hf
  unfold far at c1 c2
  have e : spanF nd L f t = ⟨-((lengthsF nd.length L (t : Int)).1.getD f 0), (lengthsF nd.length L (f : Int)).1.getD t 0⟩ := rfl
  rw [e]
  obtain ⟨P, hP⟩ : ∃ z, lengthsF nd.length L (f : Int) = z := ⟨_, rfl⟩
  obtain ⟨Q, hQ⟩ : ∃ z, lengthsF nd.length L (t : Int) = z := ⟨_, rfl⟩
  rw [hP] at l1 c1 ⊢
  rw [hQ] at l2 c2 ⊢
  have hf' : (f : Int) < (nd.length : Int) := by omega
  have ht' : (t : Int) < (nd.length : Int) := by omega
  refine OKat.of_bodyM cx_ok (rs := [.cell 6 23]) Try.func82 rfl (by decide +kernel) rfl (by simp [Try.ntmps82]) ?_
  simp only [Try.ntmps82]
  repeat' first
    | apply jA | apply jB | apply jC | apply jD | apply jE | apply jF | apply jG | apply jH | apply jI | apply jJ
    | refine AW.draw (id := 3) cx_mixed [10] [] [] 0 (by decide +kernel) ?_
    | refine W.draw cx_mixed (by decide +kernel) ?_
    | ((first | (apply jK cx_ok; decide) | (apply jL cx_ok; decide; decide) | apply jM cx_ok | apply jR); (simp (disch := omega) only [push_cast, simprocAttr, hP, hQ, l1, l2, hf, ht, hf', ht', yD] <;> rfl); all_goals try ((with_reducible intro hI); try first | (cases hI; done) | (simp only [INTS, zL] at hI; try first | (exfalso; omega) | (have hT : True := hI; clear hT hI))))
    | ((first | (apply ja cx_ok; decide) | (apply jb cx_ok; decide; decide) | (apply jc cx_ok; decide; decide)); (simp (disch := omega) only [push_cast, simprocAttr, hP, hQ, l1, l2, hf, ht, hf', ht', yD] <;> rfl); try first | exact .inl rfl | exact .inr (by simp))
    | ((apply jY cx_ok; decide; decide); (simp (disch := omega) only [push_cast, simprocAttr, hP, hQ, l1, l2, hf, ht, hf', ht', yD] <;> rfl); first | exact .inl rfl | exact .inr (by simp))
    | ((first | (apply jV cx_ok; decide) | (apply jW cx_ok; decide; decide) | (apply jX cx_ok; decide; decide)); (iterate 2 (simp (disch := omega) only [push_cast, simprocAttr, hP, hQ, l1, l2, hf, ht, hf', ht', yD] <;> rfl)); (with_reducible first | exact lengths_ok nd L _ hn hll hL hm); try first | rfl | (simp (disch := omega) only [push_cast, simprocAttr, hP, hQ, l1, l2, hf, ht, hf', ht', yD] <;> rfl))
    | ((first | apply jl | apply jm); (iterate 2 (try (simp (disch := omega) only [push_cast, simprocAttr, hP, hQ, l1, l2, hf, ht, hf', ht', yD] <;> rfl))))
  all_goals (show _ = _; rfl)
theorem rLinks_ok (r0 : Rec) (hv : r0.V) : OKv cx 43 [.agg (eRec r0)] (lLink (linksR r0 [])) := by
  have h0 : OKv cx 97 [.agg (eRec r0), .lst []] (lLink (linksR r0 [])) := rlinks_ok r0 [] hv (by decide) (fun a h => by cases h)
  refine OKat.of_body (rs := [2]) Try.func43 rfl (by decide +kernel) rfl (by simp [Try.ntmps43]) ?_
  simp only [Try.ntmps43]
  repeat' first
    | apply jA | apply jB | apply jC | apply jD | apply jE | apply jF | apply jG | apply jH | apply jI
    | ((first | (apply jK cx_ok; decide) | apply jR); (simp (disch := omega) only [push_cast, simprocAttr] <;> rfl); all_goals try ((with_reducible intro hI); try first | (cases hI; done) | (simp only [INTS, zL] at hI; try first | (exfalso; omega) | (have hT : True := hI; clear hT hI))))
    | ((apply jV cx_ok; decide); (iterate 2 (simp (disch := omega) only [push_cast, simprocAttr] <;> rfl)); (with_reducible first | exact h0); try first | rfl | (simp (disch := omega) only [push_cast, simprocAttr] <;> rfl))
    | ((first | apply jf | apply jg); (iterate 2 (try (simp (disch := omega) only [push_cast, simprocAttr] <;> rfl))))
  all_goals (show _ = _; rfl)
end Go.Proofs.Ks
