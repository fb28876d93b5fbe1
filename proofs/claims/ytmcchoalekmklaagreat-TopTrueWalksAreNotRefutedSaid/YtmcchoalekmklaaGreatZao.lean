/-
  Contracts of functions, proved by going through their code. No conditions.
-/
import Derived.Test.YtmcchoalekmklaaGreatZaj
import Derived.Test.YtmcchoalekmklaaGreatZam
import Derived.Test.YtmcchoalekmklaaGreatZan
set_option linter.unusedVariables false
set_option linter.unusedSimpArgs false
set_option maxHeartbeats 8000000
set_option maxRecDepth 10000
namespace Go.Proofs.Ks
open Go Go.Pg Go.Proofs Go.Proofs.Yt
def nd0 : List Node := [⟨0, 0⟩, ⟨1, 0⟩, ⟨2, 0⟩]
theorem nd0_len : nd0.length = 3 := rfl
def ndS (k : Nat) : List Node := (List.range k).map fun (i : Nat) => ⟨3, (i : Int)⟩
def ndM (l : List Int) : List Node := l.map fun x => ⟨4, x⟩
def nodesR (r : Rec) (more : List Int) : List Node := nd0 ++ ndS r.strikes.length ++ ndM (marksR r more)
theorem ndS_succ (k : Nat) : ndS (k + 1) = ndS k ++ [⟨3, (k : Int)⟩] := by unfold ndS; rw [List.range_succ, List.map_append]; rfl
theorem ndS_len (k : Nat) : (ndS k).length = k := by simp [ndS]
theorem ndM_len (l : List Int) : (ndM l).length = l.length := by simp [ndM]
theorem ndM_snoc (l : List Int) (x : Int) : ndM (l ++ [x]) = ndM l ++ [⟨4, x⟩] := by simp [ndM]
theorem insS_len : ∀ (l : List Strike) (M : List Int), (insS l M).length ≤ M.length + 2 * l.length
  | [], M => by simp [insS]
  | x :: l, M => by
    have h1 := insS_len l (insI (x.pos.hi + 1) (insI x.pos.lo M))
    have h2 := insI_len (x.pos.hi + 1) (insI x.pos.lo M)
    have h3 := insI_len x.pos.lo M
    simp only [insS, List.length_cons]; omega
theorem insM_len : ∀ (l M : List Int), (insM l M).length ≤ M.length + l.length
  | [], M => by simp [insM]
  | x :: l, M => by
    have h1 := insM_len l (insI x M)
    have h2 := insI_len x M
    simp only [insM, List.length_cons]; omega
theorem marksR_len (r : Rec) (more : List Int) : (marksR r more).length ≤ 4 + 2 * r.strikes.length + more.length := by
  unfold marksR
  have h1 := insM_len more (insS r.strikes (insI (r.s.fin.hi + 1) (insI r.s.fin.lo (insI (r.s.zero.hi + 1) (insI r.s.zero.lo [])))))
  have h2 := insS_len r.strikes (insI (r.s.fin.hi + 1) (insI r.s.fin.lo (insI (r.s.zero.hi + 1) (insI r.s.zero.lo []))))
  have h3 := insI_len (r.s.fin.hi + 1) (insI r.s.fin.lo (insI (r.s.zero.hi + 1) (insI r.s.zero.lo [])))
  have h4 := insI_len r.s.fin.lo (insI (r.s.zero.hi + 1) (insI r.s.zero.lo []))
  have h5 := insI_len (r.s.zero.hi + 1) (insI r.s.zero.lo [])
  have h6 := insI_len r.s.zero.lo []
  simp only [List.length_nil] at h6
  omega
end Go.Proofs.Ks

namespace Go.Proofs.Ks
open Go Go.Pg Go.Proofs Go.Proofs.Yt
def atI (kd nm : Int) : Nat → List Node → Int
  | _, [] => -1
  | k, x :: r => if x.kind = kd ∧ x.num = nm then (k : Int) else atI kd nm (k + 1) r
def addS (x y : Int) : List Stop → Int × Int → Int × Int
  | [], p => p
  | t :: r, p => addS x y r (if x ≤ t.pos ∧ t.pos < y then (p.1 + t.secs.lo, p.2 + t.secs.hi) else p)
def leastR (s : Session) (x y : Int) : Int × Int := addS x y s.stops ((y - x) * 1000000 / s.rate.hi, ((y - x) * 1000000 + s.rate.lo - 1) / s.rate.lo)
structure Session.R (s : Session) : Prop where
  rate : 900000 ≤ s.rate.lo ∧ s.rate.lo ≤ s.rate.hi ∧ s.rate.hi ≤ 1100000
  nstops : s.stops.length ≤ 4
  stops : ∀ x ∈ s.stops, 0 ≤ x.secs.lo ∧ x.secs.lo ≤ x.secs.hi ∧ x.secs.hi ≤ 36000
theorem Rec.V.r {r : Rec} (h : r.V) : r.s.R := ⟨h.rate, h.nstops, fun x hx => (h.stops x hx).2.2⟩
theorem div_bound {n d : Int} (hn : 0 ≤ n) (hm : n ≤ 43200000000 + 1100000) (hd : 900000 ≤ d) : 0 ≤ n / d ∧ n / d ≤ 48002 := by
  refine ⟨Int.ediv_nonneg hn (by omega), ?_⟩
  have h1 : n / d < 48003 := Int.ediv_lt_of_lt_mul (by omega) (by omega)
  omega
def bothL (nd : Nat) (x : Span) : List Lk := [⟨0, nd, x.hi⟩, ⟨nd, 0, -x.lo⟩]
def needleL (l : List Node) (nd : Nat) (x : Span) : List Lk := [⟨nd, (atI 4 x.lo 0 l).toNat, 0⟩, ⟨(atI 4 (x.hi + 1) 0 l).toNat, nd, 0⟩]
end Go.Proofs.Ks

namespace Go.Proofs.Ks
theorem insI_mem {n a : Int} : ∀ {l : List Int}, a ∈ insI n l ↔ a = n ∨ a ∈ l
  | [] => by simp [insI]
  | x :: r => by
    have ih := @insI_mem n a r
    unfold insI
    split
    · simp only [List.mem_cons, ih]
      constructor
      · rintro (h | h | h) <;> simp [h]
      · rintro (h | h | h) <;> simp [h]
    · split
      · rename_i h; subst h; simp
      · simp
theorem insI_sorted {n : Int} : ∀ {l : List Int}, l.Pairwise (· < ·) → (insI n l).Pairwise (· < ·)
  | [], _ => by simp [insI]
  | x :: r, h => by
    obtain ⟨h1, h2⟩ := List.pairwise_cons.1 h
    unfold insI
    split
    · rename_i hlt
      refine List.pairwise_cons.2 ⟨fun a ha => ?_, insI_sorted h2⟩
      rcases insI_mem.1 ha with rfl | ha
      · exact hlt
      · exact h1 a ha
    · split
      · exact h
      · rename_i h3 h4
        refine List.pairwise_cons.2 ⟨fun a ha => ?_, h⟩
        rcases List.mem_cons.1 ha with rfl | ha
        · omega
        · have := h1 a ha; omega
theorem insS_mem {a : Int} : ∀ {l : List Strike} {M : List Int}, a ∈ insS l M ↔ a ∈ M ∨ ∃ x ∈ l, a = x.pos.lo ∨ a = x.pos.hi + 1
  | [], M => by simp [insS]
  | x :: l, M => by
    unfold insS
    rw [insS_mem, insI_mem, insI_mem]
    simp only [List.mem_cons, exists_eq_or_imp]
    constructor
    · rintro ((h | h | h) | h)
      · exact .inr (.inl (.inr h))
      · exact .inr (.inl (.inl h))
      · exact .inl h
      · exact .inr (.inr h)
    · rintro (h | (h | h) | h)
      · exact .inl (.inr (.inr h))
      · exact .inl (.inr (.inl h))
      · exact .inl (.inl h)
      · exact .inr h
theorem insS_sorted : ∀ {l : List Strike} {M : List Int}, M.Pairwise (· < ·) → (insS l M).Pairwise (· < ·)
  | [], _, h => h
  | _ :: l, _, h => insS_sorted (l := l) (insI_sorted (insI_sorted h))
theorem insM_mem {a : Int} : ∀ {l M : List Int}, a ∈ insM l M ↔ a ∈ M ∨ a ∈ l
  | [], M => by simp [insM]
  | x :: l, M => by
    unfold insM
    rw [insM_mem, insI_mem]
    simp only [List.mem_cons]
    constructor
    · rintro ((h | h) | h) <;> simp [h]
    · rintro (h | h | h) <;> simp [h]
theorem insM_sorted : ∀ {l M : List Int}, M.Pairwise (· < ·) → (insM l M).Pairwise (· < ·)
  | [], _, h => h
  | _ :: l, _, h => insM_sorted (l := l) (insI_sorted h)
theorem marksR_mem {r : Rec} {more : List Int} {a : Int} : a ∈ marksR r more ↔ (a = r.s.zero.lo ∨ a = r.s.zero.hi + 1 ∨ a = r.s.fin.lo ∨ a = r.s.fin.hi + 1) ∨ (∃ x ∈ r.strikes, a = x.pos.lo ∨ a = x.pos.hi + 1) ∨ a ∈ more := by
  unfold marksR
  rw [insM_mem, insS_mem, insI_mem, insI_mem, insI_mem, insI_mem]
  simp only [List.not_mem_nil, or_false]
  constructor
  · rintro ((h | h) | h)
    · exact .inl (by omega)
    · exact .inr (.inl h)
    · exact .inr (.inr h)
  · rintro (h | h | h)
    · exact .inl (.inl (by omega))
    · exact .inl (.inr h)
    · exact .inr h
theorem marksR_sorted (r : Rec) (more : List Int) : (marksR r more).Pairwise (· < ·) := by
  unfold marksR
  exact insM_sorted (insS_sorted (insI_sorted (insI_sorted (insI_sorted (insI_sorted List.Pairwise.nil)))))
theorem marksR_bound {r : Rec} (hv : r.V) {more : List Int} (hm : ∀ a ∈ more, 0 ≤ a ∧ a ≤ 43200) {a : Int} (h : a ∈ marksR r more) : 0 ≤ a ∧ a ≤ 43200 := by
  have := hv.z; have := hv.f; have := hv.zf
  rcases marksR_mem.1 h with h | ⟨x, hx, h⟩ | h
  · omega
  · have := hv.strikes x hx; omega
  · exact hm a h
theorem atI_append (kd nm : Int) : ∀ (l m : List Node) (k : Nat), (∀ x ∈ l, ¬ (x.kind = kd ∧ x.num = nm)) → atI kd nm k (l ++ m) = atI kd nm (k + l.length) m
  | [], m, k, _ => by simp
  | x :: l, m, k, h => by
    have h1 := h x (by simp)
    have h2 := atI_append kd nm l m (k + 1) (fun y hy => h y (by simp [hy]))
    simp only [List.cons_append, atI]
    rw [if_neg h1, h2, show k + 1 + l.length = k + (l.length + 1) by omega]; rfl
theorem atI_case (kd nm : Int) : ∀ (l : List Node) (k : Nat), (atI kd nm k l = -1 ∧ ∀ x ∈ l, ¬ (x.kind = kd ∧ x.num = nm)) ∨ ∃ i, i < l.length ∧ atI kd nm k l = ((k + i : Nat) : Int) ∧ l.getD i default = ⟨kd, nm⟩
  | [], k => .inl ⟨rfl, fun x hx => by simp at hx⟩
  | x :: l, k => by
    unfold atI
    by_cases h : x.kind = kd ∧ x.num = nm
    · rw [if_pos h]
      refine .inr ⟨0, by simp, rfl, ?_⟩
      obtain ⟨h1, h2⟩ := h
      cases x; simp only at h1 h2; subst h1; subst h2; rfl
    · rw [if_neg h]
      rcases atI_case kd nm l (k + 1) with ⟨h1, h2⟩ | ⟨i, h1, h2, h3⟩
      · refine .inl ⟨h1, fun y hy => ?_⟩
        rcases List.mem_cons.1 hy with rfl | hy
        · exact h
        · exact h2 y hy
      · exact .inr ⟨i + 1, by simp; omega, by rw [h2, show k + 1 + i = k + (i + 1) by omega], by simpa using h3⟩
theorem nodesR_len (r : Rec) (more : List Int) : (nodesR r more).length = 3 + r.strikes.length + (marksR r more).length := by
  unfold nodesR; rw [List.length_append, List.length_append, nd0_len, ndS_len, ndM_len]
theorem at_mark {r : Rec} {more : List Int} {p : Int} (h : p ∈ marksR r more) : 0 ≤ atI 4 p 0 (nodesR r more) ∧ atI 4 p 0 (nodesR r more) < ((nodesR r more).length : Int) := by
  rcases atI_case 4 p (nodesR r more) 0 with ⟨_, h2⟩ | ⟨i, h1, h2, _⟩
  · exfalso
    refine h2 ⟨4, p⟩ ?_ ⟨rfl, rfl⟩
    unfold nodesR ndM
    exact List.mem_append_right _ (List.mem_map.2 ⟨p, h, rfl⟩)
  · rw [h2]; omega
theorem node_mark {r : Rec} {more : List Int} {j : Nat} (h : j < (marksR r more).length) : (nodesR r more).getD (3 + r.strikes.length + j) default = ⟨4, (marksR r more).getD j 0⟩ := by
  unfold nodesR
  rw [List.getD_eq_getElem?_getD, List.getElem?_append_right (by rw [List.length_append, nd0_len, ndS_len]; omega)]
  rw [show 3 + r.strikes.length + j - (nd0 ++ ndS r.strikes.length).length = j by rw [List.length_append, nd0_len, ndS_len]; omega]
  unfold ndM
  rw [List.getElem?_map, List.getElem?_eq_getElem h, List.getD_eq_getElem?_getD, List.getElem?_eq_getElem h]; rfl
def sgL (r : Rec) : List Sight → List Lk
  | [] => []
  | x :: l => bothL (3 + strikeI x.strike 0 r.strikes).toNat x.seen ++ sgL r l
def rowK (S i : Nat) : Lk := ⟨if i < S then 3 + i else 2, if 0 < i then 2 + i else 1, 0⟩
def rwL (S : Nat) : Nat → Nat → List Lk
  | 0, _ => []
  | c + 1, i => rowK S i :: rwL S c (i + 1)
def ndL (nd : List Node) : Nat → List Strike → List Lk
  | _, [] => []
  | i, x :: l => needleL nd (3 + i) x.pos ++ ndL nd (i + 1) l
def pairL (s : Session) (i : Nat) (x : Int) : Nat → List Int → List Lk
  | _, [] => []
  | k, y :: l => ⟨i, k, (leastR s x y).2⟩ :: ⟨k, i, -(leastR s x y).1⟩ :: pairL s i x (k + 1) l
def pairsL (s : Session) : Nat → List Int → List Lk
  | _, [] => []
  | i, x :: l => pairL s i x (i + 1) l ++ pairsL s (i + 1) l
def linksR (r : Rec) (more : List Int) : List Lk :=
  bothL 1 r.s.inn ++ (bothL 2 r.s.out ++ (sgL r r.sights ++ (rwL r.strikes.length (r.strikes.length + 1) 0 ++ (needleL (nodesR r more) 1 r.s.zero ++ (ndL (nodesR r more) 0 r.strikes ++ (needleL (nodesR r more) 2 r.s.fin ++ pairsL r.s (3 + r.strikes.length) (marksR r more)))))))
theorem leastR_bound (s : Session) (x y : Int) (hv : s.R) (hx0 : 0 ≤ x) (hxy : x ≤ y) (hy : y ≤ 43200) : 0 ≤ (leastR s x y).1 ∧ (leastR s x y).1 ≤ 192002 ∧ 0 ≤ (leastR s x y).2 ∧ (leastR s x y).2 ≤ 192002 := by
  obtain ⟨r1, r2, r3⟩ := hv.rate
  have d1 := div_bound (n := (y - x) * 1000000) (d := s.rate.hi) (by omega) (by omega) (by omega)
  have d2 := div_bound (n := (y - x) * 1000000 + s.rate.lo - 1) (d := s.rate.lo) (by omega) (by omega) (by omega)
  have go : ∀ (l : List Stop) (p : Int × Int), (∀ t ∈ l, 0 ≤ t.secs.lo ∧ t.secs.lo ≤ t.secs.hi ∧ t.secs.hi ≤ 36000) → 0 ≤ p.1 → 0 ≤ p.2 →
      0 ≤ (addS x y l p).1 ∧ (addS x y l p).1 ≤ p.1 + 36000 * l.length ∧ 0 ≤ (addS x y l p).2 ∧ (addS x y l p).2 ≤ p.2 + 36000 * l.length := by
    intro l
    induction l with
    | nil => intro p _ h1 h2; simp only [addS, List.length_nil]; omega
    | cons t l ih =>
      intro p hl h1 h2
      have ht := hl t (by simp)
      unfold addS
      split
      · have := ih (p.1 + t.secs.lo, p.2 + t.secs.hi) (fun z hz => hl z (by simp [hz])) (by dsimp only; omega) (by dsimp only; omega)
        simp only [List.length_cons] at this ⊢; omega
      · have := ih p (fun z hz => hl z (by simp [hz])) h1 h2
        simp only [List.length_cons] at this ⊢; omega
  have h := go s.stops ((y - x) * 1000000 / s.rate.hi, ((y - x) * 1000000 + s.rate.lo - 1) / s.rate.lo) hv.stops d1.1 d2.1
  have hn := hv.nstops
  unfold leastR
  dsimp only at h
  omega
end Go.Proofs.Ks

namespace Go.Proofs.Ks
open Go Go.Pg Go.Proofs Go.Proofs.Yt
attribute [push_cast] eLink
theorem bothL_len (n : Nat) (x : Span) : (bothL n x).length = 2 := rfl
theorem needleL_len (l : List Node) (n : Nat) (x : Span) : (needleL l n x).length = 2 := rfl
end Go.Proofs.Ks

namespace Go.Proofs.Ks
open Go Go.Pg Go.Proofs Go.Proofs.Yt
attribute [push_cast] eLink
def keyN (n : Node) : Key := .pair n.kind n.num
def idxV (k n : Nat) : List AV := (List.range' k n).map fun (i : Nat) => ai i
abbrev gSys (nd : List Node) (L : List Lk) : AV := .iptr [lNode nd, .lmap .pair (nd.map keyN) (idxV 0 nd.length), lLink L] 0
def atP (kd nm : Int) (nd : List Node) : Int := if atI kd nm 0 nd < 0 then 0 else atI kd nm 0 nd
theorem find_node (kd nm : Int) : ∀ (nd : List Node) (k : Nat), findM (.pair kd nm) ((nd.map keyN).zip (idxV k nd.length)) = if atI kd nm k nd < 0 then none else some (ai (atI kd nm k nd))
  | [], k => rfl
  | x :: nd, k => by
    have ih := find_node kd nm nd (k + 1)
    have e : idxV k (x :: nd).length = ai k :: idxV (k + 1) nd.length := by simp [idxV, List.range'_succ]
    rw [e]
    simp only [List.map_cons, List.zip_cons_cons, findM, keyN, Key.same, atI]
    by_cases h : x.kind = kd ∧ x.num = nm
    · obtain ⟨h1, h2⟩ := h
      subst h1; subst h2
      simp
    · have h' : (kd == x.kind && nm == x.num) = false := by
        cases hq : (kd == x.kind && nm == x.num) with
        | false => rfl
        | true => simp only [Bool.and_eq_true, beq_iff_eq] at hq; exact absurd ⟨hq.1.symm, hq.2.symm⟩ h
      simp only [h', Bool.false_eq_true, if_false, if_neg h]
      exact ih
theorem node_look (kd nm : Int) (nd : List Node) : pickM (.v (.int .i64 0)) false (findM (.pair kd nm) ((nd.map keyN).zip (idxV 0 nd.length))) = ai (atP kd nm nd) := by
  rw [find_node]
  unfold atP
  split <;> simp [pickM]
theorem at_ok (nd : List Node) (L : List Lk) (kd nm : Int) : OKv cx 27 [gSys nd L, ai kd, ai nm] (ai (atP kd nm nd)) := by
  refine OKat.of_body (rs := [6]) Tryz.func27 rfl (by decide +kernel) rfl (by simp [Tryz.ntmps27]) ?_
  simp only [Tryz.ntmps27]
  repeat' first
    | apply jA | apply jB | apply jC | apply jI
    | ((apply jK kO; decide); (simp (disch := omega) only [push_cast, simprocAttr, node_look, zM, TyD.isAgg] <;> rfl))
    | ((apply W.ret1); (iterate 2 (try (simp (disch := omega) only [push_cast, simprocAttr, node_look, zM, TyD.isAgg] <;> rfl))))
  all_goals (show _ = _; rfl)
theorem ceiling_ok (a b : Int) (ha : 0 ≤ a ∧ a ≤ 1099511627776) (hb : 1 ≤ b ∧ b ≤ 1099511627776) : OKv cx 85 [ai a, ai b] (ai ((a + b - 1) / b)) := by
  have hb0 : (b = 0) = False := eq_false (by omega)
  have h1 : 0 ≤ (a + b - 1) / b := Int.ediv_nonneg (by omega) (by omega)
  have h2 : (a + b - 1) / b ≤ a + b - 1 := Int.ediv_le_self _ (by omega)
  obtain ⟨q, hq⟩ : ∃ q, (a + b - 1) / b = q := ⟨_, rfl⟩
  rw [hq] at h1 h2 ⊢
  refine OKat.of_body (rs := [4]) Tryz.func85 rfl (by decide +kernel) rfl (by simp [Tryz.ntmps85]) ?_
  simp only [Tryz.ntmps85]
  repeat' first
    | apply jA | apply jB | apply jC | apply jI
    | ((apply jK kO; decide); (simp (disch := omega) only [push_cast, simprocAttr, hb0, hq] <;> rfl))
    | ((apply W.ret1); (iterate 2 (try (simp (disch := omega) only [push_cast, simprocAttr, hb0, hq] <;> rfl))))
  all_goals (show _ = _; rfl)
end Go.Proofs.Ks

namespace Go.Proofs.Ks
open Go Go.Pg Go.Proofs Go.Proofs.Yt
attribute [push_cast] rowAt_mask
def initP (n : Nat) (f : Int) (k : Nat) : List Int := (initF n f).take k ++ List.replicate (n - k) 0
def byP (n k : Nat) : List Int := List.replicate k (-1) ++ List.replicate (n - k) 0
theorem set_mid {A B : List Int} {k : Nat} {x y : Int} (h : A.length = k) : (A ++ y :: B).set k x = A ++ x :: B := by
  subst h
  rw [List.set_append_right _ _ (Nat.le_refl _), Nat.sub_self]; rfl
theorem initF_len (n : Nat) (f : Int) : (initF n f).length = n := by simp [initF]
theorem initP_zero (n : Nat) (f : Int) : initP n f 0 = List.replicate n 0 := by simp [initP]
theorem initP_all (n : Nat) (f : Int) : initP n f n = initF n f := by unfold initP; rw [List.take_of_length_le (by rw [initF_len]; exact Nat.le_refl _), Nat.sub_self]; simp
theorem initP_len (n : Nat) (f : Int) {k : Nat} (h : k ≤ n) : (initP n f k).length = n := by unfold initP; rw [List.length_append, List.length_take, initF_len, List.length_replicate]; omega
theorem initF_at (n : Nat) (f : Int) {k : Nat} (h : k < n) : (initF n f)[k]? = some (if 0 ≤ f ∧ (k : Int) ≠ f then far else 0) := by
  unfold initF; rw [List.getElem?_map, List.getElem?_range h]; rfl
theorem initP_succ (n : Nat) (f : Int) {k : Nat} (h : k < n) : initP n f (k + 1) = (initP n f k).set k (if 0 ≤ f ∧ (k : Int) ≠ f then far else 0) := by
  unfold initP
  rw [show n - k = (n - (k + 1)) + 1 by omega, List.replicate_succ, set_mid (by rw [List.length_take, initF_len]; omega), List.take_add_one, initF_at n f h]
  simp
theorem initP_same (n : Nat) (f : Int) {k : Nat} (h : k < n) (hq : ¬ (0 ≤ f ∧ (k : Int) ≠ f)) : initP n f (k + 1) = initP n f k := by
  unfold initP
  rw [show n - k = (n - (k + 1)) + 1 by omega, List.replicate_succ, List.take_add_one, initF_at n f h, if_neg hq]
  simp
theorem byP_succ {n k : Nat} (h : k < n) : byP n (k + 1) = (byP n k).set k (-1) := by
  unfold byP
  have e : List.replicate (n - k) (0 : Int) = 0 :: List.replicate (n - (k + 1)) 0 := by
    rw [show n - k = (n - (k + 1)) + 1 by omega, List.replicate_succ]
  rw [e, set_mid (by simp), List.replicate_succ']
  simp
theorem byP_all (n : Nat) : byP n n = List.replicate n (-1) := by simp [byP]
theorem byP_zero (n : Nat) : byP n 0 = List.replicate n 0 := by simp [byP]
theorem byP_len {n k : Nat} (h : k ≤ n) : (byP n k).length = n := by simp [byP]; omega
theorem pure_set (b : List Int) (i : Nat) (v : Int) : ((b.map eInt).set i [.v (.int .i64 v)]).all pureL = true := by
  rw [show (b.map eInt).set i [.v (.int .i64 v)] = (b.set i v).map eInt by rw [List.map_set]]; exact pure_ints _
theorem take_set (b : List Int) (i n : Nat) (x : List AV) (h : n = b.length) : ((b.map eInt).set i x).take n = (b.map eInt).set i x := by rw [List.take_of_length_le (by simp [h])]
def BdD (d : List Int) (n S : Nat) : Prop := d.length = n ∧ ∀ k, k < n → -(1073741823 * (S : Int)) ≤ d.getD k 0 ∧ d.getD k 0 ≤ far
theorem BdD.mono {d : List Int} {n S S' : Nat} (h : BdD d n S) (hs : S ≤ S') : BdD d n S' := ⟨h.1, fun k hk => by have := h.2 k hk; omega⟩
theorem BdD.init (n : Nat) (f : Int) : BdD (initF n f) n 0 := ⟨initF_len n f, fun k hk => by rw [init_get n f hk]; split <;> decide⟩
theorem BdD.relax {d : List Int} {n S : Nat} (h : BdD d n S) {a b : Nat} {m : Int} (ha : a < n) (hb : b < n) (hm : -1073741823 ≤ m ∧ m ≤ 1073741823) (hlt : d.getD a 0 + m < d.getD b 0) : BdD (d.set b (d.getD a 0 + m)) n (S + 1) := by
  refine ⟨by simp [h.1], fun k hk => ?_⟩
  rw [getD_set (by rw [h.1]; exact hb)]
  have h1 := h.2 a ha
  have h2 := h.2 b hb
  have h3 := h.2 k hk
  split
  · omega
  · omega
theorem lengths_ok (nd : List Node) (L : List Lk) (f : Int) (hn : nd.length ≤ 100) (hll : L.length ≤ 10000) (hL : ∀ l ∈ L, l.a < nd.length ∧ l.b < nd.length) (hm : ∀ l ∈ L, -1073741823 ≤ l.m ∧ l.m ≤ 1073741823) :
    OKv cx 49 [gSys nd L, ai f] (.tup [lInt (lengthsF nd.length L f).1, lInt (lengthsF nd.length L f).2.1, ai (lengthsF nd.length L f).2.2]) := by
  obtain ⟨RES, hRES⟩ : ∃ z, lengthsF nd.length L f = z := ⟨_, rfl⟩
  rw [hRES]
  unfold lengthsF at hRES
  have k1 : ((nd.length : Int) * 8 ≤ 281474976710656) = True := eq_true (by omega)
  have k2 : ((nd.length : Int) ≤ 281474976710656) = True := eq_true (by omega)
  have hnL : nd.length * L.length ≤ 1000000 := Nat.le_trans (Nat.mul_le_mul hn hll) (by decide)
  refine OKat.of_body (rs := [4, 5, 6]) Tryz.func49 rfl (by decide +kernel) rfl (by simp [Tryz.ntmps49]) ?_
  simp only [Tryz.ntmps49]
  repeat' first
    | apply jA | apply jB | apply jD | apply jI
    | ((apply jK kO; decide); (simp (disch := omega) only [push_cast, simprocAttr, List.map_replicate, k1, k2, zT, zS, zU] <;> rfl))
  refine AW.loop (fun n s => ∃ (k : Nat) (d b : List Int), n = nd.length - k ∧ (k ≤ nd.length) ∧ (d = initP nd.length f k) ∧ (b = byP nd.length k) ∧ 2 ≤ s.nx ∧ s.tm 0 = gSys nd L ∧ s.tm 1 = ai f ∧ s.tm 7 = .ref 0 0 nd.length ∧ s.tm 8 = .ref 1 0 nd.length ∧ s.tm 28 = ai nd.length ∧ s.tm 29 = ai k ∧ Pg.rowAt s.H (0) = some ({ k := 1, es := d.map eInt, ty := 3 }) ∧ Pg.rowAt s.H (1) = some ({ k := 1, es := b.map eInt, ty := 3 })) (nd.length) ⟨0, _, _, rfl, (Nat.zero_le _), rfl, rfl, ?_, ?_, ?_, ?_, ?_, ?_, ?_, ?_, ?_⟩ ?_
  iterate 9 (first | (simp (disch := omega) only [push_cast, simprocAttr, initP_zero, byP_zero, List.map_replicate] <;> first | rfl | omega) | omega)
  rintro n s ⟨k, d, b, hn, hp0, hp1, hp2, hnl, hS⟩
  have hZ : (0 : Nat) ≠ s.nx ∧ s.nx ≠ (0 : Nat) ∧ (1 : Nat) ≠ s.nx ∧ s.nx ≠ (1 : Nat) := by omega
  subst hp1
  subst hp2
  have hdl := initP_len nd.length f hp0
  have hbl := byP_len hp0
  by_cases hlt : k < nd.length
  · have hk : (k : Int) < (nd.length : Int) := by omega
    have hs1 := initP_succ nd.length f hlt
    have hs2 := byP_succ hlt
    by_cases hq : 0 ≤ f ∧ (k : Int) ≠ f
    · have hq1 := hq.1
      have hq2 : ((k : Int) = f) = False := eq_false hq.2
      rw [if_pos hq] at hs1
      repeat' first
        | apply jA | apply jB | apply jD | apply jE | apply jI
        | ((first | (apply jK kO; decide) | apply jM kO | (apply jN; rfl; decide) | apply jR); (simp (disch := omega) only [push_cast, simprocAttr, hS, hZ, hk, hlt, hdl, hbl, hq1, hq2] <;> rfl); all_goals try ((with_reducible intro hI); try first | (cases hI; done) | (simp only [INTS, zL] at hI; try first | (exfalso; omega) | (have hT : True := hI; clear hT hI))))
      all_goals (refine ⟨nd.length - (k + 1), ?_, k + 1, _, _, rfl, (by omega), rfl, rfl, ?_, ?_, ?_, ?_, ?_, ?_, ?_, ?_, ?_⟩; (omega); all_goals first | (simp (disch := omega) only [push_cast, simprocAttr, hS, hZ, hk, hdl, hbl, hq1, hq2, hs1, hs2, far] <;> first | rfl | omega) | omega)
    · have hs3 := initP_same nd.length f hlt hq
      repeat' first
        | apply jA | apply jB | apply jD | apply jE | apply jI
        | ((first | (apply jK kO; decide) | apply jM kO | (apply jN; rfl; decide) | apply jR); (simp (disch := omega) only [push_cast, simprocAttr, hS, hZ, hk, hlt, hdl, hbl] <;> rfl); all_goals try ((with_reducible intro hI); try first | (cases hI; done) | (simp only [INTS, zL] at hI; try first | (exfalso; omega) | (have hT : True := hI; clear hT hI))))
      all_goals first
        | (exfalso; exact hq ⟨by omega, by omega⟩)
        | (refine ⟨nd.length - (k + 1), ?_, k + 1, _, _, rfl, (by omega), rfl, rfl, ?_, ?_, ?_, ?_, ?_, ?_, ?_, ?_, ?_⟩; (omega); all_goals first | (simp (disch := omega) only [push_cast, simprocAttr, hS, hZ, hk, hdl, hbl, hs3, hs2] <;> first | rfl | omega) | omega)
  · have hk : ¬ (k : Int) < (nd.length : Int) := by omega
    have hke : k = nd.length := by omega
    subst hke
    rw [initP_all] at hS
    rw [byP_all] at hS
    repeat' first
      | apply jA | apply jB | apply jD | apply jF | apply jI
      | ((first | (apply jK kO; decide) | apply jR); (simp (disch := omega) only [push_cast, simprocAttr, hS, hZ, hk] <;> rfl); all_goals try ((with_reducible intro hI); try first | (cases hI; done) | (simp only [INTS, zL] at hI; try first | (exfalso; omega) | (have hT : True := hI; clear hT hI))))
    refine AW.loop (fun n s => ∃ (j S : Nat) (d b : List Int), n = nd.length - j ∧ (j ≤ nd.length) ∧ (loopF L (nd.length - j) d b = RES) ∧ (b.length = nd.length) ∧ (BdD d nd.length S) ∧ (S + (nd.length - j) * L.length ≤ 1000000) ∧ 2 ≤ s.nx ∧ s.tm 0 = gSys nd L ∧ s.tm 1 = ai f ∧ s.tm 7 = .ref 0 0 nd.length ∧ s.tm 8 = .ref 1 0 nd.length ∧ s.tm 50 = ai nd.length ∧ s.tm 51 = ai j ∧ Pg.rowAt s.H (0) = some ({ k := 1, es := d.map eInt, ty := 3 }) ∧ Pg.rowAt s.H (1) = some ({ k := 1, es := b.map eInt, ty := 3 })) (nd.length) ⟨0, 0, (initF nd.length f), (List.replicate nd.length (-1)), rfl, (Nat.zero_le _), hRES, (by simp), (BdD.init _ _), (by rw [Nat.sub_zero]; omega), ?_, ?_, ?_, ?_, ?_, ?_, ?_, ?_, ?_⟩ ?_
    iterate 9 (first | (simp (disch := omega) only [push_cast, simprocAttr, hS, hZ, hk] <;> first | rfl | omega) | omega)
    rintro n1 s1 ⟨j1, S1, d1, b1, hn1, hp01, hp11, hp21, hp31, hp41, hnl1, hS1⟩
    have hZ1 : (0 : Nat) ≠ s1.nx ∧ s1.nx ≠ (0 : Nat) ∧ (1 : Nat) ≠ s1.nx ∧ s1.nx ≠ (1 : Nat) := by omega
    have hdl1 := hp31.1
    have hb1 := hp31.2
    by_cases hlt1 : j1 < nd.length
    · have hk1 : (j1 : Int) < (nd.length : Int) := by omega
      obtain ⟨c1, hc1⟩ : ∃ c, nd.length - j1 = c + 1 := ⟨nd.length - j1 - 1, by omega⟩
      rw [hc1] at hp11 hp41
      rw [Nat.succ_mul] at hp41
      obtain ⟨R1, hR1⟩ : ∃ z, roundF L 0 (d1, b1, -1) = z := ⟨_, rfl⟩
      rw [loopF, hR1] at hp11
      repeat' first
        | apply jA | apply jB | apply jD | apply jE | apply jI
        | ((first | (apply jK kO; decide) | apply jR); (simp (disch := omega) only [push_cast, simprocAttr, hS1, hZ1, hk1] <;> rfl); all_goals try ((with_reducible intro hI); try first | (cases hI; done) | (simp only [INTS, zL] at hI; try first | (exfalso; omega) | (have hT : True := hI; clear hT hI))))
      refine AW.loop (fun n s => ∃ (k S : Nat) (d b : List Int) (c : Int) (rest : List Lk), n = rest.length ∧ (L.drop k = rest) ∧ (roundF rest k (d, b, c) = R1) ∧ (b.length = nd.length) ∧ (BdD d nd.length S) ∧ (S + (rest.length + c1 * L.length) ≤ 1000000) ∧ (d.length = nd.length) ∧ 2 ≤ s.nx ∧ s.tm 0 = gSys nd L ∧ s.tm 1 = ai f ∧ s.tm 7 = .ref 0 0 nd.length ∧ s.tm 8 = .ref 1 0 nd.length ∧ s.tm 10 = ai c ∧ s.tm 50 = ai nd.length ∧ s.tm 51 = ai j1 ∧ s.tm 56 = lLink L ∧ s.tm 57 = ai L.length ∧ s.tm 58 = ai k ∧ Pg.rowAt s.H (0) = some ({ k := 1, es := d.map eInt, ty := 3 }) ∧ Pg.rowAt s.H (1) = some ({ k := 1, es := b.map eInt, ty := 3 })) (L.length) ⟨0, S1, d1, b1, (-1), L, rfl, rfl, hR1, hp21, hp31, (by omega), hdl1, ?_, ?_, ?_, ?_, ?_, ?_, ?_, ?_, ?_, ?_, ?_, ?_, ?_⟩ ?_
      iterate 13 (first | (simp (disch := omega) only [push_cast, simprocAttr, hS1, hZ1, hk1] <;> first | rfl | omega) | omega)
      rintro n2 s2 ⟨k2, S2, d2, b2, c2, rest2, hn2, hp02, hp12, hp22, hp32, hp42, hp52, hnl2, hS2⟩
      have hZ2 : (0 : Nat) ≠ s2.nx ∧ s2.nx ≠ (0 : Nat) ∧ (1 : Nat) ≠ s2.nx ∧ s2.nx ≠ (1 : Nat) := by omega
      have hb2 := hp32.2
      rcases rest2 with _ | ⟨l, rest2⟩
      · have hk2 := drop_nil hp02
        rw [roundF] at hp12
        subst hp12
        dsimp only at hp11
        by_cases hc : c2 < 0
        · rw [if_pos hc] at hp11
          subst hp11
          repeat' first
            | apply jA | apply jB | apply jC | apply jF | apply jI
            | ((first | (apply jK kO; decide) | apply jR); (simp (disch := omega) only [push_cast, simprocAttr, hS2, hZ2, hk2, hc, pure_set, take_set, take_mapLen, leT, zS, zT, zU] <;> rfl); all_goals try ((with_reducible intro hI); try first | (cases hI; done) | (simp only [INTS, zL] at hI; try first | (exfalso; omega) | (have hT : True := hI; clear hT hI))))
            | ((apply W.ret3); (iterate 2 (try (simp (disch := omega) only [push_cast, simprocAttr, hS2, hZ2, hk2, hc, pure_set, take_set, take_mapLen, leT, zS, zT, zU] <;> rfl))))
          all_goals (show _ = _; rfl)
        · rw [if_neg hc] at hp11
          repeat' first
            | apply jA | apply jB | apply jE | apply jF | apply jI
            | ((first | (apply jK kO; decide) | apply jR); (simp (disch := omega) only [push_cast, simprocAttr, hS2, hZ2, hk2, hc] <;> rfl); all_goals try ((with_reducible intro hI); try first | (cases hI; done) | (simp only [INTS, zL] at hI; try first | (exfalso; omega) | (have hT : True := hI; clear hT hI))))
          all_goals (refine ⟨nd.length - (j1 + 1), ?_, j1 + 1, S2, d2, b2, rfl, (by omega), (by rw [show nd.length - (j1 + 1) = c1 by omega]; exact hp11), hp22, hp32, (by rw [show nd.length - (j1 + 1) = c1 by omega]; simp at hp42; omega), ?_, ?_, ?_, ?_, ?_, ?_, ?_, ?_, ?_⟩; (omega); all_goals first | (simp (disch := omega) only [push_cast, simprocAttr, hS2, hZ2, hk2, hc] <;> first | rfl | omega) | omega)
      · obtain ⟨hk2, hg2, hd2, hl2, hm2, hx2⟩ := drop_cons hp02 eLink []
        obtain ⟨ha, hb⟩ := hL l hm2
        obtain ⟨m1, m2⟩ := hm l hm2
        have ha' : (l.a : Int) < (nd.length : Int) := by omega
        have hb' : (l.b : Int) < (nd.length : Int) := by omega
        have hba := hb2 l.a ha
        have hbb := hb2 l.b hb
        unfold far at hba hbb
        rw [roundF, relax] at hp12
        have hle : S2 ≤ 1000000 := by omega
        by_cases hi : Imp d2 l
        · rw [if_pos hi] at hp12
          have hi2 := hi.2
          have hi1 : d2.getD l.a 0 < 1125899906842624 := hi.1
          have hnew := hp32.relax ha hb ⟨m1, m2⟩ hi2
          repeat' first
            | apply jA | apply jB | apply jD | apply jE | apply jI | apply jJ
            | refine AW.draw (id := 17) cx_mixed [18, 19, 20, 21] [3, 4, 5, 14, 15, 16] [0, 1] 0 (by decide +kernel) ?_
            | refine W.draw cx_mixed (by decide +kernel) ?_
            | ((first | (apply jK kO; decide) | (apply jL kO; decide; decide) | apply jM kO | (apply jO; rfl; decide; decide) | apply jR); (simp (disch := omega) only [push_cast, simprocAttr, hS2, hZ2, hk2, hg2, hx2, ha', hb', ha, hb, hp52, hp22, hi1, hi2] <;> rfl); all_goals try ((with_reducible intro hI); try first | (cases hI; done) | (simp only [INTS, zL] at hI; try first | (exfalso; omega) | (have hT : True := hI; clear hT hI))))
            | ((first | (apply D.store kO; decide) | (apply D.stept kO; decide; decide) | (apply D.stepm kO; decide; decide)); (simp (disch := omega) only [push_cast, simprocAttr, hS2, hZ2, hk2, hg2, hx2, ha', hb', ha, hb, hp52, hp22, hi1, hi2] <;> rfl); try first | exact .inl rfl | exact .inr (by simp))
          all_goals (refine ⟨rest2.length, ?_, k2 + 1, S2 + 1, _, _, _, rest2, rfl, hd2, hp12, (by simp [hp22]), hnew, (by simp at hp42; omega), (by simp [hp52]), ?_, ?_, ?_, ?_, ?_, ?_, ?_, ?_, ?_, ?_, ?_, ?_, ?_⟩; ((simp only [List.length_cons] at *; omega)); all_goals first | (simp (disch := omega) only [push_cast, simprocAttr, hS2, hZ2, hk2, hg2, hx2, ha', hb', ha, hb, hp52, hp22, hi1, hi2] <;> first | rfl | omega) | omega)
        · rw [if_neg hi] at hp12
          repeat' first
            | apply jA | apply jB | apply jD | apply jE | apply jI | apply jJ
            | refine AW.draw (id := 17) cx_mixed [18, 19, 20, 21] [3, 4, 5, 14, 15, 16] [0, 1] 0 (by decide +kernel) ?_
            | refine W.draw cx_mixed (by decide +kernel) ?_
            | ((first | (apply jK kO; decide) | (apply jL kO; decide; decide) | apply jM kO | (apply jO; rfl; decide; decide) | apply jR); (simp (disch := omega) only [push_cast, simprocAttr, hS2, hZ2, hk2, hg2, hx2, ha', hb', ha, hb, hp52, hp22] <;> rfl); all_goals try ((with_reducible intro hI); try first | (cases hI; done) | (simp only [INTS, zL] at hI; try first | (exfalso; omega) | (have hT : True := hI; clear hT hI))))
            | ((first | (apply D.store kO; decide) | (apply D.stept kO; decide; decide) | (apply D.stepm kO; decide; decide)); (simp (disch := omega) only [push_cast, simprocAttr, hS2, hZ2, hk2, hg2, hx2, ha', hb', ha, hb, hp52, hp22] <;> rfl); try first | exact .inl rfl | exact .inr (by simp))
          all_goals first
            | (exfalso; exact hi ⟨by assumption, by assumption⟩)
            | (refine ⟨rest2.length, ?_, k2 + 1, S2, d2, b2, c2, rest2, rfl, hd2, hp12, hp22, hp32, (by simp at hp42; omega), hp52, ?_, ?_, ?_, ?_, ?_, ?_, ?_, ?_, ?_, ?_, ?_, ?_, ?_⟩; ((simp only [List.length_cons] at *; omega)); all_goals first | (simp (disch := omega) only [push_cast, simprocAttr, hS2, hZ2, hk2, hg2, hx2, ha', hb', ha, hb, hp52, hp22] <;> first | rfl | omega) | omega)
    · have hk1 : ¬ (j1 : Int) < (nd.length : Int) := by omega
      rw [show nd.length - j1 = 0 by omega, loopF] at hp11
      repeat' first
        | apply jA | apply jB | apply jD | apply jF | apply jI
        | ((first | (apply jK kO; decide) | apply jR); (simp (disch := omega) only [push_cast, simprocAttr, hS1, hZ1, hk1] <;> rfl); all_goals try ((with_reducible intro hI); try first | (cases hI; done) | (simp only [INTS, zL] at hI; try first | (exfalso; omega) | (have hT : True := hI; clear hT hI))))
      refine AW.loop (fun n s => ∃ (k : Nat) (rest : List Lk), n = rest.length ∧ (L.drop k = rest) ∧ (lastF rest k d1 b1 = RES) ∧ 2 ≤ s.nx ∧ s.tm 0 = gSys nd L ∧ s.tm 1 = ai f ∧ s.tm 7 = .ref 0 0 nd.length ∧ s.tm 8 = .ref 1 0 nd.length ∧ s.tm 113 = lLink L ∧ s.tm 114 = ai L.length ∧ s.tm 115 = ai k ∧ Pg.rowAt s.H (0) = some ({ k := 1, es := d1.map eInt, ty := 3 }) ∧ Pg.rowAt s.H (1) = some ({ k := 1, es := b1.map eInt, ty := 3 })) (L.length) ⟨0, L, rfl, rfl, hp11, ?_, ?_, ?_, ?_, ?_, ?_, ?_, ?_, ?_, ?_⟩ ?_
      iterate 10 (first | (simp (disch := omega) only [push_cast, simprocAttr, hS1, hZ1, hk1] <;> first | rfl | omega) | omega)
      rintro n2 s2 ⟨k2, rest2, hn2, hp02, hp12, hnl2, hS2⟩
      have hZ2 : (0 : Nat) ≠ s2.nx ∧ s2.nx ≠ (0 : Nat) ∧ (1 : Nat) ≠ s2.nx ∧ s2.nx ≠ (1 : Nat) := by omega
      rcases rest2 with _ | ⟨l, rest2⟩
      · have hk2 := drop_nil hp02
        rw [lastF] at hp12
        subst hp12
        repeat' first
          | apply jA | apply jB | apply jC | apply jF | apply jI
          | ((first | (apply jK kO; decide) | apply jR); (simp (disch := omega) only [push_cast, simprocAttr, hS2, hZ2, hk2, hdl1, hp21, pure_set, take_set, take_mapLen, leT, zS, zT, zU] <;> rfl); all_goals try ((with_reducible intro hI); try first | (cases hI; done) | (simp only [INTS, zL] at hI; try first | (exfalso; omega) | (have hT : True := hI; clear hT hI))))
          | ((apply W.ret3); (iterate 2 (try (simp (disch := omega) only [push_cast, simprocAttr, hS2, hZ2, hk2, hdl1, hp21, pure_set, take_set, take_mapLen, leT, zS, zT, zU] <;> rfl))))
        all_goals (show _ = _; rfl)
      · obtain ⟨hk2, hg2, hd2, hl2, hm2, hx2⟩ := drop_cons hp02 eLink []
        obtain ⟨ha, hb⟩ := hL l hm2
        obtain ⟨m1, m2⟩ := hm l hm2
        have ha' : (l.a : Int) < (nd.length : Int) := by omega
        have hb' : (l.b : Int) < (nd.length : Int) := by omega
        have hba := hb1 l.a ha
        have hbb := hb1 l.b hb
        unfold far at hba hbb
        have hle : S1 ≤ 1000000 := by omega
        rw [lastF] at hp12
        by_cases hi : Imp d1 l
        · rw [if_pos hi] at hp12
          subst hp12
          have hi2 := hi.2
          have hi1 : d1.getD l.a 0 < 1125899906842624 := hi.1
          repeat' first
            | apply jA | apply jB | apply jC | apply jD | apply jE | apply jI | apply jJ
            | refine W.draw cx_mixed (by decide +kernel) ?_
            | ((first | (apply jK kO; decide) | (apply jL kO; decide; decide) | apply jM kO | (apply jO; rfl; decide; decide) | apply jR); (simp (disch := omega) only [push_cast, simprocAttr, hS2, hZ2, hk2, hg2, hx2, ha', hb', ha, hb, hdl1, hp21, hi1, hi2, pure_set, take_set, take_mapLen, leT, zS, zT, zU] <;> rfl); all_goals try ((with_reducible intro hI); try first | (cases hI; done) | (simp only [INTS, zL] at hI; try first | (exfalso; omega) | (have hT : True := hI; clear hT hI))))
            | ((apply W.ret3); (iterate 2 (try (simp (disch := omega) only [push_cast, simprocAttr, hS2, hZ2, hk2, hg2, hx2, ha', hb', ha, hb, hdl1, hp21, hi1, hi2, pure_set, take_set, take_mapLen, leT, zS, zT, zU] <;> rfl))))
          all_goals (show _ = _; simp [List.map_set])
        · rw [if_neg hi] at hp12
          repeat' first
            | apply jA | apply jB | apply jC | apply jD | apply jE | apply jI | apply jJ
            | refine W.draw cx_mixed (by decide +kernel) ?_
            | ((first | (apply jK kO; decide) | (apply jL kO; decide; decide) | apply jM kO | (apply jO; rfl; decide; decide) | apply jR); (simp (disch := omega) only [push_cast, simprocAttr, hS2, hZ2, hk2, hg2, hx2, ha', hb', ha, hb, hdl1, hp21, pure_set, take_set, take_mapLen, leT, zS, zT, zU] <;> rfl); all_goals try ((with_reducible intro hI); try first | (cases hI; done) | (simp only [INTS, zL] at hI; try first | (exfalso; omega) | (have hT : True := hI; clear hT hI))))
            | ((apply W.ret3); (iterate 2 (try (simp (disch := omega) only [push_cast, simprocAttr, hS2, hZ2, hk2, hg2, hx2, ha', hb', ha, hb, hdl1, hp21, pure_set, take_set, take_mapLen, leT, zS, zT, zU] <;> rfl))))
          all_goals first
            | (exfalso; exact hi ⟨by assumption, by assumption⟩)
            | (refine ⟨rest2.length, ?_, k2 + 1, rest2, rfl, hd2, hp12, ?_, ?_, ?_, ?_, ?_, ?_, ?_, ?_, ?_, ?_⟩; ((simp only [List.length_cons] at *; omega)); all_goals first | (simp (disch := omega) only [push_cast, simprocAttr, hS2, hZ2, hk2, hg2, hx2, ha', hb', ha, hb, hdl1, hp21] <;> first | rfl | omega) | omega)
end Go.Proofs.Ks

namespace Go.Proofs.Ks
open Go Go.Pg Go.Proofs Go.Proofs.Yt
theorem relax_bd {d b : List Int} {c : Int} {n S k : Nat} {l : Lk} (h : BdD d n S) (ha : l.a < n) (hb : l.b < n) (hm : -1073741823 ≤ l.m ∧ l.m ≤ 1073741823) : BdD (relax (d, b, c) k l).1 n (S + 1) := by
  unfold relax
  split
  · rename_i hi; exact h.relax ha hb hm hi.2
  · exact h.mono (Nat.le_succ _)
theorem round_bd {n : Nat} : ∀ (R : List Lk) (k S : Nat) (p : BS), (∀ l ∈ R, l.a < n ∧ l.b < n) → (∀ l ∈ R, -1073741823 ≤ l.m ∧ l.m ≤ 1073741823) → BdD p.1 n S → BdD (roundF R k p).1 n (S + R.length)
  | [], _, _, _, _, _, h => h
  | l :: R, k, S, p, hL, hm, h => by
    obtain ⟨d, b, c⟩ := p
    have h1 := relax_bd (b := b) (c := c) (k := k) h (hL l (by simp)).1 (hL l (by simp)).2 (hm l (by simp))
    have := round_bd R (k + 1) (S + 1) _ (fun x hx => hL x (by simp [hx])) (fun x hx => hm x (by simp [hx])) h1
    rw [List.length_cons, show S + (R.length + 1) = S + 1 + R.length by omega]
    exact this
theorem loop_bd {n : Nat} {L : List Lk} (hL : ∀ l ∈ L, l.a < n ∧ l.b < n) (hm : ∀ l ∈ L, -1073741823 ≤ l.m ∧ l.m ≤ 1073741823) : ∀ (c S : Nat) (d b : List Int), BdD d n S → BdD (loopF L c d b).1 n (S + c * L.length)
  | 0, S, d, b, h => by
    unfold loopF
    rcases last_case L 0 d b with ⟨e, _⟩ | ⟨_, _, _, _, e⟩ <;> rw [e] <;> exact h.mono (by omega)
  | c + 1, S, d, b, h => by
    have h1 := round_bd L 0 S (d, b, -1) hL hm h
    unfold loopF
    rw [Nat.succ_mul]
    split
    · exact h1.mono (by omega)
    · exact (loop_bd hL hm c (S + L.length) _ _ h1).mono (by omega)
theorem lengths_bd {nd : List Node} {L : List Lk} (f : Int) (hn : nd.length ≤ 100) (hll : L.length ≤ 10000) (hL : ∀ l ∈ L, l.a < nd.length ∧ l.b < nd.length) (hm : ∀ l ∈ L, -1073741823 ≤ l.m ∧ l.m ≤ 1073741823) : BdD (lengthsF nd.length L f).1 nd.length 1000000 := by
  refine (loop_bd hL hm nd.length 0 _ _ (BdD.init nd.length f)).mono ?_
  have := Nat.mul_le_mul hn hll
  omega
theorem consistent_ok (nd : List Node) (L : List Lk) (hn : nd.length ≤ 100) (hll : L.length ≤ 10000) (hL : ∀ l ∈ L, l.a < nd.length ∧ l.b < nd.length) (hm : ∀ l ∈ L, -1073741823 ≤ l.m ∧ l.m ≤ 1073741823) :
    OKv cx 48 [gSys nd L] (ab (decide ((lengthsF nd.length L (-1)).2.2 < 0))) := by
  refine OKat.of_body (rs := [2]) Tryz.func48 rfl (by decide +kernel) rfl (by simp [Tryz.ntmps48]) ?_
  simp only [Tryz.ntmps48]
  repeat' first
    | apply jA | apply jB | apply jC | apply jI
    | ((apply jK kO; decide); (simp (disch := omega) only [push_cast, simprocAttr] <;> rfl))
    | ((apply jV kO; decide); (iterate 2 (simp (disch := omega) only [push_cast, simprocAttr] <;> rfl)); (with_reducible exact lengths_ok nd L _ hn hll hL hm); try first | rfl | (simp (disch := omega) only [push_cast, simprocAttr] <;> rfl))
    | ((apply W.ret1); (iterate 2 (try (simp (disch := omega) only [push_cast, simprocAttr] <;> rfl))))
  all_goals (show _ = _; rfl)
def spanF (nd : List Node) (L : List Lk) (f t : Nat) : Span := ⟨-((lengthsF nd.length L (t : Int)).1.getD f 0), (lengthsF nd.length L (f : Int)).1.getD t 0⟩
theorem span_ok (nd : List Node) (L : List Lk) (f t : Nat) (hn : nd.length ≤ 100) (hll : L.length ≤ 10000) (hL : ∀ l ∈ L, l.a < nd.length ∧ l.b < nd.length) (hm : ∀ l ∈ L, -1073741823 ≤ l.m ∧ l.m ≤ 1073741823) (hf : f < nd.length) (ht : t < nd.length) :
    OKv cx 26 [gSys nd L, ai f, ai t] (.agg (eSpan (spanF nd L f t))) := by
  obtain ⟨l1, b1⟩ := lengths_bd (nd := nd) (f : Int) hn hll hL hm
  obtain ⟨l2, b2⟩ := lengths_bd (nd := nd) (t : Int) hn hll hL hm
  have c1 := b1 t ht
  have c2 := b2 f hf
  unfold far at c1 c2
  have e : spanF nd L f t = ⟨-((lengthsF nd.length L (t : Int)).1.getD f 0), (lengthsF nd.length L (f : Int)).1.getD t 0⟩ := rfl
  rw [e]
  obtain ⟨P, hP⟩ : ∃ z, lengthsF nd.length L (f : Int) = z := ⟨_, rfl⟩
  obtain ⟨Q, hQ⟩ : ∃ z, lengthsF nd.length L (t : Int) = z := ⟨_, rfl⟩
  rw [hP] at l1 c1 ⊢
  rw [hQ] at l2 c2 ⊢
  have hf' : (f : Int) < (nd.length : Int) := by omega
  have ht' : (t : Int) < (nd.length : Int) := by omega
  refine OKat.of_bodyM kO (rs := [.cell 6 29]) Tryz.func26 rfl (by decide +kernel) rfl (by simp [Tryz.ntmps26]) ?_
  simp only [Tryz.ntmps26]
  repeat' first
    | apply jA | apply jB | apply jC | apply jI
    | refine AW.draw (id := 3) cx_mixed [10] [] [] 0 (by decide +kernel) ?_
    | ((first | (apply jK kO; decide) | (apply jL kO; decide; decide)); (simp (disch := omega) only [push_cast, simprocAttr, hP, hQ, l1, l2, hf, ht, hf', ht', yD] <;> rfl))
    | ((apply D.store kO; decide); (simp (disch := omega) only [push_cast, simprocAttr, hP, hQ, l1, l2, hf, ht, hf', ht', yD] <;> rfl); try first | exact .inl rfl | exact .inr (by simp))
    | ((apply jV kO; decide); (iterate 2 (simp (disch := omega) only [push_cast, simprocAttr, hP, hQ, l1, l2, hf, ht, hf', ht', yD] <;> rfl)); (with_reducible exact lengths_ok nd L _ hn hll hL hm); try first | rfl | (simp (disch := omega) only [push_cast, simprocAttr, hP, hQ, l1, l2, hf, ht, hf', ht', yD] <;> rfl))
    | ((apply W.retM); (iterate 2 (try (simp (disch := omega) only [push_cast, simprocAttr, hP, hQ, l1, l2, hf, ht, hf', ht', yD] <;> rfl))))
  all_goals (show _ = _; rfl)
end Go.Proofs.Ks

namespace Go.Proofs.Ks
open Go Go.Pg Go.Proofs Go.Proofs.Yt
attribute [push_cast] rowAt_mask
def Rows (H : Nat → Option AO) (n : Nat) (o : Mx) : Prop := ∀ x, x < n → Pg.rowAt H (1 + x) = some { k := 1, es := (o.getD x []).map eInt, ty := 3 }
end Go.Proofs.Ks
