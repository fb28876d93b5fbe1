/-
  Contracts of functions, proved by going through their code. No conditions.
-/
import Derived.Test.YtdlflcambboojaaVaa
import Derived.Test.YtdlflcambboojaaVaf
import Derived.Test.YtdlflcambboojaaVai
import Derived.Test.YtdlflcambboojaaVaj
set_option linter.unusedVariables false
set_option linter.unusedSimpArgs false
namespace Go.Proofs.Ks
def far : Int := 1125899906842624
abbrev BS := List Int × List Int × Int
def Imp (d : List Int) (l : Lk) : Prop := d.getD l.a 0 < far ∧ d.getD l.a 0 + l.m < d.getD l.b 0
instance (d : List Int) (l : Lk) : Decidable (Imp d l) := inferInstanceAs (Decidable (_ ∧ _))
def relax (p : BS) (k : Nat) (l : Lk) : BS :=
  if Imp p.1 l then (p.1.set l.b (p.1.getD l.a 0 + l.m), p.2.1.set l.b (k : Int), (l.b : Int)) else p
def roundF : List Lk → Nat → BS → BS
  | [], _, p => p
  | l :: r, k, p => roundF r (k + 1) (relax p k l)
def lastF : List Lk → Nat → List Int → List Int → BS
  | [], _, d, b => (d, b, -1)
  | l :: r, k, d, b => if Imp d l then (d, b.set l.b (k : Int), (l.b : Int)) else lastF r (k + 1) d b
def loopF (L : List Lk) : Nat → List Int → List Int → BS
  | 0, d, b => lastF L 0 d b
  | n + 1, d, b => if (roundF L 0 (d, b, -1)).2.2 < 0 then ((roundF L 0 (d, b, -1)).1, (roundF L 0 (d, b, -1)).2.1, -1) else loopF L n (roundF L 0 (d, b, -1)).1 (roundF L 0 (d, b, -1)).2.1
def initF (n : Nat) (f : Int) : List Int := (List.range n).map fun (i : Nat) => if 0 ≤ f ∧ (i : Int) ≠ f then far else 0
def lengthsF (n : Nat) (L : List Lk) (f : Int) : BS := loopF L n (initF n f) (List.replicate n (-1))
structure Good (L : List Lk) (n : Nat) (Src : Nat → Prop) (d : List Int) (r : Nat) : Prop where
  len : d.length = n
  le : ∀ k, k < n → d.getD k 0 ≤ far
  real : ∀ k, k < n → d.getD k 0 < far → ∃ s p, Src s ∧ Wk L s p k ∧ lenW p = d.getD k 0
  low : ∀ s p k, Src s → Wk L s p k → p.length ≤ r → d.getD k 0 ≤ lenW p
theorem getD_set {d : List Int} {i j : Nat} {x : Int} (h : i < d.length) : (d.set i x).getD j 0 = if i = j then x else d.getD j 0 := by
  rw [List.getD_eq_getElem?_getD, List.getElem?_set, List.getD_eq_getElem?_getD]
  split
  · rename_i e; subst e; simp [h]
  · rfl
section
variable {L : List Lk} {n : Nat} {Src : Nat → Prop} {B : Int}
theorem last_case : ∀ (R : List Lk) (k : Nat) (d b : List Int), (lastF R k d b = (d, b, -1) ∧ ∀ l ∈ R, ¬ Imp d l) ∨ ∃ j l, R[j]? = some l ∧ Imp d l ∧ lastF R k d b = (d, b.set l.b ((k + j : Nat) : Int), (l.b : Int))
  | [], _, _, _ => .inl ⟨rfl, fun l hl => by simp at hl⟩
  | x :: R, k, d, b => by
    unfold lastF
    by_cases hx : Imp d x
    · rw [if_pos hx]; exact .inr ⟨0, x, rfl, hx, rfl⟩
    · rw [if_neg hx]
      rcases last_case R (k + 1) d b with ⟨h1, h2⟩ | ⟨j, l, h1, h2, h3⟩
      · refine .inl ⟨h1, fun l hl => ?_⟩
        rcases List.mem_cons.1 hl with rfl | hl
        · exact hx
        · exact h2 l hl
      · exact .inr ⟨j + 1, l, by simpa using h1, h2, by rw [h3, show k + 1 + j = k + (j + 1) by omega]⟩
theorem init_get (n : Nat) (f : Int) {k : Nat} (h : k < n) : (initF n f).getD k 0 = if 0 ≤ f ∧ (k : Int) ≠ f then far else 0 := by
  unfold initF
  rw [List.getD_eq_getElem?_getD, List.getElem?_map, List.getElem?_range h]; rfl
end
end Go.Proofs.Ks

namespace Go.Proofs.Ks
abbrev Mx := List (List Int)
def mget (o : Mx) (i k : Nat) : Int := (o.getD i []).getD k 0
def mset (o : Mx) (i k : Nat) (v : Int) : Mx := o.set i ((o.getD i []).set k v)
def fwInit (n : Nat) : Mx := (List.range n).map fun i => (List.range n).map fun k => if i ≠ k then far else 0
def fwLink (o : Mx) (l : Lk) : Mx := mset o l.a l.b (min (mget o l.a l.b) l.m)
def fwLinks : List Lk → Mx → Mx
  | [], o => o
  | l :: r, o => fwLinks r (fwLink o l)
def fwCell (m i k : Nat) (o : Mx) : Mx := if mget o i m < far ∧ mget o m k < far then mset o i k (min (mget o i k) (mget o i m + mget o m k)) else o
def fwRow (m i : Nat) : Nat → Nat → Mx → Mx
  | 0, _, o => o
  | c + 1, k, o => fwRow m i c (k + 1) (fwCell m i k o)
def fwStep (m n : Nat) : Nat → Nat → Mx → Mx
  | 0, _, o => o
  | c + 1, i, o => fwStep m n c (i + 1) (fwRow m i n 0 o)
def Semi (i : Nat) (p : List Lk) : Prop := (i :: p.dropLast.map (·.b)).Nodup
theorem Wk.split1 {L : List Lk} : ∀ {p : List Lk} {i k j : Nat}, Wk L i p k → j ∈ p.map (·.b) → ∃ q r, p = q ++ r ∧ q ≠ [] ∧ Wk L i q j ∧ Wk L j r k ∧ j ∉ q.dropLast.map (·.b)
  | [], i, k, j, h, hj => by simp at hj
  | l :: p, i, k, j, h, hj => by
    simp only [List.map_cons, List.mem_cons] at hj
    by_cases he : l.b = j
    · exact ⟨[l], p, rfl, by simp, ⟨h.1, h.2.1, he⟩, he ▸ h.2.2, by simp⟩
    · rcases hj with hj | hj
      · exact absurd hj.symm he
      · obtain ⟨q, r, h1, h2, h3, h4, h5⟩ := Wk.split1 h.2.2 hj
        refine ⟨l :: q, r, by rw [h1]; rfl, by simp, ⟨h.1, h.2.1, h3⟩, h4, ?_⟩
        rw [List.dropLast_cons_of_ne_nil h2]
        simp only [List.map_cons, List.mem_cons, not_or]
        exact ⟨fun e => he e.symm, h5⟩
theorem mget_mset {o : Mx} {n i k i' k' : Nat} {v : Int} (ho : o.length = n) (hr : ∀ i, i < n → (o.getD i []).length = n) (hi : i < n) (hk : k < n) : mget (mset o i k v) i' k' = if i = i' ∧ k = k' then v else mget o i' k' := by
  unfold mget mset
  rw [List.getD_eq_getElem?_getD (l := o.set _ _), List.getElem?_set]
  split
  · rename_i e; subst e
    rw [if_pos (by omega)]
    simp only [Option.getD_some, true_and]
    exact getD_set (by rw [hr i hi]; exact hk)
  · rename_i e
    rw [if_neg (fun h => e h.1), ← List.getD_eq_getElem?_getD]
theorem mset_row {o : Mx} {n i k j : Nat} {v : Int} (ho : o.length = n) (hr : ∀ i, i < n → (o.getD i []).length = n) (hi : i < n) (hj : j < n) : ((mset o i k v).getD j []).length = n := by
  unfold mset
  rw [List.getD_eq_getElem?_getD, List.getElem?_set]
  split
  · rename_i e; subst e
    rw [if_pos (by omega)]; simpa using hr i hi
  · rw [← List.getD_eq_getElem?_getD]; exact hr j hj
structure FW (L : List Lk) (n : Nat) (o : Mx) (m : Nat) : Prop where
  len : o.length = n
  row : ∀ i, i < n → (o.getD i []).length = n
  le : ∀ i k, i < n → k < n → mget o i k ≤ far
  real : ∀ i k, i < n → k < n → mget o i k < far → ∃ p, Wk L i p k ∧ lenW p = mget o i k
  low : ∀ i k p, i < n → k < n → Wk L i p k → Semi i p → (∀ x ∈ p.dropLast.map (·.b), x < m) → mget o i k ≤ lenW p
section
variable {L : List Lk} {n : Nat} {B : Int}
theorem FW.put {o : Mx} {m : Nat} (h : FW L n o m) {i k : Nat} (hi : i < n) (hk : k < n) {v : Int} (hv : v ≤ mget o i k) (hr : v < far → ∃ p, Wk L i p k ∧ lenW p = v) :
    FW L n (mset o i k v) m ∧ ∀ i' k', mget (mset o i k v) i' k' ≤ mget o i' k' := by
  have hg := fun i' k' => mget_mset (v := v) (i' := i') (k' := k') h.len h.row hi hk
  have hmon : ∀ i' k', mget (mset o i k v) i' k' ≤ mget o i' k' := fun i' k' => by
    rw [hg]
    split
    · rename_i e; obtain ⟨rfl, rfl⟩ := e; exact hv
    · exact Int.le_refl _
  refine ⟨⟨by simp [mset, h.len], fun j hj => mset_row h.len h.row hi hj, fun a b ha hb => Int.le_trans (hmon a b) (h.le a b ha hb), fun a b ha hb hf => ?_, fun a b p ha hb hw hs hp => Int.le_trans (hmon a b) (h.low a b p ha hb hw hs hp)⟩, hmon⟩
  rw [hg] at hf ⊢
  split
  · rename_i e; obtain ⟨rfl, rfl⟩ := e
    rw [if_pos ⟨rfl, rfl⟩] at hf
    exact hr hf
  · rename_i e
    rw [if_neg e] at hf
    exact h.real a b ha hb hf
theorem Semi.len {i k : Nat} {p : List Lk} (h : Semi i p) (hw : Wk L i p k) (hL : ∀ l ∈ L, l.a < n ∧ l.b < n) (hi : i < n) : p.length ≤ n := by
  have h1 := pigeon n _ (fun x hx => ?_) h
  · simp only [List.length_cons, List.length_map, List.length_dropLast] at h1; omega
  · rcases List.mem_cons.1 hx with rfl | hx
    · exact hi
    · obtain ⟨l, hl, rfl⟩ := List.mem_map.1 hx
      exact (hL l (hw.mem l ((List.dropLast_sublist _).subset hl))).2
theorem Semi.lt (hL : ∀ l ∈ L, l.a < n ∧ l.b < n) (hB0 : 0 ≤ B) (hB : ∀ l ∈ L, -B ≤ l.m ∧ l.m ≤ B) (hfar : B * (n : Int) < far) {i k : Nat} {p : List Lk} (h : Semi i p) (hw : Wk L i p k) (hi : i < n) : lenW p < far := by
  have h1 := h.len hw hL hi
  have h2 := (lenW_bound p (fun x hx => hB x (hw.mem x hx))).2
  have h3 : B * (p.length : Int) ≤ B * (n : Int) := Int.mul_le_mul_of_nonneg_left (by omega) hB0
  omega
theorem fwInit_get {i k : Nat} (hi : i < n) (hk : k < n) : mget (fwInit n) i k = if i ≠ k then far else 0 := by
  unfold mget fwInit
  simp only [List.getD_eq_getElem?_getD, List.getElem?_map, List.getElem?_range hi, Option.map_some, Option.getD_some, List.getElem?_range hk]
theorem fwInit_row {i : Nat} (hi : i < n) : ((fwInit n).getD i []).length = n := by
  unfold fwInit
  simp only [List.getD_eq_getElem?_getD, List.getElem?_map, List.getElem?_range hi, Option.map_some, Option.getD_some, List.length_map, List.length_range]
structure FW0 (L : List Lk) (n : Nat) (P : Lk → Prop) (o : Mx) : Prop where
  len : o.length = n
  row : ∀ i, i < n → (o.getD i []).length = n
  le : ∀ i k, i < n → k < n → mget o i k ≤ far
  real : ∀ i k, i < n → k < n → mget o i k < far → ∃ p, Wk L i p k ∧ lenW p = mget o i k
  zero : ∀ i, i < n → mget o i i ≤ 0
  link : ∀ l, P l → mget o l.a l.b ≤ l.m
theorem links_fw (hL : ∀ l ∈ L, l.a < n ∧ l.b < n) : ∀ (R : List Lk) (P : Lk → Prop) (o : Mx), (∀ l ∈ R, l ∈ L) → FW0 L n P o → FW0 L n (fun l => P l ∨ l ∈ R) (fwLinks R o)
  | [], P, o, _, h => ⟨h.len, h.row, h.le, h.real, h.zero, fun l hl => h.link l (by simpa using hl)⟩
  | x :: R, P, o, hR, h => by
    obtain ⟨ha, hb⟩ := hL x (hR x (by simp))
    have hg := fun i' k' => mget_mset (v := min (mget o x.a x.b) x.m) (i' := i') (k' := k') h.len h.row ha hb
    have hmon : ∀ i' k', mget (fwLink o x) i' k' ≤ mget o i' k' := fun i' k' => by
      unfold fwLink; rw [hg]
      split
      · rename_i e; obtain ⟨rfl, rfl⟩ := e; omega
      · exact Int.le_refl _
    have h1 : FW0 L n (fun l => P l ∨ l = x) (fwLink o x) := by
      refine ⟨by simp [fwLink, mset, h.len], fun j hj => mset_row h.len h.row ha hj, fun a b p q => Int.le_trans (hmon a b) (h.le a b p q), fun a b p q hf => ?_, fun i hi => Int.le_trans (hmon i i) (h.zero i hi), fun l hl => ?_⟩
      · unfold fwLink at hf ⊢
        rw [hg] at hf ⊢
        split
        · rename_i e; obtain ⟨rfl, rfl⟩ := e
          rw [if_pos ⟨rfl, rfl⟩] at hf
          by_cases hle : mget o x.a x.b ≤ x.m
          · rw [show min (mget o x.a x.b) x.m = mget o x.a x.b by omega] at hf ⊢
            exact h.real _ _ p q hf
          · rw [show min (mget o x.a x.b) x.m = x.m by omega]
            exact ⟨[x], ⟨hR x (by simp), rfl, rfl⟩, by simp [lenW]⟩
        · rename_i e
          rw [if_neg e] at hf
          exact h.real _ _ p q hf
      · rcases hl with hl | rfl
        · exact Int.le_trans (hmon _ _) (h.link l hl)
        · unfold fwLink; rw [hg, if_pos ⟨rfl, rfl⟩]; omega
    have h2 := links_fw hL R _ _ (fun l hl => hR l (by simp [hl])) h1
    exact ⟨h2.len, h2.row, h2.le, h2.real, h2.zero, fun l hl => h2.link l (by
      rcases hl with hl | hl
      · exact .inl (.inl hl)
      · rcases List.mem_cons.1 hl with rfl | hl
        · exact .inl (.inr rfl)
        · exact .inr hl)⟩
theorem start_fw (hL : ∀ l ∈ L, l.a < n ∧ l.b < n) : FW L n (fwLinks L (fwInit n)) 0 := by
  have h0 : FW0 L n (fun _ => False) (fwInit n) := by
    refine ⟨by simp [fwInit], fun i hi => fwInit_row hi, fun i k hi hk => ?_, fun i k hi hk hf => ?_, fun i hi => ?_, fun _ h => h.elim⟩
    · rw [fwInit_get hi hk]; split <;> decide
    · rw [fwInit_get hi hk] at hf ⊢
      split at hf
      · exact absurd hf (by decide)
      · rename_i e
        have e' : i = k := by omega
        rw [if_neg e]; exact ⟨[], e', rfl⟩
    · rw [fwInit_get hi hi, if_neg (by simp)]; exact Int.le_refl _
  have h1 := links_fw hL L _ _ (fun _ h => h) h0
  refine ⟨h1.len, h1.row, h1.le, h1.real, fun i k p hi hk hw hs hp => ?_⟩
  match p, hw, hp with
  | [], hw, _ => simp only [Wk] at hw; subst hw; simpa [lenW] using h1.zero i hi
  | [l], hw, _ =>
    obtain ⟨w1, w2, w3⟩ := hw
    simp only [Wk] at w3
    subst w2; subst w3
    simpa [lenW] using h1.link l (.inr w1)
  | l :: x :: r, hw, hp => exact absurd (hp l.b (by simp)) (by omega)
end
end Go.Proofs.Ks

namespace Go.Proofs.Ks
open Go Go.Pg Go.Proofs
noncomputable def cx : Cx := { P := Try.prog, T := T, eqT := eqT, E := fun _ => True }
instance : Cx.Wide cx := ⟨rfl⟩
theorem cx_ok : cx.OK := ⟨T_ok, eqT_ok, fun _ _ _ _ => trivial⟩
theorem cx_mixed : cx.P.follows .mixedOrders = true := rfl
abbrev ai (n : Int) : AV := .v (.int .i64 n)
abbrev ab (b : Bool) : AV := .v (.bool b)
structure Span where
  lo : Int
  hi : Int
  deriving DecidableEq, Inhabited
structure Stop where
  pos : Int
  secs : Span
  deriving DecidableEq, Inhabited
structure Session where
  id : Int
  inn : Span
  out : Span
  zero : Span
  fin : Span
  rate : Span
  stops : List Stop
  deriving DecidableEq, Inhabited
structure Strike where
  id : Int
  pos : Span
  deriving DecidableEq, Inhabited
structure Sight where
  strike : Int
  seen : Span
  deriving DecidableEq, Inhabited
structure Rec where
  s : Session
  strikes : List Strike
  sights : List Sight
  deriving DecidableEq, Inhabited
structure Node where
  kind : Int
  num : Int
  deriving DecidableEq, Inhabited
structure Leg where
  secs : Int
  rate : Int
  deriving DecidableEq, Inhabited
structure Run where
  start : Int
  micro : Int
  legs : List Leg
  deriving DecidableEq, Inhabited
abbrev eSpan (s : Span) : List AV := [ai s.lo, ai s.hi]
abbrev lSpan (l : List Span) : AV := .lst (l.map eSpan)
abbrev eStop (s : Stop) : List AV := [ai s.pos, ai s.secs.lo, ai s.secs.hi]
abbrev lStop (l : List Stop) : AV := .lst (l.map eStop)
abbrev eSession (s : Session) : List AV := [ai s.id, ai s.inn.lo, ai s.inn.hi, ai s.out.lo, ai s.out.hi, ai s.zero.lo, ai s.zero.hi, ai s.fin.lo, ai s.fin.hi, ai s.rate.lo, ai s.rate.hi, lStop s.stops]
abbrev eStrike (s : Strike) : List AV := [ai s.id, ai s.pos.lo, ai s.pos.hi]
abbrev lStrike (l : List Strike) : AV := .lst (l.map eStrike)
abbrev eSight (s : Sight) : List AV := [ai s.strike, ai s.seen.lo, ai s.seen.hi]
abbrev lSight (l : List Sight) : AV := .lst (l.map eSight)
abbrev eRec (r : Rec) : List AV := [ai r.s.id, ai r.s.inn.lo, ai r.s.inn.hi, ai r.s.out.lo, ai r.s.out.hi, ai r.s.zero.lo, ai r.s.zero.hi, ai r.s.fin.lo, ai r.s.fin.hi, ai r.s.rate.lo, ai r.s.rate.hi, lStop r.s.stops, lStrike r.strikes, lSight r.sights]
abbrev eNode (n : Node) : List AV := [ai n.kind, ai n.num]
abbrev lNode (l : List Node) : AV := .lst (l.map eNode)
abbrev eLink (l : Lk) : List AV := [ai l.a, ai l.b, ai l.m]
abbrev lLink (l : List Lk) : AV := .lst (l.map eLink)
abbrev eInt (n : Int) : List AV := [ai n]
abbrev lInt (l : List Int) : AV := .lst (l.map eInt)
abbrev eLeg (l : Leg) : List AV := [ai l.secs, ai l.rate]
abbrev lLeg (l : List Leg) : AV := .lst (l.map eLeg)
abbrev eRun (r : Run) : List AV := [ai r.start, ai r.micro, lLeg r.legs]
theorem wrapN {n : Int} (h : -9223372036854775808 ≤ n ∧ n < 9223372036854775808) : IntKind.wrap .i64 n = n := by
  have e : IntKind.wrap .i64 n = if n % 18446744073709551616 ≥ 9223372036854775808 then n % 18446744073709551616 - 18446744073709551616 else n % 18446744073709551616 := by
    simp [IntKind.wrap, IntKind.signed, IntKind.bits]
  rw [e]; split <;> omega
theorem tdivN {a b : Int} (h : 0 ≤ a) : a.tdiv b = a / b := Int.tdiv_eq_ediv_of_nonneg h
theorem tmodN {a b : Int} (h : 0 ≤ a) : a.tmod b = a % b := Int.tmod_eq_emod_of_nonneg h
theorem maxN {a b : Int} : (if b > a then b else a) = max a b := by rw [Int.max_def]; split <;> split <;> omega
theorem minN {a b : Int} : (if b < a then b else a) = min a b := by rw [Int.min_def]; split <;> split <;> omega
theorem drop_cons {α β : Type} {l : List α} {k : Nat} {x : α} {rest : List α} (h : l.drop k = x :: rest) (e : α → β) (d : β) :
    ((k : Int) < (l.length : Int)) ∧ (l.map e).getD k d = e x ∧ l.drop (k + 1) = rest ∧ rest.length + k + 1 = l.length ∧ x ∈ l ∧ (l.map e)[k]? = some (e x) := by
  have hlt : k < l.length := by
    rcases Nat.lt_or_ge k l.length with h' | h'
    · exact h'
    · rw [List.drop_eq_nil_of_le h'] at h; cases h
  have h0 : l[k]? = some x := by
    have := congrArg (fun m => m[0]?) h
    simpa using this
  refine ⟨by omega, ?_, ?_, ?_, List.mem_of_getElem? h0, by rw [List.getElem?_map, h0]; rfl⟩
  · rw [List.getD_eq_getElem?_getD, List.getElem?_map, h0]; rfl
  · have : l.drop (k + 1) = (l.drop k).drop 1 := by simp
    rw [this, h]; rfl
  · have := congrArg List.length h
    simp at this; omega
theorem drop_nil {α : Type} {l : List α} {k : Nat} (h : l.drop k = []) : ¬ ((k : Int) < (l.length : Int)) := by
  have := List.drop_eq_nil_iff.1 h
  omega
theorem getD_map {α β : Type} (e : α → β) (l : List α) (k : Nat) (d : β) (d' : α) (h : k < l.length) : (l.map e).getD k d = e (l.getD k d') := by
  rw [List.getD_eq_getElem?_getD, List.getElem?_map, List.getElem?_eq_getElem h, List.getD_eq_getElem?_getD, List.getElem?_eq_getElem h]; rfl
theorem get_map {α β : Type} (e : α → β) (l : List α) (k : Nat) (d' : α) (h : k < l.length) : (l.map e)[k]? = some (e (l.getD k d')) := by
  rw [List.getElem?_map, List.getElem?_eq_getElem h, List.getD_eq_getElem?_getD, List.getElem?_eq_getElem h]; rfl
theorem pure_map {α : Type} {e : α → List AV} (h : ∀ x, pureL (e x) = true) (l : List α) : (l.map e).all pureL = true := by
  rw [List.all_eq_true]
  intro x hx
  obtain ⟨y, _, rfl⟩ := List.mem_map.1 hx
  exact h y
attribute [push_cast] cx T eqT wrapN tdivN tmodN maxN minN
abbrev jA := @AW.seq
abbrev jB := @AW.region
abbrev jC := @AW.ret
abbrev jD := @AW.block
abbrev jE := @AW.skip
abbrev jF := @AW.exit
abbrev jG := @AW.scope
abbrev jH := @AW.label
abbrev jI := @AWL.nil
abbrev jJ := @D.nil
abbrev jK := @W.step
abbrev jL := @D.step
abbrev jM := @W.store
abbrev jN := @W.gS
abbrev jO := @D.gS
abbrev jP := @W.gU
abbrev jQ := @D.gU
abbrev jR := @AW.cond
abbrev jS := @W.mapUpdate
abbrev jT := @W.append
abbrev jU := @D.append
abbrev jV := @W.callv
abbrev jW := @D.callv
abbrev jX := @D.callvt
abbrev jY := @D.alloct
abbrev jZ := @D.alloc
abbrev ja := @D.store
abbrev jb := @D.stept
abbrev jc := @D.stepm
abbrev jf := @W.ret1
abbrev jg := @W.end1
abbrev jh := @W.ret2
abbrev ji := @W.end2
abbrev jj := @W.ret3
abbrev jk := @W.end3
abbrev jl := @W.retM
abbrev jm := @W.endM'
end Go.Proofs.Ks

set_option maxHeartbeats 8000000
set_option maxRecDepth 10000
namespace Go.Proofs.Ks
open Go Go.Pg Go.Proofs
def inB (x : Span) (lo hi : Int) : Bool := decide (lo ≤ x.lo) && decide (x.lo ≤ x.hi) && decide (x.hi ≤ hi)
theorem inB_iff {x : Span} {lo hi : Int} : inB x lo hi = true ↔ lo ≤ x.lo ∧ x.lo ≤ x.hi ∧ x.hi ≤ hi := by unfold inB; simp [and_assoc]
theorem within_ok (x : Span) (lo hi : Int) : OKv cx 93 [.agg (eSpan x), ai lo, ai hi] (ab (inB x lo hi)) := by
  unfold inB
  refine OKat.of_body (rs := [6]) Try.func93 rfl (by decide +kernel) rfl (by simp [Try.ntmps93]) ?_
  simp only [Try.ntmps93]
  repeat' first
    | apply jA | apply jB | apply jC | apply jD | apply jE | apply jF | apply jG | apply jH | apply jI
    | ((first | (apply jK cx_ok; decide) | (apply jN; rfl; decide) | apply jR); (simp (disch := omega) only [push_cast, simprocAttr] <;> rfl); all_goals try ((with_reducible intro hI); try first | (cases hI; done) | (simp only [INTS, zL] at hI; try first | (exfalso; omega) | (have hT : True := hI; clear hT hI))))
    | ((first | apply jf | apply jg); (iterate 2 (try (simp (disch := omega) only [push_cast, simprocAttr] <;> rfl))))
  all_goals (show _ = _; first | rfl | (simp [*]; done) | (simp; omega) | (simp_all; omega))
theorem strikeN_ok (r : Rec) (n : Int) (hl : r.strikes.length ≤ 1099511627776) : OKv cx 80 [.agg (eRec r), ai n] (ab (decide (0 ≤ n) && decide (n < (r.strikes.length : Int)))) := by
  refine OKat.of_body (rs := [4]) Try.func80 rfl (by decide +kernel) rfl (by simp [Try.ntmps80]) ?_
  simp only [Try.ntmps80]
  repeat' first
    | apply jA | apply jB | apply jC | apply jD | apply jE | apply jF | apply jG | apply jH | apply jI
    | ((first | (apply jK cx_ok; decide) | (apply jN; rfl; decide) | apply jR); (simp (disch := omega) only [push_cast, simprocAttr] <;> rfl); all_goals try ((with_reducible intro hI); try first | (cases hI; done) | (simp only [INTS, zL] at hI; try first | (exfalso; omega) | (have hT : True := hI; clear hT hI))))
    | ((first | apply jf | apply jg); (iterate 2 (try (simp (disch := omega) only [push_cast, simprocAttr] <;> rfl))))
  all_goals (show _ = _; first | rfl | (simp [*]; done) | (simp; omega) | (simp_all; omega))
def smallB (r : Rec) : Bool := decide ((r.s.stops.length : Int) ≤ 12) && decide ((r.strikes.length : Int) ≤ 20) && decide ((r.sights.length : Int) ≤ 20)
theorem small_ok (r : Rec) : OKv cx 19 [.agg (eRec r)] (ab (smallB r)) := by
  unfold smallB
  refine OKat.of_body (rs := [2]) Try.func19 rfl (by decide +kernel) rfl (by simp [Try.ntmps19]) ?_
  simp only [Try.ntmps19]
  repeat' first
    | apply jA | apply jB | apply jC | apply jD | apply jE | apply jF | apply jG | apply jH | apply jI
    | ((first | (apply jK cx_ok; decide) | (apply jN; rfl; decide) | apply jR); (simp (disch := omega) only [push_cast, simprocAttr] <;> rfl); all_goals try ((with_reducible intro hI); try first | (cases hI; done) | (simp only [INTS, zL] at hI; try first | (exfalso; omega) | (have hT : True := hI; clear hT hI))))
    | ((first | apply jf | apply jg); (iterate 2 (try (simp (disch := omega) only [push_cast, simprocAttr] <;> rfl))))
  all_goals (show _ = _; first | rfl | (simp [*]; done) | (simp; omega) | (simp_all; omega))
end Go.Proofs.Ks
