/-
  Contracts of functions, proved by going through their code. No conditions.
-/
import Derived.Test.YtdlflcambboojaaRaa
import Derived.Test.YtdlflcambboojaaRbe
import Derived.Test.YtdlflcambboojaaN15PkZm
set_option linter.unusedVariables false
set_option linter.unusedSimpArgs false
namespace Go.Proofs.Ks
open Go Go.Pg Go.Proofs
abbrev ZM := List (Int × Int)
def getZ (k : Int) : ZM → Int
  | [] => 0
  | e :: m => if k = e.1 then e.2 else getZ k m
def putZ (k v : Int) : ZM → ZM
  | [] => [(k, v)]
  | e :: m => if k = e.1 then (k, v) :: m else e :: putZ k v m
def delZ (k : Int) : ZM → ZM
  | [] => []
  | e :: m => if k = e.1 then m else e :: delZ k m
def enZ (m : ZM) : List (Key × AV) := m.map fun e => (.int e.1, ai e.2)
theorem same_int (a b : Int) : Key.same (.int a) (.int b) = decide (a = b) := by
  simp only [Key.same]
  by_cases h : a = b
  · subst h; simp
  · simp [h]
theorem put_en (k v : Int) : ∀ m : ZM, putM (.int k) (ai v) (enZ m) = enZ (putZ k v m)
  | [] => rfl
  | e :: m => by
    show putM (.int k) (ai v) ((.int e.1, ai e.2) :: enZ m) = _
    unfold putM putZ
    rw [same_int, put_en k v m]
    by_cases h : k = e.1
    · simp [h, enZ]
    · simp [h, enZ]
theorem del_en (k : Int) : ∀ m : ZM, delM (.int k) (enZ m) = enZ (delZ k m)
  | [] => rfl
  | e :: m => by
    show delM (.int k) ((.int e.1, ai e.2) :: enZ m) = _
    unfold delM delZ
    rw [same_int, del_en k m]
    by_cases h : k = e.1
    · simp [h, enZ]
    · simp [h, enZ]
theorem find_en (k : Int) : ∀ m : ZM, pickM (.v (.int .i64 0)) false (findM (.int k) (enZ m)) = ai (getZ k m)
  | [] => rfl
  | e :: m => by
    show pickM (.v (.int .i64 0)) false (findM (.int k) ((.int e.1, ai e.2) :: enZ m)) = _
    unfold findM getZ
    rw [same_int]
    by_cases h : k = e.1
    · simp only [h, decide_true, if_true]; rfl
    · simp only [h, decide_false, if_false, zM]; exact find_en k m
theorem enZ_len (m : ZM) : (enZ m).length = m.length := by unfold enZ; rw [List.length_map]
theorem enZ_nil : enZ [] = [] := rfl
theorem get_put (q k v : Int) : ∀ m : ZM, getZ q (putZ k v m) = if q = k then v else getZ q m
  | [] => by simp only [putZ, getZ]
  | e :: m => by
    unfold putZ
    by_cases h : k = e.1
    · rw [if_pos h]
      simp only [getZ]
      by_cases h2 : q = k
      · rw [if_pos h2, if_pos h2]
      · rw [if_neg h2, if_neg h2, if_neg (by rw [← h]; exact h2)]
    · rw [if_neg h]
      simp only [getZ]
      rw [get_put q k v m]
      by_cases h2 : q = k
      · subst h2; rw [if_neg h, if_pos rfl, if_pos rfl]
      · rw [if_neg h2, if_neg h2]
theorem get_del {q k : Int} (h : q ≠ k) : ∀ m : ZM, getZ q (delZ k m) = getZ q m
  | [] => rfl
  | e :: m => by
    unfold delZ
    by_cases h1 : k = e.1
    · rw [if_pos h1]
      simp only [getZ]
      rw [if_neg (by rw [← h1]; exact h)]
    · rw [if_neg h1]
      simp only [getZ]
      rw [get_del h m]
def sumV : ZM → Int
  | [] => 0
  | e :: m => e.2 + sumV m
theorem sum_put (k v : Int) : ∀ m : ZM, sumV (putZ k v m) = sumV m - getZ k m + v
  | [] => by simp [putZ, getZ, sumV]
  | e :: m => by
    unfold putZ getZ
    by_cases h : k = e.1
    · rw [if_pos h, if_pos h]; simp only [sumV]; omega
    · rw [if_neg h, if_neg h]; simp only [sumV]; rw [sum_put k v m]; omega
theorem sum_del (k : Int) : ∀ m : ZM, sumV (delZ k m) = sumV m - getZ k m
  | [] => rfl
  | e :: m => by
    unfold delZ getZ
    by_cases h : k = e.1
    · rw [if_pos h, if_pos h]; simp only [sumV]; omega
    · rw [if_neg h, if_neg h]; simp only [sumV]; rw [sum_del k m]; omega
theorem mem_put {k v : Int} : ∀ {m : ZM} {e : Int × Int}, e ∈ putZ k v m → e = (k, v) ∨ e ∈ m
  | [], e, h => by simp [putZ] at h; exact .inl h
  | x :: m, e, h => by
    unfold putZ at h
    split at h
    · rcases List.mem_cons.1 h with h | h
      · exact .inl h
      · exact .inr (List.mem_cons_of_mem _ h)
    · rcases List.mem_cons.1 h with h | h
      · exact .inr (by simp [h])
      · rcases mem_put h with h | h
        · exact .inl h
        · exact .inr (List.mem_cons_of_mem _ h)
theorem mem_del {k : Int} : ∀ {m : ZM} {e : Int × Int}, e ∈ delZ k m → e ∈ m
  | x :: m, e, h => by
    unfold delZ at h
    split at h
    · exact List.mem_cons_of_mem _ h
    · rcases List.mem_cons.1 h with h | h
      · simp [h]
      · exact List.mem_cons_of_mem _ (mem_del h)
theorem sum_nn : ∀ {m : ZM}, (∀ e ∈ m, 0 < e.2) → 0 ≤ sumV m ∧ (sumV m = 0 → m = [])
  | [], _ => ⟨Int.le_refl _, fun _ => rfl⟩
  | e :: m, h => by
    have h1 := h e (by simp)
    have h2 := (sum_nn (m := m) fun x hx => h x (List.mem_cons_of_mem _ hx)).1
    simp only [sumV]
    exact ⟨by omega, fun h => by omega⟩
theorem get_nn {k : Int} : ∀ {m : ZM}, (∀ e ∈ m, 0 < e.2) → 0 ≤ getZ k m
  | [], _ => Int.le_refl _
  | e :: m, h => by
    unfold getZ
    split
    · have := h e (by simp); omega
    · exact get_nn fun x hx => h x (List.mem_cons_of_mem _ hx)
def legsF (rt : Span) : List Leg → Int → ZM → Option ZM
  | [], _, m => some m
  | l :: r, p, m => if l.rate = 0 then legsF rt r (p + l.secs * l.rate) (putZ (p / 1000000) (getZ (p / 1000000) m + l.secs) m) else if hasB rt l.rate = true then legsF rt r (p + l.secs * l.rate) m else none
def stopsF : List Stop → ZM → Option ZM
  | [], m => some m
  | t :: r, m => if hasB t.secs (getZ t.pos m) = true then stopsF r (delZ t.pos m) else none
def stoodZ : List Leg → Int → Int → Int
  | [], _, _ => 0
  | l :: r, p, q => (if l.rate = 0 ∧ p / 1000000 = q then l.secs else 0) + stoodZ r (p + l.secs * l.rate) q
def allZ : List Leg → Int
  | [] => 0
  | l :: r => (if l.rate = 0 then l.secs else 0) + allZ r
def ratesB (rt : Span) (l : List Leg) : Bool := l.all fun y => decide (y.rate = 0) || hasB rt y.rate
def stopsB (legs : List Leg) (p : Int) (l : List Stop) : Bool := l.all fun t => hasB t.secs (stoodZ legs p t.pos)
def sumS2 (legs : List Leg) (p : Int) : List Stop → Int
  | [] => 0
  | t :: r => stoodZ legs p t.pos + sumS2 legs p r
theorem legsF_spec (rt : Span) : ∀ (l : List Leg) (p : Int) (m : ZM), (∀ y ∈ l, 1 ≤ y.secs) → (∀ e ∈ m, 0 < e.2) →
    (ratesB rt l = false ∧ legsF rt l p m = none) ∨ (ratesB rt l = true ∧ ∃ m', legsF rt l p m = some m' ∧ (∀ q, getZ q m' = getZ q m + stoodZ l p q) ∧ sumV m' = sumV m + allZ l ∧ ∀ e ∈ m', 0 < e.2)
  | [], p, m, _, hm => .inr ⟨rfl, m, rfl, fun q => by simp [stoodZ], by simp [allZ], hm⟩
  | y :: l, p, m, hl, hm => by
    have hy := hl y (by simp)
    have hl' : ∀ z ∈ l, 1 ≤ z.secs := fun z hz => hl z (List.mem_cons_of_mem _ hz)
    unfold legsF
    by_cases h0 : y.rate = 0
    · rw [if_pos h0]
      have hm2 : ∀ e ∈ putZ (p / 1000000) (getZ (p / 1000000) m + y.secs) m, 0 < e.2 := fun e he => by
        rcases mem_put he with rfl | he
        · have := get_nn (k := p / 1000000) hm
          show 0 < getZ (p / 1000000) m + y.secs
          omega
        · exact hm e he
      have hr : ratesB rt (y :: l) = ratesB rt l := by simp [ratesB, h0]
      rw [hr]
      rcases legsF_spec rt l (p + y.secs * y.rate) _ hl' hm2 with ⟨h1, h2⟩ | ⟨h1, m', h2, h3, h4, h5⟩
      · exact .inl ⟨h1, h2⟩
      · refine .inr ⟨h1, m', h2, fun q => ?_, ?_, h5⟩
        · rw [h3, get_put]
          simp only [stoodZ]
          by_cases hq : q = p / 1000000
          · subst hq; rw [if_pos rfl, if_pos ⟨h0, rfl⟩]; omega
          · rw [if_neg hq, if_neg (fun h => hq h.2.symm)]; omega
        · rw [h4, sum_put]; simp only [allZ]; rw [if_pos h0]; omega
    · rw [if_neg h0]
      cases hh : hasB rt y.rate with
      | false => exact .inl ⟨by simp [ratesB, h0, hh], by simp⟩
      | true =>
        have hr : ratesB rt (y :: l) = ratesB rt l := by simp [ratesB, hh]
        rw [hr, if_pos rfl]
        rcases legsF_spec rt l (p + y.secs * y.rate) m hl' hm with ⟨h1, h2⟩ | ⟨h1, m', h2, h3, h4, h5⟩
        · exact .inl ⟨h1, h2⟩
        · refine .inr ⟨h1, m', h2, fun q => ?_, ?_, h5⟩
          · rw [h3]; simp only [stoodZ]; rw [if_neg (fun h => h0 h.1)]; omega
          · rw [h4]; simp only [allZ]; rw [if_neg h0]; omega
theorem stopsF_spec {legs : List Leg} {p : Int} : ∀ (l : List Stop) (m : ZM), l.Pairwise (fun a b => a.pos ≠ b.pos) → (∀ t ∈ l, getZ t.pos m = stoodZ legs p t.pos) → (∀ e ∈ m, 0 < e.2) →
    (stopsB legs p l = false ∧ stopsF l m = none) ∨ (stopsB legs p l = true ∧ ∃ m', stopsF l m = some m' ∧ sumV m' = sumV m - sumS2 legs p l ∧ ∀ e ∈ m', 0 < e.2)
  | [], m, _, _, hm => .inr ⟨rfl, m, rfl, by simp [sumS2], hm⟩
  | t :: l, m, hd, hg, hm => by
    rw [List.pairwise_cons] at hd
    have ht := hg t (by simp)
    unfold stopsF
    rw [ht]
    cases hh : hasB t.secs (stoodZ legs p t.pos) with
    | false => exact .inl ⟨by simp [stopsB, hh], by simp⟩
    | true =>
      have hr : stopsB legs p (t :: l) = stopsB legs p l := by simp [stopsB, hh]
      rw [hr, if_pos rfl]
      rcases stopsF_spec l (delZ t.pos m) hd.2 (fun u hu => by rw [get_del (fun e => hd.1 u hu e.symm)]; exact hg u (List.mem_cons_of_mem _ hu)) (fun e he => hm e (mem_del he)) with ⟨h1, h2⟩ | ⟨h1, m', h2, h3, h4⟩
      · exact .inl ⟨h1, h2⟩
      · refine .inr ⟨h1, m', h2, ?_, h4⟩
        rw [h3, sum_del, ht]; simp only [sumS2]; omega
def endsB (s : Session) (x : Run) : Bool := hasB s.inn x.start && (hasB s.out (x.start + sumT x.legs) && (hasB s.zero (x.micro / 1000000) && hasB s.fin ((x.micro + sumP x.legs) / 1000000)))
def playsB (s : Session) (x : Run) : Bool := endsB s x && (ratesB s.rate x.legs && (stopsB x.legs x.micro s.stops && decide (allZ x.legs - sumS2 x.legs x.micro s.stops = 0)))
def playsM (s : Session) (x : Run) : Bool :=
  endsB s x && match legsF s.rate x.legs x.micro [] with
    | some m => match stopsF s.stops m with
      | some m' => decide (m'.length = 0)
      | none => false
    | none => false
theorem plays_same {s : Session} {x : Run} (hd : s.stops.Pairwise (fun a b => a.pos ≠ b.pos)) (hl : ∀ y ∈ x.legs, 1 ≤ y.secs) : playsM s x = playsB s x := by
  unfold playsM playsB
  congr 1
  rcases legsF_spec s.rate x.legs x.micro [] hl (fun e h => by cases h) with ⟨h1, h2⟩ | ⟨h1, m, h2, h3, h4, h5⟩
  · rw [h1, h2, Bool.false_and]
  · rw [h1, h2, Bool.true_and]
    dsimp only
    rcases stopsF_spec (legs := x.legs) (p := x.micro) s.stops m hd (fun t _ => by rw [h3]; simp [getZ]) h5 with ⟨g1, g2⟩ | ⟨g1, m', g2, g3, g4⟩
    · rw [g1, g2, Bool.false_and]
    · rw [g1, g2, Bool.true_and]
      dsimp only
      have h40 : sumV m = allZ x.legs := by rw [h4]; simp [sumV]
      rw [h40] at g3
      rw [← g3]
      refine decide_eq_decide.2 ⟨fun h => ?_, fun h => ?_⟩
      · rw [List.length_eq_zero_iff.1 h]; rfl
      · rw [(sum_nn g4).2 h]; rfl
end Go.Proofs.Ks
