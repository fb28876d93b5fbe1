/-
  Contracts of functions, proved by going through their code. No conditions.
-/
import Derived.Test.YtofdhddbfjfkcaaDoorPgb
import Derived.Test.YtofdhddbfjfkcaaDoorHa
import Derived.Test.YtofdhddbfjfkcaaDoorHb
set_option maxHeartbeats 8000000
set_option linter.unusedSimpArgs false
set_option linter.unusedVariables false
set_option maxRecDepth 10000
namespace Go.Proofs.Hs
open Go Go.Pg Go.Proofs

theorem getD_eInt (l : List Int) (k : Nat) (h : k < l.length) : (l.map eInt).getD k [] = [ai (l.getD k 0)] := getD_map eInt l k [] 0 h
theorem get_eInt (l : List Int) (k : Nat) (h : k < l.length) : (l.map eInt)[k]? = some [ai (l.getD k 0)] := by
  rw [List.getElem?_map, (by rw [List.getD_eq_getElem?_getD, List.getElem?_eq_getElem h]; rfl : l[k]? = some (l.getD k 0))]; rfl
theorem getD_eGate (l : List Gate) (k : Nat) (h : k < l.length) : (l.map eGate).getD k [] = eGate (l.getD k .zero) := getD_map eGate l k [] .zero h
theorem pure_eInt (l : List Int) : (l.map eInt).all pureL = true := pure_map eInt (fun _ => rfl) l
theorem take_eInt {row : List Int} {n : Nat} (h : row.length = n) : (row.map eInt).take n = row.map eInt := by rw [List.take_of_length_le (by simp [h])]
theorem take_eGate {l : List Gate} {n : Nat} (h : l.length = n) : (l.map eGate).take n = l.map eGate := by rw [List.take_of_length_le (by simp [h])]
theorem viewLL_rooms (H : Nat → Option AO) (l : List Room) : viewLL H (l.map eRoom) = some (l.map eRoom) := viewLL_map H eRoom (fun _ => rfl) l
theorem viewLL_ways (H : Nat → Option AO) (l : List Way) : viewLL H (l.map eWay) = some (l.map eWay) := viewLL_map H eWay (fun _ => rfl) l
theorem viewLL_spans (H : Nat → Option AO) (l : List Span) : viewLL H (l.map eSpan) = some (l.map eSpan) := viewLL_map H eSpan (fun _ => rfl) l
theorem pure_spans (l : List Span) : (l.map eSpan).all pureL = true := pure_map eSpan (fun _ => rfl) l
theorem pure_rooms (l : List Room) : (l.map eRoom).all pureL = true := pure_map eRoom (fun _ => rfl) l
theorem pure_ways (l : List Way) : (l.map eWay).all pureL = true := pure_map eWay (fun _ => rfl) l
theorem pure_doors (l : List Door) : (l.map eDoor).all pureL = true := pure_map eDoor (fun _ => rfl) l
theorem take_mapLen {α : Type} (f : α → List AV) (l : List α) (n : Nat) (h : n = l.length) : (l.map f).take n = l.map f := by rw [List.take_of_length_le (by simp [h])]
theorem rowAt_frzG (H : Nat → Option AO) (ids : List Nat) (j : Nat) : Pg.rowAt (frz' H ids) j = if j ∈ ids then (Pg.rowAt H j).map (fun r => { r with fro := true }) else Pg.rowAt H j := by
  unfold frz' frz Pg.rowAt
  cases ids with
  | nil => simp
  | cons i ids =>
    simp only [List.isEmpty_cons, Bool.false_eq_true, if_false]
    by_cases h : j ∈ i :: ids
    · simp only [h, if_true]
      cases hh : H j with
      | none => rfl
      | some o => cases o <;> rfl
    · simp only [h, if_false]
theorem isEmpty_map {α β : Type} (f : α → β) (l : List α) : (l.map f).isEmpty = l.isEmpty := by cases l <;> rfl
theorem lo_len {α : Type} (l : List α) : (if l.isEmpty = true then 0 else l.length) = l.length := by cases l <;> rfl
theorem lo_gen {α : Type} (l : List α) (a b : Nat) (h : l.length = 0 → a = b) : (if l.isEmpty = true then a else b) = b := by
  split
  · rename_i he; exact h (by rw [List.isEmpty_iff.1 he]; rfl)
  · rfl
theorem maxNx (a : Nat) : max a (a + 1) = a + 1 := by omega
attribute [push_cast] maxNx get_eInt getD_eInt getD_eGate List.map_set List.length_set List.drop_zero Nat.zero_le pure_eInt take_eInt take_eGate pure_gate viewLL_rooms viewLL_ways viewLL_spans isEmpty_map lo_len lo_gen pure_spans pure_rooms pure_ways pure_doors take_mapLen rowAt_frzG rowAt_mask List.mem_cons List.not_mem_nil or_false or_self Nat.add_assoc List.length_append List.map_append List.append_assoc List.isEmpty_cons List.isEmpty_nil List.map_cons List.map_nil eGate

end Go.Proofs.Hs

/-
  The document's next and last time at which a door is open: plain laws. No conditions.
-/
namespace Go.Proofs.Hs
open Go Go.Pg Go.Proofs

/-! ## Folding the better one -/
theorem fold_best {α : Type} {μ : Int → Int} {P : Int → Prop} {f : Int → α → Int} (h1 : ∀ b x, μ (f b x) ≤ μ b) (h2 : ∀ b x, P b → P (f b x)) : ∀ (l : List α) (b : Int), P b →
    P (l.foldl f b) ∧ μ (l.foldl f b) ≤ μ b ∧ ∀ x ∈ l, ∀ c, (∀ b, P b → μ (f b x) ≤ c) → μ (l.foldl f b) ≤ c
  | [], b, hp => ⟨hp, Int.le_refl _, fun x hx => by cases hx⟩
  | y :: l, b, hp => by
    obtain ⟨i1, i2, i3⟩ := fold_best h1 h2 l (f b y) (h2 b y hp)
    have := h1 b y
    refine ⟨i1, by simp only [List.foldl_cons]; omega, fun x hx c hc => ?_⟩
    simp only [List.foldl_cons]
    rcases List.mem_cons.1 hx with rfl | hx
    · have := hc b hp; omega
    · exact i3 x hx c hc

def pickN (d : Door) (t b n : Int) : Int := if t < n ∧ n < b ∧ openR d n = true then n else b
def hoursN (d : Door) (t base b : Int) : Int := d.hours.foldl (fun b x => pickN d t b (base + x.lo)) b
def shutN (d : Door) (t b : Int) (x : Span) : Int :=
  d.hours.foldl (fun b y => pickN d t (pickN d t b ((x.hi + 1) / 86400 * 86400 + 86400 + y.lo)) ((x.hi + 1) / 86400 * 86400 + 86400 - 86400 + y.lo)) (pickN d t b (x.hi + 1))
/-- The least time from one on at which a door is open, as the document has it. -/
def nextR (d : Door) (t : Int) : Int :=
  if openR d t = true then t else d.shut.foldl (shutN d t) (hoursN d t (t / 86400 * 86400 + 86400) (hoursN d t (t / 86400 * 86400) 1073741824))

def PN (d : Door) (t b : Int) : Prop := b = 1073741824 ∨ (t < b ∧ b ≤ 1073741823 ∧ openR d b = true)
theorem pickN_le (d : Door) (t b n : Int) : id (pickN d t b n) ≤ id b := by unfold pickN; split <;> simp only [id] <;> omega
theorem pickN_P {d : Door} {t b : Int} (n : Int) (h : PN d t b) : PN d t (pickN d t b n) := by
  unfold pickN
  split
  · rename_i hc; rcases h with h | h
    · exact .inr ⟨hc.1, by omega, hc.2.2⟩
    · exact .inr ⟨hc.1, by omega, hc.2.2⟩
  · exact h
theorem pickN_c {d : Door} {t b n : Int} (hn : t < n ∧ openR d n = true) : id (pickN d t b n) ≤ n := by
  unfold pickN
  split
  · exact Int.le_refl _
  · rename_i h
    by_cases hb : n < b
    · exact absurd ⟨hn.1, hb, hn.2⟩ h
    · simp only [id]; omega
theorem hoursN_spec (d : Door) (t base b : Int) (h : PN d t b) : PN d t (hoursN d t base b) ∧ hoursN d t base b ≤ b ∧ ∀ x ∈ d.hours, t < base + x.lo → openR d (base + x.lo) = true → hoursN d t base b ≤ base + x.lo := by
  obtain ⟨h1, h2, h3⟩ := fold_best (μ := id) (P := PN d t) (f := fun b (x : Span) => pickN d t b (base + x.lo)) (fun b x => pickN_le d t b _) (fun b x hb => pickN_P _ hb) d.hours b h
  exact ⟨h1, h2, fun x hx ht ho => h3 x hx _ (fun b _ => pickN_c ⟨ht, ho⟩)⟩
theorem shutN_spec (d : Door) (t b : Int) (x : Span) (h : PN d t b) : PN d t (shutN d t b x) ∧ shutN d t b x ≤ b ∧ (∀ n, t < n → openR d n = true → (n = x.hi + 1 ∨ ∃ y ∈ d.hours, n = (x.hi + 1) / 86400 * 86400 + 86400 + y.lo ∨ n = (x.hi + 1) / 86400 * 86400 + y.lo) → shutN d t b x ≤ n) := by
  have hp := pickN_P (d := d) (t := t) (b := b) (x.hi + 1) h
  obtain ⟨h1, h2, h3⟩ := fold_best (μ := id) (P := PN d t) (f := fun b (y : Span) => pickN d t (pickN d t b ((x.hi + 1) / 86400 * 86400 + 86400 + y.lo)) ((x.hi + 1) / 86400 * 86400 + 86400 - 86400 + y.lo))
    (fun b y => Int.le_trans (pickN_le d t _ _) (pickN_le d t b _)) (fun b y hb => pickN_P _ (pickN_P _ hb)) d.hours (pickN d t b (x.hi + 1)) hp
  have h0 := pickN_le d t b (x.hi + 1)
  refine ⟨h1, Int.le_trans h2 h0, fun n ht ho hn => ?_⟩
  rcases hn with rfl | ⟨y, hy, hn | hn⟩
  · exact Int.le_trans h2 (pickN_c ⟨ht, ho⟩)
  · refine h3 y hy n (fun b _ => Int.le_trans (pickN_le d t _ _) ?_)
    rw [← hn]; exact pickN_c ⟨ht, ho⟩
  · refine h3 y hy n (fun b _ => ?_)
    have e : (x.hi + 1) / 86400 * 86400 + 86400 - 86400 + y.lo = n := by omega
    rw [e]; exact pickN_c ⟨ht, ho⟩

/-- The least time, if it is not that one itself, is one of those that are tried. -/
theorem next_cand {d : Door} (hd : d.V) {t n : Int} (h0 : 0 ≤ t) (htn : t < n) (hn : n ≤ 1073741823) (ho : openR d n = true) (hno : ∀ u, t ≤ u → u < n → openR d u ≠ true) :
    (∃ x ∈ d.hours, n = t / 86400 * 86400 + x.lo ∨ n = t / 86400 * 86400 + 86400 + x.lo) ∨
    ∃ y ∈ d.shut, n = y.hi + 1 ∨ ∃ x ∈ d.hours, n = (y.hi + 1) / 86400 * 86400 + 86400 + x.lo ∨ n = (y.hi + 1) / 86400 * 86400 + x.lo := by
  obtain ⟨⟨x, hx, x1, x2⟩, hs⟩ := (openR_iff (by omega)).1 ho
  by_cases hlo : n / 86400 * 86400 + x.lo = n
  · by_cases hday : n / 86400 * 86400 ≤ t / 86400 * 86400 + 86400
    · left
      refine ⟨x, hx, ?_⟩
      have : n / 86400 * 86400 = t / 86400 * 86400 ∨ n / 86400 * 86400 = t / 86400 * 86400 + 86400 := by omega
      omega
    · right
      have hn' := hno (n - 86400) (by omega) (by omega)
      rw [Ne, openR_iff (by omega)] at hn'
      have hd : (n - 86400) / 86400 * 86400 = n / 86400 * 86400 - 86400 := by omega
      have : ¬ ∀ y ∈ d.shut, ¬ (y.lo ≤ n - 86400 ∧ n - 86400 ≤ y.hi) := fun hall => hn' ⟨⟨x, hx, by omega, by omega⟩, hall⟩
      obtain ⟨y, hy⟩ := Classical.not_forall.1 this
      obtain ⟨hym, hy2⟩ := Classical.not_imp.1 hy
      have hy3 := Classical.not_not.1 hy2
      have hy4 := hs y hym
      refine ⟨y, hym, .inr ⟨x, hx, ?_⟩⟩
      have : (y.hi + 1) / 86400 * 86400 = n / 86400 * 86400 ∨ (y.hi + 1) / 86400 * 86400 = n / 86400 * 86400 - 86400 := by omega
      omega
  · right
    have hn' := hno (n - 1) (by omega) (by omega)
    rw [Ne, openR_iff (by omega)] at hn'
    have hx0 : n / 86400 * 86400 + x.lo ≤ n - 1 := by omega
    by_cases hz : (n - 1) / 86400 * 86400 = n / 86400 * 86400
    · have : ¬ ∀ y ∈ d.shut, ¬ (y.lo ≤ n - 1 ∧ n - 1 ≤ y.hi) := fun hall => hn' ⟨⟨x, hx, by omega, by omega⟩, hall⟩
      obtain ⟨y, hy⟩ := Classical.not_forall.1 this
      obtain ⟨hym, hy2⟩ := Classical.not_imp.1 hy
      have hy3 := Classical.not_not.1 hy2
      have hy4 := hs y hym
      exact ⟨y, hym, .inl (by omega)⟩
    · have hlo0 : x.lo < 0 := by omega
      have hv := hd.hours.2.1 x hx
      omega

theorem nextR_is {d : Door} (hd : d.V) {t : Int} (h0 : 0 ≤ t) (h1 : t ≤ 1073741823) : nextR d t = next d t := by
  have hn := next_is hd h0 (by omega)
  unfold nextR
  by_cases ho : openR d t = true
  · rw [if_pos ho]
    exact ((next_open hd h0 h1).2 ho).symm
  · rw [if_neg ho]
    obtain ⟨a1, a2, a3⟩ := hoursN_spec d t (t / 86400 * 86400) 1073741824 (.inl rfl)
    obtain ⟨b1, b2, b3⟩ := hoursN_spec d t (t / 86400 * 86400 + 86400) _ a1
    obtain ⟨c1, c2, c3⟩ := fold_best (μ := id) (P := PN d t) (f := shutN d t) (fun b x => by
      unfold shutN
      have : ∀ (l : List Span) (b : Int), id (l.foldl (fun b y => pickN d t (pickN d t b ((x.hi + 1) / 86400 * 86400 + 86400 + y.lo)) ((x.hi + 1) / 86400 * 86400 + 86400 - 86400 + y.lo)) b) ≤ id b := by
        intro l
        induction l with
        | nil => intro b; exact Int.le_refl _
        | cons y l ih => intro b; exact Int.le_trans (ih _) (Int.le_trans (pickN_le d t _ _) (pickN_le d t b _))
      exact Int.le_trans (this _ _) (pickN_le d t b _)) (fun b x hb => (shutN_spec d t b x hb).1) d.shut _ b1
    generalize hbest : d.shut.foldl (shutN d t) (hoursN d t (t / 86400 * 86400 + 86400) (hoursN d t (t / 86400 * 86400) 1073741824)) = best at *
    simp only [id] at c2 c3
    have hge : next d t ≤ best := by
      rcases c1 with h | ⟨g1, g2, g3⟩
      · rcases hn.at' with e | ⟨e, _⟩ <;> omega
      · by_cases hlt : best < next d t
        · exact absurd g3 (hn.no best (by omega) hlt g2)
        · omega
    rcases hn.at' with e | ⟨e1, e2⟩
    · rcases c1 with h | ⟨g1, g2, g3⟩ <;> omega
    · have htn : t < next d t := by
        have := hn.ge
        by_cases he : next d t = t
        · rw [he] at e2; exact absurd e2 ho
        · omega
      have hle : best ≤ next d t := by
        rcases next_cand hd h0 htn e1 e2 (fun u hu1 hu2 => hn.no u hu1 hu2 (by omega)) with ⟨x, hx, hc | hc⟩ | ⟨y, hy, hc⟩
        · have := a3 x hx (by omega) (by rw [← hc]; exact e2); omega
        · have := b3 x hx (by omega) (by rw [← hc]; exact e2); omega
        · exact c3 y hy _ (fun b hb => (shutN_spec d t b y hb).2.2 _ htn e2 hc)
      omega

/-! ## The last -/
def pickX (d : Door) (t b n : Int) : Int := if 0 ≤ n ∧ n < t ∧ b < n ∧ openR d n = true then n else b
def hoursX (d : Door) (t base b : Int) : Int := d.hours.foldl (fun b x => pickX d t b (base + x.hi)) b
def shutX (d : Door) (t b : Int) (x : Span) : Int :=
  if x.lo - 1 < 0 then pickX d t b (x.lo - 1) else
  d.hours.foldl (fun b y => pickX d t (pickX d t b ((x.lo - 1) / 86400 * 86400 - 86400 + y.hi)) ((x.lo - 1) / 86400 * 86400 - 86400 + 86400 + y.hi)) (pickX d t b (x.lo - 1))
/-- The greatest time up to one at which a door is open, as the document has it. -/
def lastR (d : Door) (t : Int) : Int :=
  if openR d t = true then t else d.shut.foldl (shutX d t) (hoursX d t (t / 86400 * 86400 - 86400) (hoursX d t (t / 86400 * 86400) (-1)))

def PX (d : Door) (t b : Int) : Prop := b = -1 ∨ (0 ≤ b ∧ b < t ∧ openR d b = true)
theorem pickX_le (d : Door) (t b n : Int) : -(pickX d t b n) ≤ -b := by unfold pickX; split <;> omega
theorem pickX_P {d : Door} {t b : Int} (n : Int) (h : PX d t b) : PX d t (pickX d t b n) := by
  unfold pickX
  split
  · rename_i hc; exact .inr ⟨hc.1, hc.2.1, hc.2.2.2⟩
  · exact h
theorem pickX_c {d : Door} {t b n : Int} (hn : 0 ≤ n ∧ n < t ∧ openR d n = true) : -(pickX d t b n) ≤ -n := by
  unfold pickX
  split
  · exact Int.le_refl _
  · rename_i h
    by_cases hb : b < n
    · exact absurd ⟨hn.1, hn.2.1, hb, hn.2.2⟩ h
    · omega
theorem hoursX_spec (d : Door) (t base b : Int) (h : PX d t b) : PX d t (hoursX d t base b) ∧ b ≤ hoursX d t base b ∧ ∀ x ∈ d.hours, 0 ≤ base + x.hi → base + x.hi < t → openR d (base + x.hi) = true → base + x.hi ≤ hoursX d t base b := by
  obtain ⟨h1, h2, h3⟩ := fold_best (μ := Neg.neg) (P := PX d t) (f := fun b (x : Span) => pickX d t b (base + x.hi)) (fun b x => pickX_le d t b _) (fun b x hb => pickX_P _ hb) d.hours b h
  refine ⟨h1, ?_, fun x hx h0 ht ho => ?_⟩
  · unfold hoursX; omega
  · have := h3 x hx _ (fun b _ => pickX_c ⟨h0, ht, ho⟩)
    unfold hoursX; omega
theorem shutX_spec (d : Door) (t b : Int) (x : Span) (h : PX d t b) : PX d t (shutX d t b x) ∧ -(shutX d t b x) ≤ -b ∧
    (∀ n, 0 ≤ n → n < t → openR d n = true → (n = x.lo - 1 ∨ (0 ≤ x.lo - 1 ∧ ∃ y ∈ d.hours, n = (x.lo - 1) / 86400 * 86400 - 86400 + y.hi ∨ n = (x.lo - 1) / 86400 * 86400 + y.hi)) → -(shutX d t b x) ≤ -n) := by
  have hp := pickX_P (d := d) (t := t) (b := b) (x.lo - 1) h
  have h0 := pickX_le d t b (x.lo - 1)
  unfold shutX
  split
  · refine ⟨hp, h0, fun n hn0 ht ho hn => ?_⟩
    rcases hn with rfl | ⟨hn, _⟩
    · exact pickX_c ⟨hn0, ht, ho⟩
    · omega
  · rename_i hneg
    obtain ⟨h1, h2, h3⟩ := fold_best (μ := Neg.neg) (P := PX d t) (f := fun b (y : Span) => pickX d t (pickX d t b ((x.lo - 1) / 86400 * 86400 - 86400 + y.hi)) ((x.lo - 1) / 86400 * 86400 - 86400 + 86400 + y.hi))
      (fun b y => Int.le_trans (pickX_le d t _ _) (pickX_le d t b _)) (fun b y hb => pickX_P _ (pickX_P _ hb)) d.hours (pickX d t b (x.lo - 1)) hp
    refine ⟨h1, Int.le_trans h2 h0, fun n hn0 ht ho hn => ?_⟩
    rcases hn with rfl | ⟨_, y, hy, hn | hn⟩
    · exact Int.le_trans h2 (pickX_c ⟨hn0, ht, ho⟩)
    · refine h3 y hy _ (fun b _ => Int.le_trans (pickX_le d t _ _) ?_)
      rw [← hn]; exact pickX_c ⟨hn0, ht, ho⟩
    · refine h3 y hy _ (fun b _ => ?_)
      have e : (x.lo - 1) / 86400 * 86400 - 86400 + 86400 + y.hi = n := by omega
      rw [e]; exact pickX_c ⟨hn0, ht, ho⟩
theorem shutX_le (d : Door) (t b : Int) (x : Span) : -(shutX d t b x) ≤ -b := by
  unfold shutX
  split
  · exact pickX_le d t b _
  · have : ∀ (l : List Span) (b : Int), -(l.foldl (fun b y => pickX d t (pickX d t b ((x.lo - 1) / 86400 * 86400 - 86400 + y.hi)) ((x.lo - 1) / 86400 * 86400 - 86400 + 86400 + y.hi)) b) ≤ -b := by
      intro l
      induction l with
      | nil => intro b; exact Int.le_refl _
      | cons y l ih => intro b; exact Int.le_trans (ih _) (Int.le_trans (pickX_le d t _ _) (pickX_le d t b _))
    exact Int.le_trans (this _ _) (pickX_le d t b _)

theorem last_cand {d : Door} (hd : d.V) {t n : Int} (h0 : 0 ≤ n) (htn : n < t) (ho : openR d n = true) (hno : ∀ u, n < u → u ≤ t → openR d u ≠ true) :
    (∃ x ∈ d.hours, n = t / 86400 * 86400 + x.hi ∨ n = t / 86400 * 86400 - 86400 + x.hi) ∨
    ∃ y ∈ d.shut, n = y.lo - 1 ∨ (0 ≤ y.lo - 1 ∧ ∃ x ∈ d.hours, n = (y.lo - 1) / 86400 * 86400 - 86400 + x.hi ∨ n = (y.lo - 1) / 86400 * 86400 + x.hi) := by
  obtain ⟨⟨x, hx, x1, x2⟩, hs⟩ := (openR_iff (by omega)).1 ho
  have hv := hd.hours.2.1 x hx
  by_cases hlo : n / 86400 * 86400 + x.hi = n
  · by_cases hday : t / 86400 * 86400 - 86400 ≤ n / 86400 * 86400
    · left
      refine ⟨x, hx, ?_⟩
      have : n / 86400 * 86400 = t / 86400 * 86400 ∨ n / 86400 * 86400 = t / 86400 * 86400 - 86400 := by omega
      omega
    · right
      have hn' := hno (n + 86400) (by omega) (by omega)
      rw [Ne, openR_iff (by omega)] at hn'
      have hd : (n + 86400) / 86400 * 86400 = n / 86400 * 86400 + 86400 := by omega
      have : ¬ ∀ y ∈ d.shut, ¬ (y.lo ≤ n + 86400 ∧ n + 86400 ≤ y.hi) := fun hall => hn' ⟨⟨x, hx, by omega, by omega⟩, hall⟩
      obtain ⟨y, hy⟩ := Classical.not_forall.1 this
      obtain ⟨hym, hy2⟩ := Classical.not_imp.1 hy
      have hy3 := Classical.not_not.1 hy2
      have hy4 := hs y hym
      refine ⟨y, hym, .inr ⟨by omega, x, hx, ?_⟩⟩
      have : (y.lo - 1) / 86400 * 86400 = n / 86400 * 86400 ∨ (y.lo - 1) / 86400 * 86400 = n / 86400 * 86400 + 86400 := by omega
      omega
  · right
    have hn' := hno (n + 1) (by omega) (by omega)
    rw [Ne, openR_iff (by omega)] at hn'
    have hz : (n + 1) / 86400 * 86400 = n / 86400 * 86400 := by omega
    have : ¬ ∀ y ∈ d.shut, ¬ (y.lo ≤ n + 1 ∧ n + 1 ≤ y.hi) := fun hall => hn' ⟨⟨x, hx, by omega, by omega⟩, hall⟩
    obtain ⟨y, hy⟩ := Classical.not_forall.1 this
    obtain ⟨hym, hy2⟩ := Classical.not_imp.1 hy
    have hy3 := Classical.not_not.1 hy2
    have hy4 := hs y hym
    exact ⟨y, hym, .inl (by omega)⟩

theorem lastR_is {d : Door} (hd : d.V) {t : Int} (h0 : 0 ≤ t) (h1 : t ≤ 1073741823) : lastR d t = last d t := by
  have hn := last_is hd (t := t) (by omega)
  unfold lastR
  by_cases ho : openR d t = true
  · rw [if_pos ho]
    have h := hn.le
    by_cases hlt : last d t < t
    · exact absurd ho (hn.no t (Int.le_refl _) hlt h0)
    · omega
  · rw [if_neg ho]
    obtain ⟨a1, a2, a3⟩ := hoursX_spec d t (t / 86400 * 86400) (-1) (.inl rfl)
    obtain ⟨b1, b2, b3⟩ := hoursX_spec d t (t / 86400 * 86400 - 86400) _ a1
    obtain ⟨c1, c2, c3⟩ := fold_best (μ := Neg.neg) (P := PX d t) (f := shutX d t) (fun b x => shutX_le d t b x) (fun b x hb => (shutX_spec d t b x hb).1) d.shut _ b1
    generalize hbest : d.shut.foldl (shutX d t) (hoursX d t (t / 86400 * 86400 - 86400) (hoursX d t (t / 86400 * 86400) (-1))) = best at *
    have hge : best ≤ last d t := by
      rcases c1 with h | ⟨g1, g2, g3⟩
      · rcases hn.at' with e | ⟨e, _⟩ <;> omega
      · by_cases hlt : last d t < best
        · exact absurd g3 (hn.no best (by omega) hlt g1)
        · omega
    rcases hn.at' with e | ⟨e1, e2⟩
    · rcases c1 with h | ⟨g1, g2, g3⟩ <;> omega
    · have htn : last d t < t := by
        have := hn.le
        by_cases he : last d t = t
        · rw [he] at e2; exact absurd e2 ho
        · omega
      have hle : last d t ≤ best := by
        rcases last_cand hd e1 htn e2 (fun u hu1 hu2 => hn.no u hu2 hu1 (by omega)) with ⟨x, hx, hc | hc⟩ | ⟨y, hy, hc⟩
        · have := a3 x hx (by omega) (by omega) (by rw [← hc]; exact e2); omega
        · have := b3 x hx (by omega) (by omega) (by rw [← hc]; exact e2); omega
        · have := c3 y hy _ (fun b hb => (shutX_spec d t b y hb).2.2 _ e1 htn e2 hc); omega
      omega
end Go.Proofs.Hs

/-
  Earliest arrivals and latest departures of a house: as the program and as the document find them. No conditions.
-/
namespace Go.Proofs.Hs
open Go Go.Pg Go.Proofs Go.Proofs.Lab

/-! ## Going through a gate -/
def House.nextAt (h : House) (g : Gate) (t : Int) : Int := if 0 ≤ g.door then next (h.door g.door) t else t
def House.lastAt (h : House) (g : Gate) (t : Int) : Int := if 0 ≤ g.door then last (h.door g.door) t else t
def enter (h : House) (g : Gate) (t : Int) : Int := if 1073741823 < h.nextAt g t + g.secs then 1073741824 else h.nextAt g t + g.secs
def depart (h : House) (g : Gate) (t : Int) : Int := if t - g.secs < 0 then -1 else h.lastAt g (t - g.secs)

theorem gatesL_ok : ∀ (l : List Way) (i : Nat) (nr nd : Nat), (∀ w ∈ l, w.OK nr nd) → ∀ g ∈ gatesL i l, (0 ≤ g.from' ∧ g.from' < (nr : Int)) ∧ (0 ≤ g.to ∧ g.to < (nr : Int)) ∧ (1 ≤ g.secs ∧ g.secs ≤ 3600) ∧ (-1 ≤ g.door ∧ g.door < (nd : Int)) ∧ g.from' ≠ g.to
  | [], _, _, _, _, g, hg => by simp [gatesL] at hg
  | w :: rest, i, nr, nd, hw, g, hg => by
    have h0 := hw w (by simp)
    unfold Way.OK at h0
    unfold gatesL at hg
    rcases List.mem_cons.1 hg with rfl | hg
    · dsimp only; omega
    · rcases List.mem_append.1 hg with hg | hg
      · split at hg
        · simp only [List.mem_singleton] at hg; subst hg; dsimp only; omega
        · simp at hg
      · exact gatesL_ok rest (i + 1) nr nd (fun x hx => hw x (by simp [hx])) g hg
theorem gate_ok {h : House} (hv : h.V) {g : Gate} (hg : g ∈ gates h) : g.OK h := by
  obtain ⟨h1, h2, h3, h4, _⟩ := gatesL_ok h.ways 0 _ _ hv.ways g hg
  exact ⟨h1, h2, h3, h4⟩

section
variable {h : House} {g : Gate}
theorem nextAt_ge (hv : h.V) (hg : g.OK h) {t : Int} (h0 : 0 ≤ t) (h1 : t ≤ 1073741824) : t ≤ h.nextAt g t ∧ h.nextAt g t ≤ 1073741824 := by
  unfold House.nextAt
  split
  · rename_i hd
    have hn := next_is (hv.door hd hg.door.2) h0 h1
    have := hn.ge
    rcases hn.at' with e | ⟨e, _⟩ <;> omega
  · omega
theorem nextAt_mono (hv : h.V) (hg : g.OK h) {t u : Int} (h0 : 0 ≤ t) (hu : t ≤ u) (h1 : u ≤ 1073741824) : h.nextAt g t ≤ h.nextAt g u := by
  unfold House.nextAt
  split
  · rename_i hd; exact next_mono (hv.door hd hg.door.2) h0 hu h1
  · exact hu
theorem lastAt_le (hv : h.V) (hg : g.OK h) {t : Int} (h0 : -1 ≤ t) : -1 ≤ h.lastAt g t ∧ h.lastAt g t ≤ t := by
  unfold House.lastAt
  split
  · rename_i hd
    have hn := last_is (hv.door hd hg.door.2) h0
    have := hn.le
    rcases hn.at' with e | ⟨e, _⟩ <;> omega
  · omega
theorem lastAt_mono (hv : h.V) (hg : g.OK h) {t u : Int} (h0 : -1 ≤ t) (hu : t ≤ u) : h.lastAt g t ≤ h.lastAt g u := by
  unfold House.lastAt
  split
  · rename_i hd; exact last_mono (hv.door hd hg.door.2) h0 hu
  · exact hu

theorem enter_spec (hv : h.V) (hg : g.OK h) {t : Int} (h0 : 0 ≤ t) (h1 : t ≤ 1073741823) : t < enter h g t ∧ enter h g t ≤ 1073741824 := by
  have := nextAt_ge hv hg h0 (by omega)
  have := hg.secs
  unfold enter; split <;> omega
theorem enter_mono (hv : h.V) (hg : g.OK h) {t u : Int} (h0 : 0 ≤ t) (hu : t ≤ u) (h1 : u ≤ 1073741824) : enter h g t ≤ enter h g u := by
  have := nextAt_mono hv hg h0 hu h1
  unfold enter; split <;> split <;> omega
theorem depart_spec (hv : h.V) (hg : g.OK h) {t : Int} (h0 : 0 ≤ t) : -1 ≤ depart h g t ∧ depart h g t < t := by
  have := hg.secs
  unfold depart
  split
  · omega
  · have := lastAt_le hv hg (t := t - g.secs) (by omega); omega
theorem depart_mono (hv : h.V) (hg : g.OK h) {t u : Int} (h0 : -1 ≤ t) (hu : t ≤ u) : depart h g t ≤ depart h g u := by
  have := hg.secs
  unfold depart
  split
  · split
    · omega
    · have := lastAt_le hv hg (t := u - g.secs) (by omega); omega
  · rw [if_neg (by omega)]; exact lastAt_mono hv hg (by omega) (by omega)
end

/-! ## The two networks -/
def arrN (h : House) : Net Gate := { μ := id, inf := 1073741824, src := fun g => g.from'.toNat, dst := fun g => g.to.toNat, f := enter h, gs := gates h, In := fun x => 0 ≤ x ∧ x ≤ 1073741824 }
def depN (h : House) : Net Gate := { μ := Neg.neg, inf := -1, src := fun g => g.to.toNat, dst := fun g => g.from'.toNat, f := depart h, gs := gates h, In := fun x => -1 ≤ x ∧ x ≤ 1073741823 }

theorem arrN_ok {h : House} (hv : h.V) : (arrN h).OK h.rooms.length := by
  refine ⟨fun x y _ _ h => h, (show (0 : Int) ≤ 1073741824 ∧ (1073741824 : Int) ≤ 1073741824 by decide), fun x hx => hx.2, fun g hg => ?_, fun g hg => ?_, fun g hg x hx hl => ?_, fun g hg x y hx hy hxy hyl => ?_, fun g hg x hx hl => ?_⟩
  · have := (gate_ok hv hg).from'; show g.from'.toNat < _; omega
  · have := (gate_ok hv hg).to; show g.to.toNat < _; omega
  · have hx' : 0 ≤ x ∧ x ≤ 1073741824 := hx
    have hl' : x < 1073741824 := hl
    have := enter_spec hv (gate_ok hv hg) hx'.1 (by omega)
    show 0 ≤ enter h g x ∧ enter h g x ≤ 1073741824
    omega
  · exact enter_mono hv (gate_ok hv hg) hx.1 hxy hy.2
  · have hl' : x < 1073741824 := hl
    exact (enter_spec hv (gate_ok hv hg) hx.1 (by omega)).1

theorem depN_ok {h : House} (hv : h.V) : (depN h).OK h.rooms.length := by
  refine ⟨fun x y _ _ h => ?_, (show (-1 : Int) ≤ -1 ∧ (-1 : Int) ≤ 1073741823 by decide), fun x hx => ?_, fun g hg => ?_, fun g hg => ?_, fun g hg x hx hl => ?_, fun g hg x y hx hy hxy hyl => ?_, fun g hg x hx hl => ?_⟩
  · have h' : -x = -y := h
    omega
  · have hx' : -1 ≤ x ∧ x ≤ 1073741823 := hx
    show -x ≤ -(-1)
    omega
  · have := (gate_ok hv hg).to; show g.to.toNat < _; omega
  · have := (gate_ok hv hg).from'; show g.from'.toNat < _; omega
  · have hx' : -1 ≤ x ∧ x ≤ 1073741823 := hx
    have hl' : -x < -(-1) := hl
    have := depart_spec hv (gate_ok hv hg) (t := x) (by omega)
    show -1 ≤ depart h g x ∧ depart h g x ≤ 1073741823
    omega
  · have hx' : -1 ≤ x ∧ x ≤ 1073741823 := hx
    have hy' : -1 ≤ y ∧ y ≤ 1073741823 := hy
    have hxy' : -x ≤ -y := hxy
    have hyl' : -y < -(-1) := hyl
    have := depart_mono hv (gate_ok hv hg) (t := y) (u := x) (by omega) (by omega)
    show -(depart h g x) ≤ -(depart h g y)
    omega
  · have hx' : -1 ≤ x ∧ x ≤ 1073741823 := hx
    have hl' : -x < -(-1) := hl
    have := depart_spec hv (gate_ok hv hg) (t := x) (by omega)
    show -x < -(depart h g x)
    omega

/-- The document's. -/
def arrR (h : House) (from' : Nat) (t : Int) : List Int := (arrN h).dijF h.rooms.length ((List.replicate h.rooms.length 1073741824).set from' t) (List.replicate h.rooms.length false)
def depR (h : House) (to : Nat) (t : Int) : List Int := (depN h).dijF h.rooms.length ((List.replicate h.rooms.length (-1)).set to t) (List.replicate h.rooms.length false)

theorem arrR_is {h : House} (hv : h.V) {a : Nat} (ha : a < h.rooms.length) {t : Int} (ht : 0 ≤ t ∧ t ≤ 1073741824) : (arrR h a t).length = h.rooms.length ∧ IsArr (arrN h) a t ((arrN h).lab (arrR h a t)) :=
  dij_is (arrN_ok hv) ha ht
theorem depR_is {h : House} (hv : h.V) {a : Nat} (ha : a < h.rooms.length) {t : Int} (ht : -1 ≤ t ∧ t ≤ 1073741823) : (depR h a t).length = h.rooms.length ∧ IsArr (depN h) a t ((depN h).lab (depR h a t)) :=
  dij_is (depN_ok hv) ha ht

/-! ## The program's: improving till nothing improves; a room without a number has -1 -/
def impr (f : Gate → Int → Int) (row : List Int) (g : Gate) : Bool :=
  decide (0 ≤ row.getD g.from'.toNat 0) && (decide (0 ≤ f g (row.getD g.from'.toNat 0)) && (decide (row.getD g.to.toNat 0 < 0) || decide (f g (row.getD g.from'.toNat 0) < row.getD g.to.toNat 0)))
def spreadF (f : Gate → Int → Int) (gs : List Gate) : Nat → List Int → List Gate → List Int × List Gate
  | 0, row, by' => (row, by')
  | k + 1, row, by' => match gs.find? (impr f row) with
    | none => (row, by')
    | some g => spreadF f gs k (row.set g.to.toNat (f g (row.getD g.from'.toNat 0))) (by'.set g.to.toNat g)
/-- How much there is to improve. -/
def room1 (x : Int) : Int := if x < 0 then 1073741824 else x
def spreadM (row : List Int) : Nat := sumN (row.map room1)
def spread (f : Gate → Int → Int) (gs : List Gate) (row : List Int) : List Int × List Gate := spreadF f gs (spreadM row + 1) row (List.replicate row.length .zero)

theorem getD_set' (row : List Int) (i : Nat) (x : Int) (h : i < row.length) : row[i]? = some (row.getD i 0) := by
  rw [List.getD_eq_getElem?_getD, List.getElem?_eq_getElem h]; rfl

theorem spreadM_lt {row : List Int} {i : Nat} {x : Int} (hi : i < row.length) (h0 : 0 ≤ x) (hx : x < 1073741824) (hb : row.getD i 0 < 0 ∨ x < row.getD i 0) : spreadM (row.set i x) < spreadM row := by
  unfold spreadM
  rw [List.map_set]
  refine sumN_set _ i _ (room1 (row.getD i 0)) ?_ ?_ ?_
  · rw [List.getElem?_map, getD_set' row i 0 hi]; rfl
  · unfold room1; split <;> omega
  · unfold room1
    rw [if_neg (by omega)]
    split <;> omega

/-- What is asked of a way to go on: never too far. -/
def NextOK (f : Gate → Int → Int) (gs : List Gate) (n : Nat) : Prop := ∀ g ∈ gs, g.to.toNat < n ∧ ∀ x, 0 ≤ x → f g x < 1073741824

theorem impr_iff {f : Gate → Int → Int} {row : List Int} {g : Gate} : impr f row g = true ↔ 0 ≤ row.getD g.from'.toNat 0 ∧ 0 ≤ f g (row.getD g.from'.toNat 0) ∧ (row.getD g.to.toNat 0 < 0 ∨ f g (row.getD g.from'.toNat 0) < row.getD g.to.toNat 0) := by
  unfold impr
  simp only [Bool.and_eq_true, decide_eq_true_eq, Bool.or_eq_true]

theorem spreadF_end {f : Gate → Int → Int} {gs : List Gate} {n : Nat} (P : List Int → List Gate → Prop) (hP : ∀ row by' g, P row by' → g ∈ gs → impr f row g = true → P (row.set g.to.toNat (f g (row.getD g.from'.toNat 0))) (by'.set g.to.toNat g))
    (hf : NextOK f gs n) : ∀ (k : Nat) (row : List Int) (by' : List Gate), row.length = n → spreadM row < k → P row by' →
    (spreadF f gs k row by').1.length = n ∧ P (spreadF f gs k row by').1 (spreadF f gs k row by').2 ∧ ∀ g ∈ gs, impr f (spreadF f gs k row by').1 g = false
  | 0, row, by', hn, hk, hp => by omega
  | k + 1, row, by', hn, hk, hp => by
    unfold spreadF
    cases hg : gs.find? (impr f row) with
    | none =>
      dsimp only
      refine ⟨hn, hp, fun g hgm => ?_⟩
      have := List.find?_eq_none.1 hg g hgm
      simpa using this
    | some g =>
      dsimp only
      have hgm := List.mem_of_find?_eq_some hg
      have hgi := List.find?_some hg
      obtain ⟨i1, i2, i3⟩ := impr_iff.1 hgi
      obtain ⟨g1, g2⟩ := hf g hgm
      refine spreadF_end P hP hf k _ _ (by simp [hn]) ?_ (hP _ _ _ hp hgm hgi)
      have := spreadM_lt (row := row) (i := g.to.toNat) (x := f g (row.getD g.from'.toNat 0)) (by omega) i2 (g2 _ i1) i3
      omega

/-- The way on of arrivals. -/
def nextH (h : House) (g : Gate) (t : Int) : Int := if enter h g t ≠ 1073741824 then enter h g t else -1
theorem getD_map0 (row : List Int) (i : Nat) : (row.map room1).getD i 1073741824 = if i < row.length then room1 (row.getD i 0) else 1073741824 := by
  rw [List.getD_eq_getElem?_getD, List.getElem?_map]
  split
  · rename_i hi; rw [getD_set' row i 0 hi]; rfl
  · rename_i hi; rw [List.getElem?_eq_none (by omega)]; rfl

structure RowV (row : List Int) : Prop where
  bound : ∀ x ∈ row, -1 ≤ x ∧ x ≤ 1073741823

theorem spread_is {h : House} (hv : h.V) {a : Nat} (ha : a < h.rooms.length) {t : Int} (ht : 0 ≤ t ∧ t ≤ 1073741823) :
    (spread (nextH h) (gates h) ((List.replicate h.rooms.length (-1)).set a t)).1.map room1 = arrR h a t := by
  have hN := arrN_ok hv
  let P : List Int → List Gate → Prop := fun row _ => RowOK (arrN h) h.rooms.length a t (row.map room1) ∧ ∀ x ∈ row, -1 ≤ x ∧ x ≤ 1073741823
  have hlen0 : ((List.replicate h.rooms.length (-1 : Int)).set a t).length = h.rooms.length := by simp
  have hf : NextOK (nextH h) (gates h) h.rooms.length := fun g hg => ⟨by have := (gate_ok hv hg).to; omega, fun x hx => by
    unfold nextH
    split
    · rename_i hne
      have hg' := gate_ok hv hg
      unfold enter at hne ⊢
      split
      · rename_i hc; rw [if_pos hc] at hne; exact absurd rfl hne
      · omega
    · decide⟩
  have hmap : ((List.replicate h.rooms.length (-1 : Int)).set a t).map room1 = (List.replicate h.rooms.length (arrN h).inf).set a t := by
    rw [List.map_set, List.map_replicate]
    have : room1 t = t := by unfold room1; rw [if_neg (by omega)]
    rw [this]; rfl
  have hlab : ∀ (row : List Int) (i : Nat), (arrN h).lab (row.map room1) i = if i < row.length then room1 (row.getD i 0) else 1073741824 := fun row i => getD_map0 row i
  obtain ⟨e1, ⟨e2, e3⟩, e4⟩ := spreadF_end P (f := nextH h) (gs := gates h) (fun row by' g ⟨hp, hb⟩ hg hi => by
    obtain ⟨i1, i2, i3⟩ := impr_iff.1 hi
    have hrl : row.length = h.rooms.length := by have := hp.len; simpa using this
    have hs := hN.src g hg
    have hd := hN.dst g hg
    have hsl : (arrN h).lab (row.map room1) ((arrN h).src g) = row.getD g.from'.toNat 0 := by
      rw [hlab, if_pos (by rw [hrl]; exact hs)]
      show room1 (row.getD g.from'.toNat 0) = _
      unfold room1; rw [if_neg (by omega)]
    have hne : enter h g (row.getD g.from'.toNat 0) ≠ 1073741824 := fun e => by unfold nextH at i2; rw [if_neg (by simpa using e)] at i2; omega
    have hfe : nextH h g (row.getD g.from'.toNat 0) = enter h g (row.getD g.from'.toNat 0) := by unfold nextH; rw [if_pos hne]
    have hxb : row.getD g.from'.toNat 0 ≤ 1073741823 := (hb _ (List.mem_of_getElem? (getD_set' row _ 0 (by rw [hrl]; exact hs)))).2
    have hsp := enter_spec hv (gate_ok hv hg) i1 hxb
    have hput := hp.put hN hg (by rw [hsl]; show row.getD g.from'.toNat 0 < 1073741824; omega) (by
      rw [hsl, hlab, if_pos (by rw [hrl]; exact hd)]
      show enter h g (row.getD g.from'.toNat 0) ≤ room1 (row.getD g.to.toNat 0)
      unfold room1
      split <;> omega)
    have hset : (row.set g.to.toNat (nextH h g (row.getD g.from'.toNat 0))).map room1 = (row.map room1).set ((arrN h).dst g) ((arrN h).f g ((arrN h).lab (row.map room1) ((arrN h).src g))) := by
      rw [List.map_set, hsl, hfe]
      have : room1 (enter h g (row.getD g.from'.toNat 0)) = enter h g (row.getD g.from'.toNat 0) := by unfold room1; rw [if_neg (by omega)]
      rw [this]; rfl
    refine ⟨by rw [hset]; exact hput, fun x hx => ?_⟩
    rcases List.mem_or_eq_of_mem_set hx with hx | rfl
    · exact hb x hx
    · rw [hfe] at i2 ⊢; omega) hf (spreadM ((List.replicate h.rooms.length (-1 : Int)).set a t) + 1) _ (List.replicate ((List.replicate h.rooms.length (-1 : Int)).set a t).length .zero) hlen0 (by omega)
      ⟨by rw [hmap]; exact rowOK_init hN ha ⟨ht.1, by omega⟩, fun x hx => by
        rcases List.mem_or_eq_of_mem_set hx with hx | rfl
        · rw [List.mem_replicate] at hx; omega
        · omega⟩
  refine dij_eq hN ha ⟨ht.1, by omega⟩ (by rw [List.length_map]; exact e1) (e2.is hN fun g hg hl hbt => ?_)
  have hno := e4 g hg
  have hrl := e1
  unfold spread at hl hbt
  generalize (spreadF (nextH h) (gates h) (spreadM ((List.replicate h.rooms.length (-1 : Int)).set a t) + 1) ((List.replicate h.rooms.length (-1)).set a t) (List.replicate ((List.replicate h.rooms.length (-1 : Int)).set a t).length Gate.zero)).1 = row at *
  rw [hlab, if_pos (by rw [hrl]; exact hN.src g hg)] at hl hbt
  rw [hlab, if_pos (by rw [hrl]; exact hN.dst g hg)] at hbt
  have hl' : room1 (row.getD g.from'.toNat 0) < 1073741824 := hl
  have hbt' : enter h g (room1 (row.getD g.from'.toNat 0)) < room1 (row.getD g.to.toNat 0) := hbt
  have h0 : 0 ≤ row.getD g.from'.toNat 0 := by
    by_cases hx : row.getD g.from'.toNat 0 < 0
    · unfold room1 at hl'; rw [if_pos hx] at hl'; omega
    · omega
  have hr1 : room1 (row.getD g.from'.toNat 0) = row.getD g.from'.toNat 0 := by unfold room1; rw [if_neg (by omega)]
  rw [hr1] at hbt' hl'
  have hsp := enter_spec hv (gate_ok hv hg) h0 (by omega)
  have hto : row.getD g.to.toNat 0 ≤ 1073741823 := (e3 _ (List.mem_of_getElem? (getD_set' row _ 0 (by rw [hrl]; exact hN.dst g hg)))).2
  have hne : enter h g (row.getD g.from'.toNat 0) ≠ 1073741824 := by
    intro e
    rw [e] at hbt'
    unfold room1 at hbt'
    split at hbt' <;> omega
  have hfe : nextH h g (row.getD g.from'.toNat 0) = enter h g (row.getD g.from'.toNat 0) := by unfold nextH; rw [if_pos hne]
  have : impr (nextH h) row g = true := impr_iff.2 ⟨h0, by rw [hfe]; omega, by
    rw [hfe]
    unfold room1 at hbt'
    split at hbt'
    · exact .inl (by assumption)
    · exact .inr hbt'⟩
  rw [this] at hno; cases hno

/-! ## Latest: rounds till nothing changes -/
def lateStep (f : Gate → Int → Int) (p : List Int × Bool) (g : Gate) : List Int × Bool :=
  if p.1.getD g.to.toNat 0 < 0 then p else if p.1.getD g.from'.toNat 0 < f g (p.1.getD g.to.toNat 0) then (p.1.set g.from'.toNat (f g (p.1.getD g.to.toNat 0)), true) else p
def lateF (f : Gate → Int → Int) (gs : List Gate) : Nat → List Int → List Int
  | 0, row => row
  | k + 1, row => if (gs.foldl (lateStep f) (row, false)).2 = true then lateF f gs k (gs.foldl (lateStep f) (row, false)).1 else (gs.foldl (lateStep f) (row, false)).1
def lateM (row : List Int) : Nat := sumN (row.map fun x => 1073741823 - x)
def late (h : House) (to : Nat) (t : Int) : List Int := lateF (depart h) (gates h) (lateM ((List.replicate h.rooms.length (-1)).set to t) + 1) ((List.replicate h.rooms.length (-1)).set to t)

theorem lateM_lt {row : List Int} {i : Nat} {x : Int} (hi : i < row.length) (hx : x ≤ 1073741823) (hb : row.getD i 0 < x) : lateM (row.set i x) < lateM row := by
  unfold lateM
  rw [List.map_set]
  exact sumN_set _ i _ (1073741823 - row.getD i 0) (by rw [List.getElem?_map, getD_set' row i 0 hi]; rfl) (by omega) (by omega)

theorem late_pass {h : House} (hv : h.V) {a : Nat} {t : Int} : ∀ (l : List Gate) (row : List Int) (ch : Bool), (∀ g ∈ l, g ∈ gates h) → RowOK (depN h) h.rooms.length a t row →
    RowOK (depN h) h.rooms.length a t (l.foldl (lateStep (depart h)) (row, ch)).1 ∧ lateM (l.foldl (lateStep (depart h)) (row, ch)).1 ≤ lateM row ∧
    (ch = true → (l.foldl (lateStep (depart h)) (row, ch)).2 = true) ∧
    (ch = false → (l.foldl (lateStep (depart h)) (row, ch)).2 = true → lateM (l.foldl (lateStep (depart h)) (row, ch)).1 < lateM row) ∧
    ((l.foldl (lateStep (depart h)) (row, ch)).2 = false → (l.foldl (lateStep (depart h)) (row, ch)).1 = row ∧ ∀ g ∈ l, 0 ≤ row.getD g.to.toNat 0 → ¬ row.getD g.from'.toNat 0 < depart h g (row.getD g.to.toNat 0))
  | [], row, ch, _, hp => ⟨hp, Nat.le_refl _, (fun h => h), (fun h h' => by rw [h] at h'; cases h'), (fun _ => ⟨rfl, fun g hg => by cases hg⟩)⟩
  | g :: l, row, ch, hl, hp => by
    have hN := depN_ok hv
    have hg := hl g (by simp)
    have hrl : row.length = h.rooms.length := hp.len
    have hs : g.to.toNat < row.length := by rw [hrl]; exact hN.src g hg
    have hd : g.from'.toNat < row.length := by rw [hrl]; exact hN.dst g hg
    simp only [List.foldl_cons]
    have hsl : (depN h).lab row ((depN h).src g) = row.getD g.to.toNat 0 := by
      show row.getD g.to.toNat (-1) = _
      rw [List.getD_eq_getElem?_getD, List.getD_eq_getElem?_getD, List.getElem?_eq_getElem hs]; rfl
    have hdl : (depN h).lab row ((depN h).dst g) = row.getD g.from'.toNat 0 := by
      show row.getD g.from'.toNat (-1) = _
      rw [List.getD_eq_getElem?_getD, List.getD_eq_getElem?_getD, List.getElem?_eq_getElem hd]; rfl
    by_cases h1 : row.getD g.to.toNat 0 < 0
    · have e : lateStep (depart h) (row, ch) g = (row, ch) := by unfold lateStep; rw [if_pos h1]
      rw [e]
      obtain ⟨i1, i2, i3, i4, i5⟩ := late_pass hv l row ch (fun x hx => hl x (by simp [hx])) hp
      refine ⟨i1, i2, i3, i4, fun hc => ⟨(i5 hc).1, fun x hx h0 => ?_⟩⟩
      rcases List.mem_cons.1 hx with rfl | hx
      · omega
      · exact (i5 hc).2 x hx h0
    · by_cases h2 : row.getD g.from'.toNat 0 < depart h g (row.getD g.to.toNat 0)
      · have e : lateStep (depart h) (row, ch) g = (row.set g.from'.toNat (depart h g (row.getD g.to.toNat 0)), true) := by unfold lateStep; rw [if_neg h1, if_pos h2]
        rw [e]
        have hx0 : row.getD g.to.toNat 0 ≤ 1073741823 := (hp.In _ (List.mem_of_getElem? (getD_set' row _ 0 hs))).2
        have hsp := depart_spec hv (gate_ok hv hg) (t := row.getD g.to.toNat 0) (by omega)
        have hput := hp.put hN hg (by rw [hsl]; show -(row.getD g.to.toNat 0) < -(-1); omega) (by
          rw [hsl, hdl]
          show -(depart h g (row.getD g.to.toNat 0)) ≤ -(row.getD g.from'.toNat 0)
          omega)
        rw [hsl] at hput
        have hm := lateM_lt (row := row) (i := g.from'.toNat) (x := depart h g (row.getD g.to.toNat 0)) hd (by omega) h2
        obtain ⟨i1, i2, i3, i4, i5⟩ := late_pass hv l (row.set g.from'.toNat (depart h g (row.getD g.to.toNat 0))) true (fun x hx => hl x (by simp [hx])) hput
        refine ⟨i1, by omega, fun _ => i3 rfl, fun _ _ => by omega, fun hc => ?_⟩
        rw [i3 rfl] at hc; cases hc
      · have e : lateStep (depart h) (row, ch) g = (row, ch) := by unfold lateStep; rw [if_neg h1, if_neg h2]
        rw [e]
        obtain ⟨i1, i2, i3, i4, i5⟩ := late_pass hv l row ch (fun x hx => hl x (by simp [hx])) hp
        refine ⟨i1, i2, i3, i4, fun hc => ⟨(i5 hc).1, fun x hx h0 => ?_⟩⟩
        rcases List.mem_cons.1 hx with rfl | hx
        · exact h2
        · exact (i5 hc).2 x hx h0

theorem lateF_is {h : House} (hv : h.V) {a : Nat} {t : Int} : ∀ (k : Nat) (row : List Int), RowOK (depN h) h.rooms.length a t row → lateM row < k →
    (lateF (depart h) (gates h) k row).length = h.rooms.length ∧ IsArr (depN h) a t ((depN h).lab (lateF (depart h) (gates h) k row))
  | 0, row, _, hk => by omega
  | k + 1, row, hp, hk => by
    have hN := depN_ok hv
    obtain ⟨i1, i2, i3, i4, i5⟩ := late_pass hv (gates h) row false (fun _ h => h) hp
    unfold lateF
    by_cases hc : ((gates h).foldl (lateStep (depart h)) (row, false)).2 = true
    · rw [if_pos hc]
      exact lateF_is hv k _ i1 (by have := i4 rfl hc; omega)
    · rw [if_neg hc]
      obtain ⟨j1, j2⟩ := i5 (by simpa using hc)
      rw [j1]
      have hrl : row.length = h.rooms.length := hp.len
      refine ⟨hrl, hp.is hN fun g hg hl hb => ?_⟩
      have hsl : (depN h).lab row ((depN h).src g) = row.getD g.to.toNat 0 := by
        show row.getD g.to.toNat (-1) = _
        rw [List.getD_eq_getElem?_getD, List.getD_eq_getElem?_getD, List.getElem?_eq_getElem (by rw [hrl]; exact hN.src g hg)]; rfl
      have hdl : (depN h).lab row ((depN h).dst g) = row.getD g.from'.toNat 0 := by
        show row.getD g.from'.toNat (-1) = _
        rw [List.getD_eq_getElem?_getD, List.getD_eq_getElem?_getD, List.getElem?_eq_getElem (by rw [hrl]; exact hN.dst g hg)]; rfl
      rw [hsl] at hl hb
      rw [hdl] at hb
      have hl' : -(row.getD g.to.toNat 0) < -(-1) := hl
      have hb' : -(depart h g (row.getD g.to.toNat 0)) < -(row.getD g.from'.toNat 0) := hb
      exact j2 g hg (by omega) (by omega)

theorem late_is {h : House} (hv : h.V) {a : Nat} (ha : a < h.rooms.length) {t : Int} (ht : 0 ≤ t ∧ t ≤ 1073741823) : late h a t = depR h a t := by
  obtain ⟨h1, h2⟩ := lateF_is hv (lateM ((List.replicate h.rooms.length (-1)).set a t) + 1) _ (rowOK_init (depN_ok hv) ha (t := t) ⟨by omega, ht.2⟩) (Nat.lt_succ_self _)
  exact dij_eq (depN_ok hv) ha ⟨by omega, ht.2⟩ h1 h2
end Go.Proofs.Hs

namespace Go.Proofs.Hs
open Go Go.Pg Go.Proofs

theorem enter_ok (h : House) (g : Gate) (t : Int) (hv : h.V) (hg : g.OK h) (h0 : 0 ≤ t) (h1 : t ≤ 1073741824) : OKv cx 88 [.agg (eHouse h), .agg (eGate g), ai t] (ai (enter h g t)) := by
  have hb := nextAt_ge hv hg h0 h1
  have hs := hg.secs
  by_cases hdn : 0 ≤ g.door
  · have hdl := hg.door.2
    have hdv := hv.door hdn hdl
    have hdg : (h.doors.map eDoor).getD g.door.toNat [] = eDoor (h.door g.door) := getD_map eDoor h.doors _ [] ⟨[], []⟩ (by omega)
    have hn : h.nextAt g t = next (h.door g.door) t := if_pos hdn
    rw [hn] at hb
    refine OKat.of_body (rs := [6]) Tryd.func88 rfl (by decide +kernel) rfl (by simp [Tryd.ntmps88]) ?_
    simp only [Tryd.ntmps88]
    repeat' first
      | apply AW.seq | apply AW.region | apply AW.ret | apply AW.block | apply AW.skip | apply AW.exit | apply AW.scope | apply AW.label | apply AWL.nil
      | ((first | (apply W.step cx_ok; decide) | apply AW.cond); (simp (disch := omega) only [push_cast, simprocAttr, hdn, hdl, hdg] <;> rfl); all_goals try ((with_reducible intro hI); try first | (cases hI; done) | (simp only [INTS] at hI; try first | (exfalso; omega) | (have hT : True := hI; clear hT hI))))
      | ((apply W.callv cx_ok; decide); (iterate 2 (simp (disch := omega) only [push_cast, simprocAttr, hdn, hdl, hdg] <;> rfl)); (with_reducible first | exact next_ok _ _ hdv.ok h0 h1); try first | rfl | (simp (disch := omega) only [push_cast, simprocAttr, hdn, hdl, hdg] <;> rfl))
      | ((first | apply W.ret1 | apply W.end1); (iterate 2 (try (simp (disch := omega) only [push_cast, simprocAttr, hdn, hdl, hdg] <;> rfl))))
    all_goals (show _ = _; unfold enter; rw [hn]; first | rw [if_pos (by omega)] | rw [if_neg (by omega)])
  · have hn : h.nextAt g t = t := if_neg hdn
    refine OKat.of_body (rs := [6]) Tryd.func88 rfl (by decide +kernel) rfl (by simp [Tryd.ntmps88]) ?_
    simp only [Tryd.ntmps88]
    repeat' first
      | apply AW.seq | apply AW.region | apply AW.ret | apply AW.block | apply AW.skip | apply AW.exit | apply AW.scope | apply AW.label | apply AWL.nil
      | ((first | (apply W.step cx_ok; decide) | apply AW.cond); (simp (disch := omega) only [push_cast, simprocAttr, hdn] <;> rfl); all_goals try ((with_reducible intro hI); try first | (cases hI; done) | (simp only [INTS] at hI; try first | (exfalso; omega) | (have hT : True := hI; clear hT hI))))
      | ((first | apply W.ret1 | apply W.end1); (iterate 2 (try (simp (disch := omega) only [push_cast, simprocAttr, hdn] <;> rfl))))
    all_goals (show _ = _; unfold enter; rw [hn]; first | rw [if_pos (by omega)] | rw [if_neg (by omega)])

theorem depart_ok (h : House) (g : Gate) (t : Int) (hv : h.V) (hg : g.OK h) (h0 : 0 ≤ t) (h1 : t ≤ 1073741824) : OKv cx 84 [.agg (eHouse h), .agg (eGate g), ai t] (ai (depart h g t)) := by
  have hs := hg.secs
  by_cases hdn : 0 ≤ g.door
  · have hdl := hg.door.2
    have hdv := hv.door hdn hdl
    have hdg : (h.doors.map eDoor).getD g.door.toNat [] = eDoor (h.door g.door) := getD_map eDoor h.doors _ [] ⟨[], []⟩ (by omega)
    have hn : h.lastAt g (t - g.secs) = last (h.door g.door) (t - g.secs) := if_pos hdn
    refine OKat.of_body (rs := [6]) Tryd.func84 rfl (by decide +kernel) rfl (by simp [Tryd.ntmps84]) ?_
    simp only [Tryd.ntmps84]
    repeat' first
      | apply AW.seq | apply AW.region | apply AW.ret | apply AW.block | apply AW.skip | apply AW.exit | apply AW.scope | apply AW.label | apply AWL.nil
      | ((first | (apply W.step cx_ok; decide) | apply AW.cond); (simp (disch := omega) only [push_cast, simprocAttr, hdn, hdl, hdg] <;> rfl); all_goals try ((with_reducible intro hI); try first | (cases hI; done) | (simp only [INTS] at hI; try first | (exfalso; omega) | (have hT : True := hI; clear hT hI))))
      | ((apply W.callv cx_ok; decide); (iterate 2 (simp (disch := omega) only [push_cast, simprocAttr, hdn, hdl, hdg] <;> rfl)); (with_reducible first | exact last_ok _ _ hdv.ok (by omega) (by omega)); try first | rfl | (simp (disch := omega) only [push_cast, simprocAttr, hdn, hdl, hdg] <;> rfl))
      | ((first | apply W.ret1 | apply W.end1); (iterate 2 (try (simp (disch := omega) only [push_cast, simprocAttr, hdn, hdl, hdg] <;> rfl))))
    all_goals (show _ = _; unfold depart; rw [hn]; first | rw [if_pos (by omega)] | rw [if_neg (by omega)])
  · have hn : h.lastAt g (t - g.secs) = t - g.secs := if_neg hdn
    refine OKat.of_body (rs := [6]) Tryd.func84 rfl (by decide +kernel) rfl (by simp [Tryd.ntmps84]) ?_
    simp only [Tryd.ntmps84]
    repeat' first
      | apply AW.seq | apply AW.region | apply AW.ret | apply AW.block | apply AW.skip | apply AW.exit | apply AW.scope | apply AW.label | apply AWL.nil
      | ((first | (apply W.step cx_ok; decide) | apply AW.cond); (simp (disch := omega) only [push_cast, simprocAttr, hdn] <;> rfl); all_goals try ((with_reducible intro hI); try first | (cases hI; done) | (simp only [INTS] at hI; try first | (exfalso; omega) | (have hT : True := hI; clear hT hI))))
      | ((first | apply W.ret1 | apply W.end1); (iterate 2 (try (simp (disch := omega) only [push_cast, simprocAttr, hdn] <;> rfl))))
    all_goals (show _ = _; unfold depart; rw [hn]; first | rw [if_pos (by omega)] | rw [if_neg (by omega)])

theorem arrNext_ok (h : House) (g : Gate) (t : Int) (hv : h.V) (hg : g.OK h) (h0 : 0 ≤ t) (h1 : t ≤ 1073741824) : OKv cx 118 [.agg (eGate g), ai t, .iptr (eHouse h) 0] (ai (nextH h g t)) := by
  refine OKat.of_body (rs := [5]) Tryd.func118 rfl (by decide +kernel) rfl (by simp [Tryd.ntmps118]) ?_
  simp only [Tryd.ntmps118]
  repeat' first
    | apply AW.seq | apply AW.region | apply AW.ret | apply AW.block | apply AW.skip | apply AW.exit | apply AW.scope | apply AW.label | apply AWL.nil
    | ((first | (apply W.step cx_ok; decide) | apply AW.cond); (simp (disch := omega) only [push_cast, simprocAttr] <;> rfl); all_goals try ((with_reducible intro hI); try first | (cases hI; done) | (simp only [INTS] at hI; try first | (exfalso; omega) | (have hT : True := hI; clear hT hI))))
    | ((apply W.callv cx_ok; decide); (iterate 2 (simp (disch := omega) only [push_cast, simprocAttr] <;> rfl)); (with_reducible first | exact enter_ok h g t hv hg h0 h1); try first | rfl | (simp (disch := omega) only [push_cast, simprocAttr] <;> rfl))
    | ((first | apply W.ret1 | apply W.end1); (iterate 2 (try (simp (disch := omega) only [push_cast, simprocAttr] <;> rfl))))
  all_goals (show _ = _; unfold nextH; first | rw [if_pos (by assumption)] | rw [if_neg (by simp [*])])

theorem better_ok (a b : Int) : OKv cx 119 [ai a, ai b] (ab (decide (b < 0) || decide (a < b))) := by
  refine OKat.of_body (rs := [4]) Tryd.func119 rfl (by decide +kernel) rfl (by simp [Tryd.ntmps119]) ?_
  simp only [Tryd.ntmps119]
  repeat' first
    | apply AW.seq | apply AW.region | apply AW.ret | apply AW.block | apply AW.skip | apply AW.exit | apply AW.scope | apply AW.label | apply AWL.nil
    | ((first | (apply W.step cx_ok; decide) | (apply W.gS; rfl; decide) | apply AW.cond); (simp (disch := omega) only [push_cast, simprocAttr] <;> rfl); all_goals try ((with_reducible intro hI); try first | (cases hI; done) | (simp only [INTS] at hI; try first | (exfalso; omega) | (have hT : True := hI; clear hT hI))))
    | ((first | apply W.ret1 | apply W.end1); (iterate 2 (try (simp (disch := omega) only [push_cast, simprocAttr] <;> rfl))))
  all_goals (show _ = _; first | (simp [*]; done) | (simp; omega))

def doorE (h : House) (n : Int) (ts : List Int) : Int :=
  if (Check h).1 = 0 ∧ ¬ (0 ≤ n ∧ n < (h.doors.length : Int)) then 1 else askedE h [] ts

theorem askedNil_ok (h : House) (ts : List Int) (hfit : h.Fit) (hts : ts.length ≤ 1099511627776) : OKv cx 74 [.agg (eHouse h), .lst [], lInt ts] (ai (askedE h [] ts)) := asked_ok h [] ts hfit (by simp) hts

theorem doorAsked_ok (h : House) (n : Int) (ts : List Int) (hfit : h.Fit) (hts : ts.length ≤ 1099511627776) : OKv cx 79 [.agg (eHouse h), ai n, lInt ts] (ai (doorE h n ts)) := by
  refine OKat.of_body (rs := [6]) Tryd.func79 rfl (by decide +kernel) rfl (by simp [Tryd.ntmps79]) ?_
  simp only [Tryd.ntmps79]
  repeat' first
    | apply AW.seq | apply AW.region | apply AW.ret | apply AW.block | apply AW.skip | apply AW.exit | apply AW.scope | apply AW.label | apply AWL.nil
    | ((first | (apply W.step cx_ok; decide) | (apply W.gS; rfl; decide) | apply AW.cond); (simp (disch := omega) only [push_cast, simprocAttr] <;> rfl); all_goals try ((with_reducible intro hI); try first | (cases hI; done) | (simp only [INTS] at hI; try first | (exfalso; omega) | (have hT : True := hI; clear hT hI))))
    | ((apply W.callv cx_ok; decide); (iterate 2 (simp (disch := omega) only [push_cast, simprocAttr] <;> rfl)); (with_reducible first | exact askedNil_ok h ts hfit hts | exact Check_ok _ hfit | exact index_ok _ _); try first | rfl | (simp (disch := omega) only [push_cast, simprocAttr] <;> rfl))
    | ((first | apply W.ret1 | apply W.end1); (iterate 2 (try (simp (disch := omega) only [push_cast, simprocAttr] <;> rfl))))
  all_goals (show _ = _; unfold doorE; first | (rw [if_pos ⟨by assumption, by omega⟩]; done) | (rw [if_neg (fun hc => by first | exact absurd hc.1 (by assumption) | (have := hc.2; omega))]; done))

end Go.Proofs.Hs

namespace Go.Proofs.Hs
open Go Go.Pg Go.Proofs

theorem doorOne_ok (h : House) (n t : Int) (hfit : h.Fit) : OKv cx 79 [.agg (eHouse h), ai n, .lst [[ai t]]] (ai (doorE h n [t])) := doorAsked_ok h n [t] hfit (by simp)
theorem doorNone_ok (h : House) (n : Int) (hfit : h.Fit) : OKv cx 79 [.agg (eHouse h), ai n, .lst []] (ai (doorE h n [])) := doorAsked_ok h n [] hfit (by simp)
theorem doorE_zero {h : House} {n : Int} {ts : List Int} (he : doorE h n ts = 0) : (Check h).1 = 0 ∧ (0 ≤ n ∧ n < (h.doors.length : Int)) ∧ ∀ t ∈ ts, timeOK t := by
  unfold doorE at he
  split at he
  · cases he
  · rename_i hc
    unfold askedE at he
    split at he
    · rename_i hx; exact absurd he hx
    · rename_i h0
      have h0' : (Check h).1 = 0 := by simpa using h0
      refine ⟨h0', ?_, ?_⟩
      · by_cases hx : 0 ≤ n ∧ n < (h.doors.length : Int)
        · exact hx
        · exact absurd ⟨h0', hx⟩ hc
      · simp only [List.all_nil, if_true] at he
        split at he
        · rename_i ha
          intro t ht
          have := List.all_eq_true.1 ha t ht
          simpa [timeB, timeOK] using this
        · cases he
def nextOpenH (h : House) (n t : Int) : Int × Int := if doorE h n [t] ≠ 0 then (0, doorE h n [t]) else (next (h.door n) t, 0)
def lastOpenH (h : House) (n t : Int) : Int × Int := if doorE h n [t] ≠ 0 then (0, doorE h n [t]) else (last (h.door n) t, 0)
def isOpenH (h : House) (n t : Int) : Bool × Int := if doorE h n [t] ≠ 0 then (false, doorE h n [t]) else (decide (next (h.door n) t = t), 0)

theorem NextOpen_ok (h : House) (n t : Int) (hfit : h.Fit) : OKv cx 60 [.agg (eHouse h), ai n, ai t] (.tup [ai (nextOpenH h n t).1, ai (nextOpenH h n t).2]) := by
  by_cases he : doorE h n [t] = 0
  · obtain ⟨hc, ⟨hdn, hdl⟩, ht⟩ := doorE_zero he
    have ht0 := ht t (by simp)
    unfold timeOK at ht0
    have hdv := (Check_V hc).door hdn hdl
    have hdg : (h.doors.map eDoor).getD n.toNat [] = eDoor (h.door n) := getD_map eDoor h.doors _ [] ⟨[], []⟩ (by omega)
    refine OKat.of_body (rs := [6, 7]) Tryd.func60 rfl (by decide +kernel) rfl (by simp [Tryd.ntmps60]) ?_
    simp only [Tryd.ntmps60]
    repeat' first
      | apply AW.seq | apply AW.region | apply AW.ret | apply AW.block | apply AW.skip | apply AW.exit | apply AW.scope | apply AW.label | apply AWL.nil
      | ((first | (apply W.step cx_ok; decide) | apply AW.cond); (simp (disch := omega) only [push_cast, simprocAttr, he, hdn, hdl, hdg] <;> rfl); all_goals try ((with_reducible intro hI); try first | (cases hI; done) | (simp only [INTS] at hI; try first | (exfalso; omega) | (have hT : True := hI; clear hT hI))))
      | ((apply W.callv cx_ok; decide); (iterate 2 (simp (disch := omega) only [push_cast, simprocAttr, he, hdn, hdl, hdg] <;> rfl)); (with_reducible first | exact doorOne_ok _ _ _ hfit | exact next_ok _ _ hdv.ok (by omega) (by omega)); try first | rfl | (simp (disch := omega) only [push_cast, simprocAttr, he, hdn, hdl, hdg] <;> rfl))
      | ((first | apply W.ret2 | apply W.end2); (iterate 2 (try (simp (disch := omega) only [push_cast, simprocAttr, he, hdn, hdl, hdg] <;> rfl))))
    all_goals (show _ = _; unfold nextOpenH; rw [if_neg (by simp [he])]; first | done | rfl | simp [*])
  ·
    refine OKat.of_body (rs := [6, 7]) Tryd.func60 rfl (by decide +kernel) rfl (by simp [Tryd.ntmps60]) ?_
    simp only [Tryd.ntmps60]
    repeat' first
      | apply AW.seq | apply AW.region | apply AW.ret | apply AW.block | apply AW.skip | apply AW.exit | apply AW.scope | apply AW.label | apply AWL.nil
      | ((first | (apply W.step cx_ok; decide) | apply AW.cond); (simp (disch := omega) only [push_cast, simprocAttr, he] <;> rfl); all_goals try ((with_reducible intro hI); try first | (cases hI; done) | (simp only [INTS] at hI; try first | (exfalso; omega) | (have hT : True := hI; clear hT hI))))
      | ((apply W.callv cx_ok; decide); (iterate 2 (simp (disch := omega) only [push_cast, simprocAttr, he] <;> rfl)); (with_reducible first | exact doorOne_ok _ _ _ hfit); try first | rfl | (simp (disch := omega) only [push_cast, simprocAttr, he] <;> rfl))
      | ((first | apply W.ret2 | apply W.end2); (iterate 2 (try (simp (disch := omega) only [push_cast, simprocAttr, he] <;> rfl))))
    all_goals (show _ = _; unfold nextOpenH; rw [if_pos he])

theorem LastOpen_ok (h : House) (n t : Int) (hfit : h.Fit) : OKv cx 67 [.agg (eHouse h), ai n, ai t] (.tup [ai (lastOpenH h n t).1, ai (lastOpenH h n t).2]) := by
  by_cases he : doorE h n [t] = 0
  · obtain ⟨hc, ⟨hdn, hdl⟩, ht⟩ := doorE_zero he
    have ht0 := ht t (by simp)
    unfold timeOK at ht0
    have hdv := (Check_V hc).door hdn hdl
    have hdg : (h.doors.map eDoor).getD n.toNat [] = eDoor (h.door n) := getD_map eDoor h.doors _ [] ⟨[], []⟩ (by omega)
    refine OKat.of_body (rs := [6, 7]) Tryd.func67 rfl (by decide +kernel) rfl (by simp [Tryd.ntmps67]) ?_
    simp only [Tryd.ntmps67]
    repeat' first
      | apply AW.seq | apply AW.region | apply AW.ret | apply AW.block | apply AW.skip | apply AW.exit | apply AW.scope | apply AW.label | apply AWL.nil
      | ((first | (apply W.step cx_ok; decide) | apply AW.cond); (simp (disch := omega) only [push_cast, simprocAttr, he, hdn, hdl, hdg] <;> rfl); all_goals try ((with_reducible intro hI); try first | (cases hI; done) | (simp only [INTS] at hI; try first | (exfalso; omega) | (have hT : True := hI; clear hT hI))))
      | ((apply W.callv cx_ok; decide); (iterate 2 (simp (disch := omega) only [push_cast, simprocAttr, he, hdn, hdl, hdg] <;> rfl)); (with_reducible first | exact doorOne_ok _ _ _ hfit | exact last_ok _ _ hdv.ok (by omega) (by omega)); try first | rfl | (simp (disch := omega) only [push_cast, simprocAttr, he, hdn, hdl, hdg] <;> rfl))
      | ((first | apply W.ret2 | apply W.end2); (iterate 2 (try (simp (disch := omega) only [push_cast, simprocAttr, he, hdn, hdl, hdg] <;> rfl))))
    all_goals (show _ = _; unfold lastOpenH; rw [if_neg (by simp [he])]; first | done | rfl | simp [*])
  ·
    refine OKat.of_body (rs := [6, 7]) Tryd.func67 rfl (by decide +kernel) rfl (by simp [Tryd.ntmps67]) ?_
    simp only [Tryd.ntmps67]
    repeat' first
      | apply AW.seq | apply AW.region | apply AW.ret | apply AW.block | apply AW.skip | apply AW.exit | apply AW.scope | apply AW.label | apply AWL.nil
      | ((first | (apply W.step cx_ok; decide) | apply AW.cond); (simp (disch := omega) only [push_cast, simprocAttr, he] <;> rfl); all_goals try ((with_reducible intro hI); try first | (cases hI; done) | (simp only [INTS] at hI; try first | (exfalso; omega) | (have hT : True := hI; clear hT hI))))
      | ((apply W.callv cx_ok; decide); (iterate 2 (simp (disch := omega) only [push_cast, simprocAttr, he] <;> rfl)); (with_reducible first | exact doorOne_ok _ _ _ hfit); try first | rfl | (simp (disch := omega) only [push_cast, simprocAttr, he] <;> rfl))
      | ((first | apply W.ret2 | apply W.end2); (iterate 2 (try (simp (disch := omega) only [push_cast, simprocAttr, he] <;> rfl))))
    all_goals (show _ = _; unfold lastOpenH; rw [if_pos he])

theorem IsOpen_ok (h : House) (n t : Int) (hfit : h.Fit) : OKv cx 48 [.agg (eHouse h), ai n, ai t] (.tup [ab (isOpenH h n t).1, ai (isOpenH h n t).2]) := by
  by_cases he : doorE h n [t] = 0
  · obtain ⟨hc, ⟨hdn, hdl⟩, ht⟩ := doorE_zero he
    have ht0 := ht t (by simp)
    unfold timeOK at ht0
    have hdv := (Check_V hc).door hdn hdl
    have hdg : (h.doors.map eDoor).getD n.toNat [] = eDoor (h.door n) := getD_map eDoor h.doors _ [] ⟨[], []⟩ (by omega)
    refine OKat.of_body (rs := [6, 7]) Tryd.func48 rfl (by decide +kernel) rfl (by simp [Tryd.ntmps48]) ?_
    simp only [Tryd.ntmps48]
    repeat' first
      | apply AW.seq | apply AW.region | apply AW.ret | apply AW.block | apply AW.skip | apply AW.exit | apply AW.scope | apply AW.label | apply AWL.nil
      | ((first | (apply W.step cx_ok; decide) | apply AW.cond); (simp (disch := omega) only [push_cast, simprocAttr, he, hdn, hdl, hdg] <;> rfl); all_goals try ((with_reducible intro hI); try first | (cases hI; done) | (simp only [INTS] at hI; try first | (exfalso; omega) | (have hT : True := hI; clear hT hI))))
      | ((apply W.callv cx_ok; decide); (iterate 2 (simp (disch := omega) only [push_cast, simprocAttr, he, hdn, hdl, hdg] <;> rfl)); (with_reducible first | exact doorOne_ok _ _ _ hfit | exact next_ok _ _ hdv.ok (by omega) (by omega)); try first | rfl | (simp (disch := omega) only [push_cast, simprocAttr, he, hdn, hdl, hdg] <;> rfl))
      | ((first | apply W.ret2 | apply W.end2); (iterate 2 (try (simp (disch := omega) only [push_cast, simprocAttr, he, hdn, hdl, hdg] <;> rfl))))
    all_goals (show _ = _; unfold isOpenH; rw [if_neg (by simp [he])]; first | done | rfl | simp [*])
  ·
    refine OKat.of_body (rs := [6, 7]) Tryd.func48 rfl (by decide +kernel) rfl (by simp [Tryd.ntmps48]) ?_
    simp only [Tryd.ntmps48]
    repeat' first
      | apply AW.seq | apply AW.region | apply AW.ret | apply AW.block | apply AW.skip | apply AW.exit | apply AW.scope | apply AW.label | apply AWL.nil
      | ((first | (apply W.step cx_ok; decide) | apply AW.cond); (simp (disch := omega) only [push_cast, simprocAttr, he] <;> rfl); all_goals try ((with_reducible intro hI); try first | (cases hI; done) | (simp only [INTS] at hI; try first | (exfalso; omega) | (have hT : True := hI; clear hT hI))))
      | ((apply W.callv cx_ok; decide); (iterate 2 (simp (disch := omega) only [push_cast, simprocAttr, he] <;> rfl)); (with_reducible first | exact doorOne_ok _ _ _ hfit); try first | rfl | (simp (disch := omega) only [push_cast, simprocAttr, he] <;> rfl))
      | ((first | apply W.ret2 | apply W.end2); (iterate 2 (try (simp (disch := omega) only [push_cast, simprocAttr, he] <;> rfl))))
    all_goals (show _ = _; unfold isOpenH; rw [if_pos he])


end Go.Proofs.Hs

/-
  Shutting a door in one more span: the program and the document come to the same list. No conditions.
-/
namespace Go.Proofs.Hs
open Go Go.Pg Go.Proofs

def mergeS (s x : Span) : Span := ⟨min s.lo x.lo, max s.hi x.hi⟩
/-- The program's: what comes behind. -/
def shutH : List Span → Span → Bool → List Span
  | [], s, put => if put = true then [] else [s]
  | x :: rest, s, put => if x = s then x :: shutH rest s true else if x.hi + 1 < s.lo then x :: shutH rest s put else
    if s.hi + 1 < x.lo then (if put = true then x :: shutH rest s true else s :: x :: shutH rest s true) else shutH rest (mergeS s x) put
/-- The document's: what is kept, and the span as it has grown. -/
def keepR : List Span → Span → List Span × Span
  | [], s => ([], s)
  | x :: rest, s => if x.hi + 1 < s.lo ∨ s.hi + 1 < x.lo then (x :: (keepR rest s).1, (keepR rest s).2) else keepR rest (mergeS s x)
def aheadR (s : Span) : List Span → Nat
  | [] => 0
  | x :: rest => if x.lo < s.lo then aheadR s rest + 1 else 0
def shutR (l : List Span) (s : Span) : List Span :=
  (keepR l s).1.take (aheadR (keepR l s).2 (keepR l s).1) ++ (keepR l s).2 :: (keepR l s).1.drop (aheadR (keepR l s).2 (keepR l s).1)

theorem shutH_true : ∀ (l : List Span) (s : Span), s.lo ≤ s.hi → (∀ x ∈ l, x.lo ≤ x.hi ∧ s.hi + 1 < x.lo) → shutH l s true = l
  | [], _, _, _ => rfl
  | x :: rest, s, hs, h => by
    have h0 := h x (by simp)
    have hne : x ≠ s := fun e => by rw [e] at h0; omega
    unfold shutH
    rw [if_neg hne, if_neg (by omega), if_pos h0.2, if_pos rfl, shutH_true rest s hs (fun y hy => h y (by simp [hy]))]
theorem keepR_all : ∀ (l : List Span) (s : Span), (∀ x ∈ l, s.hi + 1 < x.lo) → keepR l s = (l, s)
  | [], _, _ => rfl
  | x :: rest, s, h => by
    unfold keepR
    rw [if_pos (.inr (h x (by simp))), keepR_all rest s (fun y hy => h y (by simp [hy]))]
theorem aheadR_zero (s : Span) : ∀ l : List Span, (∀ x ∈ l, s.lo ≤ x.lo) → aheadR s l = 0
  | [], _ => rfl
  | x :: rest, h => by unfold aheadR; rw [if_neg (by have := h x (by simp); omega)]
theorem keepR_lo : ∀ (l : List Span) (s : Span) (n : Int), n < s.lo → (∀ x ∈ l, n < x.lo) → n < (keepR l s).2.lo
  | [], _, _, h, _ => h
  | x :: rest, s, n, h, hl => by
    have hx := hl x (by simp)
    unfold keepR
    split
    · exact keepR_lo rest s n h (fun y hy => hl y (by simp [hy]))
    · exact keepR_lo rest _ n (by simp only [mergeS]; omega) (fun y hy => hl y (by simp [hy]))

theorem shut_eq : ∀ (l : List Span) (s : Span), s.lo ≤ s.hi → (∀ x ∈ l, x.lo ≤ x.hi) → l.Pairwise (fun a b => a.hi + 2 ≤ b.lo) → shutH l s false = shutR l s
  | [], s, _, _, _ => rfl
  | x :: rest, s, hs, hv, hp => by
    obtain ⟨p1, p2⟩ := List.pairwise_cons.1 hp
    have hx := hv x (by simp)
    have hrest : ∀ y ∈ rest, y.lo ≤ y.hi := fun y hy => hv y (by simp [hy])
    unfold shutH
    by_cases he : x = s
    · rw [if_pos he, shutH_true rest s hs (fun y hy => ⟨hrest y hy, by have := p1 y hy; rw [he] at this; omega⟩)]
      have hm : mergeS s x = s := by rw [he]; simp only [mergeS, Int.min_self, Int.max_self]
      have hk : keepR (x :: rest) s = (rest, s) := by
        unfold keepR
        rw [if_neg (by rw [he]; omega), hm, keepR_all rest s (fun y hy => by have := p1 y hy; rw [he] at this; omega)]
      unfold shutR
      rw [hk, aheadR_zero s rest (fun y hy => by have := p1 y hy; rw [he] at this; omega), he]
      rfl
    · rw [if_neg he]
      by_cases h1 : x.hi + 1 < s.lo
      · rw [if_pos h1, shut_eq rest s hs hrest p2]
        have hk : keepR (x :: rest) s = (x :: (keepR rest s).1, (keepR rest s).2) := by
          rw [keepR, if_pos (.inl h1)]
        have hlo := keepR_lo rest s x.lo (by omega) (fun y hy => by have := p1 y hy; omega)
        unfold shutR
        rw [hk]
        have ha : aheadR (keepR rest s).2 (x :: (keepR rest s).1) = aheadR (keepR rest s).2 (keepR rest s).1 + 1 := by rw [aheadR, if_pos hlo]
        dsimp only
        rw [ha]; rfl
      · rw [if_neg h1]
        by_cases h2 : s.hi + 1 < x.lo
        · rw [if_pos h2, if_neg (by simp)]
          have hall : ∀ y ∈ x :: rest, s.hi + 1 < y.lo := fun y hy => by
            rcases List.mem_cons.1 hy with rfl | hy
            · exact h2
            · have := p1 y hy; omega
          rw [shutH_true rest s hs (fun y hy => ⟨hrest y hy, hall y (by simp [hy])⟩)]
          unfold shutR
          rw [keepR_all _ s hall, aheadR_zero s _ (fun y hy => by have := hall y hy; omega)]
          rfl
        · rw [if_neg h2, shut_eq rest (mergeS s x) (by simp only [mergeS]; omega) hrest p2]
          have hk : keepR (x :: rest) s = keepR rest (mergeS s x) := by rw [keepR, if_neg (by omega)]
          unfold shutR
          rw [hk]
end Go.Proofs.Hs

namespace Go.Proofs.Hs
open Go Go.Pg Go.Proofs

theorem rep_step (k m : Nat) (a b : Int) : (List.replicate k a ++ List.replicate (m + 1) b).set k a = List.replicate (k + 1) a ++ List.replicate m b := by
  apply List.ext_getElem?
  intro i
  rw [List.getElem?_set]
  simp only [List.getElem?_append, List.getElem?_replicate, List.length_replicate, List.length_append]
  split
  · subst_vars; simp
  · split
    · rw [if_pos (by omega), if_pos (by omega)]
    · split
      · rw [if_neg (by omega), if_pos (by omega)]
      · rw [if_neg (by omega), if_neg (by omega)]
def fillR (n k : Nat) (a : Int) : List Int := List.replicate k a ++ List.replicate (n - k) 0
theorem fillR_len {n k : Nat} {a : Int} (h : k ≤ n) : (fillR n k a).length = n := by simp [fillR]; omega
theorem fillR_set {n k : Nat} {a : Int} (h : k < n) : (fillR n k a).set k a = fillR n (k + 1) a := by
  unfold fillR
  rw [show n - k = (n - (k + 1)) + 1 by omega, rep_step]
theorem fillR_zero (n : Nat) (a : Int) : fillR n 0 a = List.replicate n 0 := by simp [fillR]
theorem fillR_all (n : Nat) (a : Int) : fillR n n a = List.replicate n a := by simp [fillR]
theorem map_rep0 (n : Nat) : (List.replicate n (0 : Int)).map eInt = List.replicate n [ai 0] := by rw [List.map_replicate]

def latestH (h : House) (n t : Int) : List Int × Int := if roomE h n t ≠ 0 then ([], roomE h n t) else (late h n.toNat t, 0)
theorem late_step1 {h : House} (hv : h.V) {a : Nat} {t : Int} {g : Gate} (hg : g ∈ gates h) {row : List Int} (ch : Bool) (hp : Lab.RowOK (depN h) h.rooms.length a t row) : Lab.RowOK (depN h) h.rooms.length a t (lateStep (depart h) (row, ch) g).1 :=
  (late_pass hv [g] row ch (by simpa using hg) hp).1

theorem Latest_ok (h : House) (n0 t : Int) (hfit : h.Fit) : OKv cx 29 [.agg (eHouse h), ai n0, ai t] (.tup [lInt (latestH h n0 t).1, ai (latestH h n0 t).2]) := by
  by_cases he : roomE h n0 t = 0
  · obtain ⟨hc, hn, ht⟩ := roomE_zero he
    unfold timeOK at ht
    have hv := Check_V hc
    have hrn := hv.rooms
    have hgl := gates_len h
    have hwn := hv.nw
    have hL : latestH h n0 t = (late h n0.toNat t, 0) := if_neg (by simp [he])
    have hms : (h.rooms.length : Int) * 8 ≤ 281474976710656 := by omega
    have hms2 : (h.rooms.length : Int) ≤ 281474976710656 := by omega
    have hna := hn.1
    have hnb := hn.2
    have hnc : n0.toNat < h.rooms.length := by omega
    rw [hL]
    refine OKat.of_body (rs := [6, 7]) Tryd.func29 rfl (by decide +kernel) rfl (by simp [Tryd.ntmps29]) ?_
    simp only [Tryd.ntmps29]
    repeat' first
      | apply AW.seq | apply AW.region | apply AW.ret | apply AW.block | apply AW.skip | apply AW.exit | apply AW.scope | apply AW.label | apply AWL.nil | apply D.nil
      | refine W.draw cx_mixed (by decide +kernel) ?_
      | ((first | (apply W.step cx_ok; decide) | (apply D.step cx_ok; decide; decide) | apply W.store cx_ok | apply AW.cond); (simp (disch := omega) only [push_cast, simprocAttr, he, askedE_one, hms, hms2] <;> rfl); all_goals try ((with_reducible intro hI); try first | (cases hI; done) | (simp only [INTS] at hI; try first | (exfalso; omega) | (have hT : True := hI; clear hT hI))))
      | ((first | (apply W.callv cx_ok; decide) | (apply D.callv cx_ok; decide; decide)); (iterate 2 (simp (disch := omega) only [push_cast, simprocAttr, he, askedE_one, hms, hms2] <;> rfl)); (with_reducible first | exact askedOne_ok _ _ _ hfit); try first | rfl | (simp (disch := omega) only [push_cast, simprocAttr, he, askedE_one, hms, hms2] <;> rfl))
      | ((first | apply W.ret2 | apply W.end2); (iterate 2 (try (simp (disch := omega) only [push_cast, simprocAttr, he, askedE_one, hms, hms2] <;> rfl))))
    refine AW.loop (fun n s => ∃ (k : Nat) (row : List Int), n = h.rooms.length - k ∧ (row = fillR h.rooms.length k (-1)) ∧ (row.length = h.rooms.length) ∧ (k ≤ h.rooms.length) ∧ 4 ≤ s.nx ∧ s.tm 1 = ai n0 ∧ s.tm 2 = ai t ∧ s.tm 3 = .ptr 0 0 0 1 ∧ s.tm 9 = .ref 3 0 h.rooms.length ∧ s.tm 30 = ai h.rooms.length ∧ s.tm 31 = ai k ∧ Pg.rowAt s.H (0) = some ({ k := 3, es := [eHouse h], ty := 26 }) ∧ Pg.rowAt s.H (3) = some ({ k := 1, es := row.map eInt, ty := 3 })) (h.rooms.length) ⟨0, fillR h.rooms.length 0 (-1), rfl, rfl, (fillR_len (by omega)), (by omega), ?_, ?_, ?_, ?_, ?_, ?_, ?_, ?_, ?_⟩ ?_
    iterate 9 (first | (simp (disch := omega) only [push_cast, simprocAttr, fillR_zero, map_rep0, he, askedE_one] <;> first | rfl | omega) | omega)
    rintro n s ⟨k, row, hn, hp0, hp1, hp2, hnl, hS⟩
    have hZ : (0 : Nat) ≠ s.nx ∧ s.nx ≠ (0 : Nat) ∧ (3 : Nat) ≠ s.nx ∧ s.nx ≠ (3 : Nat) := by omega
    by_cases hk : k < h.rooms.length
    · have hk1 : (k : Int) < (h.rooms.length : Int) := by omega
      have hk2 : k < row.length := by omega
      repeat' first
        | apply AW.seq | apply AW.region | apply AW.ret | apply AW.block | apply AW.skip | apply AW.exit | apply AW.scope | apply AW.label | apply AWL.nil | apply D.nil
        | refine W.draw cx_mixed (by decide +kernel) ?_
        | ((first | (apply W.step cx_ok; decide) | (apply D.step cx_ok; decide; decide) | apply W.store cx_ok | apply AW.cond); (simp (disch := omega) only [push_cast, simprocAttr, hS, hZ, hk, hk1, hk2, hp1] <;> rfl); all_goals try ((with_reducible intro hI); try first | (cases hI; done) | (simp only [INTS] at hI; try first | (exfalso; omega) | (have hT : True := hI; clear hT hI))))
        | ((first | apply W.ret2 | apply W.end2); (iterate 2 (try (simp (disch := omega) only [push_cast, simprocAttr, hS, hZ, hk, hk1, hk2, hp1] <;> rfl))))
      all_goals
        (have hset : row.set k (-1) = fillR h.rooms.length (k + 1) (-1) := by rw [hp0]; exact fillR_set hk
         (refine ⟨h.rooms.length - (k + 1), ?_, k + 1, row.set k (-1), rfl, hset, (by rw [List.length_set]; exact hp1), (by omega), ?_, ?_, ?_, ?_, ?_, ?_, ?_, ?_, ?_⟩; (omega); all_goals first | (simp (disch := omega) only [push_cast, simprocAttr, hS, hZ, hk, hk1, hk2, hp1] <;> first | rfl | omega) | omega))
    · have hk1 : ¬ ((k : Int) < (h.rooms.length : Int)) := by omega
      have hkn : k = h.rooms.length := by omega
      have hrow : row = List.replicate h.rooms.length (-1) := by rw [hp0, hkn, fillR_all]
      have hnd : n0.toNat < row.length := by omega
      repeat' first
        | apply AW.seq | apply AW.region | apply AW.ret | apply AW.block | apply AW.skip | apply AW.exit | apply AW.scope | apply AW.label | apply AWL.nil | apply D.nil
        | refine W.draw cx_mixed (by decide +kernel) ?_
        | ((first | (apply W.step cx_ok; decide) | (apply D.step cx_ok; decide; decide) | apply W.store cx_ok | apply AW.cond); (simp (disch := omega) only [push_cast, simprocAttr, hS, hZ, hk, hk1, hna, hnb, hnd] <;> rfl); all_goals try ((with_reducible intro hI); try first | (cases hI; done) | (simp only [INTS] at hI; try first | (exfalso; omega) | (have hT : True := hI; clear hT hI))))
        | ((first | (apply W.callv cx_ok; decide) | (apply D.callv cx_ok; decide; decide)); (iterate 2 (simp (disch := omega) only [push_cast, simprocAttr, hS, hZ, hk, hk1, hna, hnb, hnd] <;> rfl)); (with_reducible first | exact gates_ok h hfit.nw); try first | rfl | (simp (disch := omega) only [push_cast, simprocAttr, hS, hZ, hk, hk1, hna, hnb, hnd] <;> rfl))
        | ((first | apply W.ret2 | apply W.end2); (iterate 2 (try (simp (disch := omega) only [push_cast, simprocAttr, hS, hZ, hk, hk1, hna, hnb, hnd] <;> rfl))))
      refine AW.loop (fun n s => ∃ (k : Nat) (row : List Int) (ch : Bool), n = (if ch = true then k else 0) ∧ (row.length = h.rooms.length) ∧ (Lab.RowOK (depN h) h.rooms.length n0.toNat t row) ∧ (ch = true → lateM row < k ∧ lateF (depart h) (gates h) k row = late h n0.toNat t) ∧ (ch = false → row = late h n0.toNat t) ∧ 4 ≤ s.nx ∧ s.tm 3 = .ptr 0 0 0 1 ∧ s.tm 9 = .ref 3 0 h.rooms.length ∧ s.tm 11 = .lst ((gates h).map eGate) ∧ s.tm 12 = ab ch ∧ Pg.rowAt s.H (0) = some ({ k := 3, es := [eHouse h], ty := 26 }) ∧ Pg.rowAt s.H (3) = some ({ k := 1, es := row.map eInt, ty := 3 })) ((lateM (row.set n0.toNat t) + 1)) ⟨(lateM (row.set n0.toNat t) + 1), row.set n0.toNat t, true, rfl, (by rw [List.length_set]; exact hp1), (by rw [hrow]; exact Lab.rowOK_init (depN_ok hv) hnc (t := t) ⟨by omega, ht.2⟩), (fun _ => ⟨Nat.lt_succ_self _, by rw [hrow]; rfl⟩), (fun hx => by cases hx), ?_, ?_, ?_, ?_, ?_, ?_, ?_⟩ ?_
      iterate 7 (first | (simp (disch := omega) only [push_cast, simprocAttr, hS, hZ, hk, hk1, hna, hnb, hnd] <;> first | rfl | omega) | omega)
      rintro n2 s2 ⟨k2, row2, ch2, hn2, hp02, hp12, hp22, hp32, hnl2, hS2⟩
      have hZ2 : (0 : Nat) ≠ s2.nx ∧ s2.nx ≠ (0 : Nat) ∧ (3 : Nat) ≠ s2.nx ∧ s2.nx ≠ (3 : Nat) := by omega
      cases ch2 with
      | false =>
        repeat' first
          | apply AW.seq | apply AW.region | apply AW.ret | apply AW.block | apply AW.skip | apply AW.exit | apply AW.scope | apply AW.label | apply AWL.nil | apply D.nil
          | refine W.draw cx_mixed (by decide +kernel) ?_
          | ((first | (apply W.step cx_ok; decide) | (apply D.step cx_ok; decide; decide) | apply W.store cx_ok | apply AW.cond); (simp (disch := omega) only [push_cast, simprocAttr, hS2, hZ2, hp02] <;> rfl); all_goals try ((with_reducible intro hI); try first | (cases hI; done) | (simp only [INTS] at hI; try first | (exfalso; omega) | (have hT : True := hI; clear hT hI))))
          | ((first | apply W.ret2 | apply W.end2); (iterate 2 (try (simp (disch := omega) only [push_cast, simprocAttr, hS2, hZ2, hp02] <;> rfl))))
        all_goals (show _ = _; rw [hp32 rfl])
      | true =>
        obtain ⟨hm2, hF2⟩ := hp22 rfl
        repeat' first
          | apply AW.seq | apply AW.region | apply AW.ret | apply AW.block | apply AW.skip | apply AW.exit | apply AW.scope | apply AW.label | apply AWL.nil | apply D.nil
          | refine W.draw cx_mixed (by decide +kernel) ?_
          | ((first | (apply W.step cx_ok; decide) | (apply D.step cx_ok; decide; decide) | apply W.store cx_ok | apply AW.cond); (simp (disch := omega) only [push_cast, simprocAttr, hS2, hZ2] <;> rfl); all_goals try ((with_reducible intro hI); try first | (cases hI; done) | (simp only [INTS] at hI; try first | (exfalso; omega) | (have hT : True := hI; clear hT hI))))
          | ((first | apply W.ret2 | apply W.end2); (iterate 2 (try (simp (disch := omega) only [push_cast, simprocAttr, hS2, hZ2] <;> rfl))))
        refine AW.loop (fun n s => ∃ (j : Nat) (row : List Int) (ch : Bool) (rest : List Gate), n = rest.length ∧ ((gates h).drop j = rest) ∧ (row.length = h.rooms.length) ∧ (Lab.RowOK (depN h) h.rooms.length n0.toNat t row) ∧ (rest.foldl (lateStep (depart h)) (row, ch) = (gates h).foldl (lateStep (depart h)) (row2, false)) ∧ 4 ≤ s.nx ∧ s.tm 3 = .ptr 0 0 0 1 ∧ s.tm 9 = .ref 3 0 h.rooms.length ∧ s.tm 11 = .lst ((gates h).map eGate) ∧ s.tm 12 = ab ch ∧ s.tm 45 = .lst ((gates h).map eGate) ∧ s.tm 46 = ai (gates h).length ∧ s.tm 47 = ai j ∧ Pg.rowAt s.H (0) = some ({ k := 3, es := [eHouse h], ty := 26 }) ∧ Pg.rowAt s.H (3) = some ({ k := 1, es := row.map eInt, ty := 3 })) ((gates h).length) ⟨0, row2, false, _, rfl, rfl, hp02, hp12, rfl, ?_, ?_, ?_, ?_, ?_, ?_, ?_, ?_, ?_, ?_⟩ ?_
        iterate 10 (first | (simp (disch := omega) only [push_cast, simprocAttr, hS2, hZ2] <;> first | rfl | omega) | omega)
        rintro n3 s3 ⟨j3, row3, ch3, rest3, hn3, hp03, hp13, hp23, hp33, hnl3, hS3⟩
        have hZ3 : (0 : Nat) ≠ s3.nx ∧ s3.nx ≠ (0 : Nat) ∧ (3 : Nat) ≠ s3.nx ∧ s3.nx ≠ (3 : Nat) := by omega
        rcases rest3 with _ | ⟨x3, rest3⟩
        · have hk3 := drop_nil hp03
          repeat' first
            | apply AW.seq | apply AW.region | apply AW.ret | apply AW.block | apply AW.skip | apply AW.exit | apply AW.scope | apply AW.label | apply AWL.nil | apply D.nil
            | refine W.draw cx_mixed (by decide +kernel) ?_
            | ((first | (apply W.step cx_ok; decide) | (apply D.step cx_ok; decide; decide) | apply W.store cx_ok | apply AW.cond); (simp (disch := omega) only [push_cast, simprocAttr, hS3, hZ3, hk3] <;> rfl); all_goals try ((with_reducible intro hI); try first | (cases hI; done) | (simp only [INTS] at hI; try first | (exfalso; omega) | (have hT : True := hI; clear hT hI))))
            | ((first | apply W.ret2 | apply W.end2); (iterate 2 (try (simp (disch := omega) only [push_cast, simprocAttr, hS3, hZ3, hk3] <;> rfl))))
          all_goals
            (obtain ⟨i1, i2, i3, i4, i5⟩ := late_pass hv (gates h) row2 false (fun _ h => h) hp12
             have i4 := i4 rfl
             rw [← hp33] at i1 i4 i5
             simp only [List.foldl_nil] at i1 i4 i5
             have hk0 : k2 ≠ 0 := by omega
             obtain ⟨k', rfl⟩ : ∃ k', k2 = k' + 1 := ⟨k2 - 1, by omega⟩
             unfold lateF at hF2
             rw [← hp33] at hF2
             simp only [List.foldl_nil] at hF2
             have hmeas : (if ch3 = true then k' else 0) < n2 := by rw [hn2]; simp; split <;> omega
             (refine ⟨(if ch3 = true then k' else 0), ?_, k', row3, ch3, rfl, hp13, hp23, (fun hx => ⟨by have := i4 hx; omega, by simp only [hx, if_true] at hF2; exact hF2⟩), (fun hx => by simp only [hx, Bool.false_eq_true, if_false] at hF2; exact hF2), ?_, ?_, ?_, ?_, ?_, ?_, ?_⟩; (exact hmeas); all_goals first | (simp (disch := omega) only [push_cast, simprocAttr, hS3, hZ3] <;> first | rfl | omega) | omega))
        · obtain ⟨hk3, hg3, hd'3, hl'3, hm3, hx3⟩ := drop_cons hp03 eGate []
          have hgo := gate_ok hv hm3
          have g1 := hgo.from'.1
          have g2 := hgo.from'.2
          have g3 := hgo.to.1
          have g4 := hgo.to.2
          have g5 : x3.from'.toNat < row3.length := by omega
          have g6 : x3.to.toNat < row3.length := by omega
          have hb := hp23.In _ (List.mem_of_getElem? (getD_set' row3 x3.to.toNat 0 g6))
          have hb1 : row3.getD x3.to.toNat 0 ≤ 1073741823 := hb.2
          repeat' first
            | apply AW.seq | apply AW.region | apply AW.ret | apply AW.block | apply AW.skip | apply AW.exit | apply AW.scope | apply AW.label | apply AWL.nil | apply D.nil
            | refine W.draw cx_mixed (by decide +kernel) ?_
            | ((first | (apply W.step cx_ok; decide) | (apply D.step cx_ok; decide; decide) | apply W.store cx_ok | apply AW.cond); (simp (disch := omega) only [push_cast, simprocAttr, hS3, hZ3, hk3, hg3, g1, g2, g3, g4, g5, g6] <;> rfl); all_goals try ((with_reducible intro hI); try first | (cases hI; done) | (simp only [INTS] at hI; try first | (exfalso; omega) | (have hT : True := hI; clear hT hI))))
            | ((first | (apply W.callv cx_ok; decide) | (apply D.callv cx_ok; decide; decide)); (iterate 2 (simp (disch := omega) only [push_cast, simprocAttr, hS3, hZ3, hk3, hg3, g1, g2, g3, g4, g5, g6] <;> rfl)); (with_reducible first | exact depart_ok h x3 _ hv hgo (by omega) (by omega)); try first | rfl | (simp (disch := omega) only [push_cast, simprocAttr, hS3, hZ3, hk3, hg3, g1, g2, g3, g4, g5, g6] <;> rfl))
            | ((first | apply W.ret2 | apply W.end2); (iterate 2 (try (simp (disch := omega) only [push_cast, simprocAttr, hS3, hZ3, hk3, hg3, g1, g2, g3, g4, g5, g6] <;> rfl))))
          all_goals first
            | (have hq : lateStep (depart h) (row3, ch3) x3 = (row3, ch3) := by unfold lateStep; dsimp only; rw [if_pos (by assumption)]
               (refine ⟨rest3.length, ?_, j3 + 1, row3, ch3, rest3, rfl, hd'3, (by first | exact hp13 | (rw [List.length_set]; exact hp13)), (by have := late_step1 hv hm3 ch3 hp23; rw [hq] at this; exact this), (by rw [← hp33, List.foldl_cons, hq]), ?_, ?_, ?_, ?_, ?_, ?_, ?_, ?_, ?_, ?_⟩; ((simp only [List.length_cons] at *; omega)); all_goals first | (simp (disch := omega) only [push_cast, simprocAttr, hS3, hZ3, hg3, hk3, g1, g2, g3, g4, g5, g6] <;> first | rfl | omega) | omega))
            | (have hq : lateStep (depart h) (row3, ch3) x3 = (row3.set x3.from'.toNat (depart h x3 (row3.getD x3.to.toNat 0)), true) := by unfold lateStep; dsimp only; rw [if_neg (by omega), if_pos (by omega)]
               (refine ⟨rest3.length, ?_, j3 + 1, row3.set x3.from'.toNat (depart h x3 (row3.getD x3.to.toNat 0)), true, rest3, rfl, hd'3, (by first | exact hp13 | (rw [List.length_set]; exact hp13)), (by have := late_step1 hv hm3 ch3 hp23; rw [hq] at this; exact this), (by rw [← hp33, List.foldl_cons, hq]), ?_, ?_, ?_, ?_, ?_, ?_, ?_, ?_, ?_, ?_⟩; ((simp only [List.length_cons] at *; omega)); all_goals first | (simp (disch := omega) only [push_cast, simprocAttr, hS3, hZ3, hg3, hk3, g1, g2, g3, g4, g5, g6] <;> first | rfl | omega) | omega))
            | (have hq : lateStep (depart h) (row3, ch3) x3 = (row3, ch3) := by unfold lateStep; dsimp only; rw [if_neg (by omega), if_neg (by omega)]
               (refine ⟨rest3.length, ?_, j3 + 1, row3, ch3, rest3, rfl, hd'3, (by first | exact hp13 | (rw [List.length_set]; exact hp13)), (by have := late_step1 hv hm3 ch3 hp23; rw [hq] at this; exact this), (by rw [← hp33, List.foldl_cons, hq]), ?_, ?_, ?_, ?_, ?_, ?_, ?_, ?_, ?_, ?_⟩; ((simp only [List.length_cons] at *; omega)); all_goals first | (simp (disch := omega) only [push_cast, simprocAttr, hS3, hZ3, hg3, hk3, g1, g2, g3, g4, g5, g6] <;> first | rfl | omega) | omega))
  ·
    refine OKat.of_body (rs := [6, 7]) Tryd.func29 rfl (by decide +kernel) rfl (by simp [Tryd.ntmps29]) ?_
    simp only [Tryd.ntmps29]
    repeat' first
      | apply AW.seq | apply AW.region | apply AW.ret | apply AW.block | apply AW.skip | apply AW.exit | apply AW.scope | apply AW.label | apply AWL.nil | apply D.nil
      | refine W.draw cx_mixed (by decide +kernel) ?_
      | ((first | (apply W.step cx_ok; decide) | (apply D.step cx_ok; decide; decide) | apply W.store cx_ok | apply AW.cond); (simp (disch := omega) only [push_cast, simprocAttr, he, askedE_one] <;> rfl); all_goals try ((with_reducible intro hI); try first | (cases hI; done) | (simp only [INTS] at hI; try first | (exfalso; omega) | (have hT : True := hI; clear hT hI))))
      | ((first | (apply W.callv cx_ok; decide) | (apply D.callv cx_ok; decide; decide)); (iterate 2 (simp (disch := omega) only [push_cast, simprocAttr, he, askedE_one] <;> rfl)); (with_reducible first | exact askedOne_ok _ _ _ hfit); try first | rfl | (simp (disch := omega) only [push_cast, simprocAttr, he, askedE_one] <;> rfl))
      | ((first | apply W.ret2 | apply W.end2); (iterate 2 (try (simp (disch := omega) only [push_cast, simprocAttr, he, askedE_one] <;> rfl))))
    all_goals (show _ = _; unfold latestH; rw [if_pos he]; rfl)

end Go.Proofs.Hs

namespace Go.Proofs.Hs
open Go Go.Pg Go.Proofs

theorem map_repG (n : Nat) : (List.replicate n Gate.zero).map eGate = List.replicate n [ai 0, ab false, ai 0, ai 0, ai 0, ai 0] := by rw [List.map_replicate]; rfl
theorem nextH_lt {h : House} (hv : h.V) {g : Gate} (hg : g.OK h) {x : Int} (h0 : 0 ≤ x) (h1 : x ≤ 1073741824) : nextH h g x < 1073741824 := by
  unfold nextH
  split
  · rename_i hne
    unfold enter at hne ⊢
    split
    · rename_i hc; rw [if_pos hc] at hne; exact absurd rfl hne
    · omega
  · decide

theorem spreadA_ok {H : Nat → Option AO} {nx ri c0 : Nat} {args : List AV} (h : House) (row : List Int) (ha : args = [.agg (eHouse h), .ref ri 0 h.rooms.length, .clo 118 [.ptr c0 0 0 1], .clo 119 []]) (hfit : h.Fit) (hv : h.V) (hrl : row.length = h.rooms.length) (hrx : ∀ x ∈ row, x ≤ 1073741823) (hri : ri < nx) (hc0 : c0 < nx ∧ c0 ≠ ri) (hrc : Pg.rowAt H c0 = some { k := 3, es := [eHouse h], ty := 26 })
    (hr : Pg.rowAt H ri = some { k := 1, es := row.map eInt, ty := 3 }) :
    OKm cx 117 args H nx (fun r H' nx' => r = .ref (nx + 1) 0 h.rooms.length ∧ Pg.rowAt H' (nx + 1) = some { k := 6, es := (spread (nextH h) (gates h) row).2.map eGate, ty := 104 } ∧ Pg.rowAt H' ri = some { k := 1, es := (spread (nextH h) (gates h) row).1.map eInt, ty := 3 } ∧ nx + 2 ≤ nx' ∧ ∀ j, j < nx → j ≠ ri → H' j = H j) := by
  subst ha
  have hrn := hv.rooms
  have hwn := hv.nw
  have hgl := gates_len h
  have hd0 : ri ≠ nx := by omega
  have hd1 : ri ≠ nx + 1 := by omega
  have hd2 : nx + 1 ≠ ri := by omega
  have hms : (h.rooms.length : Int) * 48 ≤ 281474976710656 := by omega
  have hms2 : (h.rooms.length : Int) ≤ 281474976710656 := by omega
  have hc1 : c0 ≠ ri := hc0.2
  have hc2 : ri ≠ c0 := fun e => hc0.2 e.symm
  have hc3 : c0 ≠ nx := by omega
  have hc4 : c0 ≠ nx + 1 := by omega
  refine OKm.of_body cx_ok (rs := [.tmp 8]) Tryd.func117 rfl (by decide +kernel) rfl (by simp [Tryd.ntmps117]) ?_
  simp only [Tryd.ntmps117]
  repeat' first
    | apply AW.seq | apply AW.region | apply AW.ret | apply AW.block | apply AW.skip | apply AW.exit | apply AW.scope | apply AW.label | apply AWL.nil | apply D.nil
    | refine W.draw cx_mixed (by decide +kernel) ?_
    | ((first | (apply W.step cx_ok; decide) | (apply D.step cx_ok; decide; decide) | apply W.store cx_ok | (apply W.gS; rfl; decide) | (apply D.gS; rfl; decide; decide) | apply AW.cond); (simp (disch := omega) only [push_cast, simprocAttr, hd0, hd1, hd2, hr, hms, hms2, hc1, hc2, hc3, hc4, hrc] <;> rfl); all_goals try ((with_reducible intro hI); try first | (cases hI; done) | (simp only [INTS] at hI; try first | (exfalso; omega) | (have hT : True := hI; clear hT hI))))
    | ((first | (apply W.callv cx_ok; decide) | (apply D.callv cx_ok; decide; decide)); (iterate 2 (simp (disch := omega) only [push_cast, simprocAttr, hd0, hd1, hd2, hr, hms, hms2, hc1, hc2, hc3, hc4, hrc] <;> rfl)); (with_reducible first | exact gates_ok h hfit.nw); try first | rfl | (simp (disch := omega) only [push_cast, simprocAttr, hd0, hd1, hd2, hr, hms, hms2, hc1, hc2, hc3, hc4, hrc] <;> rfl))
    | ((first | apply W.retC | apply W.endC' | apply W.retM | apply W.endM' | apply W.ret1 | apply W.end1 | apply W.ret2 | apply W.end2 | apply W.ret3 | apply W.end3 | apply W.ret0 | apply W.end0); (iterate 2 (try (simp (disch := omega) only [push_cast, simprocAttr, hd0, hd1, hd2, hr, hms, hms2, hc1, hc2, hc3, hc4, hrc] <;> rfl))))
  refine AW.loop (fun n s => ∃ (row1 : List Int) (by1 : List Gate) (k : Nat), n = k ∧ (row1.length = h.rooms.length) ∧ (by1.length = h.rooms.length) ∧ (spreadM row1 < k) ∧ (spreadF (nextH h) (gates h) k row1 by1 = spread (nextH h) (gates h) row) ∧ (∀ x ∈ row1, x ≤ 1073741823) ∧ (∀ j, j < nx → j ≠ ri → s.H j = H j) ∧ nx + 2 ≤ s.nx ∧ s.tm 1 = .ref ri 0 h.rooms.length ∧ s.tm 2 = .clo 118 [.ptr c0 0 0 1] ∧ s.tm 3 = .clo 119 [] ∧ s.tm 9 = .ref (nx + 1) 0 h.rooms.length ∧ s.tm 10 = .lst ((gates h).map eGate) ∧ Pg.rowAt s.H (ri) = some ({ k := 1, es := row1.map eInt, ty := 3 }) ∧ Pg.rowAt s.H (nx + 1) = some ({ k := 6, es := by1.map eGate, ty := 104 }) ∧ Pg.rowAt s.H (c0) = some ({ k := 3, es := [eHouse h], ty := 26 })) ((spreadM row + 1)) ⟨row, List.replicate h.rooms.length .zero, spreadM row + 1, rfl, hrl, (by simp), (Nat.lt_succ_self _), (by rw [← hrl]; rfl), hrx, (by intro j hjlt hjne; simp (disch := omega) only [push_cast, if_neg]), ?_, ?_, ?_, ?_, ?_, ?_, ?_, ?_, ?_⟩ ?_
  iterate 9 (first | (simp (disch := omega) only [push_cast, simprocAttr, hd0, hd1, hd2, hr, hms, hms2, hc1, hc2, hc3, hc4, hrc, map_repG] <;> first | rfl | omega) | omega)
  rintro n s ⟨row1, by1, k, hn, hp0, hp1, hp2, hp3, hp4, hp5, hnl, hS⟩
  have hZ : (ri : Nat) ≠ s.nx ∧ s.nx ≠ (ri : Nat) ∧ (nx + 1 : Nat) ≠ s.nx ∧ s.nx ≠ (nx + 1 : Nat) ∧ (c0 : Nat) ≠ s.nx ∧ s.nx ≠ (c0 : Nat) := by omega
  repeat' first
    | apply AW.seq | apply AW.region | apply AW.ret | apply AW.block | apply AW.skip | apply AW.exit | apply AW.scope | apply AW.label | apply AWL.nil | apply D.nil
    | refine W.draw cx_mixed (by decide +kernel) ?_
    | ((first | (apply W.step cx_ok; decide) | (apply D.step cx_ok; decide; decide) | apply W.store cx_ok | (apply W.gS; rfl; decide) | (apply D.gS; rfl; decide; decide) | apply AW.cond); (simp (disch := omega) only [push_cast, simprocAttr, hS, hZ, hd0, hd1, hd2, hr, hms, hms2, hc1, hc2, hc3, hc4, hrc] <;> rfl); all_goals try ((with_reducible intro hI); try first | (cases hI; done) | (simp only [INTS] at hI; try first | (exfalso; omega) | (have hT : True := hI; clear hT hI))))
    | ((first | apply W.retC | apply W.endC' | apply W.retM | apply W.endM' | apply W.ret1 | apply W.end1 | apply W.ret2 | apply W.end2 | apply W.ret3 | apply W.end3 | apply W.ret0 | apply W.end0); (iterate 2 (try (simp (disch := omega) only [push_cast, simprocAttr, hS, hZ, hd0, hd1, hd2, hr, hms, hms2, hc1, hc2, hc3, hc4, hrc] <;> rfl))))
  refine AW.loop (fun n s => ∃ (j : Nat) (rest : List Gate), n = rest.length ∧ ((gates h).drop j = rest) ∧ ((gates h).find? (impr (nextH h) row1) = rest.find? (impr (nextH h) row1)) ∧ (∀ j, j < nx → j ≠ ri → s.H j = H j) ∧ nx + 2 ≤ s.nx ∧ s.tm 1 = .ref ri 0 h.rooms.length ∧ s.tm 2 = .clo 118 [.ptr c0 0 0 1] ∧ s.tm 3 = .clo 119 [] ∧ s.tm 9 = .ref (nx + 1) 0 h.rooms.length ∧ s.tm 10 = .lst ((gates h).map eGate) ∧ s.tm 19 = .lst ((gates h).map eGate) ∧ s.tm 20 = ai (gates h).length ∧ s.tm 21 = ai j ∧ Pg.rowAt s.H (ri) = some ({ k := 1, es := row1.map eInt, ty := 3 }) ∧ Pg.rowAt s.H (nx + 1) = some ({ k := 6, es := by1.map eGate, ty := 104 }) ∧ Pg.rowAt s.H (c0) = some ({ k := 3, es := [eHouse h], ty := 26 })) ((gates h).length) ⟨0, _, rfl, rfl, rfl, (by intro j hjlt hjne; simp (disch := omega) only [push_cast, if_neg, hp5]), ?_, ?_, ?_, ?_, ?_, ?_, ?_, ?_, ?_, ?_, ?_, ?_⟩ ?_
  iterate 12 (first | (simp (disch := omega) only [push_cast, simprocAttr, hS, hZ, hd0, hd1, hd2, hr, hms, hms2, hc1, hc2, hc3, hc4, hrc] <;> first | rfl | omega) | omega)
  rintro n2 s2 ⟨j2, rest2, hn2, hp02, hp12, hp22, hnl2, hS2⟩
  have hZ2 : (ri : Nat) ≠ s2.nx ∧ s2.nx ≠ (ri : Nat) ∧ (nx + 1 : Nat) ≠ s2.nx ∧ s2.nx ≠ (nx + 1 : Nat) ∧ (c0 : Nat) ≠ s2.nx ∧ s2.nx ≠ (c0 : Nat) := by omega
  obtain ⟨k', rfl⟩ : ∃ k', k = k' + 1 := ⟨k - 1, by omega⟩
  rcases rest2 with _ | ⟨x2, rest2⟩
  · have hk2 := drop_nil hp02
    have hfin : (row1, by1) = spread (nextH h) (gates h) row := by
      rw [← hp3, spreadF, hp12]; rfl
    repeat' first
      | apply AW.seq | apply AW.region | apply AW.ret | apply AW.block | apply AW.skip | apply AW.exit | apply AW.scope | apply AW.label | apply AWL.nil | apply D.nil
      | refine W.draw cx_mixed (by decide +kernel) ?_
      | ((first | (apply W.step cx_ok; decide) | (apply D.step cx_ok; decide; decide) | apply W.store cx_ok | (apply W.gS; rfl; decide) | (apply D.gS; rfl; decide; decide) | apply AW.cond); (simp (disch := omega) only [push_cast, simprocAttr, hS2, hZ2, hd0, hd1, hd2, hr, hms, hms2, hc1, hc2, hc3, hc4, hrc, hk2] <;> rfl); all_goals try ((with_reducible intro hI); try first | (cases hI; done) | (simp only [INTS] at hI; try first | (exfalso; omega) | (have hT : True := hI; clear hT hI))))
      | ((first | apply W.retC | apply W.endC' | apply W.retM | apply W.endM' | apply W.ret1 | apply W.end1 | apply W.ret2 | apply W.end2 | apply W.ret3 | apply W.end3 | apply W.ret0 | apply W.end0); (iterate 2 (try (simp (disch := omega) only [push_cast, simprocAttr, hS2, hZ2, hd0, hd1, hd2, hr, hms, hms2, hc1, hc2, hc3, hc4, hrc, hk2] <;> rfl))))
    all_goals
      (simp only [blockQ, loopQ, scopeQ]
       apply W.retX (vs := [.ref (nx + 1) 0 h.rooms.length])
       · simp (disch := omega) only [push_cast, simprocAttr, hS2, hZ2, hd0, hd1, hd2, hr, hms, hms2, hc1, hc2, hc3, hc4, hrc]
       refine ⟨rfl, ?_, ?_, ?_, ?_⟩
       · rw [← hfin]; (simp (disch := omega) only [push_cast, simprocAttr, hS2, hZ2, hd0, hd1, hd2, hr, hms, hms2, hc1, hc2, hc3, hc4, hrc])
       · rw [← hfin]; (simp (disch := omega) only [push_cast, simprocAttr, hS2, hZ2, hd0, hd1, hd2, hr, hms, hms2, hc1, hc2, hc3, hc4, hrc])
       · (try simp (disch := omega) only [push_cast, simprocAttr, hS2, hZ2, hd0, hd1, hd2, hr, hms, hms2, hc1, hc2, hc3, hc4, hrc]); omega
       · exact (by intro j hjlt hjne; simp (disch := omega) only [push_cast, if_neg, hp22]))
  · obtain ⟨hk2, hg2, hd'2, hl'2, hm2, hx2⟩ := drop_cons hp02 eGate []
    have hgo := gate_ok hv hm2
    have g1 := hgo.from'.1
    have g2 := hgo.from'.2
    have g3 := hgo.to.1
    have g4 := hgo.to.2
    have g5 : x2.from'.toNat < row1.length := by omega
    have g6 : x2.to.toNat < row1.length := by omega
    have g7 : x2.to.toNat < by1.length := by omega
    have g8 : x2.to.toNat < h.rooms.length := by omega
    have hb1 : row1.getD x2.from'.toNat 0 ≤ 1073741823 := hp4 _ (List.mem_of_getElem? (getD_set' row1 x2.from'.toNat 0 g5))
    have hnb := fun hx0 : 0 ≤ row1.getD x2.from'.toNat 0 => nextH_lt hv hgo hx0 (by omega)
    repeat' first
      | apply AW.seq | apply AW.region | apply AW.ret | apply AW.block | apply AW.skip | apply AW.exit | apply AW.scope | apply AW.label | apply AWL.nil | apply D.nil
      | refine AW.draw (id := 9) cx_mixed [9, 10, 11] [3, 4, 5, 7] [ri, nx + 1] 0 (by decide +kernel) ?_
      | refine W.draw cx_mixed (by decide +kernel) ?_
      | ((first | (apply W.step cx_ok; decide) | (apply D.step cx_ok; decide; decide) | apply W.store cx_ok | (apply W.gS; rfl; decide) | (apply D.gS; rfl; decide; decide) | apply AW.cond); (simp (disch := omega) only [push_cast, simprocAttr, hS2, hZ2, hd0, hd1, hd2, hr, hms, hms2, hc1, hc2, hc3, hc4, hrc, hk2, hg2, g1, g2, g3, g4, g5, g6, g7, g8] <;> rfl); all_goals try ((with_reducible intro hI); try first | (cases hI; done) | (simp only [INTS] at hI; try first | (exfalso; omega) | (have hT : True := hI; clear hT hI))))
      | ((first | (apply D.store cx_ok; decide) | (apply D.stept cx_ok; decide; decide) | (apply D.stepm cx_ok; decide; decide)); (simp (disch := omega) only [push_cast, simprocAttr, hS2, hZ2, hd0, hd1, hd2, hr, hms, hms2, hc1, hc2, hc3, hc4, hrc, hk2, hg2, g1, g2, g3, g4, g5, g6, g7, g8] <;> rfl); try first | exact .inl rfl | exact .inr (by simp))
      | ((apply D.alloct cx_ok; decide; decide); (simp (disch := omega) only [push_cast, simprocAttr, hS2, hZ2, hd0, hd1, hd2, hr, hms, hms2, hc1, hc2, hc3, hc4, hrc, hk2, hg2, g1, g2, g3, g4, g5, g6, g7, g8] <;> rfl); first | exact .inl rfl | exact .inr (by simp))
      | ((first | (apply W.callv cx_ok; decide) | (apply D.callv cx_ok; decide; decide) | (apply D.callvt cx_ok; decide; decide)); (iterate 2 (simp (disch := omega) only [push_cast, simprocAttr, hS2, hZ2, hd0, hd1, hd2, hr, hms, hms2, hc1, hc2, hc3, hc4, hrc, hk2, hg2, g1, g2, g3, g4, g5, g6, g7, g8] <;> rfl)); (with_reducible first | exact arrNext_ok h x2 _ hv hgo (by omega) (by omega) | exact better_ok _ _); try first | rfl | (simp (disch := omega) only [push_cast, simprocAttr, hS2, hZ2, hd0, hd1, hd2, hr, hms, hms2, hc1, hc2, hc3, hc4, hrc, hk2, hg2, g1, g2, g3, g4, g5, g6, g7, g8] <;> rfl))
      | ((first | apply W.retC | apply W.endC' | apply W.retM | apply W.endM' | apply W.ret1 | apply W.end1 | apply W.ret2 | apply W.end2 | apply W.ret3 | apply W.end3 | apply W.ret0 | apply W.end0); (iterate 2 (try (simp (disch := omega) only [push_cast, simprocAttr, hS2, hZ2, hd0, hd1, hd2, hr, hms, hms2, hc1, hc2, hc3, hc4, hrc, hk2, hg2, g1, g2, g3, g4, g5, g6, g7, g8] <;> rfl))))
    all_goals first
      | (have hq : impr (nextH h) row1 x2 = false := by rw [Bool.eq_false_iff]; intro hi; rw [impr_iff] at hi; omega
         have hp12' : (gates h).find? (impr (nextH h) row1) = rest2.find? (impr (nextH h) row1) := by rw [hp12, List.find?_cons, hq]
         (refine ⟨rest2.length, ?_, j2 + 1, rest2, rfl, hd'2, hp12', (by intro j hjlt hjne; simp (disch := omega) only [push_cast, if_neg, hp22]), ?_, ?_, ?_, ?_, ?_, ?_, ?_, ?_, ?_, ?_, ?_, ?_⟩; ((simp only [List.length_cons] at *; omega)); all_goals first | (simp (disch := omega) only [push_cast, simprocAttr, hS2, hZ2, hd0, hd1, hd2, hr, hms, hms2, hc1, hc2, hc3, hc4, hrc, hk2, hg2, g1, g2, g3, g4, g5, g6, g7, g8] <;> first | rfl | omega) | omega))
      | (have hq : impr (nextH h) row1 x2 = true := by rw [impr_iff]; omega
         have hi := impr_iff.1 hq
         have hstep : spreadF (nextH h) (gates h) k' (row1.set x2.to.toNat ((nextH h) x2 (row1.getD x2.from'.toNat 0))) (by1.set x2.to.toNat x2) = spread (nextH h) (gates h) row := by
           rw [← hp3, spreadF, hp12, List.find?_cons, hq]
         have hlt := spreadM_lt (row := row1) (i := x2.to.toNat) (x := (nextH h) x2 (row1.getD x2.from'.toNat 0)) (by omega) hi.2.1 (by omega) hi.2.2
         (refine ⟨k', ?_, (row1.set x2.to.toNat ((nextH h) x2 (row1.getD x2.from'.toNat 0))), by1.set x2.to.toNat x2, k', rfl, (by rw [List.length_set]; exact hp0), (by rw [List.length_set]; exact hp1), (by omega), hstep, (fun y hy => by rcases List.mem_or_eq_of_mem_set hy with hy | rfl; exact hp4 y hy; omega), (by intro j hjlt hjne; simp (disch := omega) only [push_cast, if_neg, hp22]), ?_, ?_, ?_, ?_, ?_, ?_, ?_, ?_, ?_⟩; (omega); all_goals first | (simp (disch := omega) only [push_cast, simprocAttr, hS2, hZ2, hd0, hd1, hd2, hr, hms, hms2, hc1, hc2, hc3, hc4, hrc, hk2, hg2, g1, g2, g3, g4, g5, g6, g7, g8] <;> first | rfl | omega) | omega))

end Go.Proofs.Hs

namespace Go.Proofs.Hs
open Go Go.Pg Go.Proofs

def mapK (row : List Int) (k : Nat) : List Int := (row.take k).map room1 ++ row.drop k
theorem mapK_len (row : List Int) (k : Nat) : (mapK row k).length = row.length := by simp [mapK]; omega
theorem mapK_zero (row : List Int) : mapK row 0 = row := by simp [mapK]
theorem mapK_all (row : List Int) : mapK row row.length = row.map room1 := by simp [mapK]
theorem mapK_at {row : List Int} {k : Nat} (hk : k < row.length) : (mapK row k).getD k 0 = row.getD k 0 := by
  unfold mapK
  rw [List.getD_eq_getElem?_getD, List.getElem?_append_right (by simp; omega), List.getElem?_drop, List.getD_eq_getElem?_getD]
  congr 2; simp; omega
theorem mapK_set {row : List Int} {k : Nat} (hk : k < row.length) : (mapK row k).set k (room1 (row.getD k 0)) = mapK row (k + 1) := by
  apply List.ext_getElem?
  intro i
  rw [List.getElem?_set, mapK_len]
  unfold mapK
  simp only [List.getElem?_append, List.length_map, List.length_take, List.getElem?_map, List.getElem?_take, List.getElem?_drop]
  rcases Nat.lt_trichotomy i k with h | h | h
  · rw [if_neg (by omega), if_pos (by omega), if_pos (by omega), if_pos (by omega), if_pos (by omega)]
  · subst h
    rw [if_pos rfl, if_pos hk, if_pos (by omega), if_pos (by omega), getD_set' row i 0 hk]; rfl
  · rw [if_neg (by omega), if_neg (by omega), if_neg (by omega)]
    congr 1; omega

def arrH (h : House) (a : Nat) (t : Int) : List Int × List Gate :=
  (((spread (nextH h) (gates h) ((List.replicate h.rooms.length (-1)).set a t)).1.map room1), (spread (nextH h) (gates h) ((List.replicate h.rooms.length (-1)).set a t)).2)
theorem spreadF_len (f : Gate → Int → Int) (gs : List Gate) : ∀ (k : Nat) (row : List Int) (by' : List Gate), (spreadF f gs k row by').1.length = row.length ∧ (spreadF f gs k row by').2.length = by'.length
  | 0, row, by' => ⟨rfl, rfl⟩
  | k + 1, row, by' => by
    unfold spreadF
    split
    · exact ⟨rfl, rfl⟩
    · rename_i g hg
      have := spreadF_len f gs k (row.set g.to.toNat (f g (row.getD g.from'.toNat 0))) (by'.set g.to.toNat g)
      simpa using this

theorem arrivals_ok (h : House) (n0 t : Int) (hfit : h.Fit) (hv : h.V) (hn : 0 ≤ n0 ∧ n0 < (h.rooms.length : Int)) (ht : 0 ≤ t ∧ t ≤ 1073741823) :
    OKv cx 82 [.agg (eHouse h), ai n0, ai t] (.tup [lInt (arrH h n0.toNat t).1, .lst ((arrH h n0.toNat t).2.map eGate)]) := by
  have hrn := hv.rooms
  have hms : (h.rooms.length : Int) * 8 ≤ 281474976710656 := by omega
  have hms2 : (h.rooms.length : Int) ≤ 281474976710656 := by omega
  have hna := hn.1
  have hnb := hn.2
  have hnc : n0.toNat < h.rooms.length := by omega
  refine OKat.of_body (rs := [6, 7]) Tryd.func82 rfl (by decide +kernel) rfl (by simp [Tryd.ntmps82]) ?_
  simp only [Tryd.ntmps82]
  repeat' first
    | apply AW.seq | apply AW.region | apply AW.ret | apply AW.block | apply AW.skip | apply AW.exit | apply AW.scope | apply AW.label | apply AWL.nil
    | ((first | (apply W.step cx_ok; decide) | apply W.store cx_ok | apply AW.cond); (simp (disch := omega) only [push_cast, simprocAttr, hms, hms2] <;> rfl); all_goals try ((with_reducible intro hI); try first | (cases hI; done) | (simp only [INTS] at hI; try first | (exfalso; omega) | (have hT : True := hI; clear hT hI))))
    | ((first | apply W.ret2 | apply W.end2); (iterate 2 (try (simp (disch := omega) only [push_cast, simprocAttr, hms, hms2] <;> rfl))))
  refine AW.loop (fun n s => ∃ (k : Nat) (row : List Int), n = h.rooms.length - k ∧ (row = fillR h.rooms.length k (-1)) ∧ (row.length = h.rooms.length) ∧ (k ≤ h.rooms.length) ∧ 2 ≤ s.nx ∧ s.tm 1 = ai n0 ∧ s.tm 2 = ai t ∧ s.tm 3 = .ptr 0 0 0 1 ∧ s.tm 8 = .ref 1 0 h.rooms.length ∧ s.tm 17 = ai h.rooms.length ∧ s.tm 18 = ai k ∧ Pg.rowAt s.H (0) = some ({ k := 3, es := [eHouse h], ty := 26 }) ∧ Pg.rowAt s.H (1) = some ({ k := 1, es := row.map eInt, ty := 3 })) (h.rooms.length) ⟨0, fillR h.rooms.length 0 (-1), rfl, rfl, (fillR_len (by omega)), (by omega), ?_, ?_, ?_, ?_, ?_, ?_, ?_, ?_, ?_⟩ ?_
  iterate 9 (first | (simp (disch := omega) only [push_cast, simprocAttr, fillR_zero, map_rep0] <;> first | rfl | omega) | omega)
  rintro n s ⟨k, row, hn, hp0, hp1, hp2, hnl, hS⟩
  have hZ : (0 : Nat) ≠ s.nx ∧ s.nx ≠ (0 : Nat) ∧ (1 : Nat) ≠ s.nx ∧ s.nx ≠ (1 : Nat) := by omega
  by_cases hk : k < h.rooms.length
  · have hk1 : (k : Int) < (h.rooms.length : Int) := by omega
    have hk2 : k < row.length := by omega
    repeat' first
      | apply AW.seq | apply AW.region | apply AW.ret | apply AW.block | apply AW.skip | apply AW.exit | apply AW.scope | apply AW.label | apply AWL.nil
      | ((first | (apply W.step cx_ok; decide) | apply W.store cx_ok | apply AW.cond); (simp (disch := omega) only [push_cast, simprocAttr, hS, hZ, hk, hk1, hk2, hp1] <;> rfl); all_goals try ((with_reducible intro hI); try first | (cases hI; done) | (simp only [INTS] at hI; try first | (exfalso; omega) | (have hT : True := hI; clear hT hI))))
      | ((first | apply W.ret2 | apply W.end2); (iterate 2 (try (simp (disch := omega) only [push_cast, simprocAttr, hS, hZ, hk, hk1, hk2, hp1] <;> rfl))))
    all_goals
      (have hset : row.set k (-1) = fillR h.rooms.length (k + 1) (-1) := by rw [hp0]; exact fillR_set hk
       (refine ⟨h.rooms.length - (k + 1), ?_, k + 1, row.set k (-1), rfl, hset, (by rw [List.length_set]; exact hp1), (by omega), ?_, ?_, ?_, ?_, ?_, ?_, ?_, ?_, ?_⟩; (omega); all_goals first | (simp (disch := omega) only [push_cast, simprocAttr, hS, hZ, hk, hk1, hk2, hp1] <;> first | rfl | omega) | omega))
  · have hk1 : ¬ ((k : Int) < (h.rooms.length : Int)) := by omega
    have hkn : k = h.rooms.length := by omega
    have hrow : row = List.replicate h.rooms.length (-1) := by rw [hp0, hkn, fillR_all]
    have hnd : n0.toNat < row.length := by omega
    repeat' first
      | apply AW.seq | apply AW.region | apply AW.ret | apply AW.block | apply AW.skip | apply AW.exit | apply AW.scope | apply AW.label | apply AWL.nil
      | ((first | (apply W.step cx_ok; decide) | apply W.store cx_ok | apply AW.cond); (simp (disch := omega) only [push_cast, simprocAttr, hS, hZ, hk, hk1, hna, hnb, hnd] <;> rfl); all_goals try ((with_reducible intro hI); try first | (cases hI; done) | (simp only [INTS] at hI; try first | (exfalso; omega) | (have hT : True := hI; clear hT hI))))
      | ((first | apply W.ret2 | apply W.end2); (iterate 2 (try (simp (disch := omega) only [push_cast, simprocAttr, hS, hZ, hk, hk1, hna, hnb, hnd] <;> rfl))))
    have hrl : (row.set n0.toNat t).length = h.rooms.length := by rw [List.length_set]; exact hp1
    have hrx : ∀ x ∈ row.set n0.toNat t, x ≤ 1073741823 := fun x hx => by
      rcases List.mem_or_eq_of_mem_set hx with hx | rfl
      · rw [hrow, List.mem_replicate] at hx; omega
      · exact ht.2
    refine W.callm cx_ok (by decide) (f := 117) (caps := []) (by simp (disch := omega) only [push_cast, simprocAttr, hS, hZ, hk, hk1, hna, hnb, hnd]) (spreadA_ok (ri := 1) (c0 := 0) h (row.set n0.toNat t) (by simp (disch := omega) only [push_cast, simprocAttr, hS, hZ, hk, hk1, hna, hnb, hnd] <;> rfl) hfit hv hrl hrx (by simp (disch := omega) only [push_cast, simprocAttr, hS, hZ, hk, hk1, hna, hnb, hnd]; omega) ⟨by simp (disch := omega) only [push_cast, simprocAttr, hS, hZ, hk, hk1, hna, hnb, hnd]; omega, by decide⟩ (by simp (disch := omega) only [push_cast, simprocAttr, hS, hZ, hk, hk1, hna, hnb, hnd]) (by simp (disch := omega) only [push_cast, simprocAttr, hS, hZ, hk, hk1, hna, hnb, hnd])) ?_
    rintro r H' nx' ⟨rfl, hB, hR, hN, hF⟩
    rw [hrow] at hB hR
    have hslen := (spreadF_len (nextH h) (gates h) (spreadM ((List.replicate h.rooms.length (-1)).set n0.toNat t) + 1) ((List.replicate h.rooms.length (-1)).set n0.toNat t) (List.replicate ((List.replicate h.rooms.length (-1 : Int)).set n0.toNat t).length .zero))
    have hA : arrH h n0.toNat t = ((spread (nextH h) (gates h) ((List.replicate h.rooms.length (-1)).set n0.toNat t)).1.map room1, (spread (nextH h) (gates h) ((List.replicate h.rooms.length (-1)).set n0.toNat t)).2) := rfl
    rw [hA]
    have hspl : (spread (nextH h) (gates h) ((List.replicate h.rooms.length (-1)).set n0.toNat t)).1.length = h.rooms.length := by have := hslen.1; simpa [spread] using this
    have hsbl : (spread (nextH h) (gates h) ((List.replicate h.rooms.length (-1)).set n0.toNat t)).2.length = h.rooms.length := by have := hslen.2; simpa [spread] using this
    generalize hsp : (spread (nextH h) (gates h) ((List.replicate h.rooms.length (-1)).set n0.toNat t)).1 = sp at *
    generalize hsb : (spread (nextH h) (gates h) ((List.replicate h.rooms.length (-1)).set n0.toNat t)).2 = sb at *
    clear hsp hsb hA hslen
    have hb0 : 2 ≤ s.nx + 1 := by omega
    simp (disch := omega) only [push_cast] at hB hN
    generalize hb : s.nx + 1 = b0 at *
    have hq1 : (1 : Nat) ≠ b0 := by omega
    have hq2 : b0 ≠ (1 : Nat) := by omega
    repeat' first
      | apply AW.seq | apply AW.region | apply AW.ret | apply AW.block | apply AW.skip | apply AW.exit | apply AW.scope | apply AW.label | apply AWL.nil
      | ((first | (apply W.step cx_ok; decide) | apply W.store cx_ok | apply AW.cond); (simp (disch := omega) only [push_cast, simprocAttr, hS, hZ, hk, hk1, hna, hnb, hnd, hB, hR, hq1, hq2, hb] <;> rfl); all_goals try ((with_reducible intro hI); try first | (cases hI; done) | (simp only [INTS] at hI; try first | (exfalso; omega) | (have hT : True := hI; clear hT hI))))
      | ((first | apply W.ret2 | apply W.end2); (iterate 2 (try (simp (disch := omega) only [push_cast, simprocAttr, hS, hZ, hk, hk1, hna, hnb, hnd, hB, hR, hq1, hq2, hb] <;> rfl))))
    refine AW.loop (fun n s => ∃ (k : Nat) (row2 : List Int), n = h.rooms.length - k ∧ (row2 = mapK sp k) ∧ (row2.length = h.rooms.length) ∧ (k ≤ h.rooms.length) ∧ b0 + 1 ≤ s.nx ∧ s.tm 8 = .ref 1 0 h.rooms.length ∧ s.tm 10 = .ref b0 0 h.rooms.length ∧ s.tm 34 = ai h.rooms.length ∧ s.tm 35 = ai k ∧ Pg.rowAt s.H (1) = some ({ k := 1, es := row2.map eInt, ty := 3 }) ∧ Pg.rowAt s.H (b0) = some ({ k := 6, es := sb.map eGate, ty := 104 })) (h.rooms.length) ⟨0, sp, rfl, (mapK_zero sp).symm, hspl, (by omega), ?_, ?_, ?_, ?_, ?_, ?_, ?_⟩ ?_
    iterate 7 (first | (simp (disch := omega) only [push_cast, simprocAttr, hS, hZ, hk, hk1, hna, hnb, hnd, hB, hR, hq1, hq2, hb] <;> first | rfl | omega) | omega)
    rintro n2 s2 ⟨k2, row22, hn2, hp02, hp12, hp22, hnl2, hS2⟩
    have hZ2 : (1 : Nat) ≠ s2.nx ∧ s2.nx ≠ (1 : Nat) ∧ (b0 : Nat) ≠ s2.nx ∧ s2.nx ≠ (b0 : Nat) := by omega
    by_cases hk' : k2 < h.rooms.length
    · have hk1' : (k2 : Int) < (h.rooms.length : Int) := by omega
      have hk2' : k2 < row22.length := by omega
      have hat : row22.getD k2 0 = sp.getD k2 0 := by rw [hp02]; exact mapK_at (by omega)
      repeat' first
        | apply AW.seq | apply AW.region | apply AW.ret | apply AW.block | apply AW.skip | apply AW.exit | apply AW.scope | apply AW.label | apply AWL.nil
        | ((first | (apply W.step cx_ok; decide) | apply W.store cx_ok | apply AW.cond); (simp (disch := omega) only [push_cast, simprocAttr, hS2, hZ2, hq1, hq2, hk', hk1', hk2', hp12] <;> rfl); all_goals try ((with_reducible intro hI); try first | (cases hI; done) | (simp only [INTS] at hI; try first | (exfalso; omega) | (have hT : True := hI; clear hT hI))))
        | ((first | apply W.ret2 | apply W.end2); (iterate 2 (try (simp (disch := omega) only [push_cast, simprocAttr, hS2, hZ2, hq1, hq2, hk', hk1', hk2', hp12] <;> rfl))))
      all_goals first
        | (have hset : row22.set k2 1073741824 = mapK sp (k2 + 1) := by rw [hp02, ← mapK_set (by omega)]; unfold room1; rw [if_pos (by omega)]
           (refine ⟨h.rooms.length - (k2 + 1), ?_, k2 + 1, row22.set k2 1073741824, rfl, hset, (by rw [List.length_set]; exact hp12), (by omega), ?_, ?_, ?_, ?_, ?_, ?_, ?_⟩; (omega); all_goals first | (simp (disch := omega) only [push_cast, simprocAttr, hS2, hZ2, hk', hk1', hk2', hp12, hq1, hq2] <;> first | rfl | omega) | omega))
        | (have hset : row22 = mapK sp (k2 + 1) := by
             rw [← mapK_set (by omega), ← hp02]; unfold room1; rw [if_neg (by omega), ← hat]
             rw [List.getD_eq_getElem?_getD, List.getElem?_eq_getElem (by omega)]; simp
           (refine ⟨h.rooms.length - (k2 + 1), ?_, k2 + 1, row22, rfl, hset, hp12, (by omega), ?_, ?_, ?_, ?_, ?_, ?_, ?_⟩; (omega); all_goals first | (simp (disch := omega) only [push_cast, simprocAttr, hS2, hZ2, hk', hk1', hk2', hp12, hq1, hq2] <;> first | rfl | omega) | omega))
    · have hk1' : ¬ ((k2 : Int) < (h.rooms.length : Int)) := by omega
      have hkn' : k2 = sp.length := by omega
      have hro : row22 = sp.map room1 := by rw [hp02, hkn', mapK_all]
      repeat' first
        | apply AW.seq | apply AW.region | apply AW.ret | apply AW.block | apply AW.skip | apply AW.exit | apply AW.scope | apply AW.label | apply AWL.nil
        | ((first | (apply W.step cx_ok; decide) | apply W.store cx_ok | apply AW.cond); (simp (disch := omega) only [push_cast, simprocAttr, hS2, hZ2, hq1, hq2, hk1', hp12, hsbl] <;> rfl); all_goals try ((with_reducible intro hI); try first | (cases hI; done) | (simp only [INTS] at hI; try first | (exfalso; omega) | (have hT : True := hI; clear hT hI))))
        | ((first | apply W.ret2 | apply W.end2); (iterate 2 (try (simp (disch := omega) only [push_cast, simprocAttr, hS2, hZ2, hq1, hq2, hk1', hp12, hsbl] <;> rfl))))
      all_goals (show _ = _; rw [hro])

theorem askedOneR_ok (h : House) (n t : Int) (hfit : h.Fit) : OKv cx 74 [.agg (eHouse h), .lst [[ai n]], .lst [[ai t]]] (ai (roomE h n t)) := by
  have := askedOne_ok h n t hfit
  rw [askedE_one] at this; exact this
def earliestH (h : House) (n t : Int) : List Int × Int := if roomE h n t ≠ 0 then ([], roomE h n t) else ((arrH h n.toNat t).1, 0)
theorem Earliest_ok (h : House) (n0 t : Int) (hfit : h.Fit) : OKv cx 27 [.agg (eHouse h), ai n0, ai t] (.tup [lInt (earliestH h n0 t).1, ai (earliestH h n0 t).2]) := by
  by_cases he : roomE h n0 t = 0
  · obtain ⟨hc, hn, ht⟩ := roomE_zero he
    unfold timeOK at ht
    have hE : earliestH h n0 t = ((arrH h n0.toNat t).1, 0) := if_neg (by simp [he])
    refine OKat.of_body (rs := [6, 7]) Tryd.func27 rfl (by decide +kernel) rfl (by simp [Tryd.ntmps27]) ?_
    simp only [Tryd.ntmps27]
    repeat' first
      | apply AW.seq | apply AW.region | apply AW.ret | apply AW.block | apply AW.skip | apply AW.exit | apply AW.scope | apply AW.label | apply AWL.nil
      | ((first | (apply W.step cx_ok; decide) | apply AW.cond); (simp (disch := omega) only [push_cast, simprocAttr, he] <;> rfl); all_goals try ((with_reducible intro hI); try first | (cases hI; done) | (simp only [INTS] at hI; try first | (exfalso; omega) | (have hT : True := hI; clear hT hI))))
      | ((apply W.callv cx_ok; decide); (iterate 2 (simp (disch := omega) only [push_cast, simprocAttr, he] <;> rfl)); (with_reducible first | exact askedOneR_ok _ _ _ hfit | exact arrivals_ok h n0 t hfit (Check_V hc) hn ht); try first | rfl | (simp (disch := omega) only [push_cast, simprocAttr, he] <;> rfl))
      | ((first | apply W.ret2 | apply W.end2); (iterate 2 (try (simp (disch := omega) only [push_cast, simprocAttr, he] <;> rfl))))
    all_goals (show _ = _; rw [hE])
  · have hE : earliestH h n0 t = ([], roomE h n0 t) := if_pos he
    refine OKat.of_body (rs := [6, 7]) Tryd.func27 rfl (by decide +kernel) rfl (by simp [Tryd.ntmps27]) ?_
    simp only [Tryd.ntmps27]
    repeat' first
      | apply AW.seq | apply AW.region | apply AW.ret | apply AW.block | apply AW.skip | apply AW.exit | apply AW.scope | apply AW.label | apply AWL.nil
      | ((first | (apply W.step cx_ok; decide) | apply AW.cond); (simp (disch := omega) only [push_cast, simprocAttr, he] <;> rfl); all_goals try ((with_reducible intro hI); try first | (cases hI; done) | (simp only [INTS] at hI; try first | (exfalso; omega) | (have hT : True := hI; clear hT hI))))
      | ((apply W.callv cx_ok; decide); (iterate 2 (simp (disch := omega) only [push_cast, simprocAttr, he] <;> rfl)); (with_reducible first | exact askedOneR_ok _ _ _ hfit); try first | rfl | (simp (disch := omega) only [push_cast, simprocAttr, he] <;> rfl))
      | ((first | apply W.ret2 | apply W.end2); (iterate 2 (try (simp (disch := omega) only [push_cast, simprocAttr, he] <;> rfl))))
    all_goals (show _ = _; rw [hE]; rfl)

end Go.Proofs.Hs

namespace Go.Proofs.Hs
open Go Go.Pg Go.Proofs

theorem SameInts_ok (a b : List Int) (ha : a.length ≤ 1099511627776) (hb : b.length ≤ 1099511627776) : OKv cx 33 [lInt a, lInt b] (ab (decide (a = b))) := by
  by_cases hl : a.length = b.length
  · have hl' : (a.length : Int) = (b.length : Int) := by omega
    refine OKat.of_body (rs := [4]) Tryd.func33 rfl (by decide +kernel) rfl (by simp [Tryd.ntmps33]) ?_
    simp only [Tryd.ntmps33]
    repeat' first
      | apply AW.seq | apply AW.region | apply AW.ret | apply AW.block | apply AW.skip | apply AW.exit | apply AW.scope | apply AW.label | apply AWL.nil | apply D.nil
      | refine W.draw cx_mixed (by decide +kernel) ?_
      | ((first | (apply W.step cx_ok; decide) | (apply D.step cx_ok; decide; decide) | apply AW.cond); (simp (disch := omega) only [push_cast, simprocAttr] <;> rfl); all_goals try ((with_reducible intro hI); try first | (cases hI; done) | (simp only [INTS] at hI; try first | (exfalso; omega) | (have hT : True := hI; clear hT hI))))
      | ((first | apply W.ret1 | apply W.end1); (iterate 2 (try (simp (disch := omega) only [push_cast, simprocAttr] <;> rfl))))
    refine AW.loop (fun n s => ∃ (k : Nat) (ra rb : List Int), n = ra.length ∧ (a.drop k = ra) ∧ (b.drop k = rb) ∧ (ra.length = rb.length) ∧ (decide (ra = rb) = decide (a = b)) ∧ s.tm 0 = lInt a ∧ s.tm 1 = lInt b ∧ s.tm 5 = ai k) (a.length) ⟨0, a, b, rfl, rfl, rfl, hl, rfl, ?_, ?_, ?_⟩ ?_
    iterate 3 (first | (simp (disch := omega) only [push_cast, simprocAttr] <;> first | rfl | omega) | omega)
    rintro n s ⟨k, ra, rb, hn, hp0, hp1, hp2, hp3, hS⟩
    rcases ra with _ | ⟨x, ra⟩
    · have hk := drop_nil hp0
      repeat' first
        | apply AW.seq | apply AW.region | apply AW.ret | apply AW.block | apply AW.skip | apply AW.exit | apply AW.scope | apply AW.label | apply AWL.nil | apply D.nil
        | refine W.draw cx_mixed (by decide +kernel) ?_
        | ((first | (apply W.step cx_ok; decide) | (apply D.step cx_ok; decide; decide) | apply AW.cond); (simp (disch := omega) only [push_cast, simprocAttr, hS, hk] <;> rfl); all_goals try ((with_reducible intro hI); try first | (cases hI; done) | (simp only [INTS] at hI; try first | (exfalso; omega) | (have hT : True := hI; clear hT hI))))
        | ((first | apply W.ret1 | apply W.end1); (iterate 2 (try (simp (disch := omega) only [push_cast, simprocAttr, hS, hk] <;> rfl))))
      all_goals
        (have hrb : rb = [] := List.eq_nil_of_length_eq_zero (by simpa using hp2.symm)
         show _ = _; rw [← hp3, hrb]; rfl)
    · obtain ⟨y, rb, rfl⟩ : ∃ y r, rb = y :: r := by
        cases rb with
        | nil => simp at hp2
        | cons y r => exact ⟨y, r, rfl⟩
      obtain ⟨hk, hg, hd', hl2, hm, hx⟩ := drop_cons hp0 eInt []
      obtain ⟨hkb, hgb, hdb, hlb, hmb, hxb⟩ := drop_cons hp1 eInt []
      have hp2' : ra.length = rb.length := by simpa using hp2
      repeat' first
        | apply AW.seq | apply AW.region | apply AW.ret | apply AW.block | apply AW.skip | apply AW.exit | apply AW.scope | apply AW.label | apply AWL.nil | apply D.nil
        | refine W.draw cx_mixed (by decide +kernel) ?_
        | ((first | (apply W.step cx_ok; decide) | (apply D.step cx_ok; decide; decide) | apply AW.cond); (simp (disch := omega) only [push_cast, simprocAttr, hS, hk, hg, hkb, hgb] <;> rfl); all_goals try ((with_reducible intro hI); try first | (cases hI; done) | (simp only [INTS] at hI; try first | (exfalso; omega) | (have hT : True := hI; clear hT hI))))
        | ((first | apply W.ret1 | apply W.end1); (iterate 2 (try (simp (disch := omega) only [push_cast, simprocAttr, hS, hk, hg, hkb, hgb] <;> rfl))))
      all_goals first
        | (show _ = _; rw [← hp3]; refine congrArg (fun b => AV.v (Value.bool b)) ?_; symm; rw [decide_eq_false_iff_not]; intro he; injection he with he1 he2; omega)
        | (have hxy : x = y := by omega
           have hp3' : decide (ra = rb) = decide (a = b) := by rw [← hp3, hxy]; simp
           (refine ⟨ra.length, ?_, k + 1, ra, rb, rfl, hd', hdb, hp2', hp3', ?_, ?_, ?_⟩; ((simp only [List.length_cons] at *; omega)); all_goals first | (simp (disch := omega) only [push_cast, simprocAttr, hS, hg, hk, hkb, hgb] <;> first | rfl | omega) | omega))
  · have hl' : ¬ (a.length : Int) = (b.length : Int) := by omega
    refine OKat.of_body (rs := [4]) Tryd.func33 rfl (by decide +kernel) rfl (by simp [Tryd.ntmps33]) ?_
    simp only [Tryd.ntmps33]
    repeat' first
      | apply AW.seq | apply AW.region | apply AW.ret | apply AW.block | apply AW.skip | apply AW.exit | apply AW.scope | apply AW.label | apply AWL.nil | apply D.nil
      | refine W.draw cx_mixed (by decide +kernel) ?_
      | ((first | (apply W.step cx_ok; decide) | (apply D.step cx_ok; decide; decide) | apply AW.cond); (simp (disch := omega) only [push_cast, simprocAttr, hl'] <;> rfl); all_goals try ((with_reducible intro hI); try first | (cases hI; done) | (simp only [INTS] at hI; try first | (exfalso; omega) | (have hT : True := hI; clear hT hI))))
      | ((first | apply W.ret1 | apply W.end1); (iterate 2 (try (simp (disch := omega) only [push_cast, simprocAttr, hl'] <;> rfl))))
    all_goals (show _ = _; refine congrArg (fun b => AV.v (Value.bool b)) ?_; symm; rw [decide_eq_false_iff_not]; intro he; exact hl (by rw [he]))

theorem askedTwo_ok (h : House) (a b ta tb : Int) (hfit : h.Fit) : OKv cx 74 [.agg (eHouse h), .lst [[ai a], [ai b]], .lst [[ai ta], [ai tb]]] (ai (askedE h [a, b] [ta, tb])) :=
  asked_ok h [a, b] [ta, tb] hfit (by simp) (by simp)
theorem askedE_two (h : House) (a b ta tb : Int) : askedE h [a, b] [ta, tb] = if roomE h a ta ≠ 0 then roomE h a ta else roomE h b tb := by
  unfold askedE roomE
  by_cases hc : (Check h).1 ≠ 0
  · rw [if_pos hc, if_pos hc, if_pos hc]
  · rw [if_neg hc, if_neg hc, if_neg hc]
    simp only [List.all_cons, List.all_nil, Bool.and_true, roomB, timeB, Bool.and_eq_true, decide_eq_true_eq]
    by_cases hA : 0 ≤ a ∧ a < (h.rooms.length : Int) <;> by_cases hB : 0 ≤ b ∧ b < (h.rooms.length : Int) <;> by_cases hT : 0 ≤ ta ∧ ta ≤ 1073741823 <;> by_cases hU : 0 ≤ tb ∧ tb ≤ 1073741823 <;> simp [hA, hB, hT, hU]
theorem askedE_two_zero {h : House} {a b ta tb : Int} (he : askedE h [a, b] [ta, tb] = 0) : (Check h).1 = 0 ∧ (0 ≤ a ∧ a < (h.rooms.length : Int)) ∧ (0 ≤ b ∧ b < (h.rooms.length : Int)) ∧ (0 ≤ ta ∧ ta ≤ 1073741823) ∧ (0 ≤ tb ∧ tb ≤ 1073741823) := by
  rw [askedE_two] at he
  split at he
  · rename_i hx; exact absurd he hx
  · rename_i hx
    obtain ⟨h1, h2, h3⟩ := roomE_zero (h := h) (n := a) (t := ta) (by simpa using hx)
    obtain ⟨_, h4, h5⟩ := roomE_zero he
    exact ⟨h1, h2, h4, h3, h5⟩

theorem arrH_len (h : House) (a : Nat) (t : Int) : (arrH h a t).1.length = h.rooms.length ∧ (arrH h a t).2.length = h.rooms.length := by
  have := spreadF_len (nextH h) (gates h) (spreadM ((List.replicate h.rooms.length (-1)).set a t) + 1) ((List.replicate h.rooms.length (-1)).set a t) (List.replicate ((List.replicate h.rooms.length (-1 : Int)).set a t).length .zero)
  unfold arrH spread
  simpa using this
def canH (h : House) (a ta b tb : Int) : Bool × Int := if askedE h [a, b] [ta, tb] ≠ 0 then (false, askedE h [a, b] [ta, tb]) else (decide ((arrH h a.toNat ta).1.getD b.toNat 0 ≤ tb), 0)
def wallH (h : House) (a ta b tb : Int) : List Int × Int := if askedE h [a, b] [ta, tb] ≠ 0 then ([], askedE h [a, b] [ta, tb]) else if (arrH h a.toNat ta).1.getD b.toNat 0 ≤ tb then ([], 5) else ((arrH h a.toNat ta).1, 0)

theorem Can_ok (h : House) (a ta b tb : Int) (hfit : h.Fit) : OKv cx 31 [.agg (eHouse h), ai a, ai ta, ai b, ai tb] (.tup [ab (canH h a ta b tb).1, ai (canH h a ta b tb).2]) := by
  by_cases he : askedE h [a, b] [ta, tb] = 0
  · obtain ⟨hc, hra, hrb, hta, htb⟩ := askedE_two_zero he
    have hl := (arrH_len h a.toNat ta).1
    have hb1 := hrb.1
    have hb2 := hrb.2
    have hb3 : b.toNat < (arrH h a.toNat ta).1.length := by omega
    have hb4 : b < ((arrH h a.toNat ta).1.length : Int) := by omega
    refine OKat.of_body (rs := [10, 11]) Tryd.func31 rfl (by decide +kernel) rfl (by simp [Tryd.ntmps31]) ?_
    simp only [Tryd.ntmps31]
    repeat' first
      | apply AW.seq | apply AW.region | apply AW.ret | apply AW.block | apply AW.skip | apply AW.exit | apply AW.scope | apply AW.label | apply AWL.nil
      | ((first | (apply W.step cx_ok; decide) | apply AW.cond); (simp (disch := omega) only [push_cast, simprocAttr, he, hb1, hb2, hb3, hb4] <;> rfl); all_goals try ((with_reducible intro hI); try first | (cases hI; done) | (simp only [INTS] at hI; try first | (exfalso; omega) | (have hT : True := hI; clear hT hI))))
      | ((apply W.callv cx_ok; decide); (iterate 2 (simp (disch := omega) only [push_cast, simprocAttr, he, hb1, hb2, hb3, hb4] <;> rfl)); (with_reducible first | exact askedTwo_ok _ _ _ _ _ hfit | exact arrivals_ok h a ta hfit (Check_V hc) hra hta); try first | rfl | (simp (disch := omega) only [push_cast, simprocAttr, he, hb1, hb2, hb3, hb4] <;> rfl))
      | ((first | apply W.ret2 | apply W.end2); (iterate 2 (try (simp (disch := omega) only [push_cast, simprocAttr, he, hb1, hb2, hb3, hb4] <;> rfl))))
    all_goals (show _ = _; unfold canH; rw [if_neg (by simp [he])]; first | done | rfl | (rw [if_pos (by assumption)]; rfl) | (rw [if_neg (by omega)]) | (simp [*]; done))
  ·
    refine OKat.of_body (rs := [10, 11]) Tryd.func31 rfl (by decide +kernel) rfl (by simp [Tryd.ntmps31]) ?_
    simp only [Tryd.ntmps31]
    repeat' first
      | apply AW.seq | apply AW.region | apply AW.ret | apply AW.block | apply AW.skip | apply AW.exit | apply AW.scope | apply AW.label | apply AWL.nil
      | ((first | (apply W.step cx_ok; decide) | apply AW.cond); (simp (disch := omega) only [push_cast, simprocAttr, he] <;> rfl); all_goals try ((with_reducible intro hI); try first | (cases hI; done) | (simp only [INTS] at hI; try first | (exfalso; omega) | (have hT : True := hI; clear hT hI))))
      | ((apply W.callv cx_ok; decide); (iterate 2 (simp (disch := omega) only [push_cast, simprocAttr, he] <;> rfl)); (with_reducible first | exact askedTwo_ok _ _ _ _ _ hfit); try first | rfl | (simp (disch := omega) only [push_cast, simprocAttr, he] <;> rfl))
      | ((first | apply W.ret2 | apply W.end2); (iterate 2 (try (simp (disch := omega) only [push_cast, simprocAttr, he] <;> rfl))))
    all_goals (show _ = _; unfold canH; rw [if_pos he]; try rfl)

theorem Wall_ok (h : House) (a ta b tb : Int) (hfit : h.Fit) : OKv cx 34 [.agg (eHouse h), ai a, ai ta, ai b, ai tb] (.tup [lInt (wallH h a ta b tb).1, ai (wallH h a ta b tb).2]) := by
  by_cases he : askedE h [a, b] [ta, tb] = 0
  · obtain ⟨hc, hra, hrb, hta, htb⟩ := askedE_two_zero he
    have hl := (arrH_len h a.toNat ta).1
    have hb1 := hrb.1
    have hb2 := hrb.2
    have hb3 : b.toNat < (arrH h a.toNat ta).1.length := by omega
    have hb4 : b < ((arrH h a.toNat ta).1.length : Int) := by omega
    refine OKat.of_body (rs := [10, 11]) Tryd.func34 rfl (by decide +kernel) rfl (by simp [Tryd.ntmps34]) ?_
    simp only [Tryd.ntmps34]
    repeat' first
      | apply AW.seq | apply AW.region | apply AW.ret | apply AW.block | apply AW.skip | apply AW.exit | apply AW.scope | apply AW.label | apply AWL.nil
      | ((first | (apply W.step cx_ok; decide) | apply AW.cond); (simp (disch := omega) only [push_cast, simprocAttr, he, hb1, hb2, hb3, hb4] <;> rfl); all_goals try ((with_reducible intro hI); try first | (cases hI; done) | (simp only [INTS] at hI; try first | (exfalso; omega) | (have hT : True := hI; clear hT hI))))
      | ((apply W.callv cx_ok; decide); (iterate 2 (simp (disch := omega) only [push_cast, simprocAttr, he, hb1, hb2, hb3, hb4] <;> rfl)); (with_reducible first | exact askedTwo_ok _ _ _ _ _ hfit | exact arrivals_ok h a ta hfit (Check_V hc) hra hta); try first | rfl | (simp (disch := omega) only [push_cast, simprocAttr, he, hb1, hb2, hb3, hb4] <;> rfl))
      | ((first | apply W.ret2 | apply W.end2); (iterate 2 (try (simp (disch := omega) only [push_cast, simprocAttr, he, hb1, hb2, hb3, hb4] <;> rfl))))
    all_goals (show _ = _; unfold wallH; rw [if_neg (by simp [he])]; first | done | rfl | (rw [if_pos (by assumption)]; rfl) | (rw [if_neg (by omega)]) | (simp [*]; done))
  ·
    refine OKat.of_body (rs := [10, 11]) Tryd.func34 rfl (by decide +kernel) rfl (by simp [Tryd.ntmps34]) ?_
    simp only [Tryd.ntmps34]
    repeat' first
      | apply AW.seq | apply AW.region | apply AW.ret | apply AW.block | apply AW.skip | apply AW.exit | apply AW.scope | apply AW.label | apply AWL.nil
      | ((first | (apply W.step cx_ok; decide) | apply AW.cond); (simp (disch := omega) only [push_cast, simprocAttr, he] <;> rfl); all_goals try ((with_reducible intro hI); try first | (cases hI; done) | (simp only [INTS] at hI; try first | (exfalso; omega) | (have hT : True := hI; clear hT hI))))
      | ((apply W.callv cx_ok; decide); (iterate 2 (simp (disch := omega) only [push_cast, simprocAttr, he] <;> rfl)); (with_reducible first | exact askedTwo_ok _ _ _ _ _ hfit); try first | rfl | (simp (disch := omega) only [push_cast, simprocAttr, he] <;> rfl))
      | ((first | apply W.ret2 | apply W.end2); (iterate 2 (try (simp (disch := omega) only [push_cast, simprocAttr, he] <;> rfl))))
    all_goals (show _ = _; unfold wallH; rw [if_pos he]; try rfl)

def neverB (x : Int) : Bool := decide (0 ≤ x) && decide (x ≤ 1073741824)
def fineG (h : House) (l : List Int) (g : Gate) : Bool := !(timeB (l.getD g.from'.toNat 0) && decide (enter h g (l.getD g.from'.toNat 0) < l.getD g.to.toNat 0))
def isWall (h : House) (a ta b tb : Int) (l : List Int) : Bool :=
  decide (l.length = h.rooms.length) && (l.all neverB && (decide (l.getD a.toNat 0 ≤ ta) && (decide (tb < l.getD b.toNat 0) && (gates h).all (fineG h l))))
def checkWallH (h : House) (a ta b tb : Int) (l : List Int) : Int := if askedE h [a, b] [ta, tb] ≠ 0 then askedE h [a, b] [ta, tb] else if isWall h a ta b tb l = true then 0 else 8

theorem CheckWall_ok (h : House) (a ta b tb : Int) (l : List Int) (hfit : h.Fit) (hll : l.length ≤ 1099511627776) : OKv cx 36 [.agg (eHouse h), ai a, ai ta, ai b, ai tb, lInt l] (ai (checkWallH h a ta b tb l)) := by
  by_cases he : askedE h [a, b] [ta, tb] = 0
  · obtain ⟨hc, hra, hrb, hta, htb⟩ := askedE_two_zero he
    have hv := Check_V hc
    have hgl := gates_len h
    have hwn := hv.nw
    have hrn := hv.rooms
    have hW : checkWallH h a ta b tb l = if isWall h a ta b tb l = true then 0 else 8 := if_neg (by simp [he])
    rw [hW]
    by_cases hln : l.length = h.rooms.length
    · have hle : (l.length : Int) = (h.rooms.length : Int) := by omega
      have ha1 := hra.1
      have ha2 : a < (l.length : Int) := by omega
      have ha3 : a.toNat < l.length := by omega
      have ha4 := hra.2
      have hb1 := hrb.1
      have hb2 : b < (l.length : Int) := by omega
      have hb3 : b.toNat < l.length := by omega
      have hb4 := hrb.2
      have hIW : isWall h a ta b tb l = (l.all neverB && (decide (l.getD a.toNat 0 ≤ ta) && (decide (tb < l.getD b.toNat 0) && (gates h).all (fineG h l)))) := by
        unfold isWall; rw [decide_eq_true hln, Bool.true_and]
      refine OKat.of_body (rs := [12]) Tryd.func36 rfl (by decide +kernel) rfl (by simp [Tryd.ntmps36]) ?_
      simp only [Tryd.ntmps36]
      repeat' first
        | apply AW.seq | apply AW.region | apply AW.ret | apply AW.block | apply AW.skip | apply AW.exit | apply AW.scope | apply AW.label | apply AWL.nil | apply D.nil
        | refine W.draw cx_mixed (by decide +kernel) ?_
        | ((first | (apply W.step cx_ok; decide) | (apply D.step cx_ok; decide; decide) | apply W.store cx_ok | (apply W.gS; rfl; decide) | (apply D.gS; rfl; decide; decide) | apply AW.cond); (simp (disch := omega) only [push_cast, simprocAttr, he, ha1, ha2, ha3, ha4, hb1, hb2, hb3, hb4] <;> rfl); all_goals try ((with_reducible intro hI); try first | (cases hI; done) | (simp only [INTS] at hI; try first | (exfalso; omega) | (have hT : True := hI; clear hT hI))))
        | ((first | (apply W.callv cx_ok; decide) | (apply D.callv cx_ok; decide; decide)); (iterate 2 (simp (disch := omega) only [push_cast, simprocAttr, he, ha1, ha2, ha3, ha4, hb1, hb2, hb3, hb4] <;> rfl)); (with_reducible first | exact askedTwo_ok _ _ _ _ _ hfit); try first | rfl | (simp (disch := omega) only [push_cast, simprocAttr, he, ha1, ha2, ha3, ha4, hb1, hb2, hb3, hb4] <;> rfl))
        | ((first | apply W.ret1 | apply W.end1); (iterate 2 (try (simp (disch := omega) only [push_cast, simprocAttr, he, ha1, ha2, ha3, ha4, hb1, hb2, hb3, hb4] <;> rfl))))
      refine AW.loop (fun n s => ∃ (k : Nat) (rest : List Int), n = rest.length ∧ (l.drop k = rest) ∧ (rest.all neverB = l.all neverB) ∧ 1 ≤ s.nx ∧ s.tm 1 = ai a ∧ s.tm 2 = ai ta ∧ s.tm 3 = ai b ∧ s.tm 4 = ai tb ∧ s.tm 5 = lInt l ∧ s.tm 6 = .ptr 0 0 0 1 ∧ s.tm 35 = lInt l ∧ s.tm 36 = ai l.length ∧ s.tm 37 = ai k ∧ Pg.rowAt s.H (0) = some ({ k := 3, es := [eHouse h], ty := 26 })) (l.length) ⟨0, _, rfl, rfl, rfl, ?_, ?_, ?_, ?_, ?_, ?_, ?_, ?_, ?_, ?_, ?_⟩ ?_
      iterate 11 (first | (simp (disch := omega) only [push_cast, simprocAttr, he, ha1, ha2, ha3, ha4, hb1, hb2, hb3, hb4] <;> first | rfl | omega) | omega)
      rintro n s ⟨k, rest, hn, hp0, hp1, hnl, hS⟩
      have hZ : (0 : Nat) ≠ s.nx ∧ s.nx ≠ (0 : Nat) := by omega
      rcases rest with _ | ⟨x, rest⟩
      · have hk := drop_nil hp0
        have hall : l.all neverB = true := by rw [← hp1]; rfl
        repeat' first
          | apply AW.seq | apply AW.region | apply AW.ret | apply AW.block | apply AW.skip | apply AW.exit | apply AW.scope | apply AW.label | apply AWL.nil | apply D.nil
          | refine W.draw cx_mixed (by decide +kernel) ?_
          | ((first | (apply W.step cx_ok; decide) | (apply D.step cx_ok; decide; decide) | apply W.store cx_ok | (apply W.gS; rfl; decide) | (apply D.gS; rfl; decide; decide) | apply AW.cond); (simp (disch := omega) only [push_cast, simprocAttr, hS, hZ, hk, he, ha1, ha2, ha3, ha4, hb1, hb2, hb3, hb4] <;> rfl); all_goals try ((with_reducible intro hI); try first | (cases hI; done) | (simp only [INTS] at hI; try first | (exfalso; omega) | (have hT : True := hI; clear hT hI))))
          | ((first | (apply W.callv cx_ok; decide) | (apply D.callv cx_ok; decide; decide)); (iterate 2 (simp (disch := omega) only [push_cast, simprocAttr, hS, hZ, hk, he, ha1, ha2, ha3, ha4, hb1, hb2, hb3, hb4] <;> rfl)); (with_reducible first | exact gates_ok h hfit.nw); try first | rfl | (simp (disch := omega) only [push_cast, simprocAttr, hS, hZ, hk, he, ha1, ha2, ha3, ha4, hb1, hb2, hb3, hb4] <;> rfl))
          | ((first | apply W.ret1 | apply W.end1); (iterate 2 (try (simp (disch := omega) only [push_cast, simprocAttr, hS, hZ, hk, he, ha1, ha2, ha3, ha4, hb1, hb2, hb3, hb4] <;> rfl))))
        all_goals try
          (have hf : isWall h a ta b tb l = false := by
             rw [hIW, hall]; simp only [Bool.true_and, Bool.and_eq_false_iff, decide_eq_false_iff_not]; omega
           show _ = _; rw [hf]; rfl)
        have hI2 : isWall h a ta b tb l = (gates h).all (fineG h l) := by
          rw [hIW, hall, decide_eq_true (by omega), decide_eq_true (by omega)]; rfl
        refine AW.loop (fun n s => ∃ (k : Nat) (rest : List Gate), n = rest.length ∧ ((gates h).drop k = rest) ∧ (rest.all (fineG h l) = (gates h).all (fineG h l)) ∧ 1 ≤ s.nx ∧ s.tm 5 = lInt l ∧ s.tm 6 = .ptr 0 0 0 1 ∧ s.tm 63 = .lst ((gates h).map eGate) ∧ s.tm 64 = ai (gates h).length ∧ s.tm 65 = ai k ∧ Pg.rowAt s.H (0) = some ({ k := 3, es := [eHouse h], ty := 26 })) ((gates h).length) ⟨0, _, rfl, rfl, rfl, ?_, ?_, ?_, ?_, ?_, ?_, ?_⟩ ?_
        iterate 7 (first | (simp (disch := omega) only [push_cast, simprocAttr, hS, hZ, hk, he, ha1, ha2, ha3, ha4, hb1, hb2, hb3, hb4] <;> first | rfl | omega) | omega)
        rintro n2 s2 ⟨k2, rest2, hn2, hp02, hp12, hnl2, hS2⟩
        have hZ2 : (0 : Nat) ≠ s2.nx ∧ s2.nx ≠ (0 : Nat) := by omega
        rcases rest2 with _ | ⟨x2, rest2⟩
        · have hk2 := drop_nil hp02
          repeat' first
            | apply AW.seq | apply AW.region | apply AW.ret | apply AW.block | apply AW.skip | apply AW.exit | apply AW.scope | apply AW.label | apply AWL.nil | apply D.nil
            | refine W.draw cx_mixed (by decide +kernel) ?_
            | ((first | (apply W.step cx_ok; decide) | (apply D.step cx_ok; decide; decide) | apply W.store cx_ok | (apply W.gS; rfl; decide) | (apply D.gS; rfl; decide; decide) | apply AW.cond); (simp (disch := omega) only [push_cast, simprocAttr, hS2, hZ2, hk2] <;> rfl); all_goals try ((with_reducible intro hI); try first | (cases hI; done) | (simp only [INTS] at hI; try first | (exfalso; omega) | (have hT : True := hI; clear hT hI))))
            | ((first | apply W.ret1 | apply W.end1); (iterate 2 (try (simp (disch := omega) only [push_cast, simprocAttr, hS2, hZ2, hk2] <;> rfl))))
          all_goals (show _ = _; rw [hI2, ← hp12]; rfl)
        · obtain ⟨hk2, hg2, hd'2, hl'2, hm2, hx2⟩ := drop_cons hp02 eGate []
          have hgo := gate_ok hv hm2
          have g1 := hgo.from'.1
          have g2 : x2.from' < (l.length : Int) := by have := hgo.from'.2; omega
          have g3 := hgo.to.1
          have g4 : x2.to < (l.length : Int) := by have := hgo.to.2; omega
          have g5 : x2.from'.toNat < l.length := by omega
          have g6 : x2.to.toNat < l.length := by omega
          have hx0 : neverB (l.getD x2.from'.toNat 0) = true := List.all_eq_true.1 hall _ (List.mem_of_getElem? (getD_set' l x2.from'.toNat 0 g5))
          simp only [neverB, Bool.and_eq_true, decide_eq_true_eq] at hx0
          repeat' first
            | apply AW.seq | apply AW.region | apply AW.ret | apply AW.block | apply AW.skip | apply AW.exit | apply AW.scope | apply AW.label | apply AWL.nil | apply D.nil
            | refine W.draw cx_mixed (by decide +kernel) ?_
            | ((first | (apply W.step cx_ok; decide) | (apply D.step cx_ok; decide; decide) | apply W.store cx_ok | (apply W.gS; rfl; decide) | (apply D.gS; rfl; decide; decide) | apply AW.cond); (simp (disch := omega) only [push_cast, simprocAttr, hS2, hZ2, hk2, hg2, g1, g2, g3, g4, g5, g6] <;> rfl); all_goals try ((with_reducible intro hI); try first | (cases hI; done) | (simp only [INTS] at hI; try first | (exfalso; omega) | (have hT : True := hI; clear hT hI))))
            | ((first | (apply W.callv cx_ok; decide) | (apply D.callv cx_ok; decide; decide)); (iterate 2 (simp (disch := omega) only [push_cast, simprocAttr, hS2, hZ2, hk2, hg2, g1, g2, g3, g4, g5, g6] <;> rfl)); (with_reducible first | exact time_ok _ | exact enter_ok h x2 _ hv hgo (by omega) (by omega)); try first | rfl | (simp (disch := omega) only [push_cast, simprocAttr, hS2, hZ2, hk2, hg2, g1, g2, g3, g4, g5, g6] <;> rfl))
            | ((first | apply W.ret1 | apply W.end1); (iterate 2 (try (simp (disch := omega) only [push_cast, simprocAttr, hS2, hZ2, hk2, hg2, g1, g2, g3, g4, g5, g6] <;> rfl))))
          all_goals first
            | (have hq : fineG h l x2 = true := by
                 simp only [fineG, timeB, Bool.not_eq_true', Bool.and_eq_false_iff, decide_eq_false_iff_not]; omega
               rw [List.all_cons, hq, Bool.true_and] at hp12
               (refine ⟨rest2.length, ?_, k2 + 1, rest2, rfl, hd'2, hp12, ?_, ?_, ?_, ?_, ?_, ?_, ?_⟩; ((simp only [List.length_cons] at *; omega)); all_goals first | (simp (disch := omega) only [push_cast, simprocAttr, hS2, hZ2, hg2, hk2] <;> first | rfl | omega) | omega))
            | (have hq : fineG h l x2 = false := by
                 simp only [fineG, timeB, Bool.not_eq_false', Bool.and_eq_true, decide_eq_true_eq]; omega
               show _ = _; rw [hI2, ← hp12, List.all_cons, hq]; rfl)
      · obtain ⟨hk, hg, hd', hl', hm, hx⟩ := drop_cons hp0 eInt []
        repeat' first
          | apply AW.seq | apply AW.region | apply AW.ret | apply AW.block | apply AW.skip | apply AW.exit | apply AW.scope | apply AW.label | apply AWL.nil | apply D.nil
          | refine W.draw cx_mixed (by decide +kernel) ?_
          | ((first | (apply W.step cx_ok; decide) | (apply D.step cx_ok; decide; decide) | apply W.store cx_ok | (apply W.gS; rfl; decide) | (apply D.gS; rfl; decide; decide) | apply AW.cond); (simp (disch := omega) only [push_cast, simprocAttr, hS, hZ, hk, hg, he, ha1, ha2, ha3, ha4, hb1, hb2, hb3, hb4] <;> rfl); all_goals try ((with_reducible intro hI); try first | (cases hI; done) | (simp only [INTS] at hI; try first | (exfalso; omega) | (have hT : True := hI; clear hT hI))))
          | ((first | apply W.ret1 | apply W.end1); (iterate 2 (try (simp (disch := omega) only [push_cast, simprocAttr, hS, hZ, hk, hg, he, ha1, ha2, ha3, ha4, hb1, hb2, hb3, hb4] <;> rfl))))
        all_goals first
          | (have hq : neverB x = false := by simp only [neverB, Bool.and_eq_false_iff, decide_eq_false_iff_not]; omega
             show _ = _; rw [hIW, ← hp1, List.all_cons, hq]; rfl)
          | (have hq : neverB x = true := by simp only [neverB, Bool.and_eq_true, decide_eq_true_eq]; omega
             rw [List.all_cons, hq, Bool.true_and] at hp1
             (refine ⟨rest.length, ?_, k + 1, rest, rfl, hd', hp1, ?_, ?_, ?_, ?_, ?_, ?_, ?_, ?_, ?_, ?_, ?_⟩; ((simp only [List.length_cons] at *; omega)); all_goals first | (simp (disch := omega) only [push_cast, simprocAttr, hS, hZ, hg, hk] <;> first | rfl | omega) | omega))
    · have hle : ¬ (l.length : Int) = (h.rooms.length : Int) := by omega
      have hIW : isWall h a ta b tb l = false := by unfold isWall; rw [decide_eq_false hln]; rfl
      refine OKat.of_body (rs := [12]) Tryd.func36 rfl (by decide +kernel) rfl (by simp [Tryd.ntmps36]) ?_
      simp only [Tryd.ntmps36]
      repeat' first
        | apply AW.seq | apply AW.region | apply AW.ret | apply AW.block | apply AW.skip | apply AW.exit | apply AW.scope | apply AW.label | apply AWL.nil | apply D.nil
        | refine W.draw cx_mixed (by decide +kernel) ?_
        | ((first | (apply W.step cx_ok; decide) | (apply D.step cx_ok; decide; decide) | apply W.store cx_ok | (apply W.gS; rfl; decide) | (apply D.gS; rfl; decide; decide) | apply AW.cond); (simp (disch := omega) only [push_cast, simprocAttr, he] <;> rfl); all_goals try ((with_reducible intro hI); try first | (cases hI; done) | (simp only [INTS] at hI; try first | (exfalso; omega) | (have hT : True := hI; clear hT hI))))
        | ((first | (apply W.callv cx_ok; decide) | (apply D.callv cx_ok; decide; decide)); (iterate 2 (simp (disch := omega) only [push_cast, simprocAttr, he] <;> rfl)); (with_reducible first | exact askedTwo_ok _ _ _ _ _ hfit); try first | rfl | (simp (disch := omega) only [push_cast, simprocAttr, he] <;> rfl))
        | ((first | apply W.ret1 | apply W.end1); (iterate 2 (try (simp (disch := omega) only [push_cast, simprocAttr, he] <;> rfl))))
      all_goals (show _ = _; rw [hIW]; rfl)
  · have hW : checkWallH h a ta b tb l = askedE h [a, b] [ta, tb] := if_pos he
    refine OKat.of_body (rs := [12]) Tryd.func36 rfl (by decide +kernel) rfl (by simp [Tryd.ntmps36]) ?_
    simp only [Tryd.ntmps36]
    repeat' first
      | apply AW.seq | apply AW.region | apply AW.ret | apply AW.block | apply AW.skip | apply AW.exit | apply AW.scope | apply AW.label | apply AWL.nil | apply D.nil
      | refine W.draw cx_mixed (by decide +kernel) ?_
      | ((first | (apply W.step cx_ok; decide) | (apply D.step cx_ok; decide; decide) | apply W.store cx_ok | (apply W.gS; rfl; decide) | (apply D.gS; rfl; decide; decide) | apply AW.cond); (simp (disch := omega) only [push_cast, simprocAttr, he] <;> rfl); all_goals try ((with_reducible intro hI); try first | (cases hI; done) | (simp only [INTS] at hI; try first | (exfalso; omega) | (have hT : True := hI; clear hT hI))))
      | ((first | (apply W.callv cx_ok; decide) | (apply D.callv cx_ok; decide; decide)); (iterate 2 (simp (disch := omega) only [push_cast, simprocAttr, he] <;> rfl)); (with_reducible first | exact askedTwo_ok _ _ _ _ _ hfit); try first | rfl | (simp (disch := omega) only [push_cast, simprocAttr, he] <;> rfl))
      | ((first | apply W.ret1 | apply W.end1); (iterate 2 (try (simp (disch := omega) only [push_cast, simprocAttr, he] <;> rfl))))
    all_goals (show _ = _; rw [hW])

end Go.Proofs.Hs
