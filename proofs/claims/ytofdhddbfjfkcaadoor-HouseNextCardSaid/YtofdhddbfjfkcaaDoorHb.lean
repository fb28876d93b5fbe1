/-
  What the house's checks, gates and walks compute, and the plain laws about them. No conditions.
-/
import Derived.Test.YtofdhddbfjfkcaaDoorPgb
import Derived.Test.YtofdhddbfjfkcaaDoorHa
set_option linter.unusedSimpArgs false
set_option linter.unusedVariables false
namespace Go.Proofs.Hs
open Go Go.Pg Go.Proofs

/-! ## Houses that are not too large -/
def fewD (d : Door) : Bool := decide (d.hours.length ≤ 12) && decide (d.shut.length ≤ 12)
def few (h : House) : Bool := if 30 < h.rooms.length ∨ 20 < h.doors.length ∨ 70 < h.ways.length then false else h.doors.all fewD

/-! ## Names -/
theorem namedL_eq (n : Nat) : ∀ l, namedL n l = ((decide (1 ≤ (n : Int)) && decide ((n : Int) ≤ 16)) && l.all goodC)
  | [] => by simp [namedL]
  | b :: rest => by
    simp only [namedL, List.all_cons]
    split
    · rename_i h; rw [h, Bool.true_and]; exact namedL_eq n rest
    · rename_i h; simp [h]
theorem named_eq (s : ByteArray) : named s = Name s := namedL_eq s.size s.data.toList

/-! ## Orderly lists of spans -/
def Ord (most : Int) (l : List Span) : Prop := (∀ x ∈ l, 0 ≤ x.lo ∧ x.lo ≤ x.hi ∧ x.hi ≤ most) ∧ l.Pairwise (fun a b => a.hi + 2 ≤ b.lo)

theorem orderlyL_iff (most : Int) (hm : most ≤ 2147483648) (n : Nat) : ∀ (l : List Span) (least : Int), 0 ≤ least →
    (orderlyL most n l least = true ↔ (n ≤ 8 ∧ (∀ x ∈ l, least ≤ x.lo ∧ x.lo ≤ x.hi ∧ x.hi ≤ most) ∧ l.Pairwise (fun a b => a.hi + 2 ≤ b.lo)))
  | [], least, h0 => by simp [orderlyL]; omega
  | x :: rest, least, h0 => by
    unfold orderlyL
    split
    · rename_i h
      constructor
      · intro h'; cases h'
      · rintro ⟨_, h2, _⟩
        have := h2 x (by simp)
        omega
    · rename_i h
      have hx : least ≤ x.lo ∧ x.lo ≤ x.hi ∧ x.hi ≤ most := by omega
      rw [wrapN (by omega), orderlyL_iff most hm n rest (x.hi + 2) (by omega)]
      constructor
      · rintro ⟨h1, h2, h3⟩
        refine ⟨h1, fun y hy => ?_, List.pairwise_cons.2 ⟨fun y hy => (h2 y hy).1, h3⟩⟩
        rcases List.mem_cons.1 hy with rfl | hy
        · exact hx
        · have := h2 y hy; omega
      · rintro ⟨h1, h2, h3⟩
        obtain ⟨h4, h5⟩ := List.pairwise_cons.1 h3
        refine ⟨h1, fun y hy => ?_, h5⟩
        have := h4 y hy
        have := h2 y (by simp [hy])
        omega

theorem orderly_iff {l : List Span} {most : Int} (hm : most ≤ 2147483648) : orderly l most = true ↔ l.length ≤ 8 ∧ Ord most l :=
  orderlyL_iff most hm l.length l 0 (Int.le_refl _)

/-- The document's. -/
def OrdL (most : Int) : Option Span → List Span → Bool
  | _, [] => true
  | none, x :: rest => if x.hi < x.lo ∨ x.lo < 0 ∨ most < x.lo ∨ x.hi < 0 ∨ most < x.hi then false else OrdL most (some x) rest
  | some p, x :: rest => if x.hi < x.lo ∨ x.lo < 0 ∨ most < x.lo ∨ x.hi < 0 ∨ most < x.hi then false else if x.lo ≤ p.hi + 1 then false else OrdL most (some x) rest
def Orderly (l : List Span) (most : Int) : Bool := if 8 < l.length then false else OrdL most none l

theorem OrdL_iff (most : Int) : ∀ (l : List Span) (p : Span), OrdL most (some p) l = true ↔ ((∀ x ∈ l, 0 ≤ x.lo ∧ x.lo ≤ x.hi ∧ x.hi ≤ most) ∧ (p :: l).Pairwise (fun a b => a.hi + 2 ≤ b.lo))
  | [], p => by simp [OrdL]
  | x :: rest, p => by
    unfold OrdL
    split
    · rename_i h
      constructor
      · intro h'; cases h'
      · rintro ⟨h2, _⟩; have := h2 x (by simp); omega
    · rename_i h
      split
      · rename_i h1
        constructor
        · intro h'; cases h'
        · rintro ⟨_, h3⟩
          have := (List.pairwise_cons.1 h3).1 x (by simp); omega
      · rename_i h1
        rw [OrdL_iff most rest x]
        constructor
        · rintro ⟨h2, h3⟩
          refine ⟨fun y hy => ?_, List.pairwise_cons.2 ⟨fun y hy => ?_, h3⟩⟩
          · rcases List.mem_cons.1 hy with rfl | hy
            · omega
            · exact h2 y hy
          · rcases List.mem_cons.1 hy with rfl | hy
            · omega
            · have := (List.pairwise_cons.1 h3).1 y hy
              have := h2 y hy; omega
        · rintro ⟨h2, h3⟩
          exact ⟨fun y hy => h2 y (by simp [hy]), (List.pairwise_cons.1 h3).2⟩

theorem Orderly_iff {l : List Span} {most : Int} : Orderly l most = true ↔ l.length ≤ 8 ∧ Ord most l := by
  unfold Orderly
  split
  · rename_i h
    constructor
    · intro h'; cases h'
    · rintro ⟨h1, _⟩; omega
  · rename_i h
    have h8 : l.length ≤ 8 := by omega
    cases l with
    | nil => simp [OrdL, Ord]
    | cons x rest =>
      unfold OrdL
      split
      · rename_i h1
        constructor
        · intro h'; cases h'
        · rintro ⟨_, h2, _⟩; have := h2 x (by simp); omega
      · rename_i h1
        rw [OrdL_iff]
        constructor
        · rintro ⟨h2, h3⟩
          refine ⟨h8, fun y hy => ?_, h3⟩
          rcases List.mem_cons.1 hy with rfl | hy
          · omega
          · exact h2 y hy
        · rintro ⟨_, h2, h3⟩
          exact ⟨fun y hy => h2 y (by simp [hy]), h3⟩

theorem orderly_eq (l : List Span) (most : Int) (hm : most ≤ 2147483648) : orderly l most = Orderly l most := by
  rw [Bool.eq_iff_iff, orderly_iff hm, Orderly_iff]

/-! ## Check -/
def hasN (pre : List Room) (s : ByteArray) : Bool := pre.any (fun x => s.data.toList == x.name.data.toList)

def chkR (i : Nat) (pre : List Room) : List Room → Option (Int × Int)
  | [] => none
  | r :: rest => if named r.name = true ∧ -60 ≤ r.floor ∧ r.floor ≤ 60 then (if hasN pre r.name = true then some (6, (i : Int)) else chkR (i + 1) (pre ++ [r]) rest) else some (1, (i : Int))

def chkD (i : Nat) : List Door → Option (Int × Int)
  | [] => none
  | d :: rest => if orderly d.hours 86399 = true ∧ orderly d.shut 1073741823 = true then chkD (i + 1) rest else some (1, (i : Int))

def Way.OK (nr nd : Nat) (w : Way) : Prop := (0 ≤ w.a ∧ w.a < (nr : Int)) ∧ (0 ≤ w.b ∧ w.b < (nr : Int)) ∧ w.a ≠ w.b ∧ (1 ≤ w.secs ∧ w.secs ≤ 3600) ∧ (0 ≤ w.back ∧ w.back ≤ 3600) ∧ (-1 ≤ w.door ∧ w.door < (nd : Int))
instance (nr nd : Nat) (w : Way) : Decidable (w.OK nr nd) := by unfold Way.OK; infer_instance

def chkW (nr nd : Nat) (i : Nat) : List Way → Option (Int × Int)
  | [] => none
  | w :: rest => if w.OK nr nd then chkW nr nd (i + 1) rest else some (1, (i : Int))

def chk3 (h : House) : Int × Int := match chkW h.rooms.length h.doors.length 0 h.ways with
  | some e => e
  | none => (0, -1)
def chk2 (h : House) : Int × Int := match chkD 0 h.doors with
  | some e => e
  | none => chk3 h
def chk1 (h : House) : Int × Int := match chkR 0 [] h.rooms with
  | some e => e
  | none => chk2 h
def Check (h : House) : Int × Int :=
  if h.rooms.length = 0 then (1, -1) else if 24 < h.rooms.length ∨ 16 < h.doors.length ∨ 60 < h.ways.length then (2, -1) else chk1 h

/-- What is asked of the lengths of a house, so that its check can count. -/
structure House.Fit (h : House) : Prop where
  names : ∀ r ∈ h.rooms, r.name.size ≤ 9223372036854775807
  doors : ∀ d ∈ h.doors, d.hours.length ≤ 1048576 ∧ d.shut.length ≤ 1048576
  rooms : h.rooms.length ≤ 1048576
  nd : h.doors.length ≤ 1048576
  nw : h.ways.length ≤ 1048576

abbrev eSeen (r : Room) : ByteArray × AV := (r.name, .v (.bool true))
theorem seen_look (s : ByteArray) : ∀ pre : List Room, pickM (.v (.bool false)) false (findM s (pre.map eSeen)) = .v (.bool (hasN pre s))
  | [] => rfl
  | r :: rest => by
    have ih := seen_look s rest
    simp only [List.map_cons, findM, hasN, List.any_cons]
    by_cases h : (s.data.toList == r.name.data.toList) = true
    · rw [if_pos h, h]; rfl
    · rw [if_neg h]
      have h' : (s.data.toList == r.name.data.toList) = false := by simpa using h
      rw [h', Bool.false_or]; exact ih
theorem seen_put (x : Room) : ∀ pre : List Room, hasN pre x.name = false → putM x.name (.v (.bool true)) (pre.map eSeen) = (pre ++ [x]).map eSeen
  | [], _ => rfl
  | r :: rest, h => by
    simp only [hasN, List.any_cons, Bool.or_eq_false_iff] at h
    simp only [List.map_cons, putM, List.cons_append]
    rw [if_neg (by rw [h.1]; simp), seen_put x rest h.2]

structure Door.V (d : Door) : Prop where
  hours : d.hours.length ≤ 8 ∧ Ord 86399 d.hours
  shut : d.shut.length ≤ 8 ∧ Ord 1073741823 d.shut
theorem Door.V.ok {d : Door} (h : d.V) : d.OK := ⟨h.hours.2.1, h.shut.2.1, h.hours.1, h.shut.1⟩

/-- What a valid house is. -/
structure House.V (h : House) : Prop where
  rooms : 1 ≤ h.rooms.length ∧ h.rooms.length ≤ 24
  nd : h.doors.length ≤ 16
  nw : h.ways.length ≤ 60
  doors : ∀ d ∈ h.doors, d.V
  ways : ∀ w ∈ h.ways, w.OK h.rooms.length h.doors.length

theorem chkR_ne0 : ∀ (l : List Room) (i : Nat) (pre : List Room) (e : Int × Int), chkR i pre l = some e → e.1 ≠ 0
  | [], _, _, _, h => by cases h
  | r :: rest, i, pre, e, h => by
    unfold chkR at h
    split at h
    · split at h
      · injection h with h; subst h; simp
      · exact chkR_ne0 rest _ _ e h
    · injection h with h; subst h; simp
theorem chkD_ne0 : ∀ (l : List Door) (i : Nat) (e : Int × Int), chkD i l = some e → e.1 ≠ 0
  | [], _, _, h => by cases h
  | r :: rest, i, e, h => by
    unfold chkD at h
    split at h
    · exact chkD_ne0 rest _ e h
    · injection h with h; subst h; simp
theorem chkW_ne0 (nr nd : Nat) : ∀ (l : List Way) (i : Nat) (e : Int × Int), chkW nr nd i l = some e → e.1 ≠ 0
  | [], _, _, h => by cases h
  | r :: rest, i, e, h => by
    unfold chkW at h
    split at h
    · exact chkW_ne0 nr nd rest _ e h
    · injection h with h; subst h; simp
theorem chkD_none : ∀ (l : List Door) (i : Nat), chkD i l = none → ∀ d ∈ l, d.V
  | [], _, _ => by simp
  | r :: rest, i, h => by
    unfold chkD at h
    split at h
    · rename_i hc
      intro d hd
      rcases List.mem_cons.1 hd with rfl | hd
      · exact ⟨(orderly_iff (by decide)).1 hc.1, (orderly_iff (by decide)).1 hc.2⟩
      · exact chkD_none rest _ h d hd
    · cases h
theorem chkW_none (nr nd : Nat) : ∀ (l : List Way) (i : Nat), chkW nr nd i l = none → ∀ w ∈ l, w.OK nr nd
  | [], _, _ => by simp
  | r :: rest, i, h => by
    unfold chkW at h
    split at h
    · rename_i hc
      intro d hd
      rcases List.mem_cons.1 hd with rfl | hd
      · exact hc
      · exact chkW_none nr nd rest _ h d hd
    · cases h

theorem Check_V {h : House} (hc : (Check h).1 = 0) : h.V := by
  unfold Check at hc
  split at hc
  · cases hc
  · split at hc
    · cases hc
    · rename_i h0 h1
      unfold chk1 at hc
      split at hc
      · rename_i e he; exact absurd hc (chkR_ne0 _ _ _ _ he)
      · unfold chk2 at hc
        split at hc
        · rename_i e he; exact absurd hc (chkD_ne0 _ _ _ he)
        · rename_i hd
          unfold chk3 at hc
          split at hc
          · rename_i e he; exact absurd hc (chkW_ne0 _ _ _ _ _ he)
          · rename_i hw
            exact ⟨by omega, by omega, by omega, chkD_none _ _ hd, chkW_none _ _ _ _ hw⟩

/-! ## Doors that are open -/
theorem inS_iff : ∀ (l : List Span) (n : Int), inS l n = true ↔ ∃ x ∈ l, x.lo ≤ n ∧ n ≤ x.hi
  | [], n => by simp [inS]
  | x :: rest, n => by
    unfold inS
    split
    · rename_i h; simp only [true_iff]; exact ⟨x, by simp, h⟩
    · rename_i h
      rw [inS_iff rest n]
      constructor
      · rintro ⟨y, hy, h1⟩; exact ⟨y, by simp [hy], h1⟩
      · rintro ⟨y, hy, h1⟩
        rcases List.mem_cons.1 hy with rfl | hy
        · exact absurd h1 h
        · exact ⟨y, hy, h1⟩
theorem over_iff : ∀ (l : List Span) (n : Int), (over l n).2 = inS l n
  | [], n => rfl
  | x :: rest, n => by
    unfold over inS
    split
    · rfl
    · exact over_iff rest n

theorem firstL_spec (t day : Int) : ∀ (l : List Span) (n : Int), firstL t day l = some n → ∃ x ∈ l, n = max t (day + x.lo) ∧ n ≤ day + x.hi ∧ n ≤ 1073741823
  | [], n, h => by cases h
  | x :: rest, n, h => by
    unfold firstL at h
    split at h
    · rename_i hc; injection h with h; exact ⟨x, by simp, h.symm, by omega, by omega⟩
    · obtain ⟨y, hy, h1⟩ := firstL_spec t day rest n h; exact ⟨y, by simp [hy], h1⟩

theorem firstL_in (t day : Int) (ht : t ≤ 1073741823) : ∀ (l : List Span), l.Pairwise (fun a b => a.hi + 2 ≤ b.lo) → (∀ x ∈ l, x.lo ≤ x.hi) → (∃ x ∈ l, day + x.lo ≤ t ∧ t ≤ day + x.hi) → firstL t day l = some t
  | [], _, _, ⟨x, hx, _⟩ => by simp at hx
  | y :: rest, hp, hv, ⟨x, hx, h1⟩ => by
    obtain ⟨p1, p2⟩ := List.pairwise_cons.1 hp
    unfold firstL
    rcases List.mem_cons.1 hx with rfl | hx
    · have : max t (day + x.lo) = t := by omega
      rw [this, if_pos (by omega)]
    · have := p1 x hx
      rw [if_neg (by omega)]
      exact firstL_in t day ht rest p2 (fun z hz => hv z (by simp [hz])) ⟨x, hx, h1⟩

theorem first_ge {d : Door} {t n : Int} (h : first d t = some n) : t ≤ n ∧ n ≤ 1073741823 := by
  unfold first firstD at h
  split at h
  · rename_i m hm; injection h with h; obtain ⟨x, _, h1, _⟩ := firstL_spec _ _ _ _ hm; omega
  · unfold firstD at h
    split at h
    · rename_i m hm; injection h with h; obtain ⟨x, _, h1, _⟩ := firstL_spec _ _ _ _ hm; omega
    · simp [firstD] at h

theorem nextL_ge (d : Door) (hd : ∀ s ∈ d.shut, s.lo ≤ s.hi) : ∀ (f : Nat) (t : Int), t ≤ 1073741824 → (∀ s ∈ d.shut, s.hi ≤ 1073741823) → t ≤ nextL d f t
  | 0, t, h, _ => h
  | f + 1, t, h, hs => by
    unfold nextL
    split
    · rename_i hsome
      obtain ⟨n, hn⟩ := Option.isSome_iff_exists.1 hsome
      have hg := first_ge hn
      simp only [hn, Option.getD_some]
      split
      · rename_i ho
        have hm := over_mem d.shut n ho
        have hb := hs _ hm.1
        have := nextL_ge d hd f ((over d.shut n).1.hi + 1) (by omega) hs
        omega
      · omega
    · exact h

/-- At a time a valid door is open exactly if that is the next time at which it is. -/
theorem next_open {d : Door} (hd : d.V) {t : Int} (h0 : 0 ≤ t) (h1 : t ≤ 1073741823) : (next d t = t ↔ openR d t = true) := by
  have hday : t / 86400 * 86400 ≤ t ∧ t < t / 86400 * 86400 + 86400 := by omega
  have hmod : t.tmod 86400 = t - t / 86400 * 86400 := by rw [tmodN h0]; omega
  have hov := over_iff d.shut t
  have hvh := hd.hours.2.1
  have hvs := hd.shut.2.1
  have hs1 : ∀ s ∈ d.shut, s.lo ≤ s.hi := fun s hs => (hvs s hs).2.1
  have hs2 : ∀ s ∈ d.shut, s.hi ≤ 1073741823 := fun s hs => (hvs s hs).2.2
  unfold openR next
  rw [Bool.and_eq_true, inS_iff, hmod]
  constructor
  · intro hn
    unfold nextL at hn
    split at hn
    · rename_i hsome
      obtain ⟨n, hf⟩ := Option.isSome_iff_exists.1 hsome
      have hg := first_ge hf
      simp only [hf, Option.getD_some] at hn
      split at hn
      · rename_i ho
        have hm := over_mem d.shut n ho
        have hb := hs2 _ hm.1
        have := nextL_ge d hs1 16 ((over d.shut n).1.hi + 1) (by omega) hs2
        omega
      · rename_i ho
        subst hn
        refine ⟨?_, by rw [← hov]; simpa using ho⟩
        unfold first firstD at hf
        split at hf
        · rename_i m hm
          injection hf with hf; subst hf
          obtain ⟨x, hx, g1, g2, g3⟩ := firstL_spec _ _ _ _ hm
          exact ⟨x, hx, by omega, by omega⟩
        · unfold firstD at hf
          split at hf
          · rename_i m hm
            injection hf with hf; subst hf
            obtain ⟨x, hx, g1, g2, g3⟩ := firstL_spec _ _ _ _ hm
            have := hvh x hx
            omega
          · simp [firstD] at hf
    · omega
  · rintro ⟨⟨x, hx, g1, g2⟩, hns⟩
    have hfl : firstL t (t / 86400 * 86400) d.hours = some t := firstL_in _ _ h1 _ hd.hours.2.2 (fun s hs => (hvh s hs).2.1) ⟨x, hx, by omega, by omega⟩
    have hf : first d t = some t := by unfold first firstD; rw [hfl]
    unfold nextL
    have hov' : (over d.shut t).2 = false := by rw [hov]; simpa using hns
    simp [hf, hov']

/-! ## What is asked of rooms and times -/
def roomB (h : House) (n : Int) : Bool := decide (0 ≤ n) && decide (n < (h.rooms.length : Int))
def timeB (t : Int) : Bool := decide (0 ≤ t) && decide (t ≤ 1073741823)
def askedE (h : House) (rs ts : List Int) : Int := if (Check h).1 ≠ 0 then (Check h).1 else if rs.all (roomB h) = true then (if ts.all timeB = true then 0 else 1) else 1

def roomE (h : House) (n t : Int) : Int := if (Check h).1 ≠ 0 then (Check h).1 else if ¬ (0 ≤ n ∧ n < (h.rooms.length : Int)) ∨ ¬ (0 ≤ t ∧ t ≤ 1073741823) then 1 else 0
theorem askedE_one (h : House) (n t : Int) : askedE h [n] [t] = roomE h n t := by
  unfold askedE roomE
  split
  · rfl
  · simp only [List.all_cons, List.all_nil, Bool.and_true, roomB, timeB, Bool.and_eq_true, decide_eq_true_eq]
    split <;> rename_i h1
    · split <;> rename_i h2
      · rw [if_neg (by omega)]
      · rw [if_pos (by omega)]
    · rw [if_pos (by omega)]
def prv (l : List Span) (k : Nat) : Option Span := if k = 0 then none else l[k - 1]?
theorem hasN_cons (y : Room) (r : List Room) (s : ByteArray) : hasN (y :: r) s = ((y.name.data.toList == s.data.toList) || hasN r s) := by
  simp only [hasN, List.any_cons, BEq.comm]
theorem take_drop_cons {α β : Type} {l : List α} {k j : Nat} {y : α} {r : List α} (hk : k ≤ l.length) (h : (l.take k).drop j = y :: r) (e : α → β) (d : β) :
    ((j : Int) < (k : Int)) ∧ ((j : Int) < (l.length : Int)) ∧ (l.map e).getD j d = e y ∧ (l.take k).drop (j + 1) = r ∧ r.length + j + 1 = k := by
  obtain ⟨h1, h2, h3, h4, h5, h6⟩ := drop_cons h e d
  rw [List.length_take, Nat.min_eq_left hk] at h1 h4
  refine ⟨h1, by omega, ?_, h3, h4⟩
  rw [List.getElem?_map, List.getElem?_take_of_lt (by omega)] at h6
  rw [List.getD_eq_getElem?_getD, List.getElem?_map, h6]; rfl

/-! ## Gates -/
structure Gate where
  way : Int
  back : Bool
  from' : Int
  to : Int
  secs : Int
  door : Int
  deriving DecidableEq
def Gate.zero : Gate := ⟨0, false, 0, 0, 0, 0⟩
abbrev eGate (g : Gate) : List AV := [ai g.way, ab g.back, ai g.from', ai g.to, ai g.secs, ai g.door]
abbrev eGateR (g : Gate) : List AV := [ai g.way, ai g.from', ai g.to, ai g.secs, ai g.door]

def gatesL : Nat → List Way → List Gate
  | _, [] => []
  | i, w :: rest => ⟨i, false, w.a, w.b, w.secs, w.door⟩ :: ((if 0 < w.back then [⟨i, true, w.b, w.a, w.back, w.door⟩] else []) ++ gatesL (i + 1) rest)
def gates (h : House) : List Gate := gatesL 0 h.ways

def isG (way : Int) (back : Bool) (g : Gate) : Bool := g.way == way && g.back == back
def idxG (p : Gate → Bool) : Nat → List Gate → Int
  | _, [] => -1
  | k, g :: rest => if p g = true then (k : Int) else idxG p (k + 1) rest

theorem idxG_find (p : Gate → Bool) : ∀ (l : List Gate) (k : Nat), (match l.find? p with
    | none => idxG p k l = -1
    | some g => (k : Int) ≤ idxG p k l ∧ idxG p k l < k + l.length ∧ l[(idxG p k l - k).toNat]? = some g)
  | [], k => rfl
  | g :: rest, k => by
    unfold idxG
    rw [List.find?_cons]
    by_cases hp : p g = true
    · simp only [hp, if_true]
      refine ⟨Int.le_refl _, by simp only [List.length_cons]; omega, ?_⟩
      simp
    · have hp' : p g = false := by simpa using hp
      simp only [hp', Bool.false_eq_true, if_false]
      have ih := idxG_find p rest (k + 1)
      revert ih
      cases hf : rest.find? p with
      | none => exact fun h => h
      | some g' =>
        rintro ⟨h1, h2, h3⟩
        refine ⟨by omega, by simp only [List.length_cons]; omega, ?_⟩
        have : (idxG p (k + 1) rest - (k : Int)).toNat = (idxG p (k + 1) rest - ((k + 1 : Nat) : Int)).toNat + 1 := by omega
        rw [this, List.getElem?_cons_succ]; exact h3

theorem getD_map {α β : Type} (f : α → β) (l : List α) (i : Nat) (d : β) (e : α) (h : i < l.length) : (l.map f).getD i d = f (l.getD i e) := by
  rw [List.getD_eq_getElem?_getD, List.getD_eq_getElem?_getD, List.getElem?_map, List.getElem?_eq_getElem h]; rfl
theorem take_map_all {α β : Type} (f : α → β) (l : List α) : (l.map f).take l.length = l.map f := by
  rw [List.take_of_length_le (by simp)]
theorem pure_map {α : Type} (f : α → List AV) (hf : ∀ a, pureL (f a) = true) (l : List α) : (l.map f).all pureL = true := by
  rw [List.all_eq_true]; intro x hx; obtain ⟨a, _, rfl⟩ := List.mem_map.1 hx; exact hf a
theorem pure_gate (l : List Gate) : (l.map eGate).all pureL = true := pure_map eGate (fun _ => rfl) l
theorem idxG_lo (p : Gate → Bool) (l : List Gate) : -1 ≤ idxG p 0 l ∧ idxG p 0 l < (l.length : Int) := by
  have := idxG_find p l 0
  split at this <;> omega

theorem gatesL_way : ∀ (l : List Way) (i : Nat) (g : Gate), g ∈ gatesL i l → (i : Int) ≤ g.way
  | [], _, _, h => by simp [gatesL] at h
  | w :: rest, i, g, h => by
    unfold gatesL at h
    rcases List.mem_cons.1 h with rfl | h
    · exact Int.le_refl _
    · rcases List.mem_append.1 h with h | h
      · split at h
        · simp only [List.mem_singleton] at h; subst h; exact Int.le_refl _
        · simp at h
      · have := gatesL_way rest (i + 1) g h; omega

theorem gatesL_find (back : Bool) : ∀ (l : List Way) (i j : Nat) (w : Way), l[j]? = some w → (gatesL i l).find? (isG ((i + j : Nat) : Int) back) =
    if back = false then some ⟨((i + j : Nat) : Int), false, w.a, w.b, w.secs, w.door⟩ else if 0 < w.back then some ⟨((i + j : Nat) : Int), true, w.b, w.a, w.back, w.door⟩ else none
  | [], i, j, w, h => by simp at h
  | x :: rest, i, 0, w, h => by
    simp only [List.getElem?_cons_zero, Option.some.injEq] at h
    subst h
    have hrest : (gatesL (i + 1) rest).find? (isG ((i : Nat) : Int) back) = none := by
      rw [List.find?_eq_none]
      intro g hg
      have := gatesL_way rest (i + 1) g hg
      have hne : ¬ (g.way = (i : Int)) := by omega
      simp [isG, hne]
    unfold gatesL
    cases back with
    | false => simp [isG]
    | true =>
      by_cases hb : 0 < x.back
      · simp [isG, hb]
      · simp [isG, hb]
        intro g hg
        have := gatesL_way rest (i + 1) g hg
        omega
  | x :: rest, i, j + 1, w, h => by
    simp only [List.getElem?_cons_succ] at h
    have ih := gatesL_find back rest (i + 1) j w h
    have e : i + 1 + j = i + (j + 1) := by omega
    rw [e] at ih
    unfold gatesL
    have h1 : isG ((i + (j + 1) : Nat) : Int) back ⟨i, false, x.a, x.b, x.secs, x.door⟩ = false := by
      simp only [isG]
      have : ((i : Int) == ((i + (j + 1) : Nat) : Int)) = false := by rw [beq_eq_false_iff_ne]; omega
      rw [this]; rfl
    rw [List.find?_cons, h1]
    simp only
    rw [List.find?_append]
    have h2 : (if 0 < x.back then [(⟨i, true, x.b, x.a, x.back, x.door⟩ : Gate)] else []).find? (isG ((i + (j + 1) : Nat) : Int) back) = none := by
      split
      · have : ((i : Int) == ((i + (j + 1) : Nat) : Int)) = false := by rw [beq_eq_false_iff_ne]; omega
        simp only [List.find?_cons, isG, this, Bool.false_and, List.find?_nil]
      · rfl
    rw [h2, Option.none_or]
    exact ih

def timeOK (t : Int) : Prop := 0 ≤ t ∧ t ≤ 1073741823
instance (t : Int) : Decidable (timeOK t) := by unfold timeOK; infer_instance

/-- The gate of a way in a direction, and the error: as the program finds it. -/
def gateAsked (h : House) (way : Int) (back : Bool) (t : Int) : Gate × Int :=
  if (Check h).1 ≠ 0 then (.zero, (Check h).1) else if ¬ (0 ≤ way ∧ way < (h.ways.length : Int)) ∨ ¬ timeOK t then (.zero, 1) else
  if idxG (isG way back) 0 (gates h) < 0 then (.zero, 5) else ((gates h).getD (idxG (isG way back) 0 (gates h)).toNat .zero, 0)

/-- .. as the document has it. -/
def askedR (h : House) (way : Int) (back : Bool) (t : Int) : Gate × Int :=
  if (Check h).1 ≠ 0 then (.zero, (Check h).1) else if ¬ (0 ≤ way ∧ way < (h.ways.length : Int)) ∨ ¬ timeOK t then (.zero, 1) else
  let w := h.ways.getD way.toNat ⟨0, 0, 0, 0, 0⟩
  if back = false then (⟨way, false, w.a, w.b, w.secs, w.door⟩, 0) else if w.back = 0 then (.zero, 5) else (⟨way, true, w.b, w.a, w.back, w.door⟩, 0)

theorem gateAsked_eq (h : House) (way : Int) (back : Bool) (t : Int) : gateAsked h way back t = askedR h way back t := by
  unfold gateAsked askedR
  split
  · rfl
  · rename_i hc
    have hv := Check_V (h := h) (by omega)
    split
    · rfl
    · rename_i hw
      have hw' : 0 ≤ way ∧ way < (h.ways.length : Int) := by
        by_cases hx : 0 ≤ way ∧ way < (h.ways.length : Int)
        · exact hx
        · exact absurd (.inl hx) hw
      have hlt : way.toNat < h.ways.length := by omega
      have hg : h.ways[way.toNat]? = some h.ways[way.toNat] := List.getElem?_eq_getElem hlt
      have hgd : h.ways.getD way.toNat ⟨0, 0, 0, 0, 0⟩ = h.ways[way.toNat] := by rw [List.getD_eq_getElem?_getD, hg]; rfl
      have hok := hv.ways _ (List.getElem_mem hlt)
      have hf := gatesL_find back h.ways 0 way.toNat _ hg
      have hn : ((0 + way.toNat : Nat) : Int) = way := by omega
      rw [hn] at hf
      have hi := idxG_find (isG way back) (gates h) 0
      rw [hgd]
      generalize h.ways[way.toNat] = w at *
      have hbk : 0 ≤ w.back := hok.2.2.2.2.1.1
      rw [show (gates h).find? (isG way back) = _ from hf] at hi
      cases back with
      | false =>
        simp only [if_true] at hi ⊢
        obtain ⟨h1, h2, h3⟩ := hi
        rw [if_neg (by omega), List.getD_eq_getElem?_getD]
        simp only [Int.natCast_zero, Int.sub_zero] at h3
        rw [h3]; rfl
      | true =>
        by_cases hb : 0 < w.back
        · simp only [hb, if_true, Bool.true_eq_false, if_false] at hi ⊢
          obtain ⟨h1, h2, h3⟩ := hi
          rw [if_neg (by omega), if_neg (by omega), List.getD_eq_getElem?_getD]
          simp only [Int.natCast_zero, Int.sub_zero] at h3
          rw [h3]; rfl
        · simp only [hb, if_false, Bool.true_eq_false] at hi ⊢
          rw [if_pos (by omega), if_pos (by omega)]

/-! ## Walks -/
def House.door (h : House) (n : Int) : Door := h.doors.getD n.toNat ⟨[], []⟩

/-- Behind one step: room, time, error; as the program has it. -/
def stepH (h : House) (from' t : Int) (s : Step) : Int × Int × Int :=
  if (gateAsked h s.way s.back s.at').2 ≠ 0 then (0, 0, 1) else
  if (gateAsked h s.way s.back s.at').1.from' ≠ from' then (0, 0, 4) else
  if s.at' < t then (0, 0, 3) else
  if 0 ≤ (gateAsked h s.way s.back s.at').1.door ∧ next (h.door (gateAsked h s.way s.back s.at').1.door) s.at' ≠ s.at' then (0, 0, 9) else
  if 1073741823 < s.at' + (gateAsked h s.way s.back s.at').1.secs then (0, 0, 3) else
  ((gateAsked h s.way s.back s.at').1.to, s.at' + (gateAsked h s.way s.back s.at').1.secs, 0)

def walkL (h : House) : List Step → Int → Int → Int × Int × Int
  | [], from', t => (from', t, 0)
  | s :: rest, from', t => if (stepH h from' t s).2.2 ≠ 0 then (0, 0, (stepH h from' t s).2.2) else walkL h rest (stepH h from' t s).1 (stepH h from' t s).2.1

/-- .. as the document has it. -/
def stepR (h : House) (from' t : Int) (s : Step) : Int × Int × Int :=
  if (askedR h s.way s.back s.at').2 ≠ 0 then (0, 0, 1) else
  if (askedR h s.way s.back s.at').1.from' ≠ from' then (0, 0, 4) else
  if s.at' < t then (0, 0, 3) else
  if 0 ≤ (askedR h s.way s.back s.at').1.door ∧ openR (h.door (askedR h s.way s.back s.at').1.door) s.at' ≠ true then (0, 0, 9) else
  if 1073741824 ≤ s.at' + (askedR h s.way s.back s.at').1.secs then (0, 0, 3) else
  ((askedR h s.way s.back s.at').1.to, s.at' + (askedR h s.way s.back s.at').1.secs, 0)

def walkR (h : House) : List Step → Int → Int → Int × Int × Int
  | [], from', t => (from', t, 0)
  | s :: rest, from', t => if (stepR h from' t s).2.2 ≠ 0 then (0, 0, (stepR h from' t s).2.2) else walkR h rest (stepR h from' t s).1 (stepR h from' t s).2.1

/-- What is known of a gate that was found. -/
structure Gate.OK (h : House) (g : Gate) : Prop where
  from' : 0 ≤ g.from' ∧ g.from' < (h.rooms.length : Int)
  to : 0 ≤ g.to ∧ g.to < (h.rooms.length : Int)
  secs : 1 ≤ g.secs ∧ g.secs ≤ 3600
  door : -1 ≤ g.door ∧ g.door < (h.doors.length : Int)

theorem askedR_ok {h : House} {way : Int} {back : Bool} {t : Int} (he : (askedR h way back t).2 = 0) : (Check h).1 = 0 ∧ timeOK t ∧ (askedR h way back t).1.OK h := by
  unfold askedR at he ⊢
  split at he
  · rename_i hc; exact absurd he hc
  · rename_i hc
    have hv := Check_V (h := h) (by omega)
    rw [if_neg hc]
    split at he
    · cases he
    · rename_i hw
      rw [if_neg hw]
      have hw' : (0 ≤ way ∧ way < (h.ways.length : Int)) ∧ timeOK t := by
        constructor
        · by_cases hx : 0 ≤ way ∧ way < (h.ways.length : Int)
          · exact hx
          · exact absurd (.inl hx) hw
        · by_cases hx : timeOK t
          · exact hx
          · exact absurd (.inr hx) hw
      refine ⟨by omega, hw'.2, ?_⟩
      have hlt : way.toNat < h.ways.length := by omega
      have hgd : h.ways.getD way.toNat ⟨0, 0, 0, 0, 0⟩ = h.ways[way.toNat] := by rw [List.getD_eq_getElem?_getD, List.getElem?_eq_getElem hlt]; rfl
      obtain ⟨o1, o2, o3, o4, o5, o6⟩ := hv.ways _ (List.getElem_mem hlt)
      dsimp only at he ⊢
      rw [hgd] at he ⊢
      split
      · exact ⟨o1, o2, o4, o6⟩
      · rename_i hb
        rw [if_neg hb] at he
        split at he
        · cases he
        · rename_i hb0
          rw [if_neg hb0]
          exact ⟨o2, o1, by dsimp only; omega, o6⟩

theorem House.V.door {h : House} (hv : h.V) {n : Int} (h0 : 0 ≤ n) (h1 : n < (h.doors.length : Int)) : (h.door n).V := by
  have hlt : n.toNat < h.doors.length := by omega
  have : h.door n = h.doors[n.toNat] := by unfold House.door; rw [List.getD_eq_getElem?_getD, List.getElem?_eq_getElem hlt]; rfl
  rw [this]; exact hv.doors _ (List.getElem_mem hlt)

theorem stepH_eq (h : House) (from' t : Int) (s : Step) : stepH h from' t s = stepR h from' t s := by
  unfold stepH stepR
  rw [gateAsked_eq]
  split
  · rfl
  · rename_i he
    have he0 : (askedR h s.way s.back s.at').2 = 0 := by omega
    obtain ⟨hc, ht, hg⟩ := askedR_ok he0
    have hv := Check_V hc
    generalize (askedR h s.way s.back s.at').1 = g at *
    split
    · rfl
    · split
      · rfl
      · have hiff : (0 ≤ g.door ∧ next (h.door g.door) s.at' ≠ s.at') ↔ (0 ≤ g.door ∧ openR (h.door g.door) s.at' ≠ true) := by
          constructor
          · rintro ⟨a, b⟩
            exact ⟨a, fun hc => b ((next_open (hv.door a hg.door.2) ht.1 ht.2).2 hc)⟩
          · rintro ⟨a, b⟩
            exact ⟨a, fun hc => b ((next_open (hv.door a hg.door.2) ht.1 ht.2).1 hc)⟩
        have hlt : (1073741823 < s.at' + g.secs) ↔ (1073741824 ≤ s.at' + g.secs) := by omega
        simp only [hiff, hlt]

theorem walkL_eq (h : House) : ∀ (l : List Step) (from' t : Int), walkL h l from' t = walkR h l from' t
  | [], _, _ => rfl
  | s :: rest, from', t => by simp only [walkL, walkR, stepH_eq, walkL_eq h rest]

/-- The whole: room, time, error. -/
def Walk (h : House) (from' t : Int) (l : List Step) : Int × Int × Int :=
  if (Check h).1 ≠ 0 then (0, 0, (Check h).1) else if ¬ (0 ≤ from' ∧ from' < (h.rooms.length : Int)) ∨ ¬ (0 ≤ t ∧ t ≤ 1073741823) then (0, 0, 1) else if 60 < l.length then (0, 0, 2) else walkL h l from' t
def WalkR (h : House) (from' t : Int) (l : List Step) : Int × Int × Int :=
  if (Check h).1 ≠ 0 then (0, 0, (Check h).1) else if ¬ (0 ≤ from' ∧ from' < (h.rooms.length : Int)) ∨ ¬ (0 ≤ t ∧ t ≤ 1073741823) then (0, 0, 1) else if 60 < l.length then (0, 0, 2) else walkR h l from' t
theorem roomE_zero {h : House} {n t : Int} (hr : roomE h n t = 0) : (Check h).1 = 0 ∧ (0 ≤ n ∧ n < (h.rooms.length : Int)) ∧ timeOK t := by
  unfold roomE at hr
  split at hr
  · contradiction
  · split at hr
    · cases hr
    · unfold timeOK; omega
theorem Walk_err {h : House} {n t : Int} (l : List Step) (hr : ¬ roomE h n t = 0) : Walk h n t l = (0, 0, roomE h n t) := by
  unfold Walk
  unfold roomE at hr ⊢
  split
  · rfl
  · rename_i hc
    rw [if_neg hc] at hr
    by_cases h1 : ¬ (0 ≤ n ∧ n < (h.rooms.length : Int)) ∨ ¬ (0 ≤ t ∧ t ≤ 1073741823)
    · rw [if_pos h1, if_pos h1]
    · rw [if_neg h1] at hr; exact absurd rfl hr
theorem Walk_zero {h : House} {n t : Int} (l : List Step) (hr : roomE h n t = 0) : Walk h n t l = if 60 < l.length then (0, 0, 2) else walkL h l n t := by
  obtain ⟨h1, h2, h3⟩ := roomE_zero hr
  unfold timeOK at h3
  unfold Walk
  rw [if_neg (by omega), if_neg (by omega)]
theorem WalkR_err {h : House} {n t : Int} (l : List Step) (hr : ¬ roomE h n t = 0) : WalkR h n t l = (0, 0, roomE h n t) := by
  have := Walk_err l hr
  unfold Walk at this
  unfold WalkR
  unfold roomE at hr
  split
  · rename_i hc; rw [if_pos hc] at this; exact this
  · rename_i hc
    rw [if_neg hc] at this hr
    split
    · rename_i h1; rw [if_pos h1] at this; exact this
    · rename_i h1; rw [if_neg h1] at hr; exact absurd rfl hr
theorem WalkR_zero {h : House} {n t : Int} (l : List Step) (hr : roomE h n t = 0) : WalkR h n t l = if 60 < l.length then (0, 0, 2) else walkR h l n t := by
  obtain ⟨h1, h2, h3⟩ := roomE_zero hr
  unfold timeOK at h3
  unfold WalkR
  rw [if_neg (by omega), if_neg (by omega)]
theorem Walk_eq (h : House) (from' t : Int) (l : List Step) : Walk h from' t l = WalkR h from' t l := by
  unfold Walk WalkR; rw [walkL_eq]
end Go.Proofs.Hs

set_option maxHeartbeats 8000000
set_option maxRecDepth 10000
namespace Go.Proofs.Hs
open Go Go.Pg Go.Proofs

theorem few_ok (h : House) : OKv cx 20 [.agg (eHouse h)] (ab (few h)) := by
  refine OKat.of_body (rs := [2]) Tryd.func20 rfl (by decide +kernel) rfl (by simp [Tryd.ntmps20]) ?_
  simp only [Tryd.ntmps20]
  repeat' first
    | apply AW.seq | apply AW.region | apply AW.ret | apply AW.block | apply AW.skip | apply AW.exit | apply AW.scope | apply AW.label | apply AWL.nil
    | ((first | (apply W.step cx_ok; decide) | (apply W.gS; rfl; decide) | apply AW.cond); (simp (disch := omega) only [push_cast, simprocAttr] <;> rfl); all_goals try ((with_reducible intro hI); try first | (cases hI; done) | (simp only [INTS] at hI; try first | (exfalso; omega) | (have hT : True := hI; clear hT hI))))
    | ((first | apply W.ret1 | apply W.end1); (iterate 2 (try (simp (disch := omega) only [push_cast, simprocAttr] <;> rfl))))
  all_goals try (show _ = _; simp only [few]; rw [if_pos (by omega)]; done)
  have hf : few h = h.doors.all fewD := if_neg (by omega)
  rw [hf]
  refine AW.loop (fun n s => ∃ (k : Nat) (rest : List Door), n = rest.length ∧ (h.doors.drop k = rest) ∧ (rest.all fewD = h.doors.all fewD) ∧ 1 ≤ s.nx ∧ s.tm 1 = .ptr 0 0 0 1 ∧ s.tm 3 = ai k ∧ Pg.rowAt s.H (0) = some ({ k := 3, es := [eHouse h], ty := 26 })) (h.doors.length) ⟨0, _, rfl, rfl, rfl, ?_, ?_, ?_, ?_⟩ ?_
  iterate 4 (first | (simp (disch := omega) only [push_cast, simprocAttr] <;> first | rfl | omega) | omega)
  rintro n s ⟨k, rest, hn, hp0, hp1, hnl, hS⟩
  have hZ : (0 : Nat) ≠ s.nx ∧ s.nx ≠ (0 : Nat) := by omega
  rcases rest with _ | ⟨x, rest⟩
  · have hk := drop_nil hp0
    repeat' first
      | apply AW.seq | apply AW.region | apply AW.ret | apply AW.block | apply AW.skip | apply AW.exit | apply AW.scope | apply AW.label | apply AWL.nil
      | ((first | (apply W.step cx_ok; decide) | (apply W.gS; rfl; decide) | apply AW.cond); (simp (disch := omega) only [push_cast, simprocAttr, hS, hZ, hk] <;> rfl); all_goals try ((with_reducible intro hI); try first | (cases hI; done) | (simp only [INTS] at hI; try first | (exfalso; omega) | (have hT : True := hI; clear hT hI))))
      | ((first | apply W.ret1 | apply W.end1); (iterate 2 (try (simp (disch := omega) only [push_cast, simprocAttr, hS, hZ, hk] <;> rfl))))
    all_goals (show _ = _; rw [← hp1]; rfl)
  · obtain ⟨hk, hg, hd', hl', hm, hx⟩ := drop_cons hp0 eDoor []
    repeat' first
      | apply AW.seq | apply AW.region | apply AW.ret | apply AW.block | apply AW.skip | apply AW.exit | apply AW.scope | apply AW.label | apply AWL.nil
      | ((first | (apply W.step cx_ok; decide) | (apply W.gS; rfl; decide) | apply AW.cond); (simp (disch := omega) only [push_cast, simprocAttr, hS, hZ, hk, hg] <;> rfl); all_goals try ((with_reducible intro hI); try first | (cases hI; done) | (simp only [INTS] at hI; try first | (exfalso; omega) | (have hT : True := hI; clear hT hI))))
      | ((first | apply W.ret1 | apply W.end1); (iterate 2 (try (simp (disch := omega) only [push_cast, simprocAttr, hS, hZ, hk, hg] <;> rfl))))
    all_goals first
      | (show _ = _; rw [← hp1]; simp [fewD]; omega)
      | (have hq : fewD x = true := by simp [fewD]; omega
         rw [List.all_cons, hq, Bool.true_and] at hp1
         (refine ⟨rest.length, ?_, k + 1, rest, rfl, hd', hp1, ?_, ?_, ?_, ?_⟩; ((simp only [List.length_cons] at *; omega)); all_goals first | (simp (disch := omega) only [push_cast, simprocAttr, hS, hZ, hg, hk] <;> first | rfl | omega) | omega))

theorem Check_ok (h : House) (hfit : h.Fit) : OKv cx 37 [.agg (eHouse h)] (.tup [ai (Check h).1, ai (Check h).2]) := by
  have hfn := hfit.nd
  have hfr := hfit.rooms
  have hfw := hfit.nw
  refine OKat.of_body (rs := [2, 3]) Tryd.func37 rfl (by decide +kernel) rfl (by simp [Tryd.ntmps37]) ?_
  simp only [Tryd.ntmps37]
  repeat' first
    | apply AW.seq | apply AW.region | apply AW.ret | apply AW.block | apply AW.skip | apply AW.exit | apply AW.scope | apply AW.label | apply AWL.nil
    | ((first | (apply W.step cx_ok; decide) | apply W.store cx_ok | (apply W.gS; rfl; decide) | apply AW.cond | apply W.mapUpdate cx_ok); (simp (disch := omega) only [push_cast, simprocAttr] <;> rfl); all_goals try ((with_reducible intro hI); try first | (cases hI; done) | (simp only [INTS] at hI; try first | (exfalso; omega) | (have hT : True := hI; clear hT hI))))
    | ((apply W.gU; rfl; decide); (simp (disch := omega) only [push_cast, simprocAttr] <;> rfl))
    | (refine W.makeMap cx_ok (by decide) ?_)
    | ((first | apply W.ret2 | apply W.end2); (iterate 2 (try (simp (disch := omega) only [push_cast, simprocAttr] <;> rfl))))
  all_goals try (show _ = _; rw [show Check h = (1, -1) from if_pos (by omega)]; done)
  all_goals try (show _ = _; rw [show Check h = (2, -1) from (if_neg (by omega)).trans (if_pos (by omega))]; done)
  have hC : Check h = chk1 h := (if_neg (by omega)).trans (if_neg (by omega))
  refine AW.loop (fun n s => ∃ (k : Nat) (pre rest : List Room), n = rest.length ∧ (h.rooms.drop k = rest) ∧ (chkR k pre rest = chkR 0 [] h.rooms) ∧ 2 ≤ s.nx ∧ s.tm 1 = .ptr 0 0 0 1 ∧ s.tm 4 = .map 1 ∧ s.tm 33 = .lst (h.rooms.map eRoom) ∧ s.tm 34 = ai h.rooms.length ∧ s.tm 35 = ai k ∧ Pg.rowAt s.H (0) = some ({ k := 3, es := [eHouse h], ty := 26 }) ∧ s.H (1) = some (.mp .map 0 (pre.map eSeen))) (h.rooms.length) ⟨0, [], _, rfl, rfl, rfl, ?_, ?_, ?_, ?_, ?_, ?_, ?_, ?_⟩ ?_
  iterate 8 (first | (simp (disch := omega) only [push_cast, simprocAttr] <;> first | rfl | omega) | omega)
  rintro n s ⟨k, pre, rest, hn, hp0, hp1, hnl, hS⟩
  have hZ : (0 : Nat) ≠ s.nx ∧ s.nx ≠ (0 : Nat) ∧ (1 : Nat) ≠ s.nx ∧ s.nx ≠ (1 : Nat) := by omega
  rcases rest with _ | ⟨x, rest⟩
  · have hk := drop_nil hp0
    repeat' first
      | apply AW.seq | apply AW.region | apply AW.ret | apply AW.block | apply AW.skip | apply AW.exit | apply AW.scope | apply AW.label | apply AWL.nil
      | ((first | (apply W.step cx_ok; decide) | apply W.store cx_ok | (apply W.gS; rfl; decide) | apply AW.cond | apply W.mapUpdate cx_ok); (simp (disch := omega) only [push_cast, simprocAttr, hS, hZ, hk, seen_look] <;> rfl); all_goals try ((with_reducible intro hI); try first | (cases hI; done) | (simp only [INTS] at hI; try first | (exfalso; omega) | (have hT : True := hI; clear hT hI))))
      | ((apply W.gU; rfl; decide); (simp (disch := omega) only [push_cast, simprocAttr, hS, hZ, hk, seen_look] <;> rfl))
      | (refine W.makeMap cx_ok (by decide) ?_)
      | ((apply W.callv cx_ok; decide); (iterate 2 (simp (disch := omega) only [push_cast, simprocAttr, hS, hZ, hk, seen_look] <;> rfl)); (with_reducible first | exact named_ok _ (hfit.names _ hm)); try first | rfl | (simp (disch := omega) only [push_cast, simprocAttr, hS, hZ, hk, seen_look] <;> rfl))
      | ((first | apply W.ret2 | apply W.end2); (iterate 2 (try (simp (disch := omega) only [push_cast, simprocAttr, hS, hZ, hk, seen_look] <;> rfl))))
    have hE1 : Check h = chk2 h := by rw [hC, chk1, ← hp1]; rfl
    refine AW.loop (fun n s => ∃ (k : Nat) (rest : List Door), n = rest.length ∧ (h.doors.drop k = rest) ∧ (chkD k rest = chkD 0 h.doors) ∧ 2 ≤ s.nx ∧ s.tm 1 = .ptr 0 0 0 1 ∧ s.tm 65 = .lst (h.doors.map eDoor) ∧ s.tm 66 = ai h.doors.length ∧ s.tm 67 = ai k ∧ Pg.rowAt s.H (0) = some ({ k := 3, es := [eHouse h], ty := 26 })) (h.doors.length) ⟨0, _, rfl, rfl, rfl, ?_, ?_, ?_, ?_, ?_, ?_⟩ ?_
    iterate 6 (first | (simp (disch := omega) only [push_cast, simprocAttr, hS, hZ, hk] <;> first | rfl | omega) | omega)
    rintro n2 s2 ⟨k2, rest2, hn2, hp02, hp12, hnl2, hS2⟩
    have hZ2 : (0 : Nat) ≠ s2.nx ∧ s2.nx ≠ (0 : Nat) := by omega
    rcases rest2 with _ | ⟨x2, rest2⟩
    · have hk2 := drop_nil hp02
      repeat' first
        | apply AW.seq | apply AW.region | apply AW.ret | apply AW.block | apply AW.skip | apply AW.exit | apply AW.scope | apply AW.label | apply AWL.nil
        | ((first | (apply W.step cx_ok; decide) | apply W.store cx_ok | (apply W.gS; rfl; decide) | apply AW.cond); (simp (disch := omega) only [push_cast, simprocAttr, hS2, hZ2, hk2] <;> rfl); all_goals try ((with_reducible intro hI); try first | (cases hI; done) | (simp only [INTS] at hI; try first | (exfalso; omega) | (have hT : True := hI; clear hT hI))))
        | ((apply W.gU; rfl; decide); (simp (disch := omega) only [push_cast, simprocAttr, hS2, hZ2, hk2] <;> rfl))
        | ((apply W.callv cx_ok; decide); (iterate 2 (simp (disch := omega) only [push_cast, simprocAttr, hS2, hZ2, hk2] <;> rfl)); (with_reducible first | exact orderly_ok _ _ (by have := hfit.doors _ hm2; omega)); try first | rfl | (simp (disch := omega) only [push_cast, simprocAttr, hS2, hZ2, hk2] <;> rfl))
        | ((first | apply W.ret2 | apply W.end2); (iterate 2 (try (simp (disch := omega) only [push_cast, simprocAttr, hS2, hZ2, hk2] <;> rfl))))
      have hE2 : Check h = chk3 h := by rw [hE1, chk2, ← hp12]; rfl
      refine AW.loop (fun n s => ∃ (k : Nat) (rest : List Way), n = rest.length ∧ (h.ways.drop k = rest) ∧ (chkW h.rooms.length h.doors.length k rest = chkW h.rooms.length h.doors.length 0 h.ways) ∧ 2 ≤ s.nx ∧ s.tm 1 = .ptr 0 0 0 1 ∧ s.tm 85 = .lst (h.ways.map eWay) ∧ s.tm 86 = ai h.ways.length ∧ s.tm 87 = ai k ∧ Pg.rowAt s.H (0) = some ({ k := 3, es := [eHouse h], ty := 26 })) (h.ways.length) ⟨0, _, rfl, rfl, rfl, ?_, ?_, ?_, ?_, ?_, ?_⟩ ?_
      iterate 6 (first | (simp (disch := omega) only [push_cast, simprocAttr, hS2, hZ2, hk2] <;> first | rfl | omega) | omega)
      rintro n3 s3 ⟨k3, rest3, hn3, hp03, hp13, hnl3, hS3⟩
      have hZ3 : (0 : Nat) ≠ s3.nx ∧ s3.nx ≠ (0 : Nat) := by omega
      rcases rest3 with _ | ⟨x3, rest3⟩
      · have hk3 := drop_nil hp03
        repeat' first
          | apply AW.seq | apply AW.region | apply AW.ret | apply AW.block | apply AW.skip | apply AW.exit | apply AW.scope | apply AW.label | apply AWL.nil
          | ((first | (apply W.step cx_ok; decide) | apply W.store cx_ok | (apply W.gS; rfl; decide) | apply AW.cond); (simp (disch := omega) only [push_cast, simprocAttr, hS3, hZ3, hk3] <;> rfl); all_goals try ((with_reducible intro hI); try first | (cases hI; done) | (simp only [INTS] at hI; try first | (exfalso; omega) | (have hT : True := hI; clear hT hI))))
          | ((apply W.gU; rfl; decide); (simp (disch := omega) only [push_cast, simprocAttr, hS3, hZ3, hk3] <;> rfl))
          | ((apply W.callv cx_ok; decide); (iterate 2 (simp (disch := omega) only [push_cast, simprocAttr, hS3, hZ3, hk3] <;> rfl)); (with_reducible first | exact index_ok _ _); try first | rfl | (simp (disch := omega) only [push_cast, simprocAttr, hS3, hZ3, hk3] <;> rfl))
          | ((first | apply W.ret2 | apply W.end2); (iterate 2 (try (simp (disch := omega) only [push_cast, simprocAttr, hS3, hZ3, hk3] <;> rfl))))
        all_goals (show _ = _; rw [show Check h = (0, -1) by rw [hE2, chk3, ← hp13]; rfl])
      · obtain ⟨hk3, hg3, hd'3, hl'3, hm3, hx3⟩ := drop_cons hp03 eWay []
        repeat' first
          | apply AW.seq | apply AW.region | apply AW.ret | apply AW.block | apply AW.skip | apply AW.exit | apply AW.scope | apply AW.label | apply AWL.nil
          | ((first | (apply W.step cx_ok; decide) | apply W.store cx_ok | (apply W.gS; rfl; decide) | apply AW.cond); (simp (disch := omega) only [push_cast, simprocAttr, hS3, hZ3, hk3, hg3] <;> rfl); all_goals try ((with_reducible intro hI); try first | (cases hI; done) | (simp only [INTS] at hI; try first | (exfalso; omega) | (have hT : True := hI; clear hT hI))))
          | ((apply W.gU; rfl; decide); (simp (disch := omega) only [push_cast, simprocAttr, hS3, hZ3, hk3, hg3] <;> rfl))
          | ((apply W.callv cx_ok; decide); (iterate 2 (simp (disch := omega) only [push_cast, simprocAttr, hS3, hZ3, hk3, hg3] <;> rfl)); (with_reducible first | exact index_ok _ _); try first | rfl | (simp (disch := omega) only [push_cast, simprocAttr, hS3, hZ3, hk3, hg3] <;> rfl))
          | ((first | apply W.ret2 | apply W.end2); (iterate 2 (try (simp (disch := omega) only [push_cast, simprocAttr, hS3, hZ3, hk3, hg3] <;> rfl))))
        all_goals first
          | (have hq : ¬ x3.OK h.rooms.length h.doors.length := by unfold Way.OK; omega
             have hE3 : Check h = (1, (k3 : Int)) := by rw [hE2, chk3, ← hp13, chkW, if_neg hq]
             show _ = _; rw [hE3]; done)
          | (have hq : x3.OK h.rooms.length h.doors.length := by unfold Way.OK; simp_all; omega
             rw [chkW, if_pos hq] at hp13
             (refine ⟨rest3.length, ?_, k3 + 1, rest3, rfl, hd'3, hp13, ?_, ?_, ?_, ?_, ?_, ?_⟩; ((simp only [List.length_cons] at *; omega)); all_goals first | (simp (disch := omega) only [push_cast, simprocAttr, hS3, hZ3, hg3, hk3] <;> first | rfl | omega) | omega))
    · obtain ⟨hk2, hg2, hd'2, hl'2, hm2, hx2⟩ := drop_cons hp02 eDoor []
      repeat' first
        | apply AW.seq | apply AW.region | apply AW.ret | apply AW.block | apply AW.skip | apply AW.exit | apply AW.scope | apply AW.label | apply AWL.nil
        | ((first | (apply W.step cx_ok; decide) | apply W.store cx_ok | (apply W.gS; rfl; decide) | apply AW.cond); (simp (disch := omega) only [push_cast, simprocAttr, hS2, hZ2, hk2, hg2] <;> rfl); all_goals try ((with_reducible intro hI); try first | (cases hI; done) | (simp only [INTS] at hI; try first | (exfalso; omega) | (have hT : True := hI; clear hT hI))))
        | ((apply W.gU; rfl; decide); (simp (disch := omega) only [push_cast, simprocAttr, hS2, hZ2, hk2, hg2] <;> rfl))
        | ((apply W.callv cx_ok; decide); (iterate 2 (simp (disch := omega) only [push_cast, simprocAttr, hS2, hZ2, hk2, hg2] <;> rfl)); (with_reducible first | exact orderly_ok _ _ (by have := hfit.doors _ hm2; omega)); try first | rfl | (simp (disch := omega) only [push_cast, simprocAttr, hS2, hZ2, hk2, hg2] <;> rfl))
        | ((first | apply W.ret2 | apply W.end2); (iterate 2 (try (simp (disch := omega) only [push_cast, simprocAttr, hS2, hZ2, hk2, hg2] <;> rfl))))
      all_goals first
        | (have hE3 : Check h = (1, (k2 : Int)) := by rw [hE1, chk2, ← hp12, chkD, if_neg (by simp [*])]
           show _ = _; rw [hE3]; done)
        | (rw [chkD, if_pos (by constructor <;> assumption)] at hp12
           (refine ⟨rest2.length, ?_, k2 + 1, rest2, rfl, hd'2, hp12, ?_, ?_, ?_, ?_, ?_, ?_⟩; ((simp only [List.length_cons] at *; omega)); all_goals first | (simp (disch := omega) only [push_cast, simprocAttr, hS2, hZ2, hg2, hk2] <;> first | rfl | omega) | omega))
  · obtain ⟨hk, hg, hd', hl', hm, hx⟩ := drop_cons hp0 eRoom []
    repeat' first
      | apply AW.seq | apply AW.region | apply AW.ret | apply AW.block | apply AW.skip | apply AW.exit | apply AW.scope | apply AW.label | apply AWL.nil
      | ((first | (apply W.step cx_ok; decide) | apply W.store cx_ok | (apply W.gS; rfl; decide) | apply AW.cond | apply W.mapUpdate cx_ok); (simp (disch := omega) only [push_cast, simprocAttr, hS, hZ, hk, hg, seen_look] <;> rfl); all_goals try ((with_reducible intro hI); try first | (cases hI; done) | (simp only [INTS] at hI; try first | (exfalso; omega) | (have hT : True := hI; clear hT hI))))
      | ((apply W.gU; rfl; decide); (simp (disch := omega) only [push_cast, simprocAttr, hS, hZ, hk, hg, seen_look] <;> rfl))
      | (refine W.makeMap cx_ok (by decide) ?_)
      | ((apply W.callv cx_ok; decide); (iterate 2 (simp (disch := omega) only [push_cast, simprocAttr, hS, hZ, hk, hg, seen_look] <;> rfl)); (with_reducible first | exact named_ok _ (hfit.names _ hm)); try first | rfl | (simp (disch := omega) only [push_cast, simprocAttr, hS, hZ, hk, hg, seen_look] <;> rfl))
      | ((first | apply W.ret2 | apply W.end2); (iterate 2 (try (simp (disch := omega) only [push_cast, simprocAttr, hS, hZ, hk, hg, seen_look] <;> rfl))))
    all_goals first
      | (have hE3 : Check h = (1, (k : Int)) := by rw [hC, chk1, ← hp1, chkR, if_neg (by first | omega | simp [*])]
         show _ = _; rw [hE3]; done)
      | (have hE3 : Check h = (6, (k : Int)) := by rw [hC, chk1, ← hp1, chkR, if_pos (by refine ⟨by assumption, ?_, ?_⟩ <;> omega), if_pos (by assumption)]
         show _ = _; rw [hE3]; done)
      | (rw [chkR, if_pos (by refine ⟨by assumption, ?_, ?_⟩ <;> omega), if_neg (by simp [*])] at hp1
         have hput := seen_put x pre (by assumption)
         (refine ⟨rest.length, ?_, k + 1, pre ++ [x], rest, rfl, hd', hp1, ?_, ?_, ?_, ?_, ?_, ?_, ?_, ?_⟩; ((simp only [List.length_cons] at *; omega)); all_goals first | (simp (disch := omega) only [push_cast, simprocAttr, hS, hZ, hg, hk, hput] <;> first | rfl | omega) | omega))

end Go.Proofs.Hs

namespace Go.Proofs.Hs
open Go Go.Pg Go.Proofs

theorem asked_ok (h : House) (rs ts : List Int) (hfit : h.Fit) (hrs : rs.length ≤ 1099511627776) (hts : ts.length ≤ 1099511627776) : OKv cx 74 [.agg (eHouse h), lInt rs, lInt ts] (ai (askedE h rs ts)) := by
  refine OKat.of_body (rs := [6]) Tryd.func74 rfl (by decide +kernel) rfl (by simp [Tryd.ntmps74]) ?_
  simp only [Tryd.ntmps74]
  repeat' first
    | apply AW.seq | apply AW.region | apply AW.ret | apply AW.block | apply AW.skip | apply AW.exit | apply AW.scope | apply AW.label | apply AWL.nil
    | ((first | (apply W.step cx_ok; decide) | apply AW.cond); (simp (disch := omega) only [push_cast, simprocAttr] <;> rfl); all_goals try ((with_reducible intro hI); try first | (cases hI; done) | (simp only [INTS] at hI; try first | (exfalso; omega) | (have hT : True := hI; clear hT hI))))
    | ((apply W.callv cx_ok; decide); (iterate 2 (simp (disch := omega) only [push_cast, simprocAttr] <;> rfl)); (with_reducible first | exact Check_ok _ hfit); try first | rfl | (simp (disch := omega) only [push_cast, simprocAttr] <;> rfl))
    | ((first | apply W.ret1 | apply W.end1); (iterate 2 (try (simp (disch := omega) only [push_cast, simprocAttr] <;> rfl))))
  all_goals try (show _ = _; rw [askedE, if_pos (by assumption)]; done)
  have hE : askedE h rs ts = if rs.all (roomB h) = true then (if ts.all timeB = true then 0 else 1) else 1 := if_neg (by simp [*])
  refine AW.loop (fun n s => ∃ (k : Nat) (rest : List Int), n = rest.length ∧ (rs.drop k = rest) ∧ (rest.all (roomB h) = rs.all (roomB h)) ∧ 1 ≤ s.nx ∧ s.tm 2 = lInt ts ∧ s.tm 3 = .ptr 0 0 0 1 ∧ s.tm 21 = lInt rs ∧ s.tm 22 = ai rs.length ∧ s.tm 23 = ai k ∧ Pg.rowAt s.H (0) = some ({ k := 3, es := [eHouse h], ty := 26 })) (rs.length) ⟨0, _, rfl, rfl, rfl, ?_, ?_, ?_, ?_, ?_, ?_, ?_⟩ ?_
  iterate 7 (first | (simp (disch := omega) only [push_cast, simprocAttr] <;> first | rfl | omega) | omega)
  rintro n s ⟨k, rest, hn, hp0, hp1, hnl, hS⟩
  have hZ : (0 : Nat) ≠ s.nx ∧ s.nx ≠ (0 : Nat) := by omega
  rcases rest with _ | ⟨x, rest⟩
  · have hk := drop_nil hp0
    repeat' first
      | apply AW.seq | apply AW.region | apply AW.ret | apply AW.block | apply AW.skip | apply AW.exit | apply AW.scope | apply AW.label | apply AWL.nil
      | ((first | (apply W.step cx_ok; decide) | apply AW.cond); (simp (disch := omega) only [push_cast, simprocAttr, hS, hZ, hk] <;> rfl); all_goals try ((with_reducible intro hI); try first | (cases hI; done) | (simp only [INTS] at hI; try first | (exfalso; omega) | (have hT : True := hI; clear hT hI))))
      | ((apply W.callv cx_ok; decide); (iterate 2 (simp (disch := omega) only [push_cast, simprocAttr, hS, hZ, hk] <;> rfl)); (with_reducible first | exact index_ok _ _); try first | rfl | (simp (disch := omega) only [push_cast, simprocAttr, hS, hZ, hk] <;> rfl))
      | ((first | apply W.ret1 | apply W.end1); (iterate 2 (try (simp (disch := omega) only [push_cast, simprocAttr, hS, hZ, hk] <;> rfl))))
    have hE1 : askedE h rs ts = if ts.all timeB = true then 0 else 1 := by rw [hE, ← hp1]; rfl
    refine AW.loop (fun n s => ∃ (k : Nat) (rest : List Int), n = rest.length ∧ (ts.drop k = rest) ∧ (rest.all timeB = ts.all timeB) ∧ 1 ≤ s.nx ∧ s.tm 3 = .ptr 0 0 0 1 ∧ s.tm 34 = lInt ts ∧ s.tm 35 = ai ts.length ∧ s.tm 36 = ai k ∧ Pg.rowAt s.H (0) = some ({ k := 3, es := [eHouse h], ty := 26 })) (ts.length) ⟨0, _, rfl, rfl, rfl, ?_, ?_, ?_, ?_, ?_, ?_⟩ ?_
    iterate 6 (first | (simp (disch := omega) only [push_cast, simprocAttr, hS, hZ, hk] <;> first | rfl | omega) | omega)
    rintro n2 s2 ⟨k2, rest2, hn2, hp02, hp12, hnl2, hS2⟩
    have hZ2 : (0 : Nat) ≠ s2.nx ∧ s2.nx ≠ (0 : Nat) := by omega
    rcases rest2 with _ | ⟨x2, rest2⟩
    · have hk2 := drop_nil hp02
      repeat' first
        | apply AW.seq | apply AW.region | apply AW.ret | apply AW.block | apply AW.skip | apply AW.exit | apply AW.scope | apply AW.label | apply AWL.nil
        | ((first | (apply W.step cx_ok; decide) | apply AW.cond); (simp (disch := omega) only [push_cast, simprocAttr, hS2, hZ2, hk2] <;> rfl); all_goals try ((with_reducible intro hI); try first | (cases hI; done) | (simp only [INTS] at hI; try first | (exfalso; omega) | (have hT : True := hI; clear hT hI))))
        | ((apply W.callv cx_ok; decide); (iterate 2 (simp (disch := omega) only [push_cast, simprocAttr, hS2, hZ2, hk2] <;> rfl)); (with_reducible first | exact time_ok _); try first | rfl | (simp (disch := omega) only [push_cast, simprocAttr, hS2, hZ2, hk2] <;> rfl))
        | ((first | apply W.ret1 | apply W.end1); (iterate 2 (try (simp (disch := omega) only [push_cast, simprocAttr, hS2, hZ2, hk2] <;> rfl))))
      all_goals (show _ = _; rw [hE1, ← hp12]; rfl)
    · obtain ⟨hk2, hg2, hd'2, hl'2, hm2, hx2⟩ := drop_cons hp02 eInt []
      repeat' first
        | apply AW.seq | apply AW.region | apply AW.ret | apply AW.block | apply AW.skip | apply AW.exit | apply AW.scope | apply AW.label | apply AWL.nil
        | ((first | (apply W.step cx_ok; decide) | apply AW.cond); (simp (disch := omega) only [push_cast, simprocAttr, hS2, hZ2, hk2, hg2] <;> rfl); all_goals try ((with_reducible intro hI); try first | (cases hI; done) | (simp only [INTS] at hI; try first | (exfalso; omega) | (have hT : True := hI; clear hT hI))))
        | ((apply W.callv cx_ok; decide); (iterate 2 (simp (disch := omega) only [push_cast, simprocAttr, hS2, hZ2, hk2, hg2] <;> rfl)); (with_reducible first | exact time_ok _); try first | rfl | (simp (disch := omega) only [push_cast, simprocAttr, hS2, hZ2, hk2, hg2] <;> rfl))
        | ((first | apply W.ret1 | apply W.end1); (iterate 2 (try (simp (disch := omega) only [push_cast, simprocAttr, hS2, hZ2, hk2, hg2] <;> rfl))))
      all_goals first
        | (have hq : timeB x2 = false := by simp only [timeB, Bool.and_eq_false_iff, decide_eq_false_iff_not]; omega
           show _ = _; rw [hE1, ← hp12, List.all_cons, hq]; rfl)
        | (have hq : timeB x2 = true := by simp only [timeB, Bool.and_eq_true, decide_eq_true_eq]; omega
           rw [List.all_cons, hq, Bool.true_and] at hp12
           (refine ⟨rest2.length, ?_, k2 + 1, rest2, rfl, hd'2, hp12, ?_, ?_, ?_, ?_, ?_, ?_⟩; ((simp only [List.length_cons] at *; omega)); all_goals first | (simp (disch := omega) only [push_cast, simprocAttr, hS2, hZ2, hg2, hk2] <;> first | rfl | omega) | omega))
  · obtain ⟨hk, hg, hd', hl', hm, hx⟩ := drop_cons hp0 eInt []
    repeat' first
      | apply AW.seq | apply AW.region | apply AW.ret | apply AW.block | apply AW.skip | apply AW.exit | apply AW.scope | apply AW.label | apply AWL.nil
      | ((first | (apply W.step cx_ok; decide) | apply AW.cond); (simp (disch := omega) only [push_cast, simprocAttr, hS, hZ, hk, hg] <;> rfl); all_goals try ((with_reducible intro hI); try first | (cases hI; done) | (simp only [INTS] at hI; try first | (exfalso; omega) | (have hT : True := hI; clear hT hI))))
      | ((apply W.callv cx_ok; decide); (iterate 2 (simp (disch := omega) only [push_cast, simprocAttr, hS, hZ, hk, hg] <;> rfl)); (with_reducible first | exact index_ok _ _); try first | rfl | (simp (disch := omega) only [push_cast, simprocAttr, hS, hZ, hk, hg] <;> rfl))
      | ((first | apply W.ret1 | apply W.end1); (iterate 2 (try (simp (disch := omega) only [push_cast, simprocAttr, hS, hZ, hk, hg] <;> rfl))))
    all_goals first
      | (have hq : roomB h x = false := by simp only [roomB, Bool.and_eq_false_iff, decide_eq_false_iff_not]; omega
         show _ = _; rw [hE, ← hp1, List.all_cons, hq]; rfl)
      | (have hq : roomB h x = true := by simp only [roomB, Bool.and_eq_true, decide_eq_true_eq]; omega
         rw [List.all_cons, hq, Bool.true_and] at hp1
         (refine ⟨rest.length, ?_, k + 1, rest, rfl, hd', hp1, ?_, ?_, ?_, ?_, ?_, ?_, ?_⟩; ((simp only [List.length_cons] at *; omega)); all_goals first | (simp (disch := omega) only [push_cast, simprocAttr, hS, hZ, hg, hk] <;> first | rfl | omega) | omega))

theorem gates_ok (h : House) (hw : h.ways.length ≤ 1048576) : OKv cx 83 [.agg (eHouse h)] (.lst ((gates h).map eGate)) := by
  refine OKat.of_body (rs := [2]) Tryd.func83 rfl (by decide +kernel) rfl (by simp [Tryd.ntmps83]) ?_
  simp only [Tryd.ntmps83]
  repeat' first
    | apply AW.seq | apply AW.region | apply AW.ret | apply AW.block | apply AW.skip | apply AW.exit | apply AW.scope | apply AW.label | apply AWL.nil
    | ((first | (apply W.step cx_ok; decide) | apply W.store cx_ok | apply AW.cond); (simp (disch := omega) only [push_cast, simprocAttr] <;> rfl); all_goals try ((with_reducible intro hI); try first | (cases hI; done) | (simp only [INTS] at hI; try first | (exfalso; omega) | (have hT : True := hI; clear hT hI))))
    | ((first | apply W.ret1 | apply W.end1); (iterate 2 (try (simp (disch := omega) only [push_cast, simprocAttr] <;> rfl))))
  refine AW.adopt 3 6 104 ?_ ?_
  · simp only [push_cast, simprocAttr]
  refine AW.loop (fun n s => ∃ (k : Nat) (out : List Gate) (rest : List Way), n = rest.length ∧ (h.ways.drop k = rest) ∧ (out ++ gatesL k rest = gates h) ∧ (out.length ≤ 2 * k) ∧ 2 ≤ s.nx ∧ s.tm 1 = .ptr 0 0 0 1 ∧ s.tm 3 = .ref 1 0 out.length ∧ s.tm 7 = .lst (h.ways.map eWay) ∧ s.tm 8 = ai h.ways.length ∧ s.tm 9 = ai k ∧ Pg.rowAt s.H (0) = some ({ k := 3, es := [eHouse h], ty := 26 }) ∧ Pg.rowAt s.H (1) = some ({ k := 6, es := out.map eGate, ty := 104, lo := out.length })) (h.ways.length) ⟨0, [], _, rfl, rfl, rfl, Nat.zero_le _, ?_, ?_, ?_, ?_, ?_, ?_, ?_, ?_⟩ ?_
  iterate 8 (first | (simp (disch := omega) only [push_cast, simprocAttr] <;> first | rfl | omega) | omega)
  rintro n s ⟨k, out, rest, hn, hp0, hp1, hp2, hnl, hS⟩
  have hZ : (0 : Nat) ≠ s.nx ∧ s.nx ≠ (0 : Nat) ∧ (1 : Nat) ≠ s.nx ∧ s.nx ≠ (1 : Nat) := by omega
  rcases rest with _ | ⟨x, rest⟩
  · have hk := drop_nil hp0
    repeat' first
      | apply AW.seq | apply AW.region | apply AW.ret | apply AW.block | apply AW.skip | apply AW.exit | apply AW.scope | apply AW.label | apply AWL.nil
      | ((first | (apply W.step cx_ok; decide) | apply W.store cx_ok | apply AW.cond); (simp (disch := omega) only [push_cast, simprocAttr, hS, hZ, hk, List.length_append, List.map_append, List.append_assoc, List.length_cons, List.length_nil, List.isEmpty_cons, List.isEmpty_nil, take_map_all, pure_gate] <;> rfl); all_goals try ((with_reducible intro hI); try first | (cases hI; done) | (simp only [INTS] at hI; try first | (exfalso; omega) | (have hT : True := hI; clear hT hI))))
      | (apply W.append cx_ok; decide; rfl; rfl; rfl; decide; (iterate 3 (simp (disch := omega) only [push_cast, simprocAttr, hS, hZ, hk, List.length_append, List.map_append, List.append_assoc, List.length_cons, List.length_nil, List.isEmpty_cons, List.isEmpty_nil, take_map_all, pure_gate] <;> rfl)); simp; (rfl); ((try dsimp only); (try simp only [List.length_map, List.length_append, List.length_cons, List.length_nil]); omega); ((try dsimp only); (try simp only [List.length_map, List.length_append, List.length_cons, List.length_nil]); omega))
      | ((first | apply W.ret1 | apply W.end1); (iterate 2 (try (simp (disch := omega) only [push_cast, simprocAttr, hS, hZ, hk, List.length_append, List.map_append, List.append_assoc, List.length_cons, List.length_nil, List.isEmpty_cons, List.isEmpty_nil, take_map_all, pure_gate] <;> rfl))))
    have ho : out = gates h := by simpa [gatesL] using hp1
    all_goals (show _ = _; rw [ho])
  · obtain ⟨hk, hg, hd', hl', hm, hx⟩ := drop_cons hp0 eWay []
    repeat' first
      | apply AW.seq | apply AW.region | apply AW.ret | apply AW.block | apply AW.skip | apply AW.exit | apply AW.scope | apply AW.label | apply AWL.nil
      | ((first | (apply W.step cx_ok; decide) | apply W.store cx_ok | apply AW.cond); (simp (disch := omega) only [push_cast, simprocAttr, hS, hZ, hk, hg, List.length_append, List.map_append, List.append_assoc, List.length_cons, List.length_nil, List.isEmpty_cons, List.isEmpty_nil, take_map_all, pure_gate] <;> rfl); all_goals try ((with_reducible intro hI); try first | (cases hI; done) | (simp only [INTS] at hI; try first | (exfalso; omega) | (have hT : True := hI; clear hT hI))))
      | (apply W.append cx_ok; decide; rfl; rfl; rfl; decide; (iterate 3 (simp (disch := omega) only [push_cast, simprocAttr, hS, hZ, hk, hg, List.length_append, List.map_append, List.append_assoc, List.length_cons, List.length_nil, List.isEmpty_cons, List.isEmpty_nil, take_map_all, pure_gate] <;> rfl)); simp; (rfl); ((try dsimp only); (try simp only [List.length_map, List.length_append, List.length_cons, List.length_nil]); omega); ((try dsimp only); (try simp only [List.length_map, List.length_append, List.length_cons, List.length_nil]); omega))
      | ((first | apply W.ret1 | apply W.end1); (iterate 2 (try (simp (disch := omega) only [push_cast, simprocAttr, hS, hZ, hk, hg, List.length_append, List.map_append, List.append_assoc, List.length_cons, List.length_nil, List.isEmpty_cons, List.isEmpty_nil, take_map_all, pure_gate] <;> rfl))))
    all_goals first
      | (rw [gatesL, if_pos (by omega)] at hp1
         (refine ⟨rest.length, ?_, k + 1, out ++ [⟨(k : Int), false, x.a, x.b, x.secs, x.door⟩, ⟨(k : Int), true, x.b, x.a, x.back, x.door⟩], rest, rfl, hd', (by simpa using hp1), (by simp; omega), ?_, ?_, ?_, ?_, ?_, ?_, ?_, ?_⟩; ((simp only [List.length_cons] at *; omega)); all_goals first | (simp (disch := omega) only [push_cast, simprocAttr, hS, hZ, hg, hk, List.length_append, List.map_append, List.append_assoc, List.length_cons, List.length_nil, List.isEmpty_cons, List.isEmpty_nil] <;> first | rfl | omega) | omega))
      | (rw [gatesL, if_neg (by omega)] at hp1
         (refine ⟨rest.length, ?_, k + 1, out ++ [⟨(k : Int), false, x.a, x.b, x.secs, x.door⟩], rest, rfl, hd', (by simpa using hp1), (by simp; omega), ?_, ?_, ?_, ?_, ?_, ?_, ?_, ?_⟩; ((simp only [List.length_cons] at *; omega)); all_goals first | (simp (disch := omega) only [push_cast, simprocAttr, hS, hZ, hg, hk, List.length_append, List.map_append, List.append_assoc, List.length_cons, List.length_nil, List.isEmpty_cons, List.isEmpty_nil] <;> first | rfl | omega) | omega))

theorem gateAsked1_ok (g : Gate) (way : Int) (back : Bool) : OKv cx 114 [.agg (eGate g), .iptr [ai way] 0, .iptr [ab back] 0] (ab (isG way back g)) := by
  refine OKat.of_body (rs := [4]) Tryd.func114 rfl (by decide +kernel) rfl (by simp [Tryd.ntmps114]) ?_
  simp only [Tryd.ntmps114]
  repeat' first
    | apply AW.seq | apply AW.region | apply AW.ret | apply AW.block | apply AW.skip | apply AW.exit | apply AW.scope | apply AW.label | apply AWL.nil
    | ((first | (apply W.step cx_ok; decide) | (apply W.gS; rfl; decide) | apply AW.cond); (simp (disch := omega) only [push_cast, simprocAttr] <;> rfl); all_goals try ((with_reducible intro hI); try first | (cases hI; done) | (simp only [INTS] at hI; try first | (exfalso; omega) | (have hT : True := hI; clear hT hI))))
    | ((first | apply W.ret1 | apply W.end1); (iterate 2 (try (simp (disch := omega) only [push_cast, simprocAttr] <;> rfl))))
  all_goals (show _ = _; first | (simp [isG, *]; done) | (simp only [isG]; simp_all))

theorem indexFunc_ok (gs : List Gate) (way : Int) (back : Bool) (hl : gs.length ≤ 1099511627776) : OKv cx 113 [.lst (gs.map eGate), .clo 114 [.iptr [ai way] 0, .iptr [ab back] 0]] (ai (idxG (isG way back) 0 gs)) := by
  refine OKat.of_body (rs := [4]) Tryd.func113 rfl (by decide +kernel) rfl (by simp [Tryd.ntmps113]) ?_
  simp only [Tryd.ntmps113]
  repeat' first
    | apply AW.seq | apply AW.region | apply AW.ret | apply AW.block | apply AW.skip | apply AW.exit | apply AW.scope | apply AW.label | apply AWL.nil
    | ((first | (apply W.step cx_ok; decide) | apply AW.cond); (simp (disch := omega) only [push_cast, simprocAttr] <;> rfl); all_goals try ((with_reducible intro hI); try first | (cases hI; done) | (simp only [INTS] at hI; try first | (exfalso; omega) | (have hT : True := hI; clear hT hI))))
    | ((first | apply W.ret1 | apply W.end1); (iterate 2 (try (simp (disch := omega) only [push_cast, simprocAttr] <;> rfl))))
  refine AW.loop (fun n s => ∃ (k : Nat) (rest : List Gate), n = rest.length ∧ (gs.drop k = rest) ∧ (idxG (isG way back) k rest = idxG (isG way back) 0 gs) ∧ s.tm 0 = .lst (gs.map eGate) ∧ s.tm 1 = .clo 114 [.iptr [ai way] 0, .iptr [ab back] 0] ∧ s.tm 7 = ai gs.length ∧ s.tm 8 = ai k) (gs.length) ⟨0, _, rfl, rfl, rfl, ?_, ?_, ?_, ?_⟩ ?_
  iterate 4 (first | (simp (disch := omega) only [push_cast, simprocAttr] <;> first | rfl | omega) | omega)
  rintro n s ⟨k, rest, hn, hp0, hp1, hS⟩
  rcases rest with _ | ⟨x, rest⟩
  · have hk := drop_nil hp0
    repeat' first
      | apply AW.seq | apply AW.region | apply AW.ret | apply AW.block | apply AW.skip | apply AW.exit | apply AW.scope | apply AW.label | apply AWL.nil
      | ((first | (apply W.step cx_ok; decide) | apply AW.cond); (simp (disch := omega) only [push_cast, simprocAttr, hS, hk] <;> rfl); all_goals try ((with_reducible intro hI); try first | (cases hI; done) | (simp only [INTS] at hI; try first | (exfalso; omega) | (have hT : True := hI; clear hT hI))))
      | ((apply W.callv cx_ok; decide); (iterate 2 (simp (disch := omega) only [push_cast, simprocAttr, hS, hk] <;> rfl)); (with_reducible first | exact gateAsked1_ok _ _ _); try first | rfl | (simp (disch := omega) only [push_cast, simprocAttr, hS, hk] <;> rfl))
      | ((first | apply W.ret1 | apply W.end1); (iterate 2 (try (simp (disch := omega) only [push_cast, simprocAttr, hS, hk] <;> rfl))))
    all_goals (show _ = _; rw [← hp1]; rfl)
  · obtain ⟨hk, hg, hd', hl', hm, hx⟩ := drop_cons hp0 eGate []
    repeat' first
      | apply AW.seq | apply AW.region | apply AW.ret | apply AW.block | apply AW.skip | apply AW.exit | apply AW.scope | apply AW.label | apply AWL.nil
      | ((first | (apply W.step cx_ok; decide) | apply AW.cond); (simp (disch := omega) only [push_cast, simprocAttr, hS, hk, hg] <;> rfl); all_goals try ((with_reducible intro hI); try first | (cases hI; done) | (simp only [INTS] at hI; try first | (exfalso; omega) | (have hT : True := hI; clear hT hI))))
      | ((apply W.callv cx_ok; decide); (iterate 2 (simp (disch := omega) only [push_cast, simprocAttr, hS, hk, hg] <;> rfl)); (with_reducible first | exact gateAsked1_ok _ _ _); try first | rfl | (simp (disch := omega) only [push_cast, simprocAttr, hS, hk, hg] <;> rfl))
      | ((first | apply W.ret1 | apply W.end1); (iterate 2 (try (simp (disch := omega) only [push_cast, simprocAttr, hS, hk, hg] <;> rfl))))
    all_goals first
      | (show _ = _; rw [← hp1, idxG, if_pos (by assumption)]; done)
      | (rw [idxG, if_neg (by simp [*])] at hp1
         (refine ⟨rest.length, ?_, k + 1, rest, rfl, hd', hp1, ?_, ?_, ?_, ?_⟩; ((simp only [List.length_cons] at *; omega)); all_goals first | (simp (disch := omega) only [push_cast, simprocAttr, hS, hg, hk] <;> first | rfl | omega) | omega))

theorem gates_len (h : House) : (gates h).length ≤ 2 * h.ways.length := by
  have : ∀ (l : List Way) (i : Nat), (gatesL i l).length ≤ 2 * l.length := by
    intro l
    induction l with
    | nil => intro i; simp [gatesL]
    | cons w rest ih => intro i; have := ih (i + 1); unfold gatesL; split <;> simp <;> omega
  exact this _ _

theorem gateAsked_ok (h : House) (way : Int) (back : Bool) (t : Int) (hfit : h.Fit) : OKv cx 75 [.agg (eHouse h), ai way, ab back, ai t] (.tup [.agg (eGate (gateAsked h way back t).1), ai (gateAsked h way back t).2]) := by
  have hgl := gates_len h
  have hfw := hfit.nw
  have hfr := hfit.rooms
  obtain ⟨hlo, hhi⟩ := idxG_lo (isG way back) (gates h)
  by_cases hneg : idxG (isG way back) 0 (gates h) < 0
  · refine OKat.of_bodyC cx_ok (rs := [.cell 8 104, .tmp 9]) Tryd.func75 rfl (by decide +kernel) rfl (by decide) (by simp [Tryd.ntmps75]) ?_
    simp only [Tryd.ntmps75]
    repeat' first
      | apply AW.seq | apply AW.region | apply AW.ret | apply AW.block | apply AW.skip | apply AW.exit | apply AW.scope | apply AW.label | apply AWL.nil
      | ((first | (apply W.step cx_ok; decide) | apply W.store cx_ok | (apply W.gS; rfl; decide) | apply AW.cond); (simp (disch := omega) only [push_cast, simprocAttr, hneg] <;> rfl); all_goals try ((with_reducible intro hI); try first | (cases hI; done) | (simp only [INTS] at hI; try first | (exfalso; omega) | (have hT : True := hI; clear hT hI))))
      | ((apply W.callv cx_ok; decide); (iterate 2 (simp (disch := omega) only [push_cast, simprocAttr, hneg] <;> rfl)); (with_reducible first | exact Check_ok _ hfit | exact index_ok _ _ | exact time_ok _ | exact gates_ok _ hfit.nw | exact indexFunc_ok _ _ _ (by omega)); try first | rfl | (simp (disch := omega) only [push_cast, simprocAttr, hneg] <;> rfl))
      | ((first | apply W.retC | apply W.endC'); (iterate 2 (try (simp (disch := omega) only [push_cast, simprocAttr, hneg] <;> rfl))))
    all_goals first
      | (have hq : gateAsked h way back t = (.zero, (Check h).1) := by unfold gateAsked; rw [if_pos (by assumption)]
         show _ = _; rw [hq]; try rfl)
      | (have hq : gateAsked h way back t = (.zero, 1) := by unfold gateAsked; rw [if_neg (by omega), if_pos (by unfold timeOK; omega)]
         show _ = _; rw [hq]; try rfl)
      | (have hq : gateAsked h way back t = (.zero, 5) := by unfold gateAsked; rw [if_neg (by omega), if_neg (by unfold timeOK; omega), if_pos hneg]
         show _ = _; rw [hq]; try rfl)
  · have hk0 : 0 ≤ idxG (isG way back) 0 (gates h) := by omega
    have hgd := getD_map eGate (gates h) (idxG (isG way back) 0 (gates h)).toNat [] .zero (by omega)
    refine OKat.of_bodyC cx_ok (rs := [.cell 8 104, .tmp 9]) Tryd.func75 rfl (by decide +kernel) rfl (by decide) (by simp [Tryd.ntmps75]) ?_
    simp only [Tryd.ntmps75]
    repeat' first
      | apply AW.seq | apply AW.region | apply AW.ret | apply AW.block | apply AW.skip | apply AW.exit | apply AW.scope | apply AW.label | apply AWL.nil
      | ((first | (apply W.step cx_ok; decide) | apply W.store cx_ok | (apply W.gS; rfl; decide) | apply AW.cond); (simp (disch := omega) only [push_cast, simprocAttr, hneg, hk0, hhi, hgd] <;> rfl); all_goals try ((with_reducible intro hI); try first | (cases hI; done) | (simp only [INTS] at hI; try first | (exfalso; omega) | (have hT : True := hI; clear hT hI))))
      | ((apply W.callv cx_ok; decide); (iterate 2 (simp (disch := omega) only [push_cast, simprocAttr, hneg, hk0, hhi, hgd] <;> rfl)); (with_reducible first | exact Check_ok _ hfit | exact index_ok _ _ | exact time_ok _ | exact gates_ok _ hfit.nw | exact indexFunc_ok _ _ _ (by omega)); try first | rfl | (simp (disch := omega) only [push_cast, simprocAttr, hneg, hk0, hhi, hgd] <;> rfl))
      | ((first | apply W.retC | apply W.endC'); (iterate 2 (try (simp (disch := omega) only [push_cast, simprocAttr, hneg, hk0, hhi, hgd] <;> rfl))))
    all_goals first
      | (have hq : gateAsked h way back t = (.zero, (Check h).1) := by unfold gateAsked; rw [if_pos (by assumption)]
         show _ = _; rw [hq]; try rfl)
      | (have hq : gateAsked h way back t = (.zero, 1) := by unfold gateAsked; rw [if_neg (by omega), if_pos (by unfold timeOK; omega)]
         show _ = _; rw [hq]; try rfl)
      | (have hq : gateAsked h way back t = ((gates h).getD (idxG (isG way back) 0 (gates h)).toNat .zero, 0) := by unfold gateAsked; rw [if_neg (by omega), if_neg (by unfold timeOK; omega), if_neg hneg]
         show _ = _; rw [hq]; try rfl)

end Go.Proofs.Hs

/-
  The next and the last time at which a door is open: plain laws. No conditions.
-/
namespace Go.Proofs.Hs
open Go Go.Pg Go.Proofs

/-- The least time from t on at which the door is open; 2^30: there is none. -/
structure IsNext (d : Door) (t n : Int) : Prop where
  ge : t ≤ n
  no : ∀ u, t ≤ u → u < n → u ≤ 1073741823 → openR d u ≠ true
  at' : n = 1073741824 ∨ (n ≤ 1073741823 ∧ openR d n = true)

theorem IsNext.unique {d : Door} {t n m : Int} (h : IsNext d t n) (k : IsNext d t m) : n = m := by
  rcases Int.lt_trichotomy n m with hl | hl | hl
  · have := h.at'; have := k.at'; have h1 := h.ge
    rcases h.at' with e | ⟨e1, e2⟩
    · omega
    · exact absurd e2 (k.no n h1 hl e1)
  · exact hl
  · rcases k.at' with e | ⟨e1, e2⟩
    · have := h.at'; omega
    · exact absurd e2 (h.no m k.ge hl e1)

theorem openR_iff {d : Door} {u : Int} (h0 : 0 ≤ u) : openR d u = true ↔ (∃ x ∈ d.hours, u / 86400 * 86400 + x.lo ≤ u ∧ u ≤ u / 86400 * 86400 + x.hi) ∧ ∀ x ∈ d.shut, ¬ (x.lo ≤ u ∧ u ≤ x.hi) := by
  unfold openR
  rw [Bool.and_eq_true, inS_iff, tmodN h0]
  have hb : (!inS d.shut u) = true ↔ ∀ x ∈ d.shut, ¬ (x.lo ≤ u ∧ u ≤ x.hi) := by
    have := inS_iff d.shut u
    cases hs : inS d.shut u with
    | false => rw [hs] at this; simp only [Bool.false_eq_true, false_iff, not_exists, not_and] at this; simp; intro x hx h1; have := this x hx h1; omega
    | true => rw [hs] at this; simp only [true_iff] at this; simp; obtain ⟨x, hx, h1⟩ := this; exact ⟨x, hx, h1.1, h1.2⟩
  rw [hb]
  constructor
  · rintro ⟨⟨x, hx, h1⟩, h2⟩; exact ⟨⟨x, hx, by omega⟩, h2⟩
  · rintro ⟨⟨x, hx, h1⟩, h2⟩; exact ⟨⟨x, hx, by omega⟩, h2⟩

theorem firstL_least (t day : Int) : ∀ (l : List Span), l.Pairwise (fun a b => a.hi + 2 ≤ b.lo) → (∀ x ∈ l, x.lo ≤ x.hi) → ∀ u, t ≤ u → u ≤ 1073741823 → (∀ n, firstL t day l = some n → u < n) → ∀ x ∈ l, ¬ (day + x.lo ≤ u ∧ u ≤ day + x.hi)
  | [], _, _, _, _, _, _ => by simp
  | y :: rest, hp, hv, u, h1, h2, hn => by
    obtain ⟨p1, p2⟩ := List.pairwise_cons.1 hp
    have hy := hv y (by simp)
    unfold firstL at hn
    split at hn
    · rename_i hc
      have := hn _ rfl
      intro x hx
      rcases List.mem_cons.1 hx with rfl | hx
      · omega
      · have := p1 x hx; omega
    · rename_i hc
      have ih := firstL_least t day rest p2 (fun z hz => hv z (by simp [hz])) u h1 h2 hn
      intro x hx
      rcases List.mem_cons.1 hx with rfl | hx
      · omega
      · exact ih x hx

theorem first_spec {d : Door} (hd : d.V) {t : Int} (h0 : 0 ≤ t) (h1 : t ≤ 1073741824) :
    (∀ n, first d t = some n → t ≤ n ∧ n ≤ 1073741823 ∧ ∃ x ∈ d.hours, n / 86400 * 86400 + x.lo ≤ n ∧ n ≤ n / 86400 * 86400 + x.hi) ∧
    (∀ u, t ≤ u → u ≤ 1073741823 → (∀ n, first d t = some n → u < n) → ¬ ∃ x ∈ d.hours, u / 86400 * 86400 + x.lo ≤ u ∧ u ≤ u / 86400 * 86400 + x.hi) := by
  have hv := hd.hours.2.1
  have hp := hd.hours.2.2
  have hlh : ∀ x ∈ d.hours, x.lo ≤ x.hi := fun x hx => (hv x hx).2.1
  have L0 := firstL_least t (t / 86400 * 86400) d.hours hp hlh
  have L1 := firstL_least t ((t / 86400 + 1) * 86400) d.hours hp hlh
  have S0 := firstL_spec t (t / 86400 * 86400) d.hours
  have S1 := firstL_spec t ((t / 86400 + 1) * 86400) d.hours
  have hf : first d t = match firstL t (t / 86400 * 86400) d.hours with | some n => some n | none => (match firstL t ((t / 86400 + 1) * 86400) d.hours with | some n => some n | none => none) := rfl
  rw [hf]
  cases e0 : firstL t (t / 86400 * 86400) d.hours with
  | some n =>
    obtain ⟨x, hx, a1, a2, a3⟩ := S0 n e0
    have hb := hv x hx
    simp only [Option.some.injEq]
    refine ⟨fun m hm => ?_, fun u u1 u2 hu => ?_⟩
    · subst hm
      refine ⟨by omega, a3, x, hx, ?_⟩
      have : n / 86400 = t / 86400 := by omega
      omega
    · have hun := hu n rfl
      have hd' : u / 86400 = t / 86400 := by omega
      rintro ⟨y, hy, hh⟩
      exact L0 u u1 u2 (fun m hm => by rw [e0] at hm; injection hm with hm; omega) y hy (by omega)
  | none =>
    simp only
    cases e1 : firstL t ((t / 86400 + 1) * 86400) d.hours with
    | some n =>
      obtain ⟨x, hx, a1, a2, a3⟩ := S1 n e1
      have hb := hv x hx
      simp only [Option.some.injEq]
      refine ⟨fun m hm => ?_, fun u u1 u2 hu => ?_⟩
      · subst hm
        refine ⟨by omega, a3, x, hx, ?_⟩
        have : n / 86400 = t / 86400 + 1 := by omega
        omega
      · have hun := hu n rfl
        rintro ⟨y, hy, hh⟩
        have hd' : u / 86400 = t / 86400 ∨ u / 86400 = t / 86400 + 1 := by omega
        rcases hd' with hd' | hd'
        · exact L0 u u1 u2 (fun m hm => by rw [e0] at hm; cases hm) y hy (by omega)
        · exact L1 u u1 u2 (fun m hm => by rw [e1] at hm; injection hm with hm; omega) y hy (by omega)
    | none =>
      refine ⟨fun m hm => (by cases hm), fun u u1 u2 _ => ?_⟩
      rintro ⟨y, hy, hh⟩
      have hb := hv y hy
      have hd' : u / 86400 = t / 86400 ∨ u / 86400 = t / 86400 + 1 ∨ t / 86400 + 2 ≤ u / 86400 := by omega
      rcases hd' with hd' | hd' | hd'
      · exact L0 u u1 u2 (fun m hm => by rw [e0] at hm; cases hm) y hy (by omega)
      · exact L1 u u1 u2 (fun m hm => by rw [e1] at hm; cases hm) y hy (by omega)
      · exact L1 ((t / 86400 + 1) * 86400 + y.lo) (by omega) (by omega) (fun m hm => by rw [e1] at hm; cases hm) y hy (by omega)

theorem over_in {l : List Span} {n : Int} (h : (over l n).2 = false) : ∀ x ∈ l, ¬ (x.lo ≤ n ∧ n ≤ x.hi) := by
  rw [over_iff] at h
  have := inS_iff l n
  rw [h] at this
  simp only [Bool.false_eq_true, false_iff, not_exists, not_and] at this
  intro x hx h1
  exact this x hx h1.1 h1.2

theorem filter_drop {α : Type} {p q : α → Bool} : ∀ (l : List α) (x : α), x ∈ l → p x = true → q x = false → (∀ y, q y = true → p y = true) → (l.filter q).length < (l.filter p).length := filter_len_lt

theorem nextL_is {d : Door} (hd : d.V) : ∀ (f : Nat) (t : Int), 0 ≤ t → t ≤ 1073741824 → (d.shut.filter (fun s => decide (t ≤ s.hi))).length < f → IsNext d t (nextL d f t)
  | 0, _, _, _, h => absurd h (Nat.not_lt_zero _)
  | f + 1, t, h0, h1, hf => by
    obtain ⟨S, L⟩ := first_spec hd h0 h1
    have hvs := hd.shut.2.1
    unfold nextL
    cases hn : first d t with
    | none =>
      simp only [Option.isSome_none, Bool.false_eq_true, if_false]
      refine ⟨h1, fun u u1 u2 u3 ho => ?_, .inl rfl⟩
      rw [openR_iff (by omega)] at ho
      exact L u u1 u3 (fun n h => by rw [hn] at h; cases h) ho.1
    | some n =>
      obtain ⟨s1, s2, s3⟩ := S n hn
      simp only [Option.isSome_some, if_true, Option.getD_some]
      have hno : ∀ u, t ≤ u → u < n → openR d u ≠ true := fun u u1 u2 ho => by
        rw [openR_iff (by omega)] at ho
        exact L u u1 (by omega) (fun m h => by rw [hn] at h; injection h with h; omega) ho.1
      split
      · rename_i ho
        obtain ⟨m1, m2, m3⟩ := over_mem d.shut n ho
        have hb := hvs _ m1
        have ih := nextL_is hd f ((over d.shut n).1.hi + 1) (by omega) (by omega) (by
          have := filter_drop (p := fun s => decide (t ≤ s.hi)) (q := fun s => decide ((over d.shut n).1.hi + 1 ≤ s.hi)) d.shut (over d.shut n).1 m1 (by simp; omega) (by simp; omega) (fun y hy => by simp at hy ⊢; omega)
          omega)
        refine ⟨by have := ih.ge; omega, fun u u1 u2 u3 hop => ?_, ih.at'⟩
        rcases Int.lt_or_le u n with hu | hu
        · exact hno u u1 hu hop
        · rcases Int.lt_or_le (over d.shut n).1.hi u with hu2 | hu2
          · exact ih.no u (by omega) u2 u3 hop
          · rw [openR_iff (by omega)] at hop
            exact hop.2 _ m1 (by omega)
      · rename_i ho
        refine ⟨s1, fun u u1 u2 _ => hno u u1 u2, .inr ⟨s2, ?_⟩⟩
        rw [openR_iff (by omega)]
        exact ⟨s3, over_in (by simpa using ho)⟩

theorem next_is {d : Door} (hd : d.V) {t : Int} (h0 : 0 ≤ t) (h1 : t ≤ 1073741824) : IsNext d t (next d t) :=
  nextL_is hd 17 t h0 h1 (by have := List.length_filter_le (fun s : Span => decide (t ≤ s.hi)) d.shut; have := hd.shut.1; omega)

theorem next_mono {d : Door} (hd : d.V) {t u : Int} (h0 : 0 ≤ t) (h : t ≤ u) (h1 : u ≤ 1073741824) : next d t ≤ next d u := by
  have a := next_is hd h0 (by omega)
  have b := next_is hd (t := u) (by omega) h1
  rcases Int.lt_or_le (next d u) (next d t) with hl | hl
  · have := b.ge
    rcases b.at' with e | ⟨e1, e2⟩
    · have := a.at'; omega
    · exact absurd e2 (a.no _ (by omega) hl e1)
  · exact hl

/-- The greatest time up to t at which the door is open; -1: there is none. -/
structure IsLast (d : Door) (t n : Int) : Prop where
  le : n ≤ t
  no : ∀ u, u ≤ t → n < u → 0 ≤ u → openR d u ≠ true
  at' : n = -1 ∨ (0 ≤ n ∧ openR d n = true)

theorem IsLast.unique {d : Door} {t n m : Int} (h : IsLast d t n) (k : IsLast d t m) : n = m := by
  rcases Int.lt_trichotomy n m with hl | hl | hl
  · rcases k.at' with e | ⟨e1, e2⟩
    · have := h.at'; omega
    · exact absurd e2 (h.no m k.le hl e1)
  · exact hl
  · rcases h.at' with e | ⟨e1, e2⟩
    · have := k.at'; omega
    · exact absurd e2 (k.no n h.le hl e1)

theorem finalL_spec (t day : Int) : ∀ (l : List Span) (n : Int), finalL t day l = some n → 0 ≤ day ∧ ∃ x ∈ l, n = min t (day + x.hi) ∧ day + x.lo ≤ n
  | [], n, h => by cases h
  | x :: rest, n, h => by
    unfold finalL at h
    split at h
    · rename_i h0
      split at h
      · rename_i hc; injection h with h; exact ⟨h0, x, by simp, h.symm, by omega⟩
      · obtain ⟨h1, y, hy, h2⟩ := finalL_spec t day rest n h; exact ⟨h1, y, by simp [hy], h2⟩
    · cases h

theorem finalL_most (t day : Int) (hd : 0 ≤ day) : ∀ (l : List Span), l.Pairwise (fun a b => b.hi + 2 ≤ a.lo) → (∀ x ∈ l, x.lo ≤ x.hi) → ∀ u, u ≤ t → (∀ n, finalL t day l = some n → n < u) → ∀ x ∈ l, ¬ (day + x.lo ≤ u ∧ u ≤ day + x.hi)
  | [], _, _, _, _, _ => by simp
  | y :: rest, hp, hv, u, h1, hn => by
    obtain ⟨p1, p2⟩ := List.pairwise_cons.1 hp
    have hy := hv y (by simp)
    unfold finalL at hn
    rw [if_pos hd] at hn
    split at hn
    · rename_i hc
      have := hn _ rfl
      intro x hx
      rcases List.mem_cons.1 hx with rfl | hx
      · omega
      · have := p1 x hx; omega
    · rename_i hc
      have ih := finalL_most t day hd rest p2 (fun z hz => hv z (by simp [hz])) u h1 hn
      intro x hx
      rcases List.mem_cons.1 hx with rfl | hx
      · omega
      · exact ih x hx

theorem final_spec {d : Door} (hd : d.V) {t : Int} (h0 : 0 ≤ t) :
    (∀ n, final d t = some n → 0 ≤ n ∧ n ≤ t ∧ ∃ x ∈ d.hours, n / 86400 * 86400 + x.lo ≤ n ∧ n ≤ n / 86400 * 86400 + x.hi) ∧
    (∀ u, 0 ≤ u → u ≤ t → (∀ n, final d t = some n → n < u) → ¬ ∃ x ∈ d.hours, u / 86400 * 86400 + x.lo ≤ u ∧ u ≤ u / 86400 * 86400 + x.hi) := by
  have hv := hd.hours.2.1
  have hp : d.hours.reverse.Pairwise (fun a b => b.hi + 2 ≤ a.lo) := List.pairwise_reverse.2 hd.hours.2.2
  have hlh : ∀ x ∈ d.hours.reverse, x.lo ≤ x.hi := fun x hx => (hv x (by simpa using hx)).2.1
  have L0 := finalL_most t (t / 86400 * 86400) (by omega) d.hours.reverse hp hlh
  have S0 := finalL_spec t (t / 86400 * 86400) d.hours.reverse
  have S1 := finalL_spec t ((t / 86400 - 1) * 86400) d.hours.reverse
  have hf : final d t = match finalL t (t / 86400 * 86400) d.hours.reverse with | some n => some n | none => (match finalL t ((t / 86400 - 1) * 86400) d.hours.reverse with | some n => some n | none => none) := rfl
  rw [hf]
  cases e0 : finalL t (t / 86400 * 86400) d.hours.reverse with
  | some n =>
    obtain ⟨hd0, x, hx, a1, a2⟩ := S0 n e0
    have hx' : x ∈ d.hours := by simpa using hx
    have hb := hv x hx'
    simp only [Option.some.injEq]
    refine ⟨fun m hm => ?_, fun u u0 u1 hu => ?_⟩
    · subst hm
      refine ⟨by omega, by omega, x, hx', ?_⟩
      have : n / 86400 = t / 86400 := by omega
      omega
    · have hun := hu n rfl
      have hd' : u / 86400 = t / 86400 := by omega
      rintro ⟨y, hy, hh⟩
      exact L0 u u1 (fun m hm => by rw [e0] at hm; injection hm with hm; omega) y (by simpa using hy) (by omega)
  | none =>
    simp only
    cases e1 : finalL t ((t / 86400 - 1) * 86400) d.hours.reverse with
    | some n =>
      obtain ⟨hd1, x, hx, a1, a2⟩ := S1 n e1
      have hx' : x ∈ d.hours := by simpa using hx
      have hb := hv x hx'
      have L1 := finalL_most t ((t / 86400 - 1) * 86400) hd1 d.hours.reverse hp hlh
      simp only [Option.some.injEq]
      refine ⟨fun m hm => ?_, fun u u0 u1 hu => ?_⟩
      · subst hm
        refine ⟨by omega, by omega, x, hx', ?_⟩
        have : n / 86400 = t / 86400 - 1 := by omega
        omega
      · have hun := hu n rfl
        rintro ⟨y, hy, hh⟩
        have hd' : u / 86400 = t / 86400 ∨ u / 86400 = t / 86400 - 1 := by omega
        rcases hd' with hd' | hd'
        · exact L0 u u1 (fun m hm => by rw [e0] at hm; cases hm) y (by simpa using hy) (by omega)
        · exact L1 u u1 (fun m hm => by rw [e1] at hm; injection hm with hm; omega) y (by simpa using hy) (by omega)
    | none =>
      refine ⟨fun m hm => (by cases hm), fun u u0 u1 _ => ?_⟩
      rintro ⟨y, hy, hh⟩
      have hb := hv y hy
      have hd' : u / 86400 = t / 86400 ∨ u / 86400 ≤ t / 86400 - 1 := by omega
      rcases hd' with hd' | hd'
      · exact L0 u u1 (fun m hm => by rw [e0] at hm; cases hm) y (by simpa using hy) (by omega)
      · have hd1 : 0 ≤ (t / 86400 - 1) * 86400 := by omega
        have L1 := finalL_most t ((t / 86400 - 1) * 86400) hd1 d.hours.reverse hp hlh
        exact L1 ((t / 86400 - 1) * 86400 + y.lo) (by omega) (fun m hm => by rw [e1] at hm; cases hm) y (by simpa using hy) (by omega)

theorem lastL_is {d : Door} (hd : d.V) : ∀ (f : Nat) (t : Int), -1 ≤ t → (d.shut.filter (fun s => decide (s.lo ≤ t))).length < f → IsLast d t (lastL d f t)
  | 0, _, _, h => absurd h (Nat.not_lt_zero _)
  | f + 1, t, h1, hf => by
    have hvs := hd.shut.2.1
    unfold lastL
    rcases Int.lt_or_le t 0 with ht | h0
    · rw [if_neg (by omega)]
      exact ⟨h1, fun u u1 u2 u3 => by omega, .inl rfl⟩
    rw [if_pos h0]
    obtain ⟨S, L⟩ := final_spec hd h0
    cases hn : final d t with
    | none =>
      simp only [Option.isSome_none, Bool.false_eq_true, if_false]
      refine ⟨h1, fun u u1 u2 u3 ho => ?_, .inl rfl⟩
      rw [openR_iff (by omega)] at ho
      exact L u u3 u1 (fun n h => by rw [hn] at h; cases h) ho.1
    | some n =>
      obtain ⟨s1, s2, s3⟩ := S n hn
      simp only [Option.isSome_some, if_true, Option.getD_some]
      have hno : ∀ u, u ≤ t → n < u → openR d u ≠ true := fun u u1 u2 ho => by
        rw [openR_iff (by omega)] at ho
        exact L u (by omega) u1 (fun m h => by rw [hn] at h; injection h with h; omega) ho.1
      split
      · rename_i ho
        obtain ⟨m1, m2, m3⟩ := over_mem d.shut n ho
        have hb := hvs _ m1
        have ih := lastL_is hd f ((over d.shut n).1.lo - 1) (by omega) (by
          have := filter_drop (p := fun s => decide (s.lo ≤ t)) (q := fun s => decide (s.lo ≤ (over d.shut n).1.lo - 1)) d.shut (over d.shut n).1 m1 (by simp; omega) (by simp; omega) (fun y hy => by simp at hy ⊢; omega)
          omega)
        refine ⟨by have := ih.le; omega, fun u u1 u2 u3 hop => ?_, ih.at'⟩
        rcases Int.lt_or_le n u with hu | hu
        · exact hno u u1 hu hop
        · rcases Int.lt_or_le u (over d.shut n).1.lo with hu2 | hu2
          · exact ih.no u (by omega) u2 u3 hop
          · rw [openR_iff (by omega)] at hop
            exact hop.2 _ m1 (by omega)
      · rename_i ho
        refine ⟨s2, fun u u1 u2 _ => hno u u1 u2, .inr ⟨s1, ?_⟩⟩
        rw [openR_iff s1]
        exact ⟨s3, over_in (by simpa using ho)⟩

theorem last_is {d : Door} (hd : d.V) {t : Int} (h1 : -1 ≤ t) : IsLast d t (last d t) :=
  lastL_is hd 17 t h1 (by have := List.length_filter_le (fun s : Span => decide (s.lo ≤ t)) d.shut; have := hd.shut.1; omega)

theorem last_mono {d : Door} (hd : d.V) {t u : Int} (h0 : -1 ≤ t) (h : t ≤ u) : last d t ≤ last d u := by
  have a := last_is hd h0
  have b := last_is hd (t := u) (by omega)
  rcases Int.lt_or_le (last d u) (last d t) with hl | hl
  · have := a.le
    rcases a.at' with e | ⟨e1, e2⟩
    · have := b.at'; omega
    · exact absurd e2 (b.no _ (by omega) hl e1)
  · exact hl

/-- The two search the same: leaving at u or earlier one can go from t on exactly if .. -/
theorem next_le_iff {d : Door} (hd : d.V) {t u : Int} (h0 : 0 ≤ t) (h1 : t ≤ 1073741824) (hu0 : -1 ≤ u) (hu : u ≤ 1073741823) : next d t ≤ u ↔ t ≤ last d u := by
  have a := next_is hd h0 h1
  have b := last_is hd hu0
  constructor
  · intro h
    rcases a.at' with e | ⟨e1, e2⟩
    · omega
    · rcases Int.lt_or_le (last d u) (next d t) with hl | hl
      · exact absurd e2 (b.no _ h hl (by have := a.ge; omega))
      · have := a.ge; omega
  · intro h
    rcases b.at' with e | ⟨e1, e2⟩
    · omega
    · rcases Int.lt_or_le (last d u) (next d t) with hl | hl
      · exact absurd e2 (a.no _ h hl (by have := b.le; omega))
      · have := b.le; omega
end Go.Proofs.Hs

namespace Go.Proofs.Hs
open Go Go.Pg Go.Proofs

theorem askedOne_ok (h : House) (n t : Int) (hfit : h.Fit) : OKv cx 74 [.agg (eHouse h), .lst [[ai n]], .lst [[ai t]]] (ai (askedE h [n] [t])) :=
  asked_ok h [n] [t] hfit (by simp) (by simp)

theorem Walk_ok (h : House) (from' t : Int) (l : List Step) (hfit : h.Fit) (hl : l.length ≤ 1099511627776) :
    OKv cx 22 [.agg (eHouse h), ai from', ai t, .lst (l.map eStep)] (.tup [ai (Walk h from' t l).1, ai (Walk h from' t l).2.1, ai (Walk h from' t l).2.2]) := by
  refine OKat.of_body (rs := [8, 9, 10]) Tryd.func22 rfl (by decide +kernel) rfl (by simp [Tryd.ntmps22]) ?_
  simp only [Tryd.ntmps22]
  repeat' first
    | apply AW.seq | apply AW.region | apply AW.ret | apply AW.block | apply AW.skip | apply AW.exit | apply AW.scope | apply AW.label | apply AWL.nil | apply D.nil
    | refine W.draw cx_mixed (by decide +kernel) ?_
    | ((first | (apply W.step cx_ok; decide) | (apply D.step cx_ok; decide; decide) | apply W.store cx_ok | (apply W.gS; rfl; decide) | (apply D.gS; rfl; decide; decide) | apply AW.cond); (simp (disch := omega) only [push_cast, simprocAttr, askedE_one] <;> rfl); all_goals try ((with_reducible intro hI); try first | (cases hI; done) | (simp only [INTS] at hI; try first | (exfalso; omega) | (have hT : True := hI; clear hT hI))))
    | ((first | (apply W.callv cx_ok; decide) | (apply D.callv cx_ok; decide; decide)); (iterate 2 (simp (disch := omega) only [push_cast, simprocAttr, askedE_one] <;> rfl)); (with_reducible first | exact askedOne_ok _ _ _ hfit); try first | rfl | (simp (disch := omega) only [push_cast, simprocAttr, askedE_one] <;> rfl))
    | ((first | apply W.ret3 | apply W.end3); (iterate 2 (try (simp (disch := omega) only [push_cast, simprocAttr, askedE_one] <;> rfl))))
  all_goals try (show _ = _; rw [Walk_err l (by assumption)]; done)
  all_goals try (show _ = _; rw [Walk_zero l (by assumption), if_pos (by omega)]; done)
  have hr1 := roomE_zero (h := h) (n := from') (t := t) (by assumption)
  have hW : Walk h from' t l = walkL h l from' t := by rw [Walk_zero l (by assumption), if_neg (by omega)]
  rw [hW]
  refine AW.loop (fun n s => ∃ (k : Nat) (fr tt : Int) (rest : List Step), n = rest.length ∧ (l.drop k = rest) ∧ (walkL h rest fr tt = walkL h l from' t) ∧ 1 ≤ s.nx ∧ s.tm 1 = ai fr ∧ s.tm 2 = ai tt ∧ s.tm 4 = .ptr 0 0 0 1 ∧ s.tm 28 = .lst (l.map eStep) ∧ s.tm 29 = ai l.length ∧ s.tm 30 = ai k ∧ Pg.rowAt s.H (0) = some ({ k := 3, es := [eHouse h], ty := 26 })) (l.length) ⟨0, _, _, _, rfl, rfl, rfl, ?_, ?_, ?_, ?_, ?_, ?_, ?_, ?_⟩ ?_
  iterate 8 (first | (simp (disch := omega) only [push_cast, simprocAttr] <;> first | rfl | omega) | omega)
  rintro n s ⟨k, fr, tt, rest, hn, hp0, hp1, hnl, hS⟩
  have hZ : (0 : Nat) ≠ s.nx ∧ s.nx ≠ (0 : Nat) := by omega
  rcases rest with _ | ⟨x, rest⟩
  · have hk := drop_nil hp0
    repeat' first
      | apply AW.seq | apply AW.region | apply AW.ret | apply AW.block | apply AW.skip | apply AW.exit | apply AW.scope | apply AW.label | apply AWL.nil | apply D.nil
      | refine W.draw cx_mixed (by decide +kernel) ?_
      | ((first | (apply W.step cx_ok; decide) | (apply D.step cx_ok; decide; decide) | apply W.store cx_ok | (apply W.gS; rfl; decide) | (apply D.gS; rfl; decide; decide) | apply AW.cond); (simp (disch := omega) only [push_cast, simprocAttr, hS, hZ, hk] <;> rfl); all_goals try ((with_reducible intro hI); try first | (cases hI; done) | (simp only [INTS] at hI; try first | (exfalso; omega) | (have hT : True := hI; clear hT hI))))
      | ((first | apply W.ret3 | apply W.end3); (iterate 2 (try (simp (disch := omega) only [push_cast, simprocAttr, hS, hZ, hk] <;> rfl))))
    all_goals (show _ = _; rw [← hp1]; rfl)
  · obtain ⟨hk, hg, hd', hl', hm, hx⟩ := drop_cons hp0 eStep []
    by_cases he : (gateAsked h x.way x.back x.at').2 = 0
    · obtain ⟨_, htx, hgo⟩ := askedR_ok (h := h) (way := x.way) (back := x.back) (t := x.at') (by rw [← gateAsked_eq]; exact he)
      rw [← gateAsked_eq] at hgo
      have hgs := hgo.secs
      have hgd := hgo.door
      have hta : 0 ≤ x.at' := htx.1
      have htb : x.at' ≤ 1073741824 := by have := htx.2; omega
      have htc : x.at' ≤ 1073741823 := htx.2
      by_cases hdn : 0 ≤ (gateAsked h x.way x.back x.at').1.door
      · have hdv := (Check_V hr1.1).door hdn hgd.2
        have hdl := hgd.2
        have hdg : (h.doors.map eDoor).getD (gateAsked h x.way x.back x.at').1.door.toNat [] = eDoor (h.door (gateAsked h x.way x.back x.at').1.door) := getD_map eDoor h.doors _ [] ⟨[], []⟩ (by omega)
        repeat' first
          | apply AW.seq | apply AW.region | apply AW.ret | apply AW.block | apply AW.skip | apply AW.exit | apply AW.scope | apply AW.label | apply AWL.nil | apply D.nil
          | refine W.draw cx_mixed (by decide +kernel) ?_
          | ((first | (apply W.step cx_ok; decide) | (apply D.step cx_ok; decide; decide) | apply W.store cx_ok | (apply W.gS; rfl; decide) | (apply D.gS; rfl; decide; decide) | apply AW.cond); (simp (disch := omega) only [push_cast, simprocAttr, hS, hZ, hk, hg, he, hdn, hdl, hdg] <;> rfl); all_goals try ((with_reducible intro hI); try first | (cases hI; done) | (simp only [INTS] at hI; try first | (exfalso; omega) | (have hT : True := hI; clear hT hI))))
          | ((first | (apply W.callv cx_ok; decide) | (apply D.callv cx_ok; decide; decide)); (iterate 2 (simp (disch := omega) only [push_cast, simprocAttr, hS, hZ, hk, hg, he, hdn, hdl, hdg] <;> rfl)); (with_reducible first | exact Check_ok _ hfit | exact gateAsked_ok _ _ _ _ hfit | exact next_ok _ _ hdv.ok hta htb); try first | rfl | (simp (disch := omega) only [push_cast, simprocAttr, hS, hZ, hk, hg, he, hdn, hdl, hdg] <;> rfl))
          | ((first | apply W.ret3 | apply W.end3); (iterate 2 (try (simp (disch := omega) only [push_cast, simprocAttr, hS, hZ, hk, hg, he, hdn, hdl, hdg] <;> rfl))))
        all_goals first
          | (have hq : stepH h fr tt x = (0, 0, 1) := by unfold stepH; rw [if_pos (by assumption)]
             show _ = _; rw [← hp1, walkL, hq]; first | done | rfl)
          | (have hq : stepH h fr tt x = (0, 0, 4) := by unfold stepH; rw [if_neg (by omega), if_pos (by assumption)]
             show _ = _; rw [← hp1, walkL, hq]; first | done | rfl)
          | (have hq : stepH h fr tt x = (0, 0, 3) := by unfold stepH; rw [if_neg (by omega), if_neg (by omega), if_pos (by omega)]
             show _ = _; rw [← hp1, walkL, hq]; first | done | rfl)
          | (have hq : stepH h fr tt x = (0, 0, 9) := by unfold stepH; rw [if_neg (by omega), if_neg (by omega), if_neg (by omega), if_pos (by omega)]
             show _ = _; rw [← hp1, walkL, hq]; first | done | rfl)
          | (have hq : stepH h fr tt x = (0, 0, 3) := by unfold stepH; rw [if_neg (by omega), if_neg (by omega), if_neg (by omega), if_neg (by omega), if_pos (by omega)]
             show _ = _; rw [← hp1, walkL, hq]; first | done | rfl)
          | (have hq : stepH h fr tt x = ((gateAsked h x.way x.back x.at').1.to, x.at' + (gateAsked h x.way x.back x.at').1.secs, 0) := by unfold stepH; rw [if_neg (by omega), if_neg (by omega), if_neg (by omega), if_neg (by omega), if_neg (by omega)]
             rw [walkL, hq, if_neg (by simp)] at hp1
             (refine ⟨rest.length, ?_, k + 1, _, _, rest, rfl, hd', hp1, ?_, ?_, ?_, ?_, ?_, ?_, ?_, ?_⟩; ((simp only [List.length_cons] at *; omega)); all_goals first | (simp (disch := omega) only [push_cast, simprocAttr, hS, hZ, hg, hk] <;> first | rfl | omega) | omega))
      ·
        repeat' first
          | apply AW.seq | apply AW.region | apply AW.ret | apply AW.block | apply AW.skip | apply AW.exit | apply AW.scope | apply AW.label | apply AWL.nil | apply D.nil
          | refine W.draw cx_mixed (by decide +kernel) ?_
          | ((first | (apply W.step cx_ok; decide) | (apply D.step cx_ok; decide; decide) | apply W.store cx_ok | (apply W.gS; rfl; decide) | (apply D.gS; rfl; decide; decide) | apply AW.cond); (simp (disch := omega) only [push_cast, simprocAttr, hS, hZ, hk, hg, he, hdn] <;> rfl); all_goals try ((with_reducible intro hI); try first | (cases hI; done) | (simp only [INTS] at hI; try first | (exfalso; omega) | (have hT : True := hI; clear hT hI))))
          | ((first | (apply W.callv cx_ok; decide) | (apply D.callv cx_ok; decide; decide)); (iterate 2 (simp (disch := omega) only [push_cast, simprocAttr, hS, hZ, hk, hg, he, hdn] <;> rfl)); (with_reducible first | exact Check_ok _ hfit | exact gateAsked_ok _ _ _ _ hfit); try first | rfl | (simp (disch := omega) only [push_cast, simprocAttr, hS, hZ, hk, hg, he, hdn] <;> rfl))
          | ((first | apply W.ret3 | apply W.end3); (iterate 2 (try (simp (disch := omega) only [push_cast, simprocAttr, hS, hZ, hk, hg, he, hdn] <;> rfl))))
        all_goals first
          | (have hq : stepH h fr tt x = (0, 0, 1) := by unfold stepH; rw [if_pos (by assumption)]
             show _ = _; rw [← hp1, walkL, hq]; first | done | rfl)
          | (have hq : stepH h fr tt x = (0, 0, 4) := by unfold stepH; rw [if_neg (by omega), if_pos (by assumption)]
             show _ = _; rw [← hp1, walkL, hq]; first | done | rfl)
          | (have hq : stepH h fr tt x = (0, 0, 3) := by unfold stepH; rw [if_neg (by omega), if_neg (by omega), if_pos (by omega)]
             show _ = _; rw [← hp1, walkL, hq]; first | done | rfl)
          | (have hq : stepH h fr tt x = (0, 0, 9) := by unfold stepH; rw [if_neg (by omega), if_neg (by omega), if_neg (by omega), if_pos (by omega)]
             show _ = _; rw [← hp1, walkL, hq]; first | done | rfl)
          | (have hq : stepH h fr tt x = (0, 0, 3) := by unfold stepH; rw [if_neg (by omega), if_neg (by omega), if_neg (by omega), if_neg (by omega), if_pos (by omega)]
             show _ = _; rw [← hp1, walkL, hq]; first | done | rfl)
          | (have hq : stepH h fr tt x = ((gateAsked h x.way x.back x.at').1.to, x.at' + (gateAsked h x.way x.back x.at').1.secs, 0) := by unfold stepH; rw [if_neg (by omega), if_neg (by omega), if_neg (by omega), if_neg (by omega), if_neg (by omega)]
             rw [walkL, hq, if_neg (by simp)] at hp1
             (refine ⟨rest.length, ?_, k + 1, _, _, rest, rfl, hd', hp1, ?_, ?_, ?_, ?_, ?_, ?_, ?_, ?_⟩; ((simp only [List.length_cons] at *; omega)); all_goals first | (simp (disch := omega) only [push_cast, simprocAttr, hS, hZ, hg, hk] <;> first | rfl | omega) | omega))
    ·
      repeat' first
        | apply AW.seq | apply AW.region | apply AW.ret | apply AW.block | apply AW.skip | apply AW.exit | apply AW.scope | apply AW.label | apply AWL.nil | apply D.nil
        | refine W.draw cx_mixed (by decide +kernel) ?_
        | ((first | (apply W.step cx_ok; decide) | (apply D.step cx_ok; decide; decide) | apply W.store cx_ok | (apply W.gS; rfl; decide) | (apply D.gS; rfl; decide; decide) | apply AW.cond); (simp (disch := omega) only [push_cast, simprocAttr, hS, hZ, hk, hg, he] <;> rfl); all_goals try ((with_reducible intro hI); try first | (cases hI; done) | (simp only [INTS] at hI; try first | (exfalso; omega) | (have hT : True := hI; clear hT hI))))
        | ((first | (apply W.callv cx_ok; decide) | (apply D.callv cx_ok; decide; decide)); (iterate 2 (simp (disch := omega) only [push_cast, simprocAttr, hS, hZ, hk, hg, he] <;> rfl)); (with_reducible first | exact Check_ok _ hfit | exact gateAsked_ok _ _ _ _ hfit); try first | rfl | (simp (disch := omega) only [push_cast, simprocAttr, hS, hZ, hk, hg, he] <;> rfl))
        | ((first | apply W.ret3 | apply W.end3); (iterate 2 (try (simp (disch := omega) only [push_cast, simprocAttr, hS, hZ, hk, hg, he] <;> rfl))))
      all_goals
        (have hq : stepH h fr tt x = (0, 0, 1) := by unfold stepH; rw [if_pos (by assumption)]
         show _ = _; rw [← hp1, walkL, hq]; first | done | rfl)

end Go.Proofs.Hs
