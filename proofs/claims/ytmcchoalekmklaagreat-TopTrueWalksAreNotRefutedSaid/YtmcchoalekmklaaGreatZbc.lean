/-
  Contracts of functions, proved by going through their code. No conditions.
-/
import Derived.Test.YtmcchoalekmklaaGreatZai
import Derived.Test.YtmcchoalekmklaaGreatZbb
set_option linter.unusedVariables false
set_option linter.unusedSimpArgs false
namespace Go.Proofs.Hs
open Go Go.Pg Go.Proofs Go.Proofs.Yt
def Ord (most : Int) (l : List Span) : Prop := (∀ x ∈ l, 0 ≤ x.lo ∧ x.lo ≤ x.hi ∧ x.hi ≤ most) ∧ l.Pairwise (fun a b => a.hi + 2 ≤ b.lo)
theorem orderlyL_iff (most : Int) (hm : most ≤ 2147483648) (n : Nat) : ∀ (l : List Span) (least : Int), 0 ≤ least →
    (orderlyL most n l least = true ↔ (n ≤ 8 ∧ (∀ x ∈ l, least ≤ x.lo ∧ x.lo ≤ x.hi ∧ x.hi ≤ most) ∧ l.Pairwise (fun a b => a.hi + 2 ≤ b.lo)))
  | [], least, h0 => by simp [orderlyL]; omega
  | x :: rest, least, h0 => by
    unfold orderlyL
    split
    · rename_i h
      constructor
      · intro h'; cases h'
      · rintro ⟨_, h2, _⟩
        have := h2 x (by simp)
        omega
    · rename_i h
      have hx : least ≤ x.lo ∧ x.lo ≤ x.hi ∧ x.hi ≤ most := by omega
      rw [wrapN (by omega), orderlyL_iff most hm n rest (x.hi + 2) (by omega)]
      constructor
      · rintro ⟨h1, h2, h3⟩
        refine ⟨h1, fun y hy => ?_, List.pairwise_cons.2 ⟨fun y hy => (h2 y hy).1, h3⟩⟩
        rcases List.mem_cons.1 hy with rfl | hy
        · exact hx
        · have := h2 y hy; omega
      · rintro ⟨h1, h2, h3⟩
        obtain ⟨h4, h5⟩ := List.pairwise_cons.1 h3
        refine ⟨h1, fun y hy => ?_, h5⟩
        have := h4 y hy
        have := h2 y (by simp [hy])
        omega
theorem orderly_iff {l : List Span} {most : Int} (hm : most ≤ 2147483648) : orderly l most = true ↔ l.length ≤ 8 ∧ Ord most l :=
  orderlyL_iff most hm l.length l 0 (Int.le_refl _)
def hasN (pre : List Room) (s : ByteArray) : Bool := pre.any (fun x => s.data.toList == x.name.data.toList)
def chkR (i : Nat) (pre : List Room) : List Room → Option (Int × Int)
  | [] => none
  | r :: rest => if named r.name = true ∧ -60 ≤ r.floor ∧ r.floor ≤ 60 then (if hasN pre r.name = true then some (6, (i : Int)) else chkR (i + 1) (pre ++ [r]) rest) else some (1, (i : Int))
def chkD (i : Nat) : List Door → Option (Int × Int)
  | [] => none
  | d :: rest => if orderly d.hours 86399 = true ∧ orderly d.shut 1073741823 = true then chkD (i + 1) rest else some (1, (i : Int))
def Way.OK (nr nd : Nat) (w : Way) : Prop := (0 ≤ w.a ∧ w.a < (nr : Int)) ∧ (0 ≤ w.b ∧ w.b < (nr : Int)) ∧ w.a ≠ w.b ∧ (1 ≤ w.secs ∧ w.secs ≤ 3600) ∧ (0 ≤ w.back ∧ w.back ≤ 3600) ∧ (-1 ≤ w.door ∧ w.door < (nd : Int))
instance (nr nd : Nat) (w : Way) : Decidable (w.OK nr nd) := by unfold Way.OK; infer_instance
def chkW (nr nd : Nat) (i : Nat) : List Way → Option (Int × Int)
  | [] => none
  | w :: rest => if w.OK nr nd then chkW nr nd (i + 1) rest else some (1, (i : Int))
def chk3 (h : House) : Int × Int := match chkW h.rooms.length h.doors.length 0 h.ways with
  | some e => e
  | none => (0, -1)
def chk2 (h : House) : Int × Int := match chkD 0 h.doors with
  | some e => e
  | none => chk3 h
def chk1 (h : House) : Int × Int := match chkR 0 [] h.rooms with
  | some e => e
  | none => chk2 h
def Check (h : House) : Int × Int :=
  if h.rooms.length = 0 then (1, -1) else if 24 < h.rooms.length ∨ 16 < h.doors.length ∨ 60 < h.ways.length then (2, -1) else chk1 h
structure House.Fit (h : House) : Prop where
  names : ∀ r ∈ h.rooms, r.name.size ≤ 9223372036854775807
  doors : ∀ d ∈ h.doors, d.hours.length ≤ 9223372036854775807 ∧ d.shut.length ≤ 9223372036854775807
  rooms : h.rooms.length ≤ 1048576
  nd : h.doors.length ≤ 1048576
  nw : h.ways.length ≤ 1048576
abbrev eSeen (r : Room) : Key × AV := (.str r.name, .v (.bool true))
theorem seen_look (s : ByteArray) : ∀ pre : List Room, pickM (.v (.bool false)) false (findM (.str s) (pre.map eSeen)) = .v (.bool (hasN pre s))
  | [] => rfl
  | r :: rest => by
    have ih := seen_look s rest
    show pickM _ _ (if Key.same (.str s) (.str r.name) = true then some (.v (.bool true)) else findM (.str s) (rest.map eSeen)) = .v (.bool ((s.data.toList == r.name.data.toList) || hasN rest s))
    by_cases h : (s.data.toList == r.name.data.toList) = true
    · rw [if_pos (show Key.same (.str s) (.str r.name) = true from h), h]; rfl
    · rw [if_neg (show ¬ Key.same (.str s) (.str r.name) = true from h)]
      have h' : (s.data.toList == r.name.data.toList) = false := by simpa using h
      rw [h', Bool.false_or]; exact ih
theorem seen_put (x : Room) : ∀ pre : List Room, hasN pre x.name = false → putM (.str x.name) (.v (.bool true)) (pre.map eSeen) = (pre ++ [x]).map eSeen
  | [], _ => rfl
  | r :: rest, h => by
    simp only [hasN, List.any_cons, Bool.or_eq_false_iff] at h
    have hn : ¬ Key.same (.str x.name) (.str r.name) = true := by show ¬ (x.name.data.toList == r.name.data.toList) = true; rw [h.1]; simp
    show (if Key.same (.str x.name) (.str r.name) = true then _ else _) = _
    rw [if_neg hn, seen_put x rest h.2]; rfl
structure Door.V (d : Door) : Prop where
  hours : d.hours.length ≤ 8 ∧ Ord 86399 d.hours
  shut : d.shut.length ≤ 8 ∧ Ord 1073741823 d.shut
theorem Door.V.ok {d : Door} (h : d.V) : d.OK := ⟨h.hours.2.1, h.shut.2.1, h.hours.1, h.shut.1⟩
structure House.V (h : House) : Prop where
  rooms : 1 ≤ h.rooms.length ∧ h.rooms.length ≤ 24
  nd : h.doors.length ≤ 16
  nw : h.ways.length ≤ 60
  doors : ∀ d ∈ h.doors, d.V
  ways : ∀ w ∈ h.ways, w.OK h.rooms.length h.doors.length
theorem chkR_ne0 : ∀ (l : List Room) (i : Nat) (pre : List Room) (e : Int × Int), chkR i pre l = some e → e.1 ≠ 0
  | [], _, _, _, h => by cases h
  | r :: rest, i, pre, e, h => by
    unfold chkR at h
    split at h
    · split at h
      · injection h with h; subst h; simp
      · exact chkR_ne0 rest _ _ e h
    · injection h with h; subst h; simp
theorem chkD_ne0 : ∀ (l : List Door) (i : Nat) (e : Int × Int), chkD i l = some e → e.1 ≠ 0
  | [], _, _, h => by cases h
  | r :: rest, i, e, h => by
    unfold chkD at h
    split at h
    · exact chkD_ne0 rest _ e h
    · injection h with h; subst h; simp
theorem chkW_ne0 (nr nd : Nat) : ∀ (l : List Way) (i : Nat) (e : Int × Int), chkW nr nd i l = some e → e.1 ≠ 0
  | [], _, _, h => by cases h
  | r :: rest, i, e, h => by
    unfold chkW at h
    split at h
    · exact chkW_ne0 nr nd rest _ e h
    · injection h with h; subst h; simp
theorem chkD_none : ∀ (l : List Door) (i : Nat), chkD i l = none → ∀ d ∈ l, d.V
  | [], _, _ => by simp
  | r :: rest, i, h => by
    unfold chkD at h
    split at h
    · rename_i hc
      intro d hd
      rcases List.mem_cons.1 hd with rfl | hd
      · exact ⟨(orderly_iff (by decide)).1 hc.1, (orderly_iff (by decide)).1 hc.2⟩
      · exact chkD_none rest _ h d hd
    · cases h
theorem chkW_none (nr nd : Nat) : ∀ (l : List Way) (i : Nat), chkW nr nd i l = none → ∀ w ∈ l, w.OK nr nd
  | [], _, _ => by simp
  | r :: rest, i, h => by
    unfold chkW at h
    split at h
    · rename_i hc
      intro d hd
      rcases List.mem_cons.1 hd with rfl | hd
      · exact hc
      · exact chkW_none nr nd rest _ h d hd
    · cases h
theorem Check_V {h : House} (hc : (Check h).1 = 0) : h.V := by
  unfold Check at hc
  split at hc
  · cases hc
  · split at hc
    · cases hc
    · rename_i h0 h1
      unfold chk1 at hc
      split at hc
      · rename_i e he; exact absurd hc (chkR_ne0 _ _ _ _ he)
      · unfold chk2 at hc
        split at hc
        · rename_i e he; exact absurd hc (chkD_ne0 _ _ _ he)
        · rename_i hd
          unfold chk3 at hc
          split at hc
          · rename_i e he; exact absurd hc (chkW_ne0 _ _ _ _ _ he)
          · rename_i hw
            exact ⟨by omega, by omega, by omega, chkD_none _ _ hd, chkW_none _ _ _ _ hw⟩
theorem inS_iff : ∀ (l : List Span) (n : Int), inS l n = true ↔ ∃ x ∈ l, x.lo ≤ n ∧ n ≤ x.hi
  | [], n => by simp [inS]
  | x :: rest, n => by
    unfold inS
    split
    · rename_i h; simp only [true_iff]; exact ⟨x, by simp, h⟩
    · rename_i h
      rw [inS_iff rest n]
      constructor
      · rintro ⟨y, hy, h1⟩; exact ⟨y, by simp [hy], h1⟩
      · rintro ⟨y, hy, h1⟩
        rcases List.mem_cons.1 hy with rfl | hy
        · exact absurd h1 h
        · exact ⟨y, hy, h1⟩
theorem over_iff : ∀ (l : List Span) (n : Int), (over l n).2 = inS l n
  | [], n => rfl
  | x :: rest, n => by
    unfold over inS
    split
    · rfl
    · exact over_iff rest n
theorem firstL_spec (t day : Int) : ∀ (l : List Span) (n : Int), firstL t day l = some n → ∃ x ∈ l, n = max t (day + x.lo) ∧ n ≤ day + x.hi ∧ n ≤ 1073741823
  | [], n, h => by cases h
  | x :: rest, n, h => by
    unfold firstL at h
    split at h
    · rename_i hc; injection h with h; exact ⟨x, by simp, h.symm, by omega, by omega⟩
    · obtain ⟨y, hy, h1⟩ := firstL_spec t day rest n h; exact ⟨y, by simp [hy], h1⟩
theorem firstL_in (t day : Int) (ht : t ≤ 1073741823) : ∀ (l : List Span), l.Pairwise (fun a b => a.hi + 2 ≤ b.lo) → (∀ x ∈ l, x.lo ≤ x.hi) → (∃ x ∈ l, day + x.lo ≤ t ∧ t ≤ day + x.hi) → firstL t day l = some t
  | [], _, _, ⟨x, hx, _⟩ => by simp at hx
  | y :: rest, hp, hv, ⟨x, hx, h1⟩ => by
    obtain ⟨p1, p2⟩ := List.pairwise_cons.1 hp
    unfold firstL
    rcases List.mem_cons.1 hx with rfl | hx
    · have : max t (day + x.lo) = t := by omega
      rw [this, if_pos (by omega)]
    · have := p1 x hx
      rw [if_neg (by omega)]
      exact firstL_in t day ht rest p2 (fun z hz => hv z (by simp [hz])) ⟨x, hx, h1⟩
theorem first_ge {d : Door} {t n : Int} (h : first d t = some n) : t ≤ n ∧ n ≤ 1073741823 := by
  unfold first firstD at h
  split at h
  · rename_i m hm; injection h with h; obtain ⟨x, _, h1, _⟩ := firstL_spec _ _ _ _ hm; omega
  · unfold firstD at h
    split at h
    · rename_i m hm; injection h with h; obtain ⟨x, _, h1, _⟩ := firstL_spec _ _ _ _ hm; omega
    · simp [firstD] at h
theorem nextL_ge (d : Door) (hd : ∀ s ∈ d.shut, s.lo ≤ s.hi) : ∀ (f : Nat) (t : Int), t ≤ 1073741824 → (∀ s ∈ d.shut, s.hi ≤ 1073741823) → t ≤ nextL d f t
  | 0, t, h, _ => h
  | f + 1, t, h, hs => by
    unfold nextL
    split
    · rename_i hsome
      obtain ⟨n, hn⟩ := Option.isSome_iff_exists.1 hsome
      have hg := first_ge hn
      simp only [hn, Option.getD_some]
      split
      · rename_i ho
        have hm := over_mem d.shut n ho
        have hb := hs _ hm.1
        have := nextL_ge d hd f ((over d.shut n).1.hi + 1) (by omega) hs
        omega
      · omega
    · exact h
theorem next_open {d : Door} (hd : d.V) {t : Int} (h0 : 0 ≤ t) (h1 : t ≤ 1073741823) : (next d t = t ↔ openR d t = true) := by
  have hday : t / 86400 * 86400 ≤ t ∧ t < t / 86400 * 86400 + 86400 := by omega
  have hmod : t.tmod 86400 = t - t / 86400 * 86400 := by rw [tmodN h0]; omega
  have hov := over_iff d.shut t
  have hvh := hd.hours.2.1
  have hvs := hd.shut.2.1
  have hs1 : ∀ s ∈ d.shut, s.lo ≤ s.hi := fun s hs => (hvs s hs).2.1
  have hs2 : ∀ s ∈ d.shut, s.hi ≤ 1073741823 := fun s hs => (hvs s hs).2.2
  unfold openR next
  rw [Bool.and_eq_true, inS_iff, hmod]
  constructor
  · intro hn
    unfold nextL at hn
    split at hn
    · rename_i hsome
      obtain ⟨n, hf⟩ := Option.isSome_iff_exists.1 hsome
      have hg := first_ge hf
      simp only [hf, Option.getD_some] at hn
      split at hn
      · rename_i ho
        have hm := over_mem d.shut n ho
        have hb := hs2 _ hm.1
        have := nextL_ge d hs1 16 ((over d.shut n).1.hi + 1) (by omega) hs2
        omega
      · rename_i ho
        subst hn
        refine ⟨?_, by rw [← hov]; simpa using ho⟩
        unfold first firstD at hf
        split at hf
        · rename_i m hm
          injection hf with hf; subst hf
          obtain ⟨x, hx, g1, g2, g3⟩ := firstL_spec _ _ _ _ hm
          exact ⟨x, hx, by omega, by omega⟩
        · unfold firstD at hf
          split at hf
          · rename_i m hm
            injection hf with hf; subst hf
            obtain ⟨x, hx, g1, g2, g3⟩ := firstL_spec _ _ _ _ hm
            have := hvh x hx
            omega
          · simp [firstD] at hf
    · omega
  · rintro ⟨⟨x, hx, g1, g2⟩, hns⟩
    have hfl : firstL t (t / 86400 * 86400) d.hours = some t := firstL_in _ _ h1 _ hd.hours.2.2 (fun s hs => (hvh s hs).2.1) ⟨x, hx, by omega, by omega⟩
    have hf : first d t = some t := by unfold first firstD; rw [hfl]
    unfold nextL
    have hov' : (over d.shut t).2 = false := by rw [hov]; simpa using hns
    simp [hf, hov']
def roomB (h : House) (n : Int) : Bool := decide (0 ≤ n) && decide (n < (h.rooms.length : Int))
def timeB (t : Int) : Bool := decide (0 ≤ t) && decide (t ≤ 1073741823)
def askedE (h : House) (rs ts : List Int) : Int := if (Check h).1 ≠ 0 then (Check h).1 else if rs.all (roomB h) = true then (if ts.all timeB = true then 0 else 1) else 1
def roomE (h : House) (n t : Int) : Int := if (Check h).1 ≠ 0 then (Check h).1 else if ¬ (0 ≤ n ∧ n < (h.rooms.length : Int)) ∨ ¬ (0 ≤ t ∧ t ≤ 1073741823) then 1 else 0
theorem askedE_one (h : House) (n t : Int) : askedE h [n] [t] = roomE h n t := by
  unfold askedE roomE
  split
  · rfl
  · simp only [List.all_cons, List.all_nil, Bool.and_true, roomB, timeB, Bool.and_eq_true, decide_eq_true_eq]
    split <;> rename_i h1
    · split <;> rename_i h2
      · rw [if_neg (by omega)]
      · rw [if_pos (by omega)]
    · rw [if_pos (by omega)]
structure Gate where
  way : Int
  back : Bool
  from' : Int
  to : Int
  secs : Int
  door : Int
  deriving DecidableEq
def Gate.zero : Gate := ⟨0, false, 0, 0, 0, 0⟩
abbrev eGate (g : Gate) : List AV := [ai g.way, ab g.back, ai g.from', ai g.to, ai g.secs, ai g.door]
def gatesL : Nat → List Way → List Gate
  | _, [] => []
  | i, w :: rest => ⟨i, false, w.a, w.b, w.secs, w.door⟩ :: ((if 0 < w.back then [⟨i, true, w.b, w.a, w.back, w.door⟩] else []) ++ gatesL (i + 1) rest)
def gates (h : House) : List Gate := gatesL 0 h.ways
def isG (way : Int) (back : Bool) (g : Gate) : Bool := g.way == way && g.back == back
def idxG (p : Gate → Bool) : Nat → List Gate → Int
  | _, [] => -1
  | k, g :: rest => if p g = true then (k : Int) else idxG p (k + 1) rest
theorem idxG_find (p : Gate → Bool) : ∀ (l : List Gate) (k : Nat), (match l.find? p with
    | none => idxG p k l = -1
    | some g => (k : Int) ≤ idxG p k l ∧ idxG p k l < k + l.length ∧ l[(idxG p k l - k).toNat]? = some g)
  | [], k => rfl
  | g :: rest, k => by
    unfold idxG
    rw [List.find?_cons]
    by_cases hp : p g = true
    · simp only [hp, if_true]
      refine ⟨Int.le_refl _, by simp only [List.length_cons]; omega, ?_⟩
      simp
    · have hp' : p g = false := by simpa using hp
      simp only [hp', Bool.false_eq_true, if_false]
      have ih := idxG_find p rest (k + 1)
      revert ih
      cases hf : rest.find? p with
      | none => exact fun h => h
      | some g' =>
        rintro ⟨h1, h2, h3⟩
        refine ⟨by omega, by simp only [List.length_cons]; omega, ?_⟩
        have : (idxG p (k + 1) rest - (k : Int)).toNat = (idxG p (k + 1) rest - ((k + 1 : Nat) : Int)).toNat + 1 := by omega
        rw [this, List.getElem?_cons_succ]; exact h3
theorem getD_map {α β : Type} (f : α → β) (l : List α) (i : Nat) (d : β) (e : α) (h : i < l.length) : (l.map f).getD i d = f (l.getD i e) := by
  rw [List.getD_eq_getElem?_getD, List.getD_eq_getElem?_getD, List.getElem?_map, List.getElem?_eq_getElem h]; rfl
theorem take_map_all {α β : Type} (f : α → β) (l : List α) : (l.map f).take l.length = l.map f := by
  rw [List.take_of_length_le (by simp)]
theorem pure_map {α : Type} (f : α → List AV) (hf : ∀ a, pureL (f a) = true) (l : List α) : (l.map f).all pureL = true := by
  rw [List.all_eq_true]; intro x hx; obtain ⟨a, _, rfl⟩ := List.mem_map.1 hx; exact hf a
theorem pure_gate (l : List Gate) : (l.map eGate).all pureL = true := pure_map eGate (fun _ => rfl) l
theorem idxG_lo (p : Gate → Bool) (l : List Gate) : -1 ≤ idxG p 0 l ∧ idxG p 0 l < (l.length : Int) := by
  have := idxG_find p l 0
  split at this <;> omega
theorem gatesL_way : ∀ (l : List Way) (i : Nat) (g : Gate), g ∈ gatesL i l → (i : Int) ≤ g.way
  | [], _, _, h => by simp [gatesL] at h
  | w :: rest, i, g, h => by
    unfold gatesL at h
    rcases List.mem_cons.1 h with rfl | h
    · exact Int.le_refl _
    · rcases List.mem_append.1 h with h | h
      · split at h
        · simp only [List.mem_singleton] at h; subst h; exact Int.le_refl _
        · simp at h
      · have := gatesL_way rest (i + 1) g h; omega
theorem gatesL_find (back : Bool) : ∀ (l : List Way) (i j : Nat) (w : Way), l[j]? = some w → (gatesL i l).find? (isG ((i + j : Nat) : Int) back) =
    if back = false then some ⟨((i + j : Nat) : Int), false, w.a, w.b, w.secs, w.door⟩ else if 0 < w.back then some ⟨((i + j : Nat) : Int), true, w.b, w.a, w.back, w.door⟩ else none
  | [], i, j, w, h => by simp at h
  | x :: rest, i, 0, w, h => by
    simp only [List.getElem?_cons_zero, Option.some.injEq] at h
    subst h
    have hrest : (gatesL (i + 1) rest).find? (isG ((i : Nat) : Int) back) = none := by
      rw [List.find?_eq_none]
      intro g hg
      have := gatesL_way rest (i + 1) g hg
      have hne : ¬ (g.way = (i : Int)) := by omega
      simp [isG, hne]
    unfold gatesL
    cases back with
    | false => simp [isG]
    | true =>
      by_cases hb : 0 < x.back
      · simp [isG, hb]
      · simp [isG, hb]
        intro g hg
        have := gatesL_way rest (i + 1) g hg
        omega
  | x :: rest, i, j + 1, w, h => by
    simp only [List.getElem?_cons_succ] at h
    have ih := gatesL_find back rest (i + 1) j w h
    have e : i + 1 + j = i + (j + 1) := by omega
    rw [e] at ih
    unfold gatesL
    have h1 : isG ((i + (j + 1) : Nat) : Int) back ⟨i, false, x.a, x.b, x.secs, x.door⟩ = false := by
      simp only [isG]
      have : ((i : Int) == ((i + (j + 1) : Nat) : Int)) = false := by rw [beq_eq_false_iff_ne]; omega
      rw [this]; rfl
    rw [List.find?_cons, h1]
    simp only
    rw [List.find?_append]
    have h2 : (if 0 < x.back then [(⟨i, true, x.b, x.a, x.back, x.door⟩ : Gate)] else []).find? (isG ((i + (j + 1) : Nat) : Int) back) = none := by
      split
      · have : ((i : Int) == ((i + (j + 1) : Nat) : Int)) = false := by rw [beq_eq_false_iff_ne]; omega
        simp only [List.find?_cons, isG, this, Bool.false_and, List.find?_nil]
      · rfl
    rw [h2, Option.none_or]
    exact ih
def timeOK (t : Int) : Prop := 0 ≤ t ∧ t ≤ 1073741823
instance (t : Int) : Decidable (timeOK t) := by unfold timeOK; infer_instance
def gateAsked (h : House) (way : Int) (back : Bool) (t : Int) : Gate × Int :=
  if (Check h).1 ≠ 0 then (.zero, (Check h).1) else if ¬ (0 ≤ way ∧ way < (h.ways.length : Int)) ∨ ¬ timeOK t then (.zero, 1) else
  if idxG (isG way back) 0 (gates h) < 0 then (.zero, 5) else ((gates h).getD (idxG (isG way back) 0 (gates h)).toNat .zero, 0)
def askedR (h : House) (way : Int) (back : Bool) (t : Int) : Gate × Int :=
  if (Check h).1 ≠ 0 then (.zero, (Check h).1) else if ¬ (0 ≤ way ∧ way < (h.ways.length : Int)) ∨ ¬ timeOK t then (.zero, 1) else
  let w := h.ways.getD way.toNat ⟨0, 0, 0, 0, 0⟩
  if back = false then (⟨way, false, w.a, w.b, w.secs, w.door⟩, 0) else if w.back = 0 then (.zero, 5) else (⟨way, true, w.b, w.a, w.back, w.door⟩, 0)
theorem gateAsked_eq (h : House) (way : Int) (back : Bool) (t : Int) : gateAsked h way back t = askedR h way back t := by
  unfold gateAsked askedR
  split
  · rfl
  · rename_i hc
    have hv := Check_V (h := h) (by omega)
    split
    · rfl
    · rename_i hw
      have hw' : 0 ≤ way ∧ way < (h.ways.length : Int) := by
        by_cases hx : 0 ≤ way ∧ way < (h.ways.length : Int)
        · exact hx
        · exact absurd (.inl hx) hw
      have hlt : way.toNat < h.ways.length := by omega
      have hg : h.ways[way.toNat]? = some h.ways[way.toNat] := List.getElem?_eq_getElem hlt
      have hgd : h.ways.getD way.toNat ⟨0, 0, 0, 0, 0⟩ = h.ways[way.toNat] := by rw [List.getD_eq_getElem?_getD, hg]; rfl
      have hok := hv.ways _ (List.getElem_mem hlt)
      have hf := gatesL_find back h.ways 0 way.toNat _ hg
      have hn : ((0 + way.toNat : Nat) : Int) = way := by omega
      rw [hn] at hf
      have hi := idxG_find (isG way back) (gates h) 0
      rw [hgd]
      generalize h.ways[way.toNat] = w at *
      have hbk : 0 ≤ w.back := hok.2.2.2.2.1.1
      rw [show (gates h).find? (isG way back) = _ from hf] at hi
      cases back with
      | false =>
        simp only [if_true] at hi ⊢
        obtain ⟨h1, h2, h3⟩ := hi
        rw [if_neg (by omega), List.getD_eq_getElem?_getD]
        simp only [Int.natCast_zero, Int.sub_zero] at h3
        rw [h3]; rfl
      | true =>
        by_cases hb : 0 < w.back
        · simp only [hb, if_true, Bool.true_eq_false, if_false] at hi ⊢
          obtain ⟨h1, h2, h3⟩ := hi
          rw [if_neg (by omega), if_neg (by omega), List.getD_eq_getElem?_getD]
          simp only [Int.natCast_zero, Int.sub_zero] at h3
          rw [h3]; rfl
        · simp only [hb, if_false, Bool.true_eq_false] at hi ⊢
          rw [if_pos (by omega), if_pos (by omega)]
def House.door (h : House) (n : Int) : Door := h.doors.getD n.toNat ⟨[], []⟩
def stepH (h : House) (from' t : Int) (s : Step) : Int × Int × Int :=
  if (gateAsked h s.way s.back s.at').2 ≠ 0 then (0, 0, 1) else
  if (gateAsked h s.way s.back s.at').1.from' ≠ from' then (0, 0, 4) else
  if s.at' < t then (0, 0, 3) else
  if 0 ≤ (gateAsked h s.way s.back s.at').1.door ∧ next (h.door (gateAsked h s.way s.back s.at').1.door) s.at' ≠ s.at' then (0, 0, 9) else
  if 1073741823 < s.at' + (gateAsked h s.way s.back s.at').1.secs then (0, 0, 3) else
  ((gateAsked h s.way s.back s.at').1.to, s.at' + (gateAsked h s.way s.back s.at').1.secs, 0)
def walkL (h : House) : List Step → Int → Int → Int × Int × Int
  | [], from', t => (from', t, 0)
  | s :: rest, from', t => if (stepH h from' t s).2.2 ≠ 0 then (0, 0, (stepH h from' t s).2.2) else walkL h rest (stepH h from' t s).1 (stepH h from' t s).2.1
def stepR (h : House) (from' t : Int) (s : Step) : Int × Int × Int :=
  if (askedR h s.way s.back s.at').2 ≠ 0 then (0, 0, 1) else
  if (askedR h s.way s.back s.at').1.from' ≠ from' then (0, 0, 4) else
  if s.at' < t then (0, 0, 3) else
  if 0 ≤ (askedR h s.way s.back s.at').1.door ∧ openR (h.door (askedR h s.way s.back s.at').1.door) s.at' ≠ true then (0, 0, 9) else
  if 1073741824 ≤ s.at' + (askedR h s.way s.back s.at').1.secs then (0, 0, 3) else
  ((askedR h s.way s.back s.at').1.to, s.at' + (askedR h s.way s.back s.at').1.secs, 0)
def walkR (h : House) : List Step → Int → Int → Int × Int × Int
  | [], from', t => (from', t, 0)
  | s :: rest, from', t => if (stepR h from' t s).2.2 ≠ 0 then (0, 0, (stepR h from' t s).2.2) else walkR h rest (stepR h from' t s).1 (stepR h from' t s).2.1
structure Gate.OK (h : House) (g : Gate) : Prop where
  from' : 0 ≤ g.from' ∧ g.from' < (h.rooms.length : Int)
  to : 0 ≤ g.to ∧ g.to < (h.rooms.length : Int)
  secs : 1 ≤ g.secs ∧ g.secs ≤ 3600
  door : -1 ≤ g.door ∧ g.door < (h.doors.length : Int)
theorem askedR_ok {h : House} {way : Int} {back : Bool} {t : Int} (he : (askedR h way back t).2 = 0) : (Check h).1 = 0 ∧ timeOK t ∧ (askedR h way back t).1.OK h := by
  unfold askedR at he ⊢
  split at he
  · rename_i hc; exact absurd he hc
  · rename_i hc
    have hv := Check_V (h := h) (by omega)
    rw [if_neg hc]
    split at he
    · cases he
    · rename_i hw
      rw [if_neg hw]
      have hw' : (0 ≤ way ∧ way < (h.ways.length : Int)) ∧ timeOK t := by
        constructor
        · by_cases hx : 0 ≤ way ∧ way < (h.ways.length : Int)
          · exact hx
          · exact absurd (.inl hx) hw
        · by_cases hx : timeOK t
          · exact hx
          · exact absurd (.inr hx) hw
      refine ⟨by omega, hw'.2, ?_⟩
      have hlt : way.toNat < h.ways.length := by omega
      have hgd : h.ways.getD way.toNat ⟨0, 0, 0, 0, 0⟩ = h.ways[way.toNat] := by rw [List.getD_eq_getElem?_getD, List.getElem?_eq_getElem hlt]; rfl
      obtain ⟨o1, o2, o3, o4, o5, o6⟩ := hv.ways _ (List.getElem_mem hlt)
      dsimp only at he ⊢
      rw [hgd] at he ⊢
      split
      · exact ⟨o1, o2, o4, o6⟩
      · rename_i hb
        rw [if_neg hb] at he
        split at he
        · cases he
        · rename_i hb0
          rw [if_neg hb0]
          exact ⟨o2, o1, by dsimp only; omega, o6⟩
theorem House.V.door {h : House} (hv : h.V) {n : Int} (h0 : 0 ≤ n) (h1 : n < (h.doors.length : Int)) : (h.door n).V := by
  have hlt : n.toNat < h.doors.length := by omega
  have : h.door n = h.doors[n.toNat] := by unfold House.door; rw [List.getD_eq_getElem?_getD, List.getElem?_eq_getElem hlt]; rfl
  rw [this]; exact hv.doors _ (List.getElem_mem hlt)
theorem stepH_eq (h : House) (from' t : Int) (s : Step) : stepH h from' t s = stepR h from' t s := by
  unfold stepH stepR
  rw [gateAsked_eq]
  split
  · rfl
  · rename_i he
    have he0 : (askedR h s.way s.back s.at').2 = 0 := by omega
    obtain ⟨hc, ht, hg⟩ := askedR_ok he0
    have hv := Check_V hc
    generalize (askedR h s.way s.back s.at').1 = g at *
    split
    · rfl
    · split
      · rfl
      · have hiff : (0 ≤ g.door ∧ next (h.door g.door) s.at' ≠ s.at') ↔ (0 ≤ g.door ∧ openR (h.door g.door) s.at' ≠ true) := by
          constructor
          · rintro ⟨a, b⟩
            exact ⟨a, fun hc => b ((next_open (hv.door a hg.door.2) ht.1 ht.2).2 hc)⟩
          · rintro ⟨a, b⟩
            exact ⟨a, fun hc => b ((next_open (hv.door a hg.door.2) ht.1 ht.2).1 hc)⟩
        have hlt : (1073741823 < s.at' + g.secs) ↔ (1073741824 ≤ s.at' + g.secs) := by omega
        simp only [hiff, hlt]
theorem walkL_eq (h : House) : ∀ (l : List Step) (from' t : Int), walkL h l from' t = walkR h l from' t
  | [], _, _ => rfl
  | s :: rest, from', t => by simp only [walkL, walkR, stepH_eq, walkL_eq h rest]
def Walk (h : House) (from' t : Int) (l : List Step) : Int × Int × Int :=
  if (Check h).1 ≠ 0 then (0, 0, (Check h).1) else if ¬ (0 ≤ from' ∧ from' < (h.rooms.length : Int)) ∨ ¬ (0 ≤ t ∧ t ≤ 1073741823) then (0, 0, 1) else if 60 < l.length then (0, 0, 2) else walkL h l from' t
def WalkR (h : House) (from' t : Int) (l : List Step) : Int × Int × Int :=
  if (Check h).1 ≠ 0 then (0, 0, (Check h).1) else if ¬ (0 ≤ from' ∧ from' < (h.rooms.length : Int)) ∨ ¬ (0 ≤ t ∧ t ≤ 1073741823) then (0, 0, 1) else if 60 < l.length then (0, 0, 2) else walkR h l from' t
theorem roomE_zero {h : House} {n t : Int} (hr : roomE h n t = 0) : (Check h).1 = 0 ∧ (0 ≤ n ∧ n < (h.rooms.length : Int)) ∧ timeOK t := by
  unfold roomE at hr
  split at hr
  · contradiction
  · split at hr
    · cases hr
    · unfold timeOK; omega
theorem Walk_err {h : House} {n t : Int} (l : List Step) (hr : ¬ roomE h n t = 0) : Walk h n t l = (0, 0, roomE h n t) := by
  unfold Walk
  unfold roomE at hr ⊢
  split
  · rfl
  · rename_i hc
    rw [if_neg hc] at hr
    by_cases h1 : ¬ (0 ≤ n ∧ n < (h.rooms.length : Int)) ∨ ¬ (0 ≤ t ∧ t ≤ 1073741823)
    · rw [if_pos h1, if_pos h1]
    · rw [if_neg h1] at hr; exact absurd rfl hr
theorem Walk_zero {h : House} {n t : Int} (l : List Step) (hr : roomE h n t = 0) : Walk h n t l = if 60 < l.length then (0, 0, 2) else walkL h l n t := by
  obtain ⟨h1, h2, h3⟩ := roomE_zero hr
  unfold timeOK at h3
  unfold Walk
  rw [if_neg (by omega), if_neg (by omega)]
theorem Walk_eq (h : House) (from' t : Int) (l : List Step) : Walk h from' t l = WalkR h from' t l := by
  unfold Walk WalkR; rw [walkL_eq]
end Go.Proofs.Hs

set_option maxHeartbeats 8000000
set_option maxRecDepth 10000
namespace Go.Proofs.Hs
open Go Go.Pg Go.Proofs Go.Proofs.Yt
theorem Check_ok (h : House) (hfit : h.Fit) : OKv cx 50 [.agg (eHouse h)] (.tup [ai (Check h).1, ai (Check h).2]) := by
  have hfn := hfit.nd
  have hfr := hfit.rooms
  have hfw := hfit.nw
  refine OKat.of_body (rs := [2, 3]) Tryz.func50 rfl (by decide +kernel) rfl (by simp [Tryz.ntmps50]) ?_
  simp only [Tryz.ntmps50]
  repeat' first
    | apply jA | apply jB | apply jC | apply jD | apply jE | apply jI
    | ((first | (apply jK kO; decide) | (apply jN; rfl; decide) | apply jR); (simp (disch := omega) only [push_cast, simprocAttr] <;> rfl); all_goals try ((with_reducible intro hI); try first | (cases hI; done) | (simp only [INTS] at hI; try first | (exfalso; omega) | (have hT : True := hI; clear hT hI))))
    | (refine W.makeMap kO (by simp only [push_cast, simprocAttr] <;> rfl) (by decide) ?_)
    | ((apply W.ret2); (iterate 2 (try (simp (disch := omega) only [push_cast, simprocAttr] <;> rfl))))
  all_goals try (show _ = _; rw [show Check h = (1, -1) from if_pos (by omega)]; done)
  all_goals try (show _ = _; rw [show Check h = (2, -1) from (if_neg (by omega)).trans (if_pos (by omega))]; done)
  have hC : Check h = chk1 h := (if_neg (by omega)).trans (if_neg (by omega))
  refine AW.loop (fun n s => ∃ (k : Nat) (pre rest : List Room), n = rest.length ∧ (h.rooms.drop k = rest) ∧ (chkR k pre rest = chkR 0 [] h.rooms) ∧ 2 ≤ s.nx ∧ s.tm 1 = .ptr 0 0 0 1 ∧ s.tm 4 = .map 1 ∧ s.tm 33 = .lst (h.rooms.map eRoom) ∧ s.tm 34 = ai h.rooms.length ∧ s.tm 35 = ai k ∧ Pg.rowAt s.H (0) = some ({ k := 3, es := [eHouse h], ty := 26 }) ∧ s.H (1) = some (.mp (.map .str) 0 (pre.map eSeen))) (h.rooms.length) ⟨0, [], _, rfl, rfl, rfl, ?_, ?_, ?_, ?_, ?_, ?_, ?_, ?_⟩ ?_
  iterate 8 (first | (simp (disch := omega) only [push_cast, simprocAttr] <;> first | rfl | omega) | omega)
  rintro n s ⟨k, pre, rest, hn, hp0, hp1, hnl, hS⟩
  have hZ : (0 : Nat) ≠ s.nx ∧ s.nx ≠ (0 : Nat) ∧ (1 : Nat) ≠ s.nx ∧ s.nx ≠ (1 : Nat) := by omega
  rcases rest with _ | ⟨x, rest⟩
  · have hk := drop_nil hp0
    repeat' first
      | apply jA | apply jB | apply jD | apply jF | apply jI
      | ((first | (apply jK kO; decide) | apply jR); (simp (disch := omega) only [push_cast, simprocAttr, hS, hZ, hk, seen_look] <;> rfl); all_goals try ((with_reducible intro hI); try first | (cases hI; done) | (simp only [INTS] at hI; try first | (exfalso; omega) | (have hT : True := hI; clear hT hI))))
    have hE1 : Check h = chk2 h := by rw [hC, chk1, ← hp1]; rfl
    refine AW.loop (fun n s => ∃ (k : Nat) (rest : List Door), n = rest.length ∧ (h.doors.drop k = rest) ∧ (chkD k rest = chkD 0 h.doors) ∧ 2 ≤ s.nx ∧ s.tm 1 = .ptr 0 0 0 1 ∧ s.tm 65 = .lst (h.doors.map eDoor) ∧ s.tm 66 = ai h.doors.length ∧ s.tm 67 = ai k ∧ Pg.rowAt s.H (0) = some ({ k := 3, es := [eHouse h], ty := 26 })) (h.doors.length) ⟨0, _, rfl, rfl, rfl, ?_, ?_, ?_, ?_, ?_, ?_⟩ ?_
    iterate 6 (first | (simp (disch := omega) only [push_cast, simprocAttr, hS, hZ, hk] <;> first | rfl | omega) | omega)
    rintro n2 s2 ⟨k2, rest2, hn2, hp02, hp12, hnl2, hS2⟩
    have hZ2 : (0 : Nat) ≠ s2.nx ∧ s2.nx ≠ (0 : Nat) := by omega
    rcases rest2 with _ | ⟨x2, rest2⟩
    · have hk2 := drop_nil hp02
      repeat' first
        | apply jA | apply jB | apply jD | apply jF | apply jI
        | ((first | (apply jK kO; decide) | apply jR); (simp (disch := omega) only [push_cast, simprocAttr, hS2, hZ2, hk2] <;> rfl); all_goals try ((with_reducible intro hI); try first | (cases hI; done) | (simp only [INTS] at hI; try first | (exfalso; omega) | (have hT : True := hI; clear hT hI))))
      have hE2 : Check h = chk3 h := by rw [hE1, chk2, ← hp12]; rfl
      refine AW.loop (fun n s => ∃ (k : Nat) (rest : List Way), n = rest.length ∧ (h.ways.drop k = rest) ∧ (chkW h.rooms.length h.doors.length k rest = chkW h.rooms.length h.doors.length 0 h.ways) ∧ 2 ≤ s.nx ∧ s.tm 1 = .ptr 0 0 0 1 ∧ s.tm 85 = .lst (h.ways.map eWay) ∧ s.tm 86 = ai h.ways.length ∧ s.tm 87 = ai k ∧ Pg.rowAt s.H (0) = some ({ k := 3, es := [eHouse h], ty := 26 })) (h.ways.length) ⟨0, _, rfl, rfl, rfl, ?_, ?_, ?_, ?_, ?_, ?_⟩ ?_
      iterate 6 (first | (simp (disch := omega) only [push_cast, simprocAttr, hS2, hZ2, hk2] <;> first | rfl | omega) | omega)
      rintro n3 s3 ⟨k3, rest3, hn3, hp03, hp13, hnl3, hS3⟩
      have hZ3 : (0 : Nat) ≠ s3.nx ∧ s3.nx ≠ (0 : Nat) := by omega
      rcases rest3 with _ | ⟨x3, rest3⟩
      · have hk3 := drop_nil hp03
        repeat' first
          | apply jA | apply jB | apply jC | apply jF | apply jI
          | ((first | (apply jK kO; decide) | apply jR); (simp (disch := omega) only [push_cast, simprocAttr, hS3, hZ3, hk3] <;> rfl); all_goals try ((with_reducible intro hI); try first | (cases hI; done) | (simp only [INTS] at hI; try first | (exfalso; omega) | (have hT : True := hI; clear hT hI))))
          | ((apply W.ret2); (iterate 2 (try (simp (disch := omega) only [push_cast, simprocAttr, hS3, hZ3, hk3] <;> rfl))))
        all_goals (show _ = _; rw [show Check h = (0, -1) by rw [hE2, chk3, ← hp13]; rfl])
      · obtain ⟨hk3, hg3, hd'3, hl'3, hm3, hx3⟩ := drop_cons hp03 eWay []
        repeat' first
          | apply jA | apply jB | apply jC | apply jD | apply jE | apply jI
          | ((first | (apply jK kO; decide) | apply jM kO | (apply jN; rfl; decide) | apply jR); (simp (disch := omega) only [push_cast, simprocAttr, hS3, hZ3, hk3, hg3] <;> rfl); all_goals try ((with_reducible intro hI); try first | (cases hI; done) | (simp only [INTS] at hI; try first | (exfalso; omega) | (have hT : True := hI; clear hT hI))))
          | ((apply jP; rfl; decide); (simp (disch := omega) only [push_cast, simprocAttr, hS3, hZ3, hk3, hg3] <;> rfl))
          | ((apply jV kO; decide); (iterate 2 (simp (disch := omega) only [push_cast, simprocAttr, hS3, hZ3, hk3, hg3] <;> rfl)); (with_reducible exact index_ok _ _); try first | rfl | (simp (disch := omega) only [push_cast, simprocAttr, hS3, hZ3, hk3, hg3] <;> rfl))
          | ((apply W.ret2); (iterate 2 (try (simp (disch := omega) only [push_cast, simprocAttr, hS3, hZ3, hk3, hg3] <;> rfl))))
        all_goals first
          | (have hq : ¬ x3.OK h.rooms.length h.doors.length := by unfold Way.OK; omega
             have hE3 : Check h = (1, (k3 : Int)) := by rw [hE2, chk3, ← hp13, chkW, if_neg hq]
             show _ = _; rw [hE3]; done)
          | (have hq : x3.OK h.rooms.length h.doors.length := by unfold Way.OK; simp_all; omega
             rw [chkW, if_pos hq] at hp13
             (refine ⟨rest3.length, ?_, k3 + 1, rest3, rfl, hd'3, hp13, ?_, ?_, ?_, ?_, ?_, ?_⟩; ((simp only [List.length_cons] at *; omega)); all_goals first | (simp (disch := omega) only [push_cast, simprocAttr, hS3, hZ3, hg3, hk3] <;> first | rfl | omega) | omega))
    · obtain ⟨hk2, hg2, hd'2, hl'2, hm2, hx2⟩ := drop_cons hp02 eDoor []
      repeat' first
        | apply jA | apply jB | apply jC | apply jD | apply jE | apply jI
        | ((first | (apply jK kO; decide) | apply jM kO | (apply jN; rfl; decide) | apply jR); (simp (disch := omega) only [push_cast, simprocAttr, hS2, hZ2, hk2, hg2] <;> rfl); all_goals try ((with_reducible intro hI); try first | (cases hI; done) | (simp only [INTS] at hI; try first | (exfalso; omega) | (have hT : True := hI; clear hT hI))))
        | ((apply jV kO; decide); (iterate 2 (simp (disch := omega) only [push_cast, simprocAttr, hS2, hZ2, hk2, hg2] <;> rfl)); (with_reducible exact orderly_ok _ _ (by have := hfit.doors _ hm2; omega)); try first | rfl | (simp (disch := omega) only [push_cast, simprocAttr, hS2, hZ2, hk2, hg2] <;> rfl))
        | ((apply W.ret2); (iterate 2 (try (simp (disch := omega) only [push_cast, simprocAttr, hS2, hZ2, hk2, hg2] <;> rfl))))
      all_goals first
        | (have hE3 : Check h = (1, (k2 : Int)) := by rw [hE1, chk2, ← hp12, chkD, if_neg (by simp [*])]
           show _ = _; rw [hE3]; done)
        | (rw [chkD, if_pos (by constructor <;> assumption)] at hp12
           (refine ⟨rest2.length, ?_, k2 + 1, rest2, rfl, hd'2, hp12, ?_, ?_, ?_, ?_, ?_, ?_⟩; ((simp only [List.length_cons] at *; omega)); all_goals first | (simp (disch := omega) only [push_cast, simprocAttr, hS2, hZ2, hg2, hk2] <;> first | rfl | omega) | omega))
  · obtain ⟨hk, hg, hd', hl', hm, hx⟩ := drop_cons hp0 eRoom []
    repeat' first
      | apply jA | apply jB | apply jC | apply jD | apply jE | apply jI
      | ((first | (apply jK kO; decide) | apply jM kO | (apply jN; rfl; decide) | apply jR | apply jS kO); (simp (disch := omega) only [push_cast, simprocAttr, hS, hZ, hk, hg, seen_look] <;> rfl); all_goals try ((with_reducible intro hI); try first | (cases hI; done) | (simp only [INTS] at hI; try first | (exfalso; omega) | (have hT : True := hI; clear hT hI))))
      | ((apply jV kO; decide); (iterate 2 (simp (disch := omega) only [push_cast, simprocAttr, hS, hZ, hk, hg, seen_look] <;> rfl)); (with_reducible exact named_ok _ (hfit.names _ hm)); try first | rfl | (simp (disch := omega) only [push_cast, simprocAttr, hS, hZ, hk, hg, seen_look] <;> rfl))
      | ((apply W.ret2); (iterate 2 (try (simp (disch := omega) only [push_cast, simprocAttr, hS, hZ, hk, hg, seen_look] <;> rfl))))
    all_goals first
      | (have hE3 : Check h = (1, (k : Int)) := by rw [hC, chk1, ← hp1, chkR, if_neg (by first | omega | simp [*])]
         show _ = _; rw [hE3]; done)
      | (have hE3 : Check h = (6, (k : Int)) := by rw [hC, chk1, ← hp1, chkR, if_pos (by refine ⟨by assumption, ?_, ?_⟩ <;> omega), if_pos (by assumption)]
         show _ = _; rw [hE3]; done)
      | (rw [chkR, if_pos (by refine ⟨by assumption, ?_, ?_⟩ <;> omega), if_neg (by simp [*])] at hp1
         have hput := seen_put x pre (by assumption)
         (refine ⟨rest.length, ?_, k + 1, pre ++ [x], rest, rfl, hd', hp1, ?_, ?_, ?_, ?_, ?_, ?_, ?_, ?_⟩; ((simp only [List.length_cons] at *; omega)); all_goals first | (simp (disch := omega) only [push_cast, simprocAttr, hS, hZ, hg, hk, hput] <;> first | rfl | omega) | omega))
end Go.Proofs.Hs
