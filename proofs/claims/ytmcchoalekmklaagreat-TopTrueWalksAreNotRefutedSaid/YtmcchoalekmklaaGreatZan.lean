/-
  Contracts of functions, proved by going through their code. No conditions.
-/
import Derived.Test.YtmcchoalekmklaaGreatZai
import Derived.Test.YtmcchoalekmklaaGreatZaj
import Derived.Test.YtmcchoalekmklaaGreatZal
import Derived.Test.YtmcchoalekmklaaGreatZam
set_option linter.unusedVariables false
set_option linter.unusedSimpArgs false
namespace Go.Proofs.Ks
open Go Go.Pg Go.Proofs Go.Proofs.Yt
structure Span where
  lo : Int
  hi : Int
  deriving DecidableEq, Inhabited
structure Stop where
  pos : Int
  secs : Span
  deriving DecidableEq, Inhabited
structure Session where
  id : Int
  inn : Span
  out : Span
  zero : Span
  fin : Span
  rate : Span
  stops : List Stop
  deriving DecidableEq, Inhabited
structure Strike where
  id : Int
  pos : Span
  deriving DecidableEq, Inhabited
structure Sight where
  strike : Int
  seen : Span
  deriving DecidableEq, Inhabited
structure Rec where
  s : Session
  strikes : List Strike
  sights : List Sight
  deriving DecidableEq, Inhabited
structure Node where
  kind : Int
  num : Int
  deriving DecidableEq, Inhabited
structure Leg where
  secs : Int
  rate : Int
  deriving DecidableEq, Inhabited
structure Run where
  start : Int
  micro : Int
  legs : List Leg
  deriving DecidableEq, Inhabited
abbrev eSpan (s : Span) : List AV := [ai s.lo, ai s.hi]
abbrev lSpan (l : List Span) : AV := .lst (l.map eSpan)
abbrev eStop (s : Stop) : List AV := [ai s.pos, ai s.secs.lo, ai s.secs.hi]
abbrev lStop (l : List Stop) : AV := .lst (l.map eStop)
abbrev eSession (s : Session) : List AV := [ai s.id, ai s.inn.lo, ai s.inn.hi, ai s.out.lo, ai s.out.hi, ai s.zero.lo, ai s.zero.hi, ai s.fin.lo, ai s.fin.hi, ai s.rate.lo, ai s.rate.hi, lStop s.stops]
abbrev eStrike (s : Strike) : List AV := [ai s.id, ai s.pos.lo, ai s.pos.hi]
abbrev lStrike (l : List Strike) : AV := .lst (l.map eStrike)
abbrev eSight (s : Sight) : List AV := [ai s.strike, ai s.seen.lo, ai s.seen.hi]
abbrev lSight (l : List Sight) : AV := .lst (l.map eSight)
abbrev eRec (r : Rec) : List AV := [ai r.s.id, ai r.s.inn.lo, ai r.s.inn.hi, ai r.s.out.lo, ai r.s.out.hi, ai r.s.zero.lo, ai r.s.zero.hi, ai r.s.fin.lo, ai r.s.fin.hi, ai r.s.rate.lo, ai r.s.rate.hi, lStop r.s.stops, lStrike r.strikes, lSight r.sights]
abbrev eNode (n : Node) : List AV := [ai n.kind, ai n.num]
abbrev lNode (l : List Node) : AV := .lst (l.map eNode)
abbrev eLink (l : Lk) : List AV := [ai l.a, ai l.b, ai l.m]
abbrev lLink (l : List Lk) : AV := .lst (l.map eLink)
abbrev eInt (n : Int) : List AV := [ai n]
abbrev lInt (l : List Int) : AV := .lst (l.map eInt)
abbrev eLeg (l : Leg) : List AV := [ai l.secs, ai l.rate]
abbrev lLeg (l : List Leg) : AV := .lst (l.map eLeg)
abbrev eRun (r : Run) : List AV := [ai r.start, ai r.micro, lLeg r.legs]
theorem wrapN {n : Int} (h : -9223372036854775808 ≤ n ∧ n < 9223372036854775808) : IntKind.wrap .i64 n = n := by
  have e : IntKind.wrap .i64 n = if n % 18446744073709551616 ≥ 9223372036854775808 then n % 18446744073709551616 - 18446744073709551616 else n % 18446744073709551616 := by
    simp [IntKind.wrap, IntKind.signed, IntKind.bits]
  rw [e]; split <;> omega
theorem tdivN {a b : Int} (h : 0 ≤ a) : a.tdiv b = a / b := Int.tdiv_eq_ediv_of_nonneg h
theorem tmodN {a b : Int} (h : 0 ≤ a) : a.tmod b = a % b := Int.tmod_eq_emod_of_nonneg h
theorem maxN {a b : Int} : (if b > a then b else a) = max a b := by rw [Int.max_def]; split <;> split <;> omega
theorem minN {a b : Int} : (if b < a then b else a) = min a b := by rw [Int.min_def]; split <;> split <;> omega
theorem drop_cons {α β : Type} {l : List α} {k : Nat} {x : α} {rest : List α} (h : l.drop k = x :: rest) (e : α → β) (d : β) :
    ((k : Int) < (l.length : Int)) ∧ (l.map e).getD k d = e x ∧ l.drop (k + 1) = rest ∧ rest.length + k + 1 = l.length ∧ x ∈ l ∧ (l.map e)[k]? = some (e x) := by
  have hlt : k < l.length := by
    rcases Nat.lt_or_ge k l.length with h' | h'
    · exact h'
    · rw [List.drop_eq_nil_of_le h'] at h; cases h
  have h0 : l[k]? = some x := by
    have := congrArg (fun m => m[0]?) h
    simpa using this
  refine ⟨by omega, ?_, ?_, ?_, List.mem_of_getElem? h0, by rw [List.getElem?_map, h0]; rfl⟩
  · rw [List.getD_eq_getElem?_getD, List.getElem?_map, h0]; rfl
  · have : l.drop (k + 1) = (l.drop k).drop 1 := by simp
    rw [this, h]; rfl
  · have := congrArg List.length h
    simp at this; omega
theorem drop_nil {α : Type} {l : List α} {k : Nat} (h : l.drop k = []) : ¬ ((k : Int) < (l.length : Int)) := by
  have := List.drop_eq_nil_iff.1 h
  omega
theorem getD_map {α β : Type} (e : α → β) (l : List α) (k : Nat) (d : β) (d' : α) (h : k < l.length) : (l.map e).getD k d = e (l.getD k d') := by
  rw [List.getD_eq_getElem?_getD, List.getElem?_map, List.getElem?_eq_getElem h, List.getD_eq_getElem?_getD, List.getElem?_eq_getElem h]; rfl
theorem get_map {α β : Type} (e : α → β) (l : List α) (k : Nat) (d' : α) (h : k < l.length) : (l.map e)[k]? = some (e (l.getD k d')) := by
  rw [List.getElem?_map, List.getElem?_eq_getElem h, List.getD_eq_getElem?_getD, List.getElem?_eq_getElem h]; rfl
theorem pure_map {α : Type} {e : α → List AV} (h : ∀ x, pureL (e x) = true) (l : List α) : (l.map e).all pureL = true := by
  rw [List.all_eq_true]
  intro x hx
  obtain ⟨y, _, rfl⟩ := List.mem_map.1 hx
  exact h y
attribute [push_cast] cx T eqT wrapN tdivN tmodN maxN minN
end Go.Proofs.Ks

set_option maxHeartbeats 8000000
set_option maxRecDepth 10000
namespace Go.Proofs.Ks
open Go Go.Pg Go.Proofs Go.Proofs.Yt
theorem viewLL_ints (H : Nat → Option AO) (l : List Int) : viewLL H (l.map eInt) = some (l.map eInt) := viewLL_map H eInt (fun _ => rfl) l
theorem pure_ints (l : List Int) : (l.map eInt).all pureL = true := pure_map (fun _ => rfl) l
theorem idsLL_ints (l : List Int) : idsLL (l.map eInt) = [] := idsLL_map eInt (fun _ => rfl) l
theorem all_ints (l : List Int) : (∀ c ∈ l.map eInt, c.length = 1) = True := eq_true fun c hc => by obtain ⟨x, _, rfl⟩ := List.mem_map.1 hc; rfl
theorem viewLL_spans (H : Nat → Option AO) (l : List Span) : viewLL H (l.map eSpan) = some (l.map eSpan) := viewLL_map H eSpan (fun _ => rfl) l
theorem pure_spans (l : List Span) : (l.map eSpan).all pureL = true := pure_map (fun _ => rfl) l
theorem idsLL_spans (l : List Span) : idsLL (l.map eSpan) = [] := idsLL_map eSpan (fun _ => rfl) l
theorem all_spans (l : List Span) : (∀ c ∈ l.map eSpan, c.length = 2) = True := eq_true fun c hc => by obtain ⟨x, _, rfl⟩ := List.mem_map.1 hc; rfl
theorem viewLL_stops (H : Nat → Option AO) (l : List Stop) : viewLL H (l.map eStop) = some (l.map eStop) := viewLL_map H eStop (fun _ => rfl) l
theorem pure_stops (l : List Stop) : (l.map eStop).all pureL = true := pure_map (fun _ => rfl) l
theorem idsLL_stops (l : List Stop) : idsLL (l.map eStop) = [] := idsLL_map eStop (fun _ => rfl) l
theorem all_stops (l : List Stop) : (∀ c ∈ l.map eStop, c.length = 3) = True := eq_true fun c hc => by obtain ⟨x, _, rfl⟩ := List.mem_map.1 hc; rfl
theorem viewLL_strikes (H : Nat → Option AO) (l : List Strike) : viewLL H (l.map eStrike) = some (l.map eStrike) := viewLL_map H eStrike (fun _ => rfl) l
theorem pure_strikes (l : List Strike) : (l.map eStrike).all pureL = true := pure_map (fun _ => rfl) l
theorem idsLL_strikes (l : List Strike) : idsLL (l.map eStrike) = [] := idsLL_map eStrike (fun _ => rfl) l
theorem all_strikes (l : List Strike) : (∀ c ∈ l.map eStrike, c.length = 3) = True := eq_true fun c hc => by obtain ⟨x, _, rfl⟩ := List.mem_map.1 hc; rfl
theorem viewLL_sights (H : Nat → Option AO) (l : List Sight) : viewLL H (l.map eSight) = some (l.map eSight) := viewLL_map H eSight (fun _ => rfl) l
theorem pure_sights (l : List Sight) : (l.map eSight).all pureL = true := pure_map (fun _ => rfl) l
theorem idsLL_sights (l : List Sight) : idsLL (l.map eSight) = [] := idsLL_map eSight (fun _ => rfl) l
theorem all_sights (l : List Sight) : (∀ c ∈ l.map eSight, c.length = 3) = True := eq_true fun c hc => by obtain ⟨x, _, rfl⟩ := List.mem_map.1 hc; rfl
theorem viewLL_links (H : Nat → Option AO) (l : List Lk) : viewLL H (l.map eLink) = some (l.map eLink) := viewLL_map H eLink (fun _ => rfl) l
theorem pure_links (l : List Lk) : (l.map eLink).all pureL = true := pure_map (fun _ => rfl) l
theorem idsLL_links (l : List Lk) : idsLL (l.map eLink) = [] := idsLL_map eLink (fun _ => rfl) l
theorem all_links (l : List Lk) : (∀ c ∈ l.map eLink, c.length = 3) = True := eq_true fun c hc => by obtain ⟨x, _, rfl⟩ := List.mem_map.1 hc; rfl
theorem viewLL_nodes (H : Nat → Option AO) (l : List Node) : viewLL H (l.map eNode) = some (l.map eNode) := viewLL_map H eNode (fun _ => rfl) l
theorem pure_nodes (l : List Node) : (l.map eNode).all pureL = true := pure_map (fun _ => rfl) l
theorem idsLL_nodes (l : List Node) : idsLL (l.map eNode) = [] := idsLL_map eNode (fun _ => rfl) l
theorem all_nodes (l : List Node) : (∀ c ∈ l.map eNode, c.length = 2) = True := eq_true fun c hc => by obtain ⟨x, _, rfl⟩ := List.mem_map.1 hc; rfl
theorem viewLL_legs (H : Nat → Option AO) (l : List Leg) : viewLL H (l.map eLeg) = some (l.map eLeg) := viewLL_map H eLeg (fun _ => rfl) l
theorem pure_legs (l : List Leg) : (l.map eLeg).all pureL = true := pure_map (fun _ => rfl) l
theorem idsLL_legs (l : List Leg) : idsLL (l.map eLeg) = [] := idsLL_map eLeg (fun _ => rfl) l
theorem all_legs (l : List Leg) : (∀ c ∈ l.map eLeg, c.length = 2) = True := eq_true fun c hc => by obtain ⟨x, _, rfl⟩ := List.mem_map.1 hc; rfl
theorem takeM {α β : Type} (f : α → β) (l : List α) (k : Nat) : (l.map f).take k = (l.take k).map f := List.map_take.symm
theorem dropM {α β : Type} (f : α → β) (l : List α) (k : Nat) : (l.map f).drop k = (l.drop k).map f := List.map_drop.symm
theorem getD_eInt (l : List Int) (k : Nat) (h : k < l.length) : (l.map eInt).getD k [] = [ai (l.getD k 0)] := getD_map eInt l k [] 0 h
theorem get_eInt (l : List Int) (k : Nat) (h : k < l.length) : (l.map eInt)[k]? = some [ai (l.getD k 0)] := get_map eInt l k 0 h
theorem rowAt_frzG (H : Nat → Option AO) (ids : List Nat) (j : Nat) : Pg.rowAt (frz' H ids) j = if j ∈ ids then (Pg.rowAt H j).map (fun r => { r with fro := true }) else Pg.rowAt H j := by
  unfold frz' frz Pg.rowAt
  cases ids with
  | nil => simp
  | cons i ids =>
    simp only [List.isEmpty_cons, Bool.false_eq_true, if_false]
    by_cases h : j ∈ i :: ids
    · simp only [h, if_true]
      cases hh : H j with
      | none => rfl
      | some o => cases o <;> rfl
    · simp only [h, if_false]
theorem isEmpty_map {α β : Type} (f : α → β) (l : List α) : (l.map f).isEmpty = l.isEmpty := by cases l <;> rfl
theorem lo_len {α : Type} (l : List α) : (if l.isEmpty = true then 0 else l.length) = l.length := by cases l <;> rfl
theorem lo_gen {α : Type} (l : List α) (a b : Nat) (h : l.length = 0 → a = b) : (if l.isEmpty = true then a else b) = b := by
  split
  · rename_i he; exact h (by rw [List.isEmpty_iff.1 he]; rfl)
  · rfl
theorem leT {a b : Nat} (h : a ≤ b) : (a ≤ b) = True := eq_true h
theorem maxNx (a : Nat) : max a (a + 1) = a + 1 := by omega
theorem take_mapLen {α : Type} (f : α → List AV) (l : List α) (n : Nat) (h : n = l.length) : (l.map f).take n = l.map f := by rw [List.take_of_length_le (by simp [h])]
attribute [push_cast] all_ints viewLL_ints pure_ints idsLL_ints all_spans viewLL_spans pure_spans idsLL_spans all_stops viewLL_stops pure_stops idsLL_stops all_strikes viewLL_strikes pure_strikes idsLL_strikes all_sights viewLL_sights pure_sights idsLL_sights all_links viewLL_links pure_links idsLL_links all_nodes viewLL_nodes pure_nodes idsLL_nodes all_legs viewLL_legs pure_legs idsLL_legs maxNx get_eInt getD_eInt isEmpty_map lo_len lo_gen rowAt_frzG List.map_set List.length_set List.drop_zero Nat.zero_le List.mem_cons List.not_mem_nil or_false or_self Nat.add_assoc List.length_append List.map_append List.append_assoc List.isEmpty_cons List.isEmpty_nil List.map_cons List.map_nil List.length_cons List.length_nil List.nil_append List.cons_append
end Go.Proofs.Ks

namespace Go.Proofs.Ks
open Go Go.Pg Go.Proofs Go.Proofs.Yt
def inB (x : Span) (lo hi : Int) : Bool := decide (lo ≤ x.lo) && decide (x.lo ≤ x.hi) && decide (x.hi ≤ hi)
def hasB (x : Span) (n : Int) : Bool := decide (x.lo ≤ n) && decide (n ≤ x.hi)
theorem inB_iff {x : Span} {lo hi : Int} : inB x lo hi = true ↔ lo ≤ x.lo ∧ x.lo ≤ x.hi ∧ x.hi ≤ hi := by unfold inB; simp [and_assoc]
theorem within_ok (x : Span) (lo hi : Int) : OKv cx 35 [.agg (eSpan x), ai lo, ai hi] (ab (inB x lo hi)) := by
  unfold inB
  refine OKat.of_body (rs := [6]) Tryz.func35 rfl (by decide +kernel) rfl (by simp [Tryz.ntmps35]) ?_
  simp only [Tryz.ntmps35]
  repeat' first
    | apply jA | apply jB | apply jC | apply jI
    | ((first | (apply jK kO; decide) | (apply jN; rfl; decide)); (simp (disch := omega) only [push_cast, simprocAttr] <;> rfl); all_goals try ((with_reducible intro hI); try first | (cases hI; done) | (simp only [INTS, zL] at hI; try first | (exfalso; omega) | (have hT : True := hI; clear hT hI))))
    | ((apply W.ret1); (iterate 2 (try (simp (disch := omega) only [push_cast, simprocAttr] <;> rfl))))
  all_goals (show _ = _; first | rfl | (simp [*]; done) | (simp; omega) | (simp_all; omega))
theorem has_ok (x : Span) (n : Int) : OKv cx 17 [.agg (eSpan x), ai n] (ab (hasB x n)) := by
  unfold hasB
  refine OKat.of_body (rs := [4]) Tryz.func17 rfl (by decide +kernel) rfl (by simp [Tryz.ntmps17]) ?_
  simp only [Tryz.ntmps17]
  repeat' first
    | apply jA | apply jB | apply jC | apply jI
    | ((first | (apply jK kO; decide) | (apply jN; rfl; decide)); (simp (disch := omega) only [push_cast, simprocAttr] <;> rfl); all_goals try ((with_reducible intro hI); try first | (cases hI; done) | (simp only [INTS, zL] at hI; try first | (exfalso; omega) | (have hT : True := hI; clear hT hI))))
    | ((apply W.ret1); (iterate 2 (try (simp (disch := omega) only [push_cast, simprocAttr] <;> rfl))))
  all_goals (show _ = _; first | rfl | (simp [*]; done) | (simp; omega) | (simp_all; omega))
end Go.Proofs.Ks

namespace Go.Proofs.Ks
open Go Go.Pg Go.Proofs Go.Proofs.Yt
def stopsE (fin : Int) : Int → List Stop → Int
  | _, [] => 0
  | b, x :: r => if x.pos ≤ b ∨ fin ≤ x.pos ∨ inB x.secs 0 36000 = false then 1 else stopsE fin x.pos r
def sessB (s : Session) : Bool := decide (1 ≤ s.id) && decide (s.id ≤ 1099511627776) && inB s.inn 0 1073741823 && inB s.out 0 1073741823 && inB s.zero 0 43199 && inB s.fin s.zero.lo 43199 && decide (s.zero.hi ≤ s.fin.hi) && inB s.rate 900000 1100000
def sessE (s : Session) : Int := if 4 < s.stops.length then 2 else if sessB s = true then stopsE s.fin.lo s.zero.hi s.stops else 1
theorem sessB_facts {s : Session} (h : sessB s = true) : 1 ≤ s.id ∧ s.id ≤ 1099511627776 ∧ inB s.inn 0 1073741823 = true ∧ inB s.out 0 1073741823 = true ∧ inB s.zero 0 43199 = true ∧ inB s.fin s.zero.lo 43199 = true ∧ s.zero.hi ≤ s.fin.hi ∧ inB s.rate 900000 1100000 = true := by
  unfold sessB at h; simpa [and_assoc] using h
theorem sessB_of {s : Session} (h1 : 1 ≤ s.id) (h2 : s.id ≤ 1099511627776) (h3 : inB s.inn 0 1073741823 = true) (h4 : inB s.out 0 1073741823 = true) (h5 : inB s.zero 0 43199 = true) (h6 : inB s.fin s.zero.lo 43199 = true) (h7 : s.zero.hi ≤ s.fin.hi) (h8 : inB s.rate 900000 1100000 = true) : sessB s = true := by
  unfold sessB; simp [*]
theorem checkSession_ok (s0 : Session) : OKv cx 34 [.agg (eSession s0)] (ai (sessE s0)) := by
  by_cases h4 : 4 < s0.stops.length
  · have e : sessE s0 = 2 := if_pos h4
    have h4' : (4 : Int) < (s0.stops.length : Int) := by omega
    rw [e]
    refine OKat.of_body (rs := [2]) Tryz.func34 rfl (by decide +kernel) rfl (by simp [Tryz.ntmps34]) ?_
    simp only [Tryz.ntmps34]
    repeat' first
      | apply jA | apply jB | apply jC | apply jI
      | ((first | (apply jK kO; decide) | apply jR); (simp (disch := omega) only [push_cast, simprocAttr, h4'] <;> rfl); all_goals try ((with_reducible intro hI); try first | (cases hI; done) | (simp only [INTS, zL] at hI; try first | (exfalso; omega) | (have hT : True := hI; clear hT hI))))
      | ((apply W.ret1); (iterate 2 (try (simp (disch := omega) only [push_cast, simprocAttr, h4'] <;> rfl))))
    all_goals (show _ = _; rfl)
  have h4' : ¬ (4 : Int) < (s0.stops.length : Int) := by omega
  by_cases hB : sessB s0 = true
  · obtain ⟨b1, b2, b3, b4, b5, b6, b7, b8⟩ := sessB_facts hB
    obtain ⟨RES, hR⟩ : ∃ x, stopsE s0.fin.lo s0.zero.hi s0.stops = x := ⟨_, rfl⟩
    have e : sessE s0 = RES := by unfold sessE; rw [if_neg h4, if_pos hB, hR]
    rw [e]
    refine OKat.of_body (rs := [2]) Tryz.func34 rfl (by decide +kernel) rfl (by simp [Tryz.ntmps34]) ?_
    simp only [Tryz.ntmps34]
    repeat' first
      | apply jA | apply jB | apply jD | apply jE | apply jI
      | ((first | (apply jK kO; decide) | (apply jN; rfl; decide) | apply jR); (simp (disch := omega) only [push_cast, simprocAttr, h4', b1, b2, b3, b4, b5, b6, b7, b8] <;> rfl); all_goals try ((with_reducible intro hI); try first | (cases hI; done) | (simp only [INTS, zL] at hI; try first | (exfalso; omega) | (have hT : True := hI; clear hT hI))))
      | ((apply jV kO; decide); (iterate 2 (simp (disch := omega) only [push_cast, simprocAttr, h4', b1, b2, b3, b4, b5, b6, b7, b8] <;> rfl)); (with_reducible exact within_ok _ _ _); try first | rfl | (simp (disch := omega) only [push_cast, simprocAttr, h4', b1, b2, b3, b4, b5, b6, b7, b8] <;> rfl))
    refine AW.loop (fun n s => ∃ (k : Nat) (b : Int) (rest : List Stop), n = rest.length ∧ (s0.stops.drop k = rest) ∧ (stopsE s0.fin.lo b rest = RES) ∧ 1 ≤ s.nx ∧ s.tm 1 = .ptr 0 0 0 1 ∧ s.tm 3 = ai b ∧ s.tm 62 = lStop s0.stops ∧ s.tm 63 = ai s0.stops.length ∧ s.tm 64 = ai k ∧ Pg.rowAt s.H (0) = some ({ k := 12, es := [eSession s0], ty := 32 })) (s0.stops.length) ⟨0, s0.zero.hi, s0.stops, rfl, rfl, hR, ?_, ?_, ?_, ?_, ?_, ?_, ?_⟩ ?_
    iterate 7 (first | (simp (disch := omega) only [push_cast, simprocAttr, h4', b1, b2, b3, b4, b5, b6, b7, b8] <;> first | rfl | omega) | omega)
    rintro n s ⟨k, b, rest, hn, hp0, hp1, hnl, hS⟩
    have hZ : (0 : Nat) ≠ s.nx ∧ s.nx ≠ (0 : Nat) := by omega
    rcases rest with _ | ⟨x, rest⟩
    · have hk := drop_nil hp0
      repeat' first
        | apply jA | apply jB | apply jC | apply jF | apply jI
        | ((first | (apply jK kO; decide) | apply jR); (simp (disch := omega) only [push_cast, simprocAttr, hS, hZ, hk] <;> rfl); all_goals try ((with_reducible intro hI); try first | (cases hI; done) | (simp only [INTS, zL] at hI; try first | (exfalso; omega) | (have hT : True := hI; clear hT hI))))
        | ((apply W.ret1); (iterate 2 (try (simp (disch := omega) only [push_cast, simprocAttr, hS, hZ, hk] <;> rfl))))
      all_goals (show _ = _; rw [← hp1]; rfl)
    · obtain ⟨hk, hg, hd', hl', hm, hx⟩ := drop_cons hp0 eStop []
      by_cases hq : x.pos ≤ b ∨ s0.fin.lo ≤ x.pos ∨ inB x.secs 0 36000 = false
      · rw [stopsE, if_pos hq] at hp1
        subst hp1
        repeat' first
          | apply jA | apply jB | apply jC | apply jD | apply jE | apply jI
          | ((first | (apply jK kO; decide) | apply jM kO | (apply jN; rfl; decide) | apply jR); (simp (disch := omega) only [push_cast, simprocAttr, hS, hZ, hk, hg, hx] <;> rfl); all_goals try ((with_reducible intro hI); try first | (cases hI; done) | (simp only [INTS, zL] at hI; try first | (exfalso; omega) | (have hT : True := hI; clear hT hI))))
          | ((apply jV kO; decide); (iterate 2 (simp (disch := omega) only [push_cast, simprocAttr, hS, hZ, hk, hg, hx] <;> rfl)); (with_reducible exact within_ok _ _ _); try first | rfl | (simp (disch := omega) only [push_cast, simprocAttr, hS, hZ, hk, hg, hx] <;> rfl))
          | ((apply W.ret1); (iterate 2 (try (simp (disch := omega) only [push_cast, simprocAttr, hS, hZ, hk, hg, hx] <;> rfl))))
        all_goals first | (show _ = _; rfl) | (exfalso; rcases hq with hq | hq | hq <;> first | omega | simp_all)
      · rw [stopsE, if_neg hq] at hp1
        have q1 : ¬ x.pos ≤ b := fun h => hq (.inl h)
        have q2 : ¬ s0.fin.lo ≤ x.pos := fun h => hq (.inr (.inl h))
        have q3 : inB x.secs 0 36000 = true := by
          cases h : inB x.secs 0 36000 with
          | true => rfl
          | false => exact absurd (.inr (.inr h)) hq
        repeat' first
          | apply jA | apply jB | apply jD | apply jE | apply jI
          | ((first | (apply jK kO; decide) | apply jM kO | (apply jN; rfl; decide) | apply jR); (simp (disch := omega) only [push_cast, simprocAttr, hS, hZ, hk, hg, hx, q1, q2, q3] <;> rfl); all_goals try ((with_reducible intro hI); try first | (cases hI; done) | (simp only [INTS, zL] at hI; try first | (exfalso; omega) | (have hT : True := hI; clear hT hI))))
          | ((apply jV kO; decide); (iterate 2 (simp (disch := omega) only [push_cast, simprocAttr, hS, hZ, hk, hg, hx, q1, q2, q3] <;> rfl)); (with_reducible exact within_ok _ _ _); try first | rfl | (simp (disch := omega) only [push_cast, simprocAttr, hS, hZ, hk, hg, hx, q1, q2, q3] <;> rfl))
        all_goals (refine ⟨rest.length, ?_, k + 1, x.pos, rest, rfl, hd', hp1, ?_, ?_, ?_, ?_, ?_, ?_, ?_⟩; ((simp only [List.length_cons] at *; omega)); all_goals first | (simp (disch := omega) only [push_cast, simprocAttr, hS, hZ, hk, hg, hx, q1, q2, q3] <;> first | rfl | omega) | omega)
  · have e : sessE s0 = 1 := by unfold sessE; rw [if_neg h4, if_neg hB]
    rw [e]
    refine OKat.of_body (rs := [2]) Tryz.func34 rfl (by decide +kernel) rfl (by simp [Tryz.ntmps34]) ?_
    simp only [Tryz.ntmps34]
    repeat' first
      | apply jA | apply jB | apply jC | apply jD | apply jE | apply jI
      | ((first | (apply jK kO; decide) | (apply jN; rfl; decide) | apply jR); (simp (disch := omega) only [push_cast, simprocAttr, h4'] <;> rfl); all_goals try ((with_reducible intro hI); try first | (cases hI; done) | (simp only [INTS, zL] at hI; try first | (exfalso; omega) | (have hT : True := hI; clear hT hI))))
      | ((apply jV kO; decide); (iterate 2 (simp (disch := omega) only [push_cast, simprocAttr, h4'] <;> rfl)); (with_reducible exact within_ok _ _ _); try first | rfl | (simp (disch := omega) only [push_cast, simprocAttr, h4'] <;> rfl))
      | ((apply W.ret1); (iterate 2 (try (simp (disch := omega) only [push_cast, simprocAttr, h4'] <;> rfl))))
    all_goals first | (show _ = _; rfl) | (exfalso; exact hB (sessB_of (by omega) (by omega) (by assumption) (by assumption) (by assumption) (by assumption) (by omega) (by assumption)))
end Go.Proofs.Ks

namespace Go.Proofs.Ks
open Go Go.Pg Go.Proofs Go.Proofs.Yt
def strikeI (n : Int) : Nat → List Strike → Int
  | _, [] => -1
  | k, x :: r => if x.id = n then (k : Int) else strikeI n (k + 1) r
def strikeB (lo hi : Int) (x : Strike) : Bool := decide (1 ≤ x.id) && decide (x.id ≤ 1099511627776) && inB x.pos lo hi
def strikesE (lo hi : Int) : List Int → List Strike → Int
  | _, [] => 0
  | seen, x :: r => if strikeB lo hi x = true then (if x.id ∈ seen then 6 else strikesE lo hi (seen ++ [x.id]) r) else 1
def sightsE (ids : List Int) : List Sight → Int
  | [] => 0
  | x :: r => if inB x.seen 0 1073741823 = true then (if x.strike ∈ ids then sightsE ids r else 5) else 1
def idsOf (r : Rec) : List Int := r.strikes.map (·.id)
def checkE (r : Rec) : Int :=
  if sessE r.s ≠ 0 then sessE r.s else if 12 < r.strikes.length ∨ 12 < r.sights.length then 2 else
  if strikesE r.s.zero.lo r.s.fin.hi [] r.strikes ≠ 0 then strikesE r.s.zero.lo r.s.fin.hi [] r.strikes else sightsE (idsOf r) r.sights
def seenM (ids : List Int) : List (Key × AV) := ids.map fun i => (Key.int i, ab true)
theorem seen_find (n : Int) : ∀ ids : List Int, findM (.int n) (seenM ids) = if n ∈ ids then some (ab true) else none
  | [] => rfl
  | x :: ids => by
    have ih := seen_find n ids
    unfold seenM at ih ⊢
    simp only [List.map_cons, findM, Key.same, beq_iff_eq, List.mem_cons, ih]
    by_cases h : n = x <;> simp [h]
theorem seen_look (n : Int) (ids : List Int) : pickM (.v (.bool false)) false (findM (.int n) (seenM ids)) = ab (decide (n ∈ ids)) := by
  rw [seen_find]
  by_cases h : n ∈ ids <;> simp [h, pickM]
theorem seen_put (n : Int) : ∀ ids : List Int, ¬ n ∈ ids → putM (.int n) (.v (.bool true)) (seenM ids) = seenM (ids ++ [n])
  | [], _ => rfl
  | x :: ids, h => by
    have ih := seen_put n ids (fun hh => h (List.mem_cons_of_mem _ hh))
    have hne : n ≠ x := fun e => h (by rw [e]; exact List.mem_cons_self)
    have hx : (n == x) = false := by simpa using hne
    unfold seenM at ih ⊢
    simp only [List.map_cons, putM, Key.same, hx, Bool.false_eq_true, if_false, List.cons_append, ih]
theorem strikesE_ids (lo hi : Int) : ∀ (l : List Strike) (seen : List Int), strikesE lo hi seen l = 0 → (∀ x ∈ l, strikeB lo hi x = true) ∧ (seen ++ l.map (·.id)).Nodup ∨ ¬ seen.Nodup
  | [], seen, _ => by
    by_cases h : seen.Nodup
    · exact .inl ⟨fun x hx => by simp at hx, by simpa using h⟩
    · exact .inr h
  | x :: l, seen, h => by
    unfold strikesE at h
    split at h
    · rename_i hb
      split at h
      · exact absurd h (by decide)
      · rename_i hn
        by_cases hs : seen.Nodup
        · have hs' : (seen ++ [x.id]).Nodup := List.nodup_append.2 ⟨hs, by simp, fun a ha b hb e => by simp at hb; subst hb; subst e; exact hn ha⟩
          rcases strikesE_ids lo hi l _ h with ⟨h1, h2⟩ | h1
          · refine .inl ⟨fun y hy => ?_, by simpa using h2⟩
            rcases List.mem_cons.1 hy with rfl | hy
            · exact hb
            · exact h1 y hy
          · exact absurd hs' h1
        · exact .inr hs
    · exact absurd h (by decide)
end Go.Proofs.Ks

namespace Go.Proofs.Ks
open Go Go.Pg Go.Proofs Go.Proofs.Yt
theorem take_ids {l : List Strike} {k : Nat} {x : Strike} {rest : List Strike} (h : l.drop k = x :: rest) : (l.take k).map (·.id) ++ [x.id] = (l.take (k + 1)).map (·.id) := by
  have h2 : l[k]? = some x := by
    have := congrArg (fun m => m[0]?) h
    simpa using this
  rw [List.take_add_one, h2]; simp
theorem Check_ok (r0 : Rec) : OKv cx 14 [.agg (eRec r0)] (ai (checkE r0)) := by
  by_cases hs : sessE r0.s = 0
  · have hs0 : (sessE r0.s = 0) = True := eq_true hs
    by_cases h12 : 12 < r0.strikes.length ∨ 12 < r0.sights.length
    · have e : checkE r0 = 2 := by unfold checkE; rw [if_neg (by simp [hs]), if_pos h12]
      rw [e]
      refine OKat.of_body (rs := [2]) Tryz.func14 rfl (by decide +kernel) rfl (by simp [Tryz.ntmps14]) ?_
      simp only [Tryz.ntmps14]
      repeat' first
        | apply jA | apply jB | apply jC | apply jE | apply jI
        | ((first | (apply jK kO; decide) | (apply jN; rfl; decide) | apply jR); (simp (disch := omega) only [push_cast, simprocAttr, hs] <;> rfl); all_goals try ((with_reducible intro hI); try first | (cases hI; done) | (simp only [INTS, zL] at hI; try first | (exfalso; omega) | (have hT : True := hI; clear hT hI))))
        | ((apply jV kO; decide); (iterate 2 (simp (disch := omega) only [push_cast, simprocAttr, hs] <;> rfl)); (with_reducible exact checkSession_ok r0.s); try first | rfl | (simp (disch := omega) only [push_cast, simprocAttr, hs] <;> rfl))
        | ((apply W.ret1); (iterate 2 (try (simp (disch := omega) only [push_cast, simprocAttr, hs] <;> rfl))))
      all_goals first | (show _ = _; rfl) | (exfalso; omega)
    · have h12a : ¬ (12 : Int) < (r0.strikes.length : Int) := by omega
      have h12b : ¬ (12 : Int) < (r0.sights.length : Int) := by omega
      obtain ⟨E1, hE1⟩ : ∃ x, strikesE r0.s.zero.lo r0.s.fin.hi [] r0.strikes = x := ⟨_, rfl⟩
      obtain ⟨E2, hE2⟩ : ∃ x, sightsE (idsOf r0) r0.sights = x := ⟨_, rfl⟩
      have e : checkE r0 = if E1 ≠ 0 then E1 else E2 := by unfold checkE; rw [if_neg (by simp [hs]), if_neg h12, hE1, hE2]
      rw [e]
      refine OKat.of_body (rs := [2]) Tryz.func14 rfl (by decide +kernel) rfl (by simp [Tryz.ntmps14]) ?_
      simp only [Tryz.ntmps14]
      repeat' first
        | apply jA | apply jB | apply jD | apply jE | apply jI
        | ((first | (apply jK kO; decide) | (apply jN; rfl; decide) | apply jR); (simp (disch := omega) only [push_cast, simprocAttr, hs, h12a, h12b] <;> rfl); all_goals try ((with_reducible intro hI); try first | (cases hI; done) | (simp only [INTS, zL] at hI; try first | (exfalso; omega) | (have hT : True := hI; clear hT hI))))
        | (refine W.makeMap kO (by simp only [push_cast, simprocAttr] <;> rfl) (by decide) ?_)
        | ((apply jV kO; decide); (iterate 2 (simp (disch := omega) only [push_cast, simprocAttr, hs, h12a, h12b] <;> rfl)); (with_reducible exact checkSession_ok r0.s); try first | rfl | (simp (disch := omega) only [push_cast, simprocAttr, hs, h12a, h12b] <;> rfl))
      refine AW.loop (fun n s => ∃ (k : Nat) (rest : List Strike), n = rest.length ∧ (r0.strikes.drop k = rest) ∧ (strikesE r0.s.zero.lo r0.s.fin.hi ((r0.strikes.take k).map (·.id)) rest = E1) ∧ 2 ≤ s.nx ∧ s.tm 1 = .ptr 0 0 0 1 ∧ s.tm 4 = .map 1 ∧ s.tm 27 = lStrike r0.strikes ∧ s.tm 28 = ai r0.strikes.length ∧ s.tm 29 = ai k ∧ Pg.rowAt s.H (0) = some ({ k := 14, es := [eRec r0], ty := 50 }) ∧ s.H (1) = some (.mp (.map .int) 0 (seenM ((r0.strikes.take k).map (·.id))))) (r0.strikes.length) ⟨0, r0.strikes, rfl, rfl, hE1, ?_, ?_, ?_, ?_, ?_, ?_, ?_, ?_⟩ ?_
      iterate 8 (first | (simp (disch := omega) only [push_cast, simprocAttr, hs, h12a, h12b, List.take_zero, zW, seenM] <;> first | rfl | omega) | omega)
      rintro n s ⟨k, rest, hn, hp0, hp1, hnl, hS⟩
      have hZ : (0 : Nat) ≠ s.nx ∧ s.nx ≠ (0 : Nat) ∧ (1 : Nat) ≠ s.nx ∧ s.nx ≠ (1 : Nat) := by omega
      rcases rest with _ | ⟨x, rest⟩
      · have hk := drop_nil hp0
        have hE : E1 = 0 := by rw [← hp1]; rfl
        have hall : (r0.strikes.take k).map (·.id) = idsOf r0 := by rw [List.take_of_length_le (by omega)]; rfl
        rw [if_neg (by simp [hE])]
        rw [hall] at hS
        repeat' first
          | apply jA | apply jB | apply jD | apply jF | apply jI
          | ((first | (apply jK kO; decide) | apply jR); (simp (disch := omega) only [push_cast, simprocAttr, hS, hZ, hk] <;> rfl); all_goals try ((with_reducible intro hI); try first | (cases hI; done) | (simp only [INTS, zL] at hI; try first | (exfalso; omega) | (have hT : True := hI; clear hT hI))))
        refine AW.loop (fun n s => ∃ (k : Nat) (rest : List Sight), n = rest.length ∧ (r0.sights.drop k = rest) ∧ (sightsE (idsOf r0) rest = E2) ∧ 2 ≤ s.nx ∧ s.tm 1 = .ptr 0 0 0 1 ∧ s.tm 4 = .map 1 ∧ s.tm 64 = lSight r0.sights ∧ s.tm 65 = ai r0.sights.length ∧ s.tm 66 = ai k ∧ Pg.rowAt s.H (0) = some ({ k := 14, es := [eRec r0], ty := 50 }) ∧ s.H (1) = some (.mp (.map .int) 0 (seenM (idsOf r0)))) (r0.sights.length) ⟨0, r0.sights, rfl, rfl, hE2, ?_, ?_, ?_, ?_, ?_, ?_, ?_, ?_⟩ ?_
        iterate 8 (first | (simp (disch := omega) only [push_cast, simprocAttr, hS, hZ, hk] <;> first | rfl | omega) | omega)
        rintro n1 s1 ⟨k1, rest1, hn1, hp01, hp11, hnl1, hS1⟩
        have hZ1 : (0 : Nat) ≠ s1.nx ∧ s1.nx ≠ (0 : Nat) ∧ (1 : Nat) ≠ s1.nx ∧ s1.nx ≠ (1 : Nat) := by omega
        rcases rest1 with _ | ⟨y, rest1⟩
        · have hk1 := drop_nil hp01
          repeat' first
            | apply jA | apply jB | apply jC | apply jF | apply jI
            | ((first | (apply jK kO; decide) | apply jR); (simp (disch := omega) only [push_cast, simprocAttr, hS1, hZ1, hk1] <;> rfl); all_goals try ((with_reducible intro hI); try first | (cases hI; done) | (simp only [INTS, zL] at hI; try first | (exfalso; omega) | (have hT : True := hI; clear hT hI))))
            | ((apply W.ret1); (iterate 2 (try (simp (disch := omega) only [push_cast, simprocAttr, hS1, hZ1, hk1] <;> rfl))))
          all_goals (show _ = _; rw [← hp11]; rfl)
        · obtain ⟨hk1, hg1, hd1, hl1, hm1, hx1⟩ := drop_cons hp01 eSight []
          by_cases hq : inB y.seen 0 1073741823 = true
          · by_cases hq2 : y.strike ∈ idsOf r0
            · rw [sightsE, if_pos hq, if_pos hq2] at hp11
              repeat' first
                | apply jA | apply jB | apply jD | apply jE | apply jI
                | ((first | (apply jK kO; decide) | apply jM kO | apply jR); (simp (disch := omega) only [push_cast, simprocAttr, hS1, hZ1, hk1, hg1, hx1, hq, hq2, seen_look] <;> rfl); all_goals try ((with_reducible intro hI); try first | (cases hI; done) | (simp only [INTS, zL] at hI; try first | (exfalso; omega) | (have hT : True := hI; clear hT hI))))
                | ((apply jV kO; decide); (iterate 2 (simp (disch := omega) only [push_cast, simprocAttr, hS1, hZ1, hk1, hg1, hx1, hq, hq2, seen_look] <;> rfl)); (with_reducible exact within_ok _ _ _); try first | rfl | (simp (disch := omega) only [push_cast, simprocAttr, hS1, hZ1, hk1, hg1, hx1, hq, hq2, seen_look] <;> rfl))
              all_goals (refine ⟨rest1.length, ?_, k1 + 1, rest1, rfl, hd1, hp11, ?_, ?_, ?_, ?_, ?_, ?_, ?_, ?_⟩; ((simp only [List.length_cons] at *; omega)); all_goals first | (simp (disch := omega) only [push_cast, simprocAttr, hS1, hZ1, hk1, hg1, hx1, hq, hq2, seen_look] <;> first | rfl | omega) | omega)
            · rw [sightsE, if_pos hq, if_neg hq2] at hp11
              repeat' first
                | apply jA | apply jB | apply jC | apply jD | apply jE | apply jI
                | ((first | (apply jK kO; decide) | apply jM kO | apply jR); (simp (disch := omega) only [push_cast, simprocAttr, hS1, hZ1, hk1, hg1, hx1, hq, hq2, seen_look] <;> rfl); all_goals try ((with_reducible intro hI); try first | (cases hI; done) | (simp only [INTS, zL] at hI; try first | (exfalso; omega) | (have hT : True := hI; clear hT hI))))
                | ((apply jV kO; decide); (iterate 2 (simp (disch := omega) only [push_cast, simprocAttr, hS1, hZ1, hk1, hg1, hx1, hq, hq2, seen_look] <;> rfl)); (with_reducible exact within_ok _ _ _); try first | rfl | (simp (disch := omega) only [push_cast, simprocAttr, hS1, hZ1, hk1, hg1, hx1, hq, hq2, seen_look] <;> rfl))
                | ((apply W.ret1); (iterate 2 (try (simp (disch := omega) only [push_cast, simprocAttr, hS1, hZ1, hk1, hg1, hx1, hq, hq2, seen_look] <;> rfl))))
              all_goals (show _ = _; rw [← hp11])
          · rw [sightsE, if_neg hq] at hp11
            have hq' : inB y.seen 0 1073741823 = false := by simpa using hq
            repeat' first
              | apply jA | apply jB | apply jC | apply jD | apply jE | apply jI
              | ((first | (apply jK kO; decide) | apply jM kO | apply jR); (simp (disch := omega) only [push_cast, simprocAttr, hS1, hZ1, hk1, hg1, hx1, hq'] <;> rfl); all_goals try ((with_reducible intro hI); try first | (cases hI; done) | (simp only [INTS, zL] at hI; try first | (exfalso; omega) | (have hT : True := hI; clear hT hI))))
              | ((apply jV kO; decide); (iterate 2 (simp (disch := omega) only [push_cast, simprocAttr, hS1, hZ1, hk1, hg1, hx1, hq'] <;> rfl)); (with_reducible exact within_ok _ _ _); try first | rfl | (simp (disch := omega) only [push_cast, simprocAttr, hS1, hZ1, hk1, hg1, hx1, hq'] <;> rfl))
              | ((apply W.ret1); (iterate 2 (try (simp (disch := omega) only [push_cast, simprocAttr, hS1, hZ1, hk1, hg1, hx1, hq'] <;> rfl))))
            all_goals (show _ = _; rw [← hp11])
      · obtain ⟨hk, hg, hd', hl', hm, hx⟩ := drop_cons hp0 eStrike []
        by_cases hq : strikeB r0.s.zero.lo r0.s.fin.hi x = true
        · have hqq := hq
          unfold strikeB at hqq
          simp only [Bool.and_eq_true, decide_eq_true_eq] at hqq
          have q1 := hqq.1.1
          have q2 := hqq.1.2
          have q3 := hqq.2
          by_cases hq2 : x.id ∈ (r0.strikes.take k).map (·.id)
          · rw [strikesE, if_pos hq, if_pos hq2] at hp1
            rw [← hp1, if_pos (by decide)]
            repeat' first
              | apply jA | apply jB | apply jC | apply jD | apply jE | apply jI
              | ((first | (apply jK kO; decide) | apply jM kO | (apply jN; rfl; decide) | apply jR); (simp (disch := omega) only [push_cast, simprocAttr, hS, hZ, hk, hg, hx, q1, q2, q3, hq2, seen_look] <;> rfl); all_goals try ((with_reducible intro hI); try first | (cases hI; done) | (simp only [INTS, zL] at hI; try first | (exfalso; omega) | (have hT : True := hI; clear hT hI))))
              | ((apply jV kO; decide); (iterate 2 (simp (disch := omega) only [push_cast, simprocAttr, hS, hZ, hk, hg, hx, q1, q2, q3, hq2, seen_look] <;> rfl)); (with_reducible exact within_ok _ _ _); try first | rfl | (simp (disch := omega) only [push_cast, simprocAttr, hS, hZ, hk, hg, hx, q1, q2, q3, hq2, seen_look] <;> rfl))
              | ((apply W.ret1); (iterate 2 (try (simp (disch := omega) only [push_cast, simprocAttr, hS, hZ, hk, hg, hx, q1, q2, q3, hq2, seen_look] <;> rfl))))
            all_goals (show _ = _; rfl)
          · rw [strikesE, if_pos hq, if_neg hq2, take_ids hp0] at hp1
            have hput := seen_put x.id _ hq2
            rw [take_ids hp0] at hput
            repeat' first
              | apply jA | apply jB | apply jD | apply jE | apply jI
              | ((first | (apply jK kO; decide) | apply jM kO | (apply jN; rfl; decide) | apply jR | apply jS kO); (simp (disch := omega) only [push_cast, simprocAttr, hS, hZ, hk, hg, hx, q1, q2, q3, hq2, seen_look, hput] <;> rfl); all_goals try ((with_reducible intro hI); try first | (cases hI; done) | (simp only [INTS, zL] at hI; try first | (exfalso; omega) | (have hT : True := hI; clear hT hI))))
              | ((apply jV kO; decide); (iterate 2 (simp (disch := omega) only [push_cast, simprocAttr, hS, hZ, hk, hg, hx, q1, q2, q3, hq2, seen_look, hput] <;> rfl)); (with_reducible exact within_ok _ _ _); try first | rfl | (simp (disch := omega) only [push_cast, simprocAttr, hS, hZ, hk, hg, hx, q1, q2, q3, hq2, seen_look, hput] <;> rfl))
            all_goals (refine ⟨rest.length, ?_, k + 1, rest, rfl, hd', hp1, ?_, ?_, ?_, ?_, ?_, ?_, ?_, ?_⟩; ((simp only [List.length_cons] at *; omega)); all_goals first | (simp (disch := omega) only [push_cast, simprocAttr, hS, hZ, hk, hg, hx, q1, q2, q3, hq2, seen_look, hput] <;> first | rfl | omega) | omega)
        · rw [strikesE, if_neg hq] at hp1
          rw [← hp1, if_pos (by decide)]
          repeat' first
            | apply jA | apply jB | apply jC | apply jD | apply jE | apply jI
            | ((first | (apply jK kO; decide) | apply jM kO | (apply jN; rfl; decide) | apply jR); (simp (disch := omega) only [push_cast, simprocAttr, hS, hZ, hk, hg, hx] <;> rfl); all_goals try ((with_reducible intro hI); try first | (cases hI; done) | (simp only [INTS, zL] at hI; try first | (exfalso; omega) | (have hT : True := hI; clear hT hI))))
            | ((apply jV kO; decide); (iterate 2 (simp (disch := omega) only [push_cast, simprocAttr, hS, hZ, hk, hg, hx] <;> rfl)); (with_reducible exact within_ok _ _ _); try first | rfl | (simp (disch := omega) only [push_cast, simprocAttr, hS, hZ, hk, hg, hx] <;> rfl))
            | ((apply W.ret1); (iterate 2 (try (simp (disch := omega) only [push_cast, simprocAttr, hS, hZ, hk, hg, hx] <;> rfl))))
          all_goals first | (show _ = _; rfl) | (exfalso; apply hq; unfold strikeB; simp only [Bool.and_eq_true, decide_eq_true_eq]; exact ⟨⟨by omega, by omega⟩, by assumption⟩)
  · have e : checkE r0 = sessE r0.s := if_pos hs
    rw [e]
    refine OKat.of_body (rs := [2]) Tryz.func14 rfl (by decide +kernel) rfl (by simp [Tryz.ntmps14]) ?_
    simp only [Tryz.ntmps14]
    repeat' first
      | apply jA | apply jB | apply jC | apply jI
      | ((first | (apply jK kO; decide) | apply jR); (simp (disch := omega) only [push_cast, simprocAttr, hs] <;> rfl); all_goals try ((with_reducible intro hI); try first | (cases hI; done) | (simp only [INTS, zL] at hI; try first | (exfalso; omega) | (have hT : True := hI; clear hT hI))))
      | ((apply jV kO; decide); (iterate 2 (simp (disch := omega) only [push_cast, simprocAttr, hs] <;> rfl)); (with_reducible exact checkSession_ok r0.s); try first | rfl | (simp (disch := omega) only [push_cast, simprocAttr, hs] <;> rfl))
      | ((apply W.ret1); (iterate 2 (try (simp (disch := omega) only [push_cast, simprocAttr, hs] <;> rfl))))
    all_goals (show _ = _; rfl)
end Go.Proofs.Ks

namespace Go.Proofs.Ks
open Go Go.Pg Go.Proofs Go.Proofs.Yt
theorem strikeI_case (n : Int) : ∀ (l : List Strike) (j : Nat), (¬ n ∈ l.map (·.id) ∧ strikeI n j l = -1) ∨ ∃ i, i < l.length ∧ strikeI n j l = ((j + i : Nat) : Int) ∧ (l.getD i default).id = n ∧ ¬ n ∈ (l.take i).map (·.id)
  | [], j => .inl ⟨by simp, rfl⟩
  | x :: l, j => by
    unfold strikeI
    by_cases h : x.id = n
    · rw [if_pos h]; exact .inr ⟨0, by simp, rfl, by simpa using h, by simp⟩
    · rw [if_neg h]
      rcases strikeI_case n l (j + 1) with ⟨h1, h2⟩ | ⟨i, h1, h2, h3, h4⟩
      · refine .inl ⟨?_, h2⟩
        simp only [List.map_cons, List.mem_cons, not_or]
        exact ⟨fun e => h e.symm, h1⟩
      · refine .inr ⟨i + 1, by simp; omega, by rw [h2, show j + 1 + i = j + (i + 1) by omega], by simpa using h3, ?_⟩
        simp only [List.take_succ_cons, List.map_cons, List.mem_cons, not_or]
        exact ⟨fun e => h e.symm, h4⟩
theorem strikeI_lt {n : Int} {l : List Strike} {k : Nat} (h : n ∈ (l.take k).map (·.id)) : strikeI n 0 l < (k : Int) ∧ 0 ≤ strikeI n 0 l := by
  rcases strikeI_case n l 0 with ⟨h1, _⟩ | ⟨i, h1, h2, h3, h4⟩
  · exfalso; apply h1
    obtain ⟨x, hx, e⟩ := List.mem_map.1 h
    exact List.mem_map.2 ⟨x, List.mem_of_mem_take hx, e⟩
  · rw [h2]
    have : i < k := by
      rcases Nat.lt_or_ge i k with h' | h'
      · exact h'
      · exfalso; apply h4
        obtain ⟨x, hx, e⟩ := List.mem_map.1 h
        exact List.mem_map.2 ⟨x, (List.take_subset_take_left _ h') hx, e⟩
    omega
end Go.Proofs.Ks

namespace Go.Proofs.Ks
open Go Go.Pg Go.Proofs Go.Proofs.Yt
def insI (n : Int) : List Int → List Int
  | [] => [n]
  | x :: r => if x < n then x :: insI n r else if x = n then x :: r else n :: x :: r
theorem insI_len (n : Int) : ∀ l : List Int, (insI n l).length ≤ l.length + 1
  | [] => by simp [insI]
  | x :: r => by
    have := insI_len n r
    unfold insI
    split
    · simp; omega
    · split <;> simp
end Go.Proofs.Ks

namespace Go.Proofs.Ks
open Go Go.Pg Go.Proofs Go.Proofs.Yt
def insS : List Strike → List Int → List Int
  | [], l => l
  | x :: r, l => insS r (insI (x.pos.hi + 1) (insI x.pos.lo l))
def insM : List Int → List Int → List Int
  | [], l => l
  | x :: r, l => insM r (insI x l)
def marksR (r : Rec) (more : List Int) : List Int := insM more (insS r.strikes (insI (r.s.fin.hi + 1) (insI r.s.fin.lo (insI (r.s.zero.hi + 1) (insI r.s.zero.lo [])))))
structure Rec.V (r : Rec) : Prop where
  ok : checkE r = 0
  z : 0 ≤ r.s.zero.lo ∧ r.s.zero.lo ≤ r.s.zero.hi ∧ r.s.zero.hi ≤ 43199
  f : r.s.zero.lo ≤ r.s.fin.lo ∧ r.s.fin.lo ≤ r.s.fin.hi ∧ r.s.fin.hi ≤ 43199
  zf : r.s.zero.hi ≤ r.s.fin.hi
  inn : 0 ≤ r.s.inn.lo ∧ r.s.inn.lo ≤ r.s.inn.hi ∧ r.s.inn.hi ≤ 1073741823
  out : 0 ≤ r.s.out.lo ∧ r.s.out.lo ≤ r.s.out.hi ∧ r.s.out.hi ≤ 1073741823
  rate : 900000 ≤ r.s.rate.lo ∧ r.s.rate.lo ≤ r.s.rate.hi ∧ r.s.rate.hi ≤ 1100000
  nstops : r.s.stops.length ≤ 4
  stops : ∀ x ∈ r.s.stops, r.s.zero.hi < x.pos ∧ x.pos < r.s.fin.lo ∧ 0 ≤ x.secs.lo ∧ x.secs.lo ≤ x.secs.hi ∧ x.secs.hi ≤ 36000
  nstrikes : r.strikes.length ≤ 12
  strikes : ∀ x ∈ r.strikes, 1 ≤ x.id ∧ x.id ≤ 1099511627776 ∧ r.s.zero.lo ≤ x.pos.lo ∧ x.pos.lo ≤ x.pos.hi ∧ x.pos.hi ≤ r.s.fin.hi
  ids : (r.strikes.map (·.id)).Nodup
  nsights : r.sights.length ≤ 12
  sights : ∀ x ∈ r.sights, 0 ≤ x.seen.lo ∧ x.seen.lo ≤ x.seen.hi ∧ x.seen.hi ≤ 1073741823 ∧ x.strike ∈ r.strikes.map (·.id)
theorem stopsE_zero {fin : Int} : ∀ (l : List Stop) (b : Int), stopsE fin b l = 0 → ∀ x ∈ l, b < x.pos ∧ x.pos < fin ∧ 0 ≤ x.secs.lo ∧ x.secs.lo ≤ x.secs.hi ∧ x.secs.hi ≤ 36000
  | [], _, _, x, hx => by simp at hx
  | y :: l, b, h, x, hx => by
    unfold stopsE at h
    split at h
    · exact absurd h (by decide)
    · rename_i hn
      have h3 : inB y.secs 0 36000 = true := by
        cases h : inB y.secs 0 36000 with
        | true => rfl
        | false => exact absurd (.inr (.inr h)) hn
      have h4 := inB_iff.1 h3
      have h5 : b < y.pos ∧ y.pos < fin := by omega
      rcases List.mem_cons.1 hx with rfl | hx
      · exact ⟨h5.1, h5.2, h4⟩
      · have := stopsE_zero l y.pos h x hx
        omega
theorem sightsE_zero {ids : List Int} : ∀ (l : List Sight), sightsE ids l = 0 → ∀ x ∈ l, 0 ≤ x.seen.lo ∧ x.seen.lo ≤ x.seen.hi ∧ x.seen.hi ≤ 1073741823 ∧ x.strike ∈ ids
  | [], _, x, hx => by simp at hx
  | y :: l, h, x, hx => by
    unfold sightsE at h
    split at h
    · rename_i h1
      split at h
      · rename_i h2
        rcases List.mem_cons.1 hx with rfl | hx
        · obtain ⟨a, b, c⟩ := inB_iff.1 h1
          exact ⟨a, b, c, h2⟩
        · exact sightsE_zero l h x hx
      · exact absurd h (by decide)
    · exact absurd h (by decide)
theorem checkE_V {r : Rec} (h : checkE r = 0) : r.V := by
  have h0 := h
  unfold checkE at h
  split at h
  · exact absurd h (by assumption)
  · rename_i hs
    split at h
    · exact absurd h (by decide)
    · rename_i hl
      split at h
      · rename_i hq; exact absurd h hq
      · rename_i hq
        have hs' : sessE r.s = 0 := by simpa using hs
        have hq' : strikesE r.s.zero.lo r.s.fin.hi [] r.strikes = 0 := by simpa using hq
        unfold sessE at hs'
        split at hs'
        · exact absurd hs' (by decide)
        · rename_i h4
          split at hs'
          · rename_i hB
            obtain ⟨b1, b2, b3, b4, b5, b6, b7, b8⟩ := sessB_facts hB
            have hk : (∀ x ∈ r.strikes, strikeB r.s.zero.lo r.s.fin.hi x = true) ∧ (r.strikes.map (·.id)).Nodup := by
              rcases strikesE_ids _ _ r.strikes [] hq' with h1 | h1
              · simpa using h1
              · exact absurd List.nodup_nil h1
            refine ⟨h0, inB_iff.1 b5, inB_iff.1 b6, b7, inB_iff.1 b3, inB_iff.1 b4, inB_iff.1 b8, by omega, stopsE_zero _ _ hs', by omega, fun x hx => ?_, hk.2, by omega, sightsE_zero _ h⟩
            have h1 := hk.1 x hx
            unfold strikeB at h1
            simp only [Bool.and_eq_true, decide_eq_true_eq] at h1
            obtain ⟨⟨h2, h3⟩, h4⟩ := h1
            exact ⟨h2, h3, inB_iff.1 h4⟩
          · exact absurd hs' (by decide)
end Go.Proofs.Ks
