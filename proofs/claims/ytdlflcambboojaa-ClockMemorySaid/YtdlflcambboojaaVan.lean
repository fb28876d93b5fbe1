/-
  Contracts of functions, proved by going through their code. No conditions.
-/
import Derived.Test.YtdlflcambboojaaVaa
import Derived.Test.YtdlflcambboojaaVaj
import Derived.Test.YtdlflcambboojaaVak
import Derived.Test.YtdlflcambboojaaVam
set_option linter.unusedVariables false
set_option linter.unusedSimpArgs false
set_option maxHeartbeats 8000000
set_option maxRecDepth 10000
namespace Go.Proofs.Ks
open Go Go.Pg Go.Proofs
theorem viewLL_ints (H : Nat → Option AO) (l : List Int) : viewLL H (l.map eInt) = some (l.map eInt) := viewLL_map H eInt (fun _ => rfl) l
theorem pure_ints (l : List Int) : (l.map eInt).all pureL = true := pure_map (fun _ => rfl) l
theorem idsLL_ints (l : List Int) : idsLL (l.map eInt) = [] := idsLL_map eInt (fun _ => rfl) l
theorem all_ints (l : List Int) : (∀ c ∈ l.map eInt, c.length = 1) = True := eq_true fun c hc => by obtain ⟨x, _, rfl⟩ := List.mem_map.1 hc; rfl
theorem viewLL_spans (H : Nat → Option AO) (l : List Span) : viewLL H (l.map eSpan) = some (l.map eSpan) := viewLL_map H eSpan (fun _ => rfl) l
theorem pure_spans (l : List Span) : (l.map eSpan).all pureL = true := pure_map (fun _ => rfl) l
theorem idsLL_spans (l : List Span) : idsLL (l.map eSpan) = [] := idsLL_map eSpan (fun _ => rfl) l
theorem all_spans (l : List Span) : (∀ c ∈ l.map eSpan, c.length = 2) = True := eq_true fun c hc => by obtain ⟨x, _, rfl⟩ := List.mem_map.1 hc; rfl
theorem viewLL_stops (H : Nat → Option AO) (l : List Stop) : viewLL H (l.map eStop) = some (l.map eStop) := viewLL_map H eStop (fun _ => rfl) l
theorem pure_stops (l : List Stop) : (l.map eStop).all pureL = true := pure_map (fun _ => rfl) l
theorem idsLL_stops (l : List Stop) : idsLL (l.map eStop) = [] := idsLL_map eStop (fun _ => rfl) l
theorem all_stops (l : List Stop) : (∀ c ∈ l.map eStop, c.length = 3) = True := eq_true fun c hc => by obtain ⟨x, _, rfl⟩ := List.mem_map.1 hc; rfl
theorem viewLL_strikes (H : Nat → Option AO) (l : List Strike) : viewLL H (l.map eStrike) = some (l.map eStrike) := viewLL_map H eStrike (fun _ => rfl) l
theorem pure_strikes (l : List Strike) : (l.map eStrike).all pureL = true := pure_map (fun _ => rfl) l
theorem idsLL_strikes (l : List Strike) : idsLL (l.map eStrike) = [] := idsLL_map eStrike (fun _ => rfl) l
theorem all_strikes (l : List Strike) : (∀ c ∈ l.map eStrike, c.length = 3) = True := eq_true fun c hc => by obtain ⟨x, _, rfl⟩ := List.mem_map.1 hc; rfl
theorem viewLL_sights (H : Nat → Option AO) (l : List Sight) : viewLL H (l.map eSight) = some (l.map eSight) := viewLL_map H eSight (fun _ => rfl) l
theorem pure_sights (l : List Sight) : (l.map eSight).all pureL = true := pure_map (fun _ => rfl) l
theorem idsLL_sights (l : List Sight) : idsLL (l.map eSight) = [] := idsLL_map eSight (fun _ => rfl) l
theorem all_sights (l : List Sight) : (∀ c ∈ l.map eSight, c.length = 3) = True := eq_true fun c hc => by obtain ⟨x, _, rfl⟩ := List.mem_map.1 hc; rfl
theorem viewLL_links (H : Nat → Option AO) (l : List Lk) : viewLL H (l.map eLink) = some (l.map eLink) := viewLL_map H eLink (fun _ => rfl) l
theorem pure_links (l : List Lk) : (l.map eLink).all pureL = true := pure_map (fun _ => rfl) l
theorem idsLL_links (l : List Lk) : idsLL (l.map eLink) = [] := idsLL_map eLink (fun _ => rfl) l
theorem all_links (l : List Lk) : (∀ c ∈ l.map eLink, c.length = 3) = True := eq_true fun c hc => by obtain ⟨x, _, rfl⟩ := List.mem_map.1 hc; rfl
theorem viewLL_nodes (H : Nat → Option AO) (l : List Node) : viewLL H (l.map eNode) = some (l.map eNode) := viewLL_map H eNode (fun _ => rfl) l
theorem pure_nodes (l : List Node) : (l.map eNode).all pureL = true := pure_map (fun _ => rfl) l
theorem idsLL_nodes (l : List Node) : idsLL (l.map eNode) = [] := idsLL_map eNode (fun _ => rfl) l
theorem all_nodes (l : List Node) : (∀ c ∈ l.map eNode, c.length = 2) = True := eq_true fun c hc => by obtain ⟨x, _, rfl⟩ := List.mem_map.1 hc; rfl
theorem viewLL_legs (H : Nat → Option AO) (l : List Leg) : viewLL H (l.map eLeg) = some (l.map eLeg) := viewLL_map H eLeg (fun _ => rfl) l
theorem pure_legs (l : List Leg) : (l.map eLeg).all pureL = true := pure_map (fun _ => rfl) l
theorem idsLL_legs (l : List Leg) : idsLL (l.map eLeg) = [] := idsLL_map eLeg (fun _ => rfl) l
theorem all_legs (l : List Leg) : (∀ c ∈ l.map eLeg, c.length = 2) = True := eq_true fun c hc => by obtain ⟨x, _, rfl⟩ := List.mem_map.1 hc; rfl
theorem takeM {α β : Type} (f : α → β) (l : List α) (k : Nat) : (l.map f).take k = (l.take k).map f := List.map_take.symm
theorem dropM {α β : Type} (f : α → β) (l : List α) (k : Nat) : (l.map f).drop k = (l.drop k).map f := List.map_drop.symm
theorem getD_eInt (l : List Int) (k : Nat) (h : k < l.length) : (l.map eInt).getD k [] = [ai (l.getD k 0)] := getD_map eInt l k [] 0 h
theorem get_eInt (l : List Int) (k : Nat) (h : k < l.length) : (l.map eInt)[k]? = some [ai (l.getD k 0)] := get_map eInt l k 0 h
theorem rowAt_frzG (H : Nat → Option AO) (ids : List Nat) (j : Nat) : Pg.rowAt (frz' H ids) j = if j ∈ ids then (Pg.rowAt H j).map (fun r => { r with fro := true }) else Pg.rowAt H j := by
  unfold frz' frz Pg.rowAt
  cases ids with
  | nil => simp
  | cons i ids =>
    simp only [zV, zM, if_false]
    by_cases h : j ∈ i :: ids
    · simp only [h, if_true]
      cases hh : H j with
      | none => rfl
      | some o => cases o <;> rfl
    · simp only [h, if_false]
theorem isEmpty_map {α β : Type} (f : α → β) (l : List α) : (l.map f).isEmpty = l.isEmpty := by cases l <;> rfl
theorem lo_len {α : Type} (l : List α) : (if l.isEmpty = true then 0 else l.length) = l.length := by cases l <;> rfl
theorem lo_gen {α : Type} (l : List α) (a b : Nat) (h : l.length = 0 → a = b) : (if l.isEmpty = true then a else b) = b := by
  split
  · rename_i he; exact h (by rw [List.isEmpty_iff.1 he]; rfl)
  · rfl
theorem leT {a b : Nat} (h : a ≤ b) : (a ≤ b) = True := eq_true h
theorem maxNx (a : Nat) : max a (a + 1) = a + 1 := by omega
theorem take_mapLen {α : Type} (f : α → List AV) (l : List α) (n : Nat) (h : n = l.length) : (l.map f).take n = l.map f := by rw [List.take_of_length_le (by simp [h])]
attribute [push_cast] all_ints viewLL_ints pure_ints idsLL_ints all_spans viewLL_spans pure_spans idsLL_spans all_stops viewLL_stops pure_stops idsLL_stops all_strikes viewLL_strikes pure_strikes idsLL_strikes all_sights viewLL_sights pure_sights idsLL_sights all_links viewLL_links pure_links idsLL_links all_nodes viewLL_nodes pure_nodes idsLL_nodes all_legs viewLL_legs pure_legs idsLL_legs maxNx get_eInt getD_eInt isEmpty_map lo_len lo_gen rowAt_frzG List.map_set List.length_set List.drop_zero Nat.zero_le List.mem_cons List.not_mem_nil or_false or_self Nat.add_assoc List.length_append List.map_append List.append_assoc List.isEmpty_cons List.isEmpty_nil List.map_cons List.map_nil List.length_cons List.length_nil List.nil_append List.cons_append
end Go.Proofs.Ks

namespace Go.Proofs.Ks
open Go Go.Pg Go.Proofs
def insI (n : Int) : List Int → List Int
  | [] => [n]
  | x :: r => if x < n then x :: insI n r else if x = n then x :: r else n :: x :: r
theorem insI_len (n : Int) : ∀ l : List Int, (insI n l).length ≤ l.length + 1
  | [] => by simp [insI]
  | x :: r => by
    have := insI_len n r
    unfold insI
    split
    · simp; omega
    · split <;> simp
theorem take_drop_cons {α : Type} {l : List α} {k : Nat} {x : α} {rest : List α} (h : l.drop k = x :: rest) : l.take (k + 1) = l.take k ++ [x] := by
  have h2 : l[k]? = some x := by
    have := congrArg (fun m => m[0]?) h
    simpa using this
  rw [List.take_add_one, h2]; rfl
theorem insert_ok (l : List Int) (n0 : Int) (hl : l.length ≤ 1099511627776) : OKv cx 101 [lInt l, ai n0] (lInt (insI n0 l)) := by
  refine OKat.of_body (rs := [4]) Try.func101 rfl (by decide +kernel) rfl (by simp [Try.ntmps101]) ?_
  simp only [Try.ntmps101]
  repeat' first
    | apply jA | apply jB | apply jC | apply jD | apply jE | apply jF | apply jG | apply jH | apply jI
    | ((first | (apply jK cx_ok; decide) | (apply jN; rfl; decide) | apply jR); (simp (disch := omega) only [push_cast, simprocAttr] <;> rfl); all_goals try ((with_reducible intro hI); try first | (cases hI; done) | (simp only [INTS, zL] at hI; try first | (exfalso; omega) | (have hT : True := hI; clear hT hI))))
    | ((first | apply jf | apply jg); (iterate 2 (try (simp (disch := omega) only [push_cast, simprocAttr] <;> rfl))))
  refine AW.loop (fun n s => ∃ (k : Nat) (rest : List Int), n = rest.length ∧ (l.drop k = rest) ∧ (l.take k ++ insI n0 rest = insI n0 l) ∧ (k ≤ l.length) ∧ s.tm 0 = lInt l ∧ s.tm 1 = ai n0 ∧ s.tm 5 = ai k) (l.length) ⟨0, l, rfl, rfl, rfl, (Nat.zero_le _), ?_, ?_, ?_⟩ ?_
  iterate 3 (first | (simp (disch := omega) only [push_cast, simprocAttr] <;> first | rfl | omega) | omega)
  rintro n s ⟨k, rest, hn, hp0, hp1, hp2, hS⟩
  rcases rest with _ | ⟨x, rest⟩
  · have hk := drop_nil hp0
    have hkl : l.length ≤ k := List.drop_eq_nil_iff.1 hp0
    have hfin : insI n0 l = l ++ [n0] := by rw [← hp1, List.take_of_length_le hkl]; rfl
    have ht : l.take k = l := List.take_of_length_le hkl
    rw [hfin]
    repeat' first
      | apply jA | apply jB | apply jC | apply jD | apply jE | apply jF | apply jG | apply jH | apply jI
      | ((first | (apply jK cx_ok; decide) | (apply jN; rfl; decide) | apply jR); (simp (disch := (first | omega | (simp only [vC]; omega))) only [push_cast, simprocAttr, takeM, dropM, zK, zA, zB, zN, zQ, zR, zO, zP, zT, zS, zU, leT, zH, hS, hk, hp2, ht, hp0] <;> rfl); all_goals try ((with_reducible intro hI); try first | (cases hI; done) | (simp only [INTS, zL] at hI; try first | (exfalso; omega) | (have hT : True := hI; clear hT hI))))
      | (apply jT cx_ok; decide; rfl; rfl; rfl; decide; (iterate 3 (simp (disch := (first | omega | (simp only [vC]; omega))) only [push_cast, simprocAttr, takeM, dropM, zK, zA, zB, zN, zQ, zR, zO, zP, zT, zS, zU, leT, zH, hS, hk, hp2, ht, hp0] <;> rfl)); (first | (focus (simp; done)) | (intro c hc; obtain ⟨x, _, rfl⟩ := List.mem_map.1 hc; rfl)); ((first | rfl | simp (disch := omega) only [push_cast])); ((try dsimp only); (try simp only [vC]); omega); ((try dsimp only); (try simp only [vC]); omega))
      | ((first | apply jf | apply jg); (iterate 2 (try (simp (disch := (first | omega | (simp only [vC]; omega))) only [push_cast, simprocAttr, takeM, dropM, zK, zA, zB, zN, zQ, zR, zO, zP, zT, zS, zU, leT, zH, hS, hk, hp2, ht, hp0] <;> rfl))))
    all_goals (show _ = _; simp)
  · obtain ⟨hk, hg, hd', hl', hm, hx⟩ := drop_cons hp0 eInt []
    by_cases hlt : x < n0
    · rw [insI, if_pos hlt] at hp1
      repeat' first
        | apply jA | apply jB | apply jC | apply jD | apply jE | apply jF | apply jG | apply jH | apply jI
        | ((first | (apply jK cx_ok; decide) | (apply jN; rfl; decide) | apply jR); (simp (disch := omega) only [push_cast, simprocAttr, hS, hk, hg, hx, hlt] <;> rfl); all_goals try ((with_reducible intro hI); try first | (cases hI; done) | (simp only [INTS, zL] at hI; try first | (exfalso; omega) | (have hT : True := hI; clear hT hI))))
        | ((first | apply jf | apply jg); (iterate 2 (try (simp (disch := omega) only [push_cast, simprocAttr, hS, hk, hg, hx, hlt] <;> rfl))))
      all_goals (refine ⟨rest.length, ?_, k + 1, rest, rfl, hd', (by rw [take_drop_cons hp0, List.append_assoc]; exact hp1), (by omega), ?_, ?_, ?_⟩; ((simp only [zD] at *; omega)); all_goals first | (simp (disch := omega) only [push_cast, simprocAttr, hS, hk, hg, hx, hlt] <;> first | rfl | omega) | omega)
    · by_cases heq : x = n0
      · have heT : (x = n0) = True := eq_true heq
        rw [insI, if_neg hlt, if_pos heq, ← hp0, List.take_append_drop] at hp1
        rw [← hp1]
        repeat' first
          | apply jA | apply jB | apply jC | apply jD | apply jE | apply jF | apply jG | apply jH | apply jI
          | ((first | (apply jK cx_ok; decide) | (apply jN; rfl; decide) | apply jR); (simp (disch := (first | omega | (simp only [vC]; omega))) only [push_cast, simprocAttr, takeM, dropM, zK, zA, zB, zN, zQ, zR, zO, zP, zT, zS, zU, leT, zH, hS, hk, hg, hx, hlt, heT] <;> rfl); all_goals try ((with_reducible intro hI); try first | (cases hI; done) | (simp only [INTS, zL] at hI; try first | (exfalso; omega) | (have hT : True := hI; clear hT hI))))
          | (apply jT cx_ok; decide; rfl; rfl; rfl; decide; (iterate 3 (simp (disch := (first | omega | (simp only [vC]; omega))) only [push_cast, simprocAttr, takeM, dropM, zK, zA, zB, zN, zQ, zR, zO, zP, zT, zS, zU, leT, zH, hS, hk, hg, hx, hlt, heT] <;> rfl)); (first | (focus (simp; done)) | (intro c hc; obtain ⟨x, _, rfl⟩ := List.mem_map.1 hc; rfl)); ((first | rfl | simp (disch := omega) only [push_cast])); ((try dsimp only); (try simp only [vC]); omega); ((try dsimp only); (try simp only [vC]); omega))
          | ((first | apply jf | apply jg); (iterate 2 (try (simp (disch := (first | omega | (simp only [vC]; omega))) only [push_cast, simprocAttr, takeM, dropM, zK, zA, zB, zN, zQ, zR, zO, zP, zT, zS, zU, leT, zH, hS, hk, hg, hx, hlt, heT] <;> rfl))))
        all_goals (show _ = _; rfl)
      · have heF : (x = n0) = False := eq_false heq
        rw [insI, if_neg hlt, if_neg heq, ← hp0] at hp1
        rw [← hp1]
        repeat' first
          | apply jA | apply jB | apply jC | apply jD | apply jE | apply jF | apply jG | apply jH | apply jI
          | ((first | (apply jK cx_ok; decide) | (apply jN; rfl; decide) | apply jR); (simp (disch := (first | omega | (simp only [vC]; omega))) only [push_cast, simprocAttr, takeM, dropM, zK, zA, zB, zN, zQ, zR, zO, zP, zT, zS, zU, leT, zH, hS, hk, hg, hx, hlt, heF, hp2] <;> rfl); all_goals try ((with_reducible intro hI); try first | (cases hI; done) | (simp only [INTS, zL] at hI; try first | (exfalso; omega) | (have hT : True := hI; clear hT hI))))
          | (apply jT cx_ok; decide; rfl; rfl; rfl; decide; (iterate 3 (simp (disch := (first | omega | (simp only [vC]; omega))) only [push_cast, simprocAttr, takeM, dropM, zK, zA, zB, zN, zQ, zR, zO, zP, zT, zS, zU, leT, zH, hS, hk, hg, hx, hlt, heF, hp2] <;> rfl)); (first | (focus (simp; done)) | (intro c hc; obtain ⟨x, _, rfl⟩ := List.mem_map.1 hc; rfl)); ((first | rfl | simp (disch := omega) only [push_cast])); ((try dsimp only); (try simp only [vC]); omega); ((try dsimp only); (try simp only [vC]); omega))
          | ((first | apply jf | apply jg); (iterate 2 (try (simp (disch := (first | omega | (simp only [vC]; omega))) only [push_cast, simprocAttr, takeM, dropM, zK, zA, zB, zN, zQ, zR, zO, zP, zT, zS, zU, leT, zH, hS, hk, hg, hx, hlt, heF, hp2] <;> rfl))))
        all_goals (show _ = _; simp)
end Go.Proofs.Ks

namespace Go.Proofs.Ks
open Go Go.Pg Go.Proofs
def insS : List Strike → List Int → List Int
  | [], l => l
  | x :: r, l => insS r (insI (x.pos.hi + 1) (insI x.pos.lo l))
def insM : List Int → List Int → List Int
  | [], l => l
  | x :: r, l => insM r (insI x l)
def marksR (r : Rec) (more : List Int) : List Int := insM more (insS r.strikes (insI (r.s.fin.hi + 1) (insI r.s.fin.lo (insI (r.s.zero.hi + 1) (insI r.s.zero.lo [])))))
structure Rec.V (r : Rec) : Prop where
  ok : checkE r = 0
  z : 0 ≤ r.s.zero.lo ∧ r.s.zero.lo ≤ r.s.zero.hi ∧ r.s.zero.hi ≤ 43199
  f : r.s.zero.lo ≤ r.s.fin.lo ∧ r.s.fin.lo ≤ r.s.fin.hi ∧ r.s.fin.hi ≤ 43199
  zf : r.s.zero.hi ≤ r.s.fin.hi
  inn : 0 ≤ r.s.inn.lo ∧ r.s.inn.lo ≤ r.s.inn.hi ∧ r.s.inn.hi ≤ 1073741823
  out : 0 ≤ r.s.out.lo ∧ r.s.out.lo ≤ r.s.out.hi ∧ r.s.out.hi ≤ 1073741823
  rate : 900000 ≤ r.s.rate.lo ∧ r.s.rate.lo ≤ r.s.rate.hi ∧ r.s.rate.hi ≤ 1100000
  nstops : r.s.stops.length ≤ 4
  stops : ∀ x ∈ r.s.stops, r.s.zero.hi < x.pos ∧ x.pos < r.s.fin.lo ∧ 0 ≤ x.secs.lo ∧ x.secs.lo ≤ x.secs.hi ∧ x.secs.hi ≤ 36000
  nstrikes : r.strikes.length ≤ 12
  strikes : ∀ x ∈ r.strikes, 1 ≤ x.id ∧ x.id ≤ 1099511627776 ∧ r.s.zero.lo ≤ x.pos.lo ∧ x.pos.lo ≤ x.pos.hi ∧ x.pos.hi ≤ r.s.fin.hi
  ids : (r.strikes.map (·.id)).Nodup
  nsights : r.sights.length ≤ 12
  sights : ∀ x ∈ r.sights, 0 ≤ x.seen.lo ∧ x.seen.lo ≤ x.seen.hi ∧ x.seen.hi ≤ 1073741823 ∧ x.strike ∈ r.strikes.map (·.id)
theorem stopsE_zero {fin : Int} : ∀ (l : List Stop) (b : Int), stopsE fin b l = 0 → ∀ x ∈ l, b < x.pos ∧ x.pos < fin ∧ 0 ≤ x.secs.lo ∧ x.secs.lo ≤ x.secs.hi ∧ x.secs.hi ≤ 36000
  | [], _, _, x, hx => by simp at hx
  | y :: l, b, h, x, hx => by
    unfold stopsE at h
    split at h
    · exact absurd h (by decide)
    · rename_i hn
      have h3 : inB y.secs 0 36000 = true := by
        cases h : inB y.secs 0 36000 with
        | true => rfl
        | false => exact absurd (.inr (.inr h)) hn
      have h4 := inB_iff.1 h3
      have h5 : b < y.pos ∧ y.pos < fin := by omega
      rcases List.mem_cons.1 hx with rfl | hx
      · exact ⟨h5.1, h5.2, h4⟩
      · have := stopsE_zero l y.pos h x hx
        omega
theorem sightsE_zero {ids : List Int} : ∀ (l : List Sight), sightsE ids l = 0 → ∀ x ∈ l, 0 ≤ x.seen.lo ∧ x.seen.lo ≤ x.seen.hi ∧ x.seen.hi ≤ 1073741823 ∧ x.strike ∈ ids
  | [], _, x, hx => by simp at hx
  | y :: l, h, x, hx => by
    unfold sightsE at h
    split at h
    · rename_i h1
      split at h
      · rename_i h2
        rcases List.mem_cons.1 hx with rfl | hx
        · obtain ⟨a, b, c⟩ := inB_iff.1 h1
          exact ⟨a, b, c, h2⟩
        · exact sightsE_zero l h x hx
      · exact absurd h (by decide)
    · exact absurd h (by decide)
theorem checkE_V {r : Rec} (h : checkE r = 0) : r.V := by
  have h0 := h
  unfold checkE at h
  split at h
  · exact absurd h (by assumption)
  · rename_i hs
    split at h
    · exact absurd h (by decide)
    · rename_i hl
      split at h
      · rename_i hq; exact absurd h hq
      · rename_i hq
        have hs' : sessE r.s = 0 := by simpa using hs
        have hq' : strikesE r.s.zero.lo r.s.fin.hi [] r.strikes = 0 := by simpa using hq
        unfold sessE at hs'
        split at hs'
        · exact absurd hs' (by decide)
        · rename_i h4
          split at hs'
          · rename_i hB
            obtain ⟨b1, b2, b3, b4, b5, b6, b7, b8⟩ := sessB_facts hB
            have hk : (∀ x ∈ r.strikes, strikeB r.s.zero.lo r.s.fin.hi x = true) ∧ (r.strikes.map (·.id)).Nodup := by
              rcases strikesE_ids _ _ r.strikes [] hq' with h1 | h1
              · simpa using h1
              · exact absurd List.nodup_nil h1
            refine ⟨h0, inB_iff.1 b5, inB_iff.1 b6, b7, inB_iff.1 b3, inB_iff.1 b4, inB_iff.1 b8, by omega, stopsE_zero _ _ hs', by omega, fun x hx => ?_, hk.2, by omega, sightsE_zero _ h⟩
            have h1 := hk.1 x hx
            unfold strikeB at h1
            simp only [Bool.and_eq_true, decide_eq_true_eq] at h1
            obtain ⟨⟨h2, h3⟩, h4⟩ := h1
            exact ⟨h2, h3, inB_iff.1 h4⟩
          · exact absurd hs' (by decide)
theorem insert0_ok (n0 : Int) : OKv cx 101 [.lst [], ai n0] (lInt (insI n0 [])) := insert_ok [] n0 (by decide)
theorem rmarked_ok (r0 : Rec) (more : List Int) (hv : r0.V) (hm : more.length ≤ 1048576) : OKv cx 110 [.agg (eRec r0), lInt more] (lInt (marksR r0 more)) := by
  obtain ⟨z1, z2, z3⟩ := hv.z
  obtain ⟨f1, f2, f3⟩ := hv.f
  have hns := hv.nstrikes
  obtain ⟨L1, h1⟩ : ∃ x, insI r0.s.zero.lo [] = x := ⟨_, rfl⟩
  obtain ⟨L2, h2⟩ : ∃ x, insI (r0.s.zero.hi + 1) L1 = x := ⟨_, rfl⟩
  obtain ⟨L3, h3⟩ : ∃ x, insI r0.s.fin.lo L2 = x := ⟨_, rfl⟩
  obtain ⟨L4, h4⟩ : ∃ x, insI (r0.s.fin.hi + 1) L3 = x := ⟨_, rfl⟩
  have n1 : L1.length ≤ 1 := by rw [← h1]; exact insI_len _ _
  have n2 : L2.length ≤ 2 := by rw [← h2]; have := insI_len (r0.s.zero.hi + 1) L1; omega
  have n3 : L3.length ≤ 3 := by rw [← h3]; have := insI_len r0.s.fin.lo L2; omega
  have n4 : L4.length ≤ 4 := by rw [← h4]; have := insI_len (r0.s.fin.hi + 1) L3; omega
  obtain ⟨R1, hR1⟩ : ∃ x, insS r0.strikes L4 = x := ⟨_, rfl⟩
  obtain ⟨R2, hR2⟩ : ∃ x, insM more R1 = x := ⟨_, rfl⟩
  have e : marksR r0 more = R2 := by unfold marksR; rw [h1, h2, h3, h4, hR1, hR2]
  rw [e]
  refine OKat.of_body (rs := [4]) Try.func110 rfl (by decide +kernel) rfl (by simp [Try.ntmps110]) ?_
  simp only [Try.ntmps110]
  repeat' first
    | apply jA | apply jB | apply jC | apply jD | apply jE | apply jF | apply jG | apply jH | apply jI
    | ((first | (apply jK cx_ok; decide) | apply jM cx_ok | apply jR); (simp (disch := omega) only [push_cast, simprocAttr, h1, h2, h3, h4, zW] <;> rfl); all_goals try ((with_reducible intro hI); try first | (cases hI; done) | (simp only [INTS, zL] at hI; try first | (exfalso; omega) | (have hT : True := hI; clear hT hI))))
    | ((apply jV cx_ok; decide); (iterate 2 (simp (disch := omega) only [push_cast, simprocAttr, h1, h2, h3, h4, zW] <;> rfl)); (with_reducible first | exact insert0_ok _ | exact insert_ok _ _ (by omega)); try first | rfl | (simp (disch := omega) only [push_cast, simprocAttr, h1, h2, h3, h4, zW] <;> rfl))
    | ((first | apply jf | apply jg); (iterate 2 (try (simp (disch := omega) only [push_cast, simprocAttr, h1, h2, h3, h4, zW] <;> rfl))))
  refine AW.loop (fun n s => ∃ (k : Nat) (M : List Int) (rest : List Strike), n = rest.length ∧ (r0.strikes.drop k = rest) ∧ (insS rest M = R1) ∧ (M.length ≤ 4 + 2 * k) ∧ (k ≤ r0.strikes.length) ∧ 1 ≤ s.nx ∧ s.tm 1 = lInt more ∧ s.tm 2 = .ptr 0 0 0 1 ∧ s.tm 6 = lInt M ∧ s.tm 7 = ai k ∧ Pg.rowAt s.H (0) = some ({ k := 14, es := [eRec r0], ty := 30 })) (r0.strikes.length) ⟨0, L4, r0.strikes, rfl, rfl, hR1, (by omega), (Nat.zero_le _), ?_, ?_, ?_, ?_, ?_, ?_⟩ ?_
  iterate 6 (first | (simp (disch := omega) only [push_cast, simprocAttr, h1, h2, h3, h4] <;> first | rfl | omega) | omega)
  rintro n s ⟨k, M, rest, hn, hp0, hp1, hp2, hp3, hnl, hS⟩
  have hZ : (0 : Nat) ≠ s.nx ∧ s.nx ≠ (0 : Nat) := by omega
  rcases rest with _ | ⟨x, rest⟩
  · have hk := drop_nil hp0
    have hM : M = R1 := hp1
    subst hM
    have hMl : M.length ≤ 28 := by omega
    repeat' first
      | apply jA | apply jB | apply jC | apply jD | apply jE | apply jF | apply jG | apply jH | apply jI
      | ((first | (apply jK cx_ok; decide) | apply jM cx_ok | apply jR); (simp (disch := omega) only [push_cast, simprocAttr, hS, hZ, hk] <;> rfl); all_goals try ((with_reducible intro hI); try first | (cases hI; done) | (simp only [INTS, zL] at hI; try first | (exfalso; omega) | (have hT : True := hI; clear hT hI))))
      | ((first | apply jf | apply jg); (iterate 2 (try (simp (disch := omega) only [push_cast, simprocAttr, hS, hZ, hk] <;> rfl))))
    refine AW.loop (fun n s => ∃ (k : Nat) (M : List Int) (rest : List Int), n = rest.length ∧ (more.drop k = rest) ∧ (insM rest M = R2) ∧ (M.length ≤ 28 + k) ∧ s.tm 1 = lInt more ∧ s.tm 6 = lInt M ∧ s.tm 8 = ai k) (more.length) ⟨0, M, more, rfl, rfl, hR2, (by omega), ?_, ?_, ?_⟩ ?_
    iterate 3 (first | (simp (disch := omega) only [push_cast, simprocAttr, hS, hZ, hk] <;> first | rfl | omega) | omega)
    rintro n1 s1 ⟨k1, M1, rest1, hn1, hp01, hp11, hp21, hS1⟩
    rcases rest1 with _ | ⟨y, rest1⟩
    · have hk1 := drop_nil hp01
      repeat' first
        | apply jA | apply jB | apply jC | apply jD | apply jE | apply jF | apply jG | apply jH | apply jI
        | ((first | (apply jK cx_ok; decide) | apply jM cx_ok | apply jR); (simp (disch := omega) only [push_cast, simprocAttr, hS1, hk1] <;> rfl); all_goals try ((with_reducible intro hI); try first | (cases hI; done) | (simp only [INTS, zL] at hI; try first | (exfalso; omega) | (have hT : True := hI; clear hT hI))))
        | ((first | apply jf | apply jg); (iterate 2 (try (simp (disch := omega) only [push_cast, simprocAttr, hS1, hk1] <;> rfl))))
      all_goals (show _ = _; rw [← hp11]; rfl)
    · obtain ⟨hk1, hg1, hd1, hl1, hm1, hx1⟩ := drop_cons hp01 eInt []
      have hn1 := insI_len y M1
      repeat' first
        | apply jA | apply jB | apply jC | apply jD | apply jE | apply jF | apply jG | apply jH | apply jI
        | ((first | (apply jK cx_ok; decide) | apply jM cx_ok | apply jR); (simp (disch := omega) only [push_cast, simprocAttr, hS1, hk1, hg1, hx1] <;> rfl); all_goals try ((with_reducible intro hI); try first | (cases hI; done) | (simp only [INTS, zL] at hI; try first | (exfalso; omega) | (have hT : True := hI; clear hT hI))))
        | ((apply jV cx_ok; decide); (iterate 2 (simp (disch := omega) only [push_cast, simprocAttr, hS1, hk1, hg1, hx1] <;> rfl)); (with_reducible first | exact insert_ok _ _ (by omega)); try first | rfl | (simp (disch := omega) only [push_cast, simprocAttr, hS1, hk1, hg1, hx1] <;> rfl))
        | ((first | apply jf | apply jg); (iterate 2 (try (simp (disch := omega) only [push_cast, simprocAttr, hS1, hk1, hg1, hx1] <;> rfl))))
      all_goals (refine ⟨rest1.length, ?_, k1 + 1, (insI y M1), rest1, rfl, hd1, hp11, (by omega), ?_, ?_, ?_⟩; ((simp only [zD] at *; omega)); all_goals first | (simp (disch := omega) only [push_cast, simprocAttr, hS1, hk1, hg1, hx1] <;> first | rfl | omega) | omega)
  · obtain ⟨hk, hg, hd', hl', hm', hx⟩ := drop_cons hp0 eStrike []
    have hb := hv.strikes x hm'
    obtain ⟨M1, hM1⟩ : ∃ z, insI x.pos.lo M = z := ⟨_, rfl⟩
    have hn1 : M1.length ≤ M.length + 1 := by rw [← hM1]; exact insI_len _ _
    have hn2 := insI_len (x.pos.hi + 1) M1
    rw [insS, hM1] at hp1
    repeat' first
      | apply jA | apply jB | apply jC | apply jD | apply jE | apply jF | apply jG | apply jH | apply jI
      | ((first | (apply jK cx_ok; decide) | apply jM cx_ok | apply jR); (simp (disch := omega) only [push_cast, simprocAttr, hS, hZ, hk, hg, hx, hM1] <;> rfl); all_goals try ((with_reducible intro hI); try first | (cases hI; done) | (simp only [INTS, zL] at hI; try first | (exfalso; omega) | (have hT : True := hI; clear hT hI))))
      | ((apply jV cx_ok; decide); (iterate 2 (simp (disch := omega) only [push_cast, simprocAttr, hS, hZ, hk, hg, hx, hM1] <;> rfl)); (with_reducible first | exact insert_ok _ _ (by omega)); try first | rfl | (simp (disch := omega) only [push_cast, simprocAttr, hS, hZ, hk, hg, hx, hM1] <;> rfl))
      | ((first | apply jf | apply jg); (iterate 2 (try (simp (disch := omega) only [push_cast, simprocAttr, hS, hZ, hk, hg, hx, hM1] <;> rfl))))
    all_goals (refine ⟨rest.length, ?_, k + 1, (insI (x.pos.hi + 1) M1), rest, rfl, hd', hp1, (by omega), (by omega), ?_, ?_, ?_, ?_, ?_, ?_⟩; ((simp only [zD] at *; omega)); all_goals first | (simp (disch := omega) only [push_cast, simprocAttr, hS, hZ, hk, hg, hx, hM1] <;> first | rfl | omega) | omega)
end Go.Proofs.Ks

namespace Go.Proofs.Ks
open Go Go.Pg Go.Proofs
def nd0 : List Node := [⟨0, 0⟩, ⟨1, 0⟩, ⟨2, 0⟩]
theorem nd0_len : nd0.length = 3 := rfl
def ndS (k : Nat) : List Node := (List.range k).map fun (i : Nat) => ⟨3, (i : Int)⟩
def ndM (l : List Int) : List Node := l.map fun x => ⟨4, x⟩
def nodesR (r : Rec) (more : List Int) : List Node := nd0 ++ ndS r.strikes.length ++ ndM (marksR r more)
theorem ndS_succ (k : Nat) : ndS (k + 1) = ndS k ++ [⟨3, (k : Int)⟩] := by unfold ndS; rw [List.range_succ, List.map_append]; rfl
theorem ndS_len (k : Nat) : (ndS k).length = k := by simp [ndS]
theorem ndM_len (l : List Int) : (ndM l).length = l.length := by simp [ndM]
theorem ndM_snoc (l : List Int) (x : Int) : ndM (l ++ [x]) = ndM l ++ [⟨4, x⟩] := by simp [ndM]
theorem insS_len : ∀ (l : List Strike) (M : List Int), (insS l M).length ≤ M.length + 2 * l.length
  | [], M => by simp [insS]
  | x :: l, M => by
    have h1 := insS_len l (insI (x.pos.hi + 1) (insI x.pos.lo M))
    have h2 := insI_len (x.pos.hi + 1) (insI x.pos.lo M)
    have h3 := insI_len x.pos.lo M
    simp only [insS, zD]; omega
theorem insM_len : ∀ (l M : List Int), (insM l M).length ≤ M.length + l.length
  | [], M => by simp [insM]
  | x :: l, M => by
    have h1 := insM_len l (insI x M)
    have h2 := insI_len x M
    simp only [insM, zD]; omega
theorem marksR_len (r : Rec) (more : List Int) : (marksR r more).length ≤ 4 + 2 * r.strikes.length + more.length := by
  unfold marksR
  have h1 := insM_len more (insS r.strikes (insI (r.s.fin.hi + 1) (insI r.s.fin.lo (insI (r.s.zero.hi + 1) (insI r.s.zero.lo [])))))
  have h2 := insS_len r.strikes (insI (r.s.fin.hi + 1) (insI r.s.fin.lo (insI (r.s.zero.hi + 1) (insI r.s.zero.lo []))))
  have h3 := insI_len (r.s.fin.hi + 1) (insI r.s.fin.lo (insI (r.s.zero.hi + 1) (insI r.s.zero.lo [])))
  have h4 := insI_len r.s.fin.lo (insI (r.s.zero.hi + 1) (insI r.s.zero.lo []))
  have h5 := insI_len (r.s.zero.hi + 1) (insI r.s.zero.lo [])
  have h6 := insI_len r.s.zero.lo []
  simp only [zC] at h6
  omega
theorem nodes_ok (r0 : Rec) (more : List Int) (hv : r0.V) (hm : more.length ≤ 1048576) : OKv cx 86 [.agg (eRec r0), lInt more] (lNode (nodesR r0 more)) := by
  have hns := hv.nstrikes
  have hml := marksR_len r0 more
  obtain ⟨mk, hmk⟩ : ∃ x, marksR r0 more = x := ⟨_, rfl⟩
  have hres : nodesR r0 more = nd0 ++ ndS r0.strikes.length ++ ndM mk := by unfold nodesR; rw [hmk]
  rw [hmk] at hml
  rw [hres]
  refine OKat.of_body (rs := [4]) Try.func86 rfl (by decide +kernel) rfl (by simp [Try.ntmps86]) ?_
  simp only [Try.ntmps86]
  repeat' first
    | apply jA | apply jB | apply jC | apply jD | apply jE | apply jF | apply jG | apply jH | apply jI
    | ((first | (apply jK cx_ok; decide) | apply jR); (simp (disch := (first | omega | (simp only [vC]; omega))) only [push_cast, simprocAttr, takeM, dropM, zK, zA, zB, zN, zQ, zR, zO, zP, zT, zS, zU, leT, zH] <;> rfl); all_goals try ((with_reducible intro hI); try first | (cases hI; done) | (simp only [INTS, zL] at hI; try first | (exfalso; omega) | (have hT : True := hI; clear hT hI))))
    | (apply jT cx_ok; decide; rfl; rfl; rfl; decide; (iterate 3 (simp (disch := (first | omega | (simp only [vC]; omega))) only [push_cast, simprocAttr, takeM, dropM, zK, zA, zB, zN, zQ, zR, zO, zP, zT, zS, zU, leT, zH] <;> rfl)); (first | (focus (simp; done)) | (intro c hc; obtain ⟨x, _, rfl⟩ := List.mem_map.1 hc; rfl)); ((first | rfl | simp (disch := omega) only [push_cast])); ((try dsimp only); (try simp only [vC]); omega); ((try dsimp only); (try simp only [vC]); omega))
    | ((first | apply jf | apply jg); (iterate 2 (try (simp (disch := (first | omega | (simp only [vC]; omega))) only [push_cast, simprocAttr, takeM, dropM, zK, zA, zB, zN, zQ, zR, zO, zP, zT, zS, zU, leT, zH] <;> rfl))))
  refine AW.loop (fun n s => ∃ (k lw : Nat), n = r0.strikes.length - k ∧ (k ≤ r0.strikes.length) ∧ (lw ≤ 3 + k) ∧ 2 ≤ s.nx ∧ s.tm 1 = lInt more ∧ s.tm 2 = .ptr 0 0 0 1 ∧ s.tm 5 = .ref 1 0 (3 + k) ∧ s.tm 6 = ai k ∧ Pg.rowAt s.H (0) = some ({ k := 14, es := [eRec r0], ty := 30 }) ∧ Pg.rowAt s.H (1) = some ({ k := 2, es := (nd0 ++ ndS k).map eNode, ty := 144, lo := lw })) (r0.strikes.length) ⟨0, 0, rfl, (Nat.zero_le _), (Nat.zero_le _), ?_, ?_, ?_, ?_, ?_, ?_, ?_⟩ ?_
  iterate 7 (first | (simp (disch := omega) only [push_cast, simprocAttr, ndS, List.range_zero, nd0] <;> first | rfl | omega) | omega)
  rintro n s ⟨k, lw, hn, hp0, hp1, hnl, hS⟩
  have hZ : (0 : Nat) ≠ s.nx ∧ s.nx ≠ (0 : Nat) ∧ (1 : Nat) ≠ s.nx ∧ s.nx ≠ (1 : Nat) := by omega
  by_cases hlt : k < r0.strikes.length
  · have hk : (k : Int) < (r0.strikes.length : Int) := by omega
    repeat' first
      | apply jA | apply jB | apply jC | apply jD | apply jE | apply jF | apply jG | apply jH | apply jI
      | ((first | (apply jK cx_ok; decide) | apply jR); (simp (disch := (first | omega | (simp only [vC, nd0_len, ndS_len, ndM_len]; omega))) only [push_cast, simprocAttr, takeM, dropM, zK, zA, zB, zN, zQ, zR, zO, zP, zT, zS, zU, leT, zH, hS, hZ, hk, nd0_len, ndS_len, ndM_len, ndS_succ] <;> rfl); all_goals try ((with_reducible intro hI); try first | (cases hI; done) | (simp only [INTS, zL] at hI; try first | (exfalso; omega) | (have hT : True := hI; clear hT hI))))
      | (apply jT cx_ok; decide; rfl; rfl; rfl; decide; (iterate 3 (simp (disch := (first | omega | (simp only [vC, nd0_len, ndS_len, ndM_len]; omega))) only [push_cast, simprocAttr, takeM, dropM, zK, zA, zB, zN, zQ, zR, zO, zP, zT, zS, zU, leT, zH, hS, hZ, hk, nd0_len, ndS_len, ndM_len, ndS_succ] <;> rfl)); (first | (focus (simp; done)) | (intro c hc; obtain ⟨x, _, rfl⟩ := List.mem_map.1 hc; rfl)); ((first | rfl | simp (disch := omega) only [push_cast])); ((try dsimp only); (try simp only [vC, nd0_len, ndS_len, ndM_len]); omega); ((try dsimp only); (try simp only [vC, nd0_len, ndS_len, ndM_len]); omega))
      | ((first | apply jf | apply jg); (iterate 2 (try (simp (disch := (first | omega | (simp only [vC, nd0_len, ndS_len, ndM_len]; omega))) only [push_cast, simprocAttr, takeM, dropM, zK, zA, zB, zN, zQ, zR, zO, zP, zT, zS, zU, leT, zH, hS, hZ, hk, nd0_len, ndS_len, ndM_len, ndS_succ] <;> rfl))))
    all_goals (refine ⟨r0.strikes.length - (k + 1), ?_, k + 1, 3 + (k + 1), rfl, (by omega), (by omega), ?_, ?_, ?_, ?_, ?_, ?_, ?_⟩; (omega); all_goals first | (simp (disch := omega) only [push_cast, simprocAttr, hS, hZ, hk, nd0_len, ndS_len, ndM_len, ndS_succ] <;> first | rfl | omega) | omega)
  · have hk : ¬ (k : Int) < (r0.strikes.length : Int) := by omega
    have hke : k = r0.strikes.length := by omega
    subst hke
    repeat' first
      | apply jA | apply jB | apply jC | apply jD | apply jE | apply jF | apply jG | apply jH | apply jI
      | ((first | (apply jK cx_ok; decide) | apply jR); (simp (disch := (first | omega | (simp only [vC, nd0_len, ndS_len, ndM_len]; omega))) only [push_cast, simprocAttr, takeM, dropM, zK, zA, zB, zN, zQ, zR, zO, zP, zT, zS, zU, leT, zH, hS, hZ, hk, hmk, nd0_len, ndS_len, ndM_len, ndS_succ] <;> rfl); all_goals try ((with_reducible intro hI); try first | (cases hI; done) | (simp only [INTS, zL] at hI; try first | (exfalso; omega) | (have hT : True := hI; clear hT hI))))
      | (apply jT cx_ok; decide; rfl; rfl; rfl; decide; (iterate 3 (simp (disch := (first | omega | (simp only [vC, nd0_len, ndS_len, ndM_len]; omega))) only [push_cast, simprocAttr, takeM, dropM, zK, zA, zB, zN, zQ, zR, zO, zP, zT, zS, zU, leT, zH, hS, hZ, hk, hmk, nd0_len, ndS_len, ndM_len, ndS_succ] <;> rfl)); (first | (focus (simp; done)) | (intro c hc; obtain ⟨x, _, rfl⟩ := List.mem_map.1 hc; rfl)); ((first | rfl | simp (disch := omega) only [push_cast])); ((try dsimp only); (try simp only [vC, nd0_len, ndS_len, ndM_len]); omega); ((try dsimp only); (try simp only [vC, nd0_len, ndS_len, ndM_len]); omega))
      | ((apply jV cx_ok; decide); (iterate 2 (simp (disch := (first | omega | (simp only [vC, nd0_len, ndS_len, ndM_len]; omega))) only [push_cast, simprocAttr, takeM, dropM, zK, zA, zB, zN, zQ, zR, zO, zP, zT, zS, zU, leT, zH, hS, hZ, hk, hmk, nd0_len, ndS_len, ndM_len, ndS_succ] <;> rfl)); (with_reducible first | exact rmarked_ok r0 more hv hm); try first | rfl | (simp (disch := (first | omega | (simp only [vC, nd0_len, ndS_len, ndM_len]; omega))) only [push_cast, simprocAttr, takeM, dropM, zK, zA, zB, zN, zQ, zR, zO, zP, zT, zS, zU, leT, zH, hS, hZ, hk, hmk, nd0_len, ndS_len, ndM_len, ndS_succ] <;> rfl))
      | ((first | apply jf | apply jg); (iterate 2 (try (simp (disch := (first | omega | (simp only [vC, nd0_len, ndS_len, ndM_len]; omega))) only [push_cast, simprocAttr, takeM, dropM, zK, zA, zB, zN, zQ, zR, zO, zP, zT, zS, zU, leT, zH, hS, hZ, hk, hmk, nd0_len, ndS_len, ndM_len, ndS_succ] <;> rfl))))
    refine AW.loop (fun n s => ∃ (k lw : Nat) (rest : List Int), n = rest.length ∧ (mk.drop k = rest) ∧ (k ≤ mk.length) ∧ (lw ≤ 3 + r0.strikes.length + k) ∧ 2 ≤ s.nx ∧ s.tm 5 = .ref 1 0 (3 + r0.strikes.length + k) ∧ s.tm 7 = lInt mk ∧ s.tm 8 = ai k ∧ Pg.rowAt s.H (1) = some ({ k := 2, es := (nd0 ++ ndS r0.strikes.length ++ ndM (mk.take k)).map eNode, ty := 144, lo := lw })) (mk.length) ⟨0, lw, mk, rfl, rfl, (Nat.zero_le _), (by omega), ?_, ?_, ?_, ?_, ?_⟩ ?_
    iterate 5 (first | (simp (disch := omega) only [push_cast, simprocAttr, hS, hZ, hk, hmk, List.take_zero, ndM, zW, zZ, nd0_len, ndS_len, ndM_len, ndS_succ] <;> first | rfl | omega) | omega)
    rintro n1 s1 ⟨k1, lw1, rest1, hn1, hp01, hp11, hp21, hnl1, hS1⟩
    have hZ1 : (1 : Nat) ≠ s1.nx ∧ s1.nx ≠ (1 : Nat) := by omega
    rcases rest1 with _ | ⟨x, rest1⟩
    · have hk1 := drop_nil hp01
      have hkm : k1 = mk.length := by have := List.drop_eq_nil_iff.1 hp01; omega
      subst hkm
      repeat' first
        | apply jA | apply jB | apply jC | apply jD | apply jE | apply jF | apply jG | apply jH | apply jI
        | ((first | (apply jK cx_ok; decide) | apply jR); (simp (disch := (first | omega | (simp only [vC, nd0_len, ndS_len, ndM_len]; omega))) only [push_cast, simprocAttr, takeM, dropM, zK, zA, zB, zN, zQ, zR, zO, zP, zT, zS, zU, leT, zH, hS1, hZ1, hk1, nd0_len, ndS_len, ndM_len, ndS_succ] <;> rfl); all_goals try ((with_reducible intro hI); try first | (cases hI; done) | (simp only [INTS, zL] at hI; try first | (exfalso; omega) | (have hT : True := hI; clear hT hI))))
        | (apply jT cx_ok; decide; rfl; rfl; rfl; decide; (iterate 3 (simp (disch := (first | omega | (simp only [vC, nd0_len, ndS_len, ndM_len]; omega))) only [push_cast, simprocAttr, takeM, dropM, zK, zA, zB, zN, zQ, zR, zO, zP, zT, zS, zU, leT, zH, hS1, hZ1, hk1, nd0_len, ndS_len, ndM_len, ndS_succ] <;> rfl)); (first | (focus (simp; done)) | (intro c hc; obtain ⟨x, _, rfl⟩ := List.mem_map.1 hc; rfl)); ((first | rfl | simp (disch := omega) only [push_cast])); ((try dsimp only); (try simp only [vC, nd0_len, ndS_len, ndM_len]); omega); ((try dsimp only); (try simp only [vC, nd0_len, ndS_len, ndM_len]); omega))
        | ((first | apply jf | apply jg); (iterate 2 (try (simp (disch := (first | omega | (simp only [vC, nd0_len, ndS_len, ndM_len]; omega))) only [push_cast, simprocAttr, takeM, dropM, zK, zA, zB, zN, zQ, zR, zO, zP, zT, zS, zU, leT, zH, hS1, hZ1, hk1, nd0_len, ndS_len, ndM_len, ndS_succ] <;> rfl))))
      all_goals (show _ = _; simp)
    · obtain ⟨hk1, hg1, hd1, hl1, hm1, hx1⟩ := drop_cons hp01 eInt []
      have hmin : min k1 mk.length = k1 := by omega
      have hmin2 : min (k1 + 1) mk.length = k1 + 1 := by omega
      repeat' first
        | apply jA | apply jB | apply jC | apply jD | apply jE | apply jF | apply jG | apply jH | apply jI
        | ((first | (apply jK cx_ok; decide) | apply jR); (simp (disch := (first | omega | (simp only [vC, nd0_len, ndS_len, ndM_len]; omega))) only [push_cast, simprocAttr, takeM, dropM, zK, zA, zB, zN, zQ, zR, zO, zP, zT, zS, zU, leT, zH, hS1, hZ1, hk1, hg1, hx1, hmin, nd0_len, ndS_len, ndM_len, ndS_succ] <;> rfl); all_goals try ((with_reducible intro hI); try first | (cases hI; done) | (simp only [INTS, zL] at hI; try first | (exfalso; omega) | (have hT : True := hI; clear hT hI))))
        | (apply jT cx_ok; decide; rfl; rfl; rfl; decide; (iterate 3 (simp (disch := (first | omega | (simp only [vC, nd0_len, ndS_len, ndM_len]; omega))) only [push_cast, simprocAttr, takeM, dropM, zK, zA, zB, zN, zQ, zR, zO, zP, zT, zS, zU, leT, zH, hS1, hZ1, hk1, hg1, hx1, hmin, nd0_len, ndS_len, ndM_len, ndS_succ] <;> rfl)); (first | (focus (simp; done)) | (intro c hc; obtain ⟨x, _, rfl⟩ := List.mem_map.1 hc; rfl)); ((first | rfl | simp (disch := omega) only [push_cast])); ((try dsimp only); (try simp only [vC, nd0_len, ndS_len, ndM_len]); omega); ((try dsimp only); (try simp only [vC, nd0_len, ndS_len, ndM_len]); omega))
        | ((first | apply jf | apply jg); (iterate 2 (try (simp (disch := (first | omega | (simp only [vC, nd0_len, ndS_len, ndM_len]; omega))) only [push_cast, simprocAttr, takeM, dropM, zK, zA, zB, zN, zQ, zR, zO, zP, zT, zS, zU, leT, zH, hS1, hZ1, hk1, hg1, hx1, hmin, nd0_len, ndS_len, ndM_len, ndS_succ] <;> rfl))))
      all_goals (refine ⟨rest1.length, ?_, k1 + 1, 3 + r0.strikes.length + (k1 + 1), rest1, rfl, hd1, (by omega), (by omega), ?_, ?_, ?_, ?_, ?_⟩; ((simp only [zD] at *; omega)); all_goals first | (simp (disch := omega) only [push_cast, simprocAttr, hS1, hZ1, hk1, hg1, hx1, hmin, zA, take_drop_cons hp01, ndM_snoc, nd0_len, ndS_len, ndM_len, ndS_succ] <;> first | rfl | omega) | omega)
end Go.Proofs.Ks

namespace Go.Pg
open Go Go.RowKit
section
variable {C : Cx} {N : Nat} {Q : Exit → St → Prop} {s : St} {ops : Array Oper} {rest : List Oper} {ty : TypeId} {ps : String} {af : Array Edge} {d : Nat}
variable {H0 : Nat → Option AO} {b : Nat} {tg mk av : List Nat} {Fin : St → Prop} {i : Nat}
theorem W.calln (hC : C.OK) (hN : d < N) {fo : Operand} {args : Array Operand} {tys : Array TypeId} {f : FuncId} {vs : List AV} (hf : s.ev fo = .clo f []) (hv : viewL s.H (evsA args.toList s.ev) = some vs) (hids : idsL (evsA args.toList s.ev) = [])
    {row : Row} (hok : OKm C f vs (fun _ => none) 0 (NewRow (· = row))) (k : AWL C N ops Q rest { tm := upd s.tm d (.ref s.nx 0 row.es.length), H := updH s.H s.nx (.row row), nx := s.nx + 1 }) :
    AWL C N ops Q (⟨some d, .call { callee := .value fo, args := args, argTypes := tys }, ty, ps, af, none⟩ :: rest) s :=
  AWL.calln hC rfl rfl hN rfl hf hv hids hok (fun r hr => by subst hr; exact k)
theorem D.calln (hC : C.OK) (hN : d < N) (hi : i ∈ tg) {fo : Operand} {args : Array Operand} {tys : Array TypeId} {f : FuncId} {vs : List AV} (hf : s.ev fo = .clo f []) (hv : viewL s.H (evsA args.toList s.ev) = some vs) (hids : idsL (evsA args.toList s.ev) = [])
    {row : Row} (hok : OKm C f vs (fun _ => none) 0 (NewRow (· = row))) (hav : mk = [] ∨ s.nx ∈ av)
    (k : DW C N ops H0 b tg mk av Fin (i + 1) rest { tm := upd s.tm d (.ref s.nx 0 row.es.length), H := updH s.H s.nx (.row row), nx := s.nx + 1 }) :
    DW C N ops H0 b tg mk av Fin i (⟨some d, .call { callee := .value fo, args := args, argTypes := tys }, ty, ps, af, none⟩ :: rest) s := by
  refine ⟨.ref s.nx 0 row.es.length, { tm := upd s.tm d (.ref s.nx 0 row.es.length), H := updH s.H s.nx (.row row), nx := s.nx + 1 }, rfl, ?_, k⟩
  rw [if_pos hi]
  refine ⟨fun s' h1 h2 hl => ?_, ?_⟩
  · have hev := ev_congr hl
    have e1 : s'.ev fo = .clo f [] := by rw [hev fo (by simp [Op.operands, Call.operands])]; exact hf
    have e2 : evsA args.toList s'.ev = evsA args.toList s.ev := evsA_congr (fun x hx => hev x (by simp only [Op.operands, Call.operands, Array.mem_append]; exact .inr (by simpa using hx)))
    refine one_of_AWL (W.calln (row := row) hC hN e1 (by rw [e2, h1]; exact hv) (by rw [e2]; exact hids) hok (AWL.nil ⟨rfl, ?_⟩))
    rw [h1, h2]; rfl
  · rcases hav with h | h
    · exact .inl h
    · refine .inr fun id' x hid' hx => ?_
      show updH s.H s.nx _ id' = some x
      simp only [updH]
      rw [if_neg (fun e => by rw [e] at hid'; exact hid' h)]; exact hx
theorem newRow_of {i : Nat} {row row0 : Row} {H : Nat → Option AO} {nx : Nat} (h : rowAt H i = some row0) (hr : row0 = row) (hf : row.fro = false) (hfl : flatE row.es) (hne : row.es ≠ []) : NewRow (· = row) (.ref i 0 row.es.length) H nx := by
  subst hr; exact ⟨i, row0, rfl, h, hf, hfl, hne, rfl⟩
end
end Go.Pg
