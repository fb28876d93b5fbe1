/-
  Contracts of functions, proved by going through their code. No conditions.
-/
import Derived.Test.YtofdhddbfjfkcaaDoorPgb
import Derived.Test.YtofdhddbfjfkcaaDoorHb
import Derived.Test.YtofdhddbfjfkcaaDoorHd
import Derived.Test.YtofdhddbfjfkcaaDoorHe
set_option maxHeartbeats 8000000
set_option linter.unusedSimpArgs false
set_option linter.unusedVariables false
set_option maxRecDepth 10000
namespace Go.Proofs.Hs
open Go Go.Pg Go.Proofs

def catB : List ByteArray → ByteArray
  | [] => ByteArray.empty
  | b :: r => b ++ catB r
def lineR (r : Room) : ByteArray := wordsB [(ByteArray.mk #[114, 111, 111, 109]), r.name, itoaB r.floor]
def wordsD (d : Door) : List ByteArray := [(ByteArray.mk #[100, 111, 111, 114])] ++ d.hours.map spanB ++ [(ByteArray.mk #[115, 104, 117, 116])] ++ d.shut.map spanB
def lineD (d : Door) : ByteArray := wordsB (wordsD d)
def wordsW (w : Way) : List ByteArray := [(ByteArray.mk #[119, 97, 121]), itoaB w.a, itoaB w.b, itoaB w.secs, itoaB w.back, itoaB w.door]
def lineW (w : Way) : ByteArray := wordsB (wordsW w)
def textB (h : House) : ByteArray := catB (h.rooms.map lineR) ++ (catB (h.doors.map lineD) ++ catB (h.ways.map lineW))
def printB (h : House) : ByteArray × Int := if (Check h).1 ≠ 0 then (ByteArray.empty, (Check h).1) else (textB h, 0)

theorem size_data (s : ByteArray) : s.data.toList.length = s.size := by rw [Array.length_toList]; rfl
theorem joinTail_len (sep : List UInt8) : ∀ (l : List (List UInt8)) (m n : Nat), (∀ x ∈ l, x.length ≤ m) → l.length ≤ n → (Lib.joinTail sep l).length ≤ n * (m + sep.length)
  | [], m, n, _, _ => by simp [Lib.joinTail]
  | x :: l, m, n, h, hn => by
    obtain ⟨k, rfl⟩ : ∃ k, n = k + 1 := ⟨n - 1, by simp only [List.length_cons] at hn; omega⟩
    have ih := joinTail_len sep l m k (fun y hy => h y (by simp [hy])) (by simp only [List.length_cons] at hn; omega)
    have hx := h x (by simp)
    unfold Lib.joinTail at ih ⊢
    simp only [List.map_cons, List.flatten_cons, List.length_append]
    rw [Nat.add_mul]; omega
theorem joinB_size (xs : List ByteArray) (m n : Nat) (h : ∀ x ∈ xs, x.size ≤ m) (hn : xs.length ≤ n) : (joinB xs (ByteArray.mk #[32])).size ≤ n * (m + 1) := by
  have hs : (joinB xs (ByteArray.mk #[32])).size = (Lib.join (xs.map (·.data.toList)) [32]).length := by
    show (Array.size _) = _
    simp [joinB]
  rw [hs]
  cases xs with
  | nil => simp [Lib.join_nil]
  | cons x r =>
    simp only [List.map_cons]
    rw [Lib.join_cons, List.length_append]
    obtain ⟨k, rfl⟩ : ∃ k, n = k + 1 := ⟨n - 1, by simp only [List.length_cons] at hn; omega⟩
    have := joinTail_len [32] (r.map (·.data.toList)) m k (fun y hy => by
      obtain ⟨z, hz, rfl⟩ := List.mem_map.1 hy
      rw [size_data]; exact h z (by simp [hz])) (by simp only [List.length_cons] at hn; simp; omega)
    have hx := h x (by simp)
    rw [size_data, Nat.add_mul]
    simp only [List.length_cons, List.length_nil, Nat.zero_add] at this
    omega
theorem wordsB_size (xs : List ByteArray) : (wordsB xs).size = (joinB xs (ByteArray.mk #[32])).size + 1 := by
  unfold wordsB; rw [ByteArray.size_append]; rfl
theorem spanB_size {s : Span} (h : 0 ≤ s.lo ∧ s.lo ≤ s.hi ∧ s.hi ≤ 2147483648) : (spanB s).size ≤ 43 := by
  unfold spanB
  have := itoaB_size s.lo (by omega) (by omega)
  have := itoaB_size s.hi (by omega) (by omega)
  rw [ByteArray.size_append, ByteArray.size_append]
  have : (ByteArray.mk #[45]).size = 1 := rfl
  omega

/-- What a valid house's rooms are. -/
theorem Check_rooms {h : House} (hc : (Check h).1 = 0) : ∀ r ∈ h.rooms, named r.name = true ∧ -60 ≤ r.floor ∧ r.floor ≤ 60 := by
  have key : ∀ (l : List Room) (i : Nat) (pre : List Room), chkR i pre l = none → ∀ r ∈ l, named r.name = true ∧ -60 ≤ r.floor ∧ r.floor ≤ 60 := by
    intro l
    induction l with
    | nil => intro _ _ _ r hr; simp at hr
    | cons x l ih =>
      intro i pre hn r hr
      unfold chkR at hn
      split at hn
      · rename_i hx
        split at hn
        · cases hn
        · rcases List.mem_cons.1 hr with rfl | hr
          · exact hx
          · exact ih _ _ hn r hr
      · cases hn
  unfold Check at hc
  split at hc
  · cases hc
  · split at hc
    · cases hc
    · unfold chk1 at hc
      split at hc
      · rename_i e he; exact absurd hc (chkR_ne0 _ _ _ _ he)
      · rename_i he; exact key _ _ _ he
theorem named_size {s : ByteArray} (h : named s = true) : s.size ≤ 16 := by
  unfold named at h
  rw [namedL_eq] at h
  simp only [Bool.and_eq_true, decide_eq_true_eq] at h
  omega
theorem lineR_size {r : Room} (h : named r.name = true ∧ -60 ≤ r.floor ∧ r.floor ≤ 60) : (joinB [(ByteArray.mk #[114, 111, 111, 109]), r.name, itoaB r.floor] (ByteArray.mk #[32])).size ≤ 66 := by
  have h1 := named_size h.1
  have h2 := itoaB_size r.floor (by omega) (by omega)
  refine joinB_size _ 21 3 (fun x hx => ?_) (by simp)
  simp only [List.mem_cons, List.not_mem_nil, or_false] at hx
  rcases hx with rfl | rfl | rfl
  · decide
  · omega
  · exact h2
theorem lineD_size {d : Door} (hd : d.V) : (joinB (wordsD d) (ByteArray.mk #[32])).size ≤ 792 := by
  refine joinB_size _ 43 18 (fun x hx => ?_) ?_
  · unfold wordsD at hx
    simp only [List.mem_append, List.mem_singleton, List.mem_map] at hx
    rcases hx with ((rfl | ⟨s, hs, rfl⟩) | rfl) | ⟨s, hs, rfl⟩
    · decide
    · have := hd.hours.2.1 s hs; exact spanB_size (by omega)
    · decide
    · have := hd.shut.2.1 s hs; exact spanB_size (by omega)
  · have h1 := hd.hours.1
    have h2 := hd.shut.1
    simp [wordsD]; omega
theorem lineW_size {nr nd : Nat} {w : Way} (hw : w.OK nr nd) (h1 : nr ≤ 24) (h2 : nd ≤ 16) : (joinB (wordsW w) (ByteArray.mk #[32])).size ≤ 132 := by
  unfold Way.OK at hw
  refine joinB_size _ 21 6 (fun x hx => ?_) (by simp [wordsW])
  simp only [wordsW, List.mem_cons, List.not_mem_nil, or_false] at hx
  rcases hx with rfl | rfl | rfl | rfl | rfl | rfl
  · decide
  all_goals (exact itoaB_size _ (by omega) (by omega))
theorem empty_app (b : ByteArray) : ByteArray.empty ++ b = b := ByteArray.empty_append

end Go.Proofs.Hs

namespace Go.Proofs.Hs
open Go Go.Pg Go.Proofs

theorem viewLL_str (H : Nat → Option AO) (l : List ByteArray) : viewLL H (l.map eStr) = some (l.map eStr) := viewLL_map H eStr (fun _ => rfl) l
theorem thenQ_x {K : St → Prop} {i : Nat} {Q : Exit → St → Prop} {s : St} (h : Q (.exit i) s) : thenQ K Q (.exit i) s := h
theorem loopQ_x {I : Nat → St → Prop} {n i : Nat} {Q : Exit → St → Prop} {s : St} (h : Q (.exit i) s) : loopQ I n Q (.exit i) s := h
theorem blockQ_x {i : Nat} {Q : Exit → St → Prop} {s : St} (h : Q .normal s) : blockQ i Q (.exit i) s := by simp only [blockQ, if_true]; exact h
theorem blockQ_y {i j : Nat} {Q : Exit → St → Prop} {s : St} (hne : i ≠ j) (h : Q (.exit i) s) : blockQ j Q (.exit i) s := by simp only [blockQ, if_neg hne]; exact h
theorem wordsR_ok (x : Room) (es : List (List AV)) (he : es = [(ByteArray.mk #[114, 111, 111, 109]), x.name, itoaB x.floor].map eStr) (hs : (joinB [(ByteArray.mk #[114, 111, 111, 109]), x.name, itoaB x.floor] (ByteArray.mk #[32])).size ≤ 66) : OKv cx 109 [.lst es] (at_ (lineR x)) := by
  subst he; exact words_ok _ (by simp) (by omega)
theorem wordsD_ok (x : Door) (es : List (List AV)) (he : es = (wordsD x).map eStr) (hn : (wordsD x).length ≤ 1048576) (hs : (joinB (wordsD x) (ByteArray.mk #[32])).size ≤ 792) : OKv cx 109 [.lst es] (at_ (lineD x)) := by
  subst he; exact words_ok _ (by omega) (by omega)
theorem wordsW_ok (x : Way) (es : List (List AV)) (he : es = (wordsW x).map eStr) (hs : (joinB (wordsW x) (ByteArray.mk #[32])).size ≤ 132) : OKv cx 109 [.lst es] (at_ (lineW x)) := by
  subst he; exact words_ok _ (by simp [wordsW]) (by omega)

theorem Print_ok (h : House) (hfit : h.Fit) : OKv cx 73 [.agg (eHouse h)] (.tup [at_ (printB h).1, ai (printB h).2]) := by
  by_cases hc : (Check h).1 = 0
  · have hv := Check_V hc
    have hrooms := Check_rooms hc
    have hrn := hv.rooms
    have hdn := hv.nd
    have hwn := hv.nw
    have hP : printB h = (textB h, 0) := if_neg (by simp [hc])
    rw [hP]
    refine OKat.of_bodyS (rs := [2, 3]) Tryd.func73 rfl (by decide +kernel) rfl (by simp [Tryd.ntmps73]) ?_
    simp only [Tryd.ntmps73]
    repeat' first
      | with_reducible refine thenQ_n ?_ | with_reducible refine AWs.seq ?_ | with_reducible refine loopQ_x ?_ | with_reducible refine thenQ_x ?_ | with_reducible refine blockQ_x ?_ | with_reducible refine blockQ_y (by decide) ?_
      | apply AW.seq | apply AW.region | apply AW.ret | apply AW.block | apply AW.skip | apply AW.exit | apply AW.scope | apply AW.label | apply AWL.nil | apply D.nil
      | refine W.draw cx_mixed (by decide +kernel) ?_
      | ((first | (apply W.step cx_ok; decide) | (apply D.step cx_ok; decide; decide) | apply W.store cx_ok | apply AW.cond); (simp (disch := omega) only [push_cast, simprocAttr, hc] <;> rfl); all_goals try ((with_reducible intro hI); try first | (cases hI; done) | (simp only [INTS] at hI; try first | (exfalso; omega) | (have hT : True := hI; clear hT hI))))
      | ((first | (apply W.callv cx_ok; decide) | (apply D.callv cx_ok; decide; decide)); (iterate 2 (simp (disch := omega) only [push_cast, simprocAttr, hc] <;> rfl)); (with_reducible first | exact Check_ok _ hfit); try first | rfl | (simp (disch := omega) only [push_cast, simprocAttr, hc] <;> rfl))
      | ((first | apply W.retC | apply W.endC' | apply W.retM | apply W.endM' | apply W.ret1 | apply W.end1 | apply W.ret2 | apply W.end2 | apply W.ret3 | apply W.end3 | apply W.ret0 | apply W.end0); (iterate 2 (try (simp (disch := omega) only [push_cast, simprocAttr, hc] <;> rfl))))
      | ((apply P.eqNil; decide); (simp (disch := omega) only [push_cast, simprocAttr, hc] <;> rfl))
      | ((apply P.eqNil'; decide); (simp (disch := omega) only [push_cast, simprocAttr, hc] <;> rfl))
      | ((first | (apply P.neqSame; decide)); (iterate 3 (simp (disch := omega) only [push_cast, simprocAttr, hc] <;> rfl)); exact Nat.zero_le _; exact Nat.zero_le _)
      | ((first | (apply P.toUnsafe; decide) | (apply P.fromUnsafe; decide)); (iterate 2 (simp (disch := omega) only [push_cast, simprocAttr, hc] <;> rfl)); exact Nat.zero_le _; rfl; rfl)
      | ((apply P.noEscape; decide); (simp (disch := omega) only [push_cast, simprocAttr, hc] <;> rfl))
      | ((apply AWL.appendS cx_ok rfl rfl; decide; rfl; rfl; rfl; rfl; rfl; rfl; rfl; rfl; exact byteZero; (iterate 2 (simp (disch := omega) only [push_cast, simprocAttr, hc] <;> rfl)); omega; ((try dsimp only); (try simp only [strE_length, List.length_nil]); omega)))
      | ((first | apply W.retX | apply W.endX); (simp (disch := omega) only [push_cast, simprocAttr, hc] <;> rfl); (refine ⟨?_, ?_, ?_⟩ <;> (first | rfl | (simp (disch := omega) only [push_cast, simprocAttr, hc] <;> rfl))))
    refine AW.loop (fun n s => ∃ (k G : Nat) (l : ByteArray) (rest : List Room), n = rest.length ∧ (h.rooms.drop k = rest) ∧ (l ++ catB (rest.map lineR) = catB (h.rooms.map lineR)) ∧ (l.size ≤ 100 * k) ∧ ((k = 0 ∧ l = ByteArray.empty ∧ Pg.rowAt s.H 1 = some freshB) ∨ (0 < k ∧ 0 < l.size ∧ 2 ≤ G ∧ G < s.nx ∧ Pg.rowAt s.H 1 = some (bRow 1 G l) ∧ Pg.rowAt s.H G = some (gRow l))) ∧ (k ≤ h.rooms.length) ∧ 2 ≤ s.nx ∧ s.tm 1 = .ptr 0 0 0 1 ∧ s.tm 6 = .ptr 1 0 0 1 ∧ s.tm 23 = .lst (h.rooms.map eRoom) ∧ s.tm 24 = ai h.rooms.length ∧ s.tm 25 = ai k ∧ Pg.rowAt s.H (0) = some ({ k := 3, es := [eHouse h], ty := 26 })) (h.rooms.length) ⟨0, 0, ByteArray.empty, _, rfl, rfl, (empty_app _), (Nat.zero_le _), (.inl ⟨rfl, rfl, by simp (disch := omega) only [push_cast, simprocAttr, hc]⟩), (Nat.zero_le _), ?_, ?_, ?_, ?_, ?_, ?_, ?_⟩ ?_
    iterate 7 (first | (simp (disch := omega) only [push_cast, simprocAttr, hc] <;> first | rfl | omega) | omega)
    rintro n s ⟨k, G, l, rest, hn, hp0, hp1, hp2, hp3, hp4, hnl, hS⟩
    have hZ : (0 : Nat) ≠ s.nx ∧ s.nx ≠ (0 : Nat) := by omega
    refine AW.fresh fun hfr => ?_
    have hfz : ∀ m, s.H (s.nx + m) = none := fun m => hfr _ (by omega)
    have hAf : (∀ m, ¬ ((0 : Nat) = s.nx + m)) ∧ (∀ m, ¬ (s.nx + m = (0 : Nat))) ∧ ¬ ((0 : Nat) = s.nx) ∧ ¬ (s.nx = (0 : Nat)) ∧ (∀ m, ¬ ((1 : Nat) = s.nx + m)) ∧ (∀ m, ¬ (s.nx + m = (1 : Nat))) ∧ ¬ ((1 : Nat) = s.nx) ∧ ¬ (s.nx = (1 : Nat)) := by refine ⟨?_, ?_, ?_, ?_, ?_, ?_, ?_, ?_⟩ <;> intros <;> omega
    rcases rest with _ | ⟨x, rest⟩
    · have hk := drop_nil hp0
      rcases hp3 with ⟨hk0, _⟩ | ⟨hk0, hlz, hG1, hG2, hB, hG⟩
      · omega
      have hfzz : ∀ m, s.H (s.nx + m) = none := fun m => hfr _ (by omega)
      have hAf : (∀ m, ¬ ((0 : Nat) = s.nx + m)) ∧ (∀ m, ¬ (s.nx + m = (0 : Nat))) ∧ ¬ ((0 : Nat) = s.nx) ∧ ¬ (s.nx = (0 : Nat)) ∧ (∀ m, ¬ ((1 : Nat) = s.nx + m)) ∧ (∀ m, ¬ (s.nx + m = (1 : Nat))) ∧ ¬ ((1 : Nat) = s.nx) ∧ ¬ (s.nx = (1 : Nat)) ∧ (∀ m, ¬ ((G : Nat) = s.nx + m)) ∧ (∀ m, ¬ (s.nx + m = (G : Nat))) ∧ ¬ ((G : Nat) = s.nx) ∧ ¬ (s.nx = (G : Nat)) := by refine ⟨?_, ?_, ?_, ?_, ?_, ?_, ?_, ?_, ?_, ?_, ?_, ?_⟩ <;> intros <;> omega
      have hP : (0 : Nat) ≠ G ∧ (1 : Nat) ≠ G ∧ (G : Nat) ≠ 0 ∧ (G : Nat) ≠ 1 := by omega
      repeat' first
        | with_reducible refine thenQ_n ?_ | with_reducible refine AWs.seq ?_ | with_reducible refine loopQ_x ?_ | with_reducible refine thenQ_x ?_ | with_reducible refine blockQ_x ?_ | with_reducible refine blockQ_y (by decide) ?_
        | apply AW.seq | apply AW.region | apply AW.ret | apply AW.block | apply AW.skip | apply AW.exit | apply AW.scope | apply AW.label | apply AWL.nil | apply D.nil
        | refine W.draw cx_mixed (by decide +kernel) ?_
        | ((first | (apply W.step cx_ok; decide) | (apply D.step cx_ok; decide; decide) | apply W.store cx_ok | apply AW.cond); (simp (disch := omega) only [push_cast, simprocAttr, hS, hZ, hfz, hAf, hP, hB, hG, hk] <;> rfl); all_goals try ((with_reducible intro hI); try first | (cases hI; done) | (simp only [INTS] at hI; try first | (exfalso; omega) | (have hT : True := hI; clear hT hI))))
        | ((first | apply W.retC | apply W.endC' | apply W.retM | apply W.endM' | apply W.ret1 | apply W.end1 | apply W.ret2 | apply W.end2 | apply W.ret3 | apply W.end3 | apply W.ret0 | apply W.end0); (iterate 2 (try (simp (disch := omega) only [push_cast, simprocAttr, hS, hZ, hfz, hAf, hP, hB, hG, hk] <;> rfl))))
        | ((apply P.eqNil; decide); (simp (disch := omega) only [push_cast, simprocAttr, hS, hZ, hfz, hAf, hP, hB, hG, hk] <;> rfl))
        | ((apply P.eqNil'; decide); (simp (disch := omega) only [push_cast, simprocAttr, hS, hZ, hfz, hAf, hP, hB, hG, hk] <;> rfl))
        | ((first | (apply P.neqSame; decide)); (iterate 3 (simp (disch := omega) only [push_cast, simprocAttr, hS, hZ, hfz, hAf, hP, hB, hG, hk] <;> rfl)); exact Nat.zero_le _; exact Nat.zero_le _)
        | ((first | (apply P.toUnsafe; decide) | (apply P.fromUnsafe; decide)); (iterate 2 (simp (disch := omega) only [push_cast, simprocAttr, hS, hZ, hfz, hAf, hP, hB, hG, hk] <;> rfl)); exact Nat.zero_le _; rfl; rfl)
        | ((apply P.noEscape; decide); (simp (disch := omega) only [push_cast, simprocAttr, hS, hZ, hfz, hAf, hP, hB, hG, hk] <;> rfl))
        | ((apply AWL.appendS cx_ok rfl rfl; decide; rfl; rfl; rfl; rfl; rfl; rfl; rfl; rfl; exact byteZero; (iterate 2 (simp (disch := omega) only [push_cast, simprocAttr, hS, hZ, hfz, hAf, hP, hB, hG, hk] <;> rfl)); omega; ((try dsimp only); (try simp only [strE_length, List.length_nil]); omega)))
        | ((first | apply W.retX | apply W.endX); (simp (disch := omega) only [push_cast, simprocAttr, hS, hZ, hfz, hAf, hP, hB, hG, hk] <;> rfl); (refine ⟨?_, ?_, ?_⟩ <;> (first | rfl | (simp (disch := omega) only [push_cast, simprocAttr, hS, hZ, hfz, hAf, hP, hB, hG, hk] <;> rfl))))
      refine AW.loop (fun n s => ∃ (k G : Nat) (l : ByteArray) (rest : List Door), n = rest.length ∧ (h.doors.drop k = rest) ∧ (l ++ catB (rest.map lineD) = catB (h.rooms.map lineR) ++ catB (h.doors.map lineD)) ∧ (l.size ≤ 2400 + 1000 * k) ∧ (0 < l.size ∧ 2 ≤ G ∧ G < s.nx) ∧ (k ≤ h.doors.length) ∧ 2 ≤ s.nx ∧ s.tm 1 = .ptr 0 0 0 1 ∧ s.tm 6 = .ptr 1 0 0 1 ∧ s.tm 39 = .lst (h.doors.map eDoor) ∧ s.tm 40 = ai h.doors.length ∧ s.tm 41 = ai k ∧ Pg.rowAt s.H (0) = some ({ k := 3, es := [eHouse h], ty := 26 }) ∧ Pg.rowAt s.H (1) = some (bRow 1 G l) ∧ Pg.rowAt s.H (G) = some (gRow l)) (h.doors.length) ⟨0, G, l, _, rfl, rfl, (by have := hp1; simp only [List.map_nil, catB, ByteArray.append_empty] at this; rw [this]), (by have : k ≤ 24 := by { have := hp4; omega }; omega), ⟨hlz, hG1, (by simp (disch := omega) only [push_cast, simprocAttr, hS, hZ, hfz, hAf, hP, hB, hG, hk]; omega)⟩, (Nat.zero_le _), ?_, ?_, ?_, ?_, ?_, ?_, ?_, ?_, ?_⟩ ?_
      iterate 9 (first | (simp (disch := omega) only [push_cast, simprocAttr, hS, hZ, hfz, hAf, hP, hB, hG, hk] <;> first | rfl | omega) | omega)
      rintro n2 s2 ⟨k2, G2, l2, rest2, hn2, hp02, hp12, hp22, hp32, hp42, hnl2, hS2⟩
      have hZ2 : (0 : Nat) ≠ s2.nx ∧ s2.nx ≠ (0 : Nat) ∧ (1 : Nat) ≠ s2.nx ∧ s2.nx ≠ (1 : Nat) ∧ (G2 : Nat) ≠ s2.nx ∧ s2.nx ≠ (G2 : Nat) := by omega
      refine AW.fresh fun hfr2 => ?_
      obtain ⟨hlz2, hG12, hG22⟩ := hp32
      have hfz2 : ∀ m, s2.H (s2.nx + m) = none := fun m => hfr2 _ (by omega)
      have hAf2 : (∀ m, ¬ ((0 : Nat) = s2.nx + m)) ∧ (∀ m, ¬ (s2.nx + m = (0 : Nat))) ∧ ¬ ((0 : Nat) = s2.nx) ∧ ¬ (s2.nx = (0 : Nat)) ∧ (∀ m, ¬ ((1 : Nat) = s2.nx + m)) ∧ (∀ m, ¬ (s2.nx + m = (1 : Nat))) ∧ ¬ ((1 : Nat) = s2.nx) ∧ ¬ (s2.nx = (1 : Nat)) ∧ (∀ m, ¬ ((G2 : Nat) = s2.nx + m)) ∧ (∀ m, ¬ (s2.nx + m = (G2 : Nat))) ∧ ¬ ((G2 : Nat) = s2.nx) ∧ ¬ (s2.nx = (G2 : Nat)) := by refine ⟨?_, ?_, ?_, ?_, ?_, ?_, ?_, ?_, ?_, ?_, ?_, ?_⟩ <;> intros <;> omega
      have hP : (0 : Nat) ≠ G2 ∧ (1 : Nat) ≠ G2 ∧ (G2 : Nat) ≠ 0 ∧ (G2 : Nat) ≠ 1 := by omega
      rcases rest2 with _ | ⟨x2, rest2⟩
      · have hk2 := drop_nil hp02
        repeat' first
          | with_reducible refine thenQ_n ?_ | with_reducible refine AWs.seq ?_ | with_reducible refine loopQ_x ?_ | with_reducible refine thenQ_x ?_ | with_reducible refine blockQ_x ?_ | with_reducible refine blockQ_y (by decide) ?_
          | apply AW.seq | apply AW.region | apply AW.ret | apply AW.block | apply AW.skip | apply AW.exit | apply AW.scope | apply AW.label | apply AWL.nil | apply D.nil
          | refine W.draw cx_mixed (by decide +kernel) ?_
          | ((first | (apply W.step cx_ok; decide) | (apply D.step cx_ok; decide; decide) | apply W.store cx_ok | apply AW.cond); (simp (disch := omega) only [push_cast, simprocAttr, hS2, hZ2, hfz2, hAf2, hP, hk2] <;> rfl); all_goals try ((with_reducible intro hI); try first | (cases hI; done) | (simp only [INTS] at hI; try first | (exfalso; omega) | (have hT : True := hI; clear hT hI))))
          | ((first | apply W.retC | apply W.endC' | apply W.retM | apply W.endM' | apply W.ret1 | apply W.end1 | apply W.ret2 | apply W.end2 | apply W.ret3 | apply W.end3 | apply W.ret0 | apply W.end0); (iterate 2 (try (simp (disch := omega) only [push_cast, simprocAttr, hS2, hZ2, hfz2, hAf2, hP, hk2] <;> rfl))))
          | ((apply P.eqNil; decide); (simp (disch := omega) only [push_cast, simprocAttr, hS2, hZ2, hfz2, hAf2, hP, hk2] <;> rfl))
          | ((apply P.eqNil'; decide); (simp (disch := omega) only [push_cast, simprocAttr, hS2, hZ2, hfz2, hAf2, hP, hk2] <;> rfl))
          | ((first | (apply P.neqSame; decide)); (iterate 3 (simp (disch := omega) only [push_cast, simprocAttr, hS2, hZ2, hfz2, hAf2, hP, hk2] <;> rfl)); exact Nat.zero_le _; exact Nat.zero_le _)
          | ((first | (apply P.toUnsafe; decide) | (apply P.fromUnsafe; decide)); (iterate 2 (simp (disch := omega) only [push_cast, simprocAttr, hS2, hZ2, hfz2, hAf2, hP, hk2] <;> rfl)); exact Nat.zero_le _; rfl; rfl)
          | ((apply P.noEscape; decide); (simp (disch := omega) only [push_cast, simprocAttr, hS2, hZ2, hfz2, hAf2, hP, hk2] <;> rfl))
          | ((apply AWL.appendS cx_ok rfl rfl; decide; rfl; rfl; rfl; rfl; rfl; rfl; rfl; rfl; exact byteZero; (iterate 2 (simp (disch := omega) only [push_cast, simprocAttr, hS2, hZ2, hfz2, hAf2, hP, hk2] <;> rfl)); omega; ((try dsimp only); (try simp only [strE_length, List.length_nil]); omega)))
          | ((first | apply W.retX | apply W.endX); (simp (disch := omega) only [push_cast, simprocAttr, hS2, hZ2, hfz2, hAf2, hP, hk2] <;> rfl); (refine ⟨?_, ?_, ?_⟩ <;> (first | rfl | (simp (disch := omega) only [push_cast, simprocAttr, hS2, hZ2, hfz2, hAf2, hP, hk2] <;> rfl))))
        refine AW.loop (fun n s => ∃ (k G : Nat) (l : ByteArray) (rest : List Way), n = rest.length ∧ (h.ways.drop k = rest) ∧ (l ++ catB (rest.map lineW) = textB h) ∧ (l.size ≤ 18400 + 200 * k) ∧ (0 < l.size ∧ 2 ≤ G ∧ G < s.nx) ∧ 2 ≤ s.nx ∧ s.tm 1 = .ptr 0 0 0 1 ∧ s.tm 6 = .ptr 1 0 0 1 ∧ s.tm 61 = .lst (h.ways.map eWay) ∧ s.tm 62 = ai h.ways.length ∧ s.tm 63 = ai k ∧ Pg.rowAt s.H (0) = some ({ k := 3, es := [eHouse h], ty := 26 }) ∧ Pg.rowAt s.H (1) = some (bRow 1 G l) ∧ Pg.rowAt s.H (G) = some (gRow l)) (h.ways.length) ⟨0, G2, l2, _, rfl, rfl, (by have := hp12; simp only [List.map_nil, catB, ByteArray.append_empty] at this; rw [this, textB, ByteArray.append_assoc]), (by have : k2 ≤ 16 := by { have := hp42; omega }; omega), ⟨hlz2, hG12, (by simp (disch := omega) only [push_cast, simprocAttr, hS2, hZ2, hfz2, hAf2, hP, hk2]; omega)⟩, ?_, ?_, ?_, ?_, ?_, ?_, ?_, ?_, ?_⟩ ?_
        iterate 9 (first | (simp (disch := omega) only [push_cast, simprocAttr, hS2, hZ2, hfz2, hAf2, hP, hk2] <;> first | rfl | omega) | omega)
        rintro n3 s3 ⟨k3, G3, l3, rest3, hn3, hp03, hp13, hp23, hp33, hnl3, hS3⟩
        have hZ3 : (0 : Nat) ≠ s3.nx ∧ s3.nx ≠ (0 : Nat) ∧ (1 : Nat) ≠ s3.nx ∧ s3.nx ≠ (1 : Nat) ∧ (G3 : Nat) ≠ s3.nx ∧ s3.nx ≠ (G3 : Nat) := by omega
        refine AW.fresh fun hfr3 => ?_
        obtain ⟨hlz3, hG13, hG23⟩ := hp33
        have hfz3 : ∀ m, s3.H (s3.nx + m) = none := fun m => hfr3 _ (by omega)
        have hAf3 : (∀ m, ¬ ((0 : Nat) = s3.nx + m)) ∧ (∀ m, ¬ (s3.nx + m = (0 : Nat))) ∧ ¬ ((0 : Nat) = s3.nx) ∧ ¬ (s3.nx = (0 : Nat)) ∧ (∀ m, ¬ ((1 : Nat) = s3.nx + m)) ∧ (∀ m, ¬ (s3.nx + m = (1 : Nat))) ∧ ¬ ((1 : Nat) = s3.nx) ∧ ¬ (s3.nx = (1 : Nat)) ∧ (∀ m, ¬ ((G3 : Nat) = s3.nx + m)) ∧ (∀ m, ¬ (s3.nx + m = (G3 : Nat))) ∧ ¬ ((G3 : Nat) = s3.nx) ∧ ¬ (s3.nx = (G3 : Nat)) := by refine ⟨?_, ?_, ?_, ?_, ?_, ?_, ?_, ?_, ?_, ?_, ?_, ?_⟩ <;> intros <;> omega
        have hP : (0 : Nat) ≠ G3 ∧ (1 : Nat) ≠ G3 ∧ (G3 : Nat) ≠ 0 ∧ (G3 : Nat) ≠ 1 := by omega
        rcases rest3 with _ | ⟨x3, rest3⟩
        · have hk3 := drop_nil hp03
          have hfin : l3 = textB h := by have := hp13; simpa only [List.map_nil, catB, ByteArray.append_empty] using this
          repeat' first
            | ((with_reducible apply AWs.last); decide; (simp (disch := omega) only [push_cast, simprocAttr, hS3, hZ3, hfz3, hAf3, hP, hk3] <;> rfl); exact ⟨_, Tryd.func112, by decide, by kernel_rfl⟩; (refine string_call (id := 1) (G := G3) (l := l3) ?_ ?_ hlz3 ?_); (iterate 3 (simp (disch := omega) only [push_cast, simprocAttr, hS3, hZ3, hfz3, hAf3, hP, hk3] <;> rfl)))
            | with_reducible refine thenQ_n ?_ | with_reducible refine AWs.seq ?_ | with_reducible refine loopQ_x ?_ | with_reducible refine thenQ_x ?_ | with_reducible refine blockQ_x ?_ | with_reducible refine blockQ_y (by decide) ?_
            | apply AW.seq | apply AW.region | apply AW.ret | apply AW.block | apply AW.skip | apply AW.exit | apply AW.scope | apply AW.label | apply AWL.nil | apply D.nil
            | refine W.draw cx_mixed (by decide +kernel) ?_
            | ((first | (apply W.step cx_ok; decide) | (apply D.step cx_ok; decide; decide) | apply W.store cx_ok | apply AW.cond); (simp (disch := omega) only [push_cast, simprocAttr, hS3, hZ3, hfz3, hAf3, hP, hk3] <;> rfl); all_goals try ((with_reducible intro hI); try first | (cases hI; done) | (simp only [INTS] at hI; try first | (exfalso; omega) | (have hT : True := hI; clear hT hI))))
            | ((first | apply W.retC | apply W.endC' | apply W.retM | apply W.endM' | apply W.ret1 | apply W.end1 | apply W.ret2 | apply W.end2 | apply W.ret3 | apply W.end3 | apply W.ret0 | apply W.end0); (iterate 2 (try (simp (disch := omega) only [push_cast, simprocAttr, hS3, hZ3, hfz3, hAf3, hP, hk3] <;> rfl))))
            | ((apply P.eqNil; decide); (simp (disch := omega) only [push_cast, simprocAttr, hS3, hZ3, hfz3, hAf3, hP, hk3] <;> rfl))
            | ((apply P.eqNil'; decide); (simp (disch := omega) only [push_cast, simprocAttr, hS3, hZ3, hfz3, hAf3, hP, hk3] <;> rfl))
            | ((first | (apply P.neqSame; decide)); (iterate 3 (simp (disch := omega) only [push_cast, simprocAttr, hS3, hZ3, hfz3, hAf3, hP, hk3] <;> rfl)); exact Nat.zero_le _; exact Nat.zero_le _)
            | ((first | (apply P.toUnsafe; decide) | (apply P.fromUnsafe; decide)); (iterate 2 (simp (disch := omega) only [push_cast, simprocAttr, hS3, hZ3, hfz3, hAf3, hP, hk3] <;> rfl)); exact Nat.zero_le _; rfl; rfl)
            | ((apply P.noEscape; decide); (simp (disch := omega) only [push_cast, simprocAttr, hS3, hZ3, hfz3, hAf3, hP, hk3] <;> rfl))
            | ((apply AWL.appendS cx_ok rfl rfl; decide; rfl; rfl; rfl; rfl; rfl; rfl; rfl; rfl; exact byteZero; (iterate 2 (simp (disch := omega) only [push_cast, simprocAttr, hS3, hZ3, hfz3, hAf3, hP, hk3] <;> rfl)); omega; ((try dsimp only); (try simp only [strE_length, List.length_nil]); omega)))
            | ((first | apply W.retX | apply W.endX); (simp (disch := omega) only [push_cast, simprocAttr, hS3, hZ3, hfz3, hAf3, hP, hk3] <;> rfl); (refine ⟨?_, ?_, ?_⟩ <;> (first | rfl | (simp (disch := omega) only [push_cast, simprocAttr, hS3, hZ3, hfz3, hAf3, hP, hk3] <;> rfl))))
          all_goals (show _ = _; rw [hfin])
        · obtain ⟨hk3, hg3, hd'3, hl'3, hm3, hx3⟩ := drop_cons hp03 eWay []
          have hok3 := hv.ways _ hm3
          have hsz := lineW_size hok3 hrn.2 hdn
          have hsz2 := wordsB_size (wordsW x3)
          have hwb : (0 : Nat) < (lineW x3).size := words_pos _
          unfold Way.OK at hok3
          have hlw : (lineW x3).size ≤ 133 := by unfold lineW; omega
          repeat' first
            | with_reducible refine thenQ_n ?_ | with_reducible refine AWs.seq ?_ | with_reducible refine loopQ_x ?_ | with_reducible refine thenQ_x ?_ | with_reducible refine blockQ_x ?_ | with_reducible refine blockQ_y (by decide) ?_
            | apply AW.seq | apply AW.region | apply AW.ret | apply AW.block | apply AW.skip | apply AW.exit | apply AW.scope | apply AW.label | apply AWL.nil | apply D.nil
            | refine AW.draw (id := 19) cx_mixed [16, 17] [] [] 18 (by decide +kernel) ?_
            | refine W.draw cx_mixed (by decide +kernel) ?_
            | ((first | (apply W.step cx_ok; decide) | (apply D.step cx_ok; decide; decide) | apply W.store cx_ok | apply AW.cond); (simp (disch := omega) only [push_cast, simprocAttr, hS3, hZ3, hfz3, hAf3, hP, hk3, hg3] <;> rfl); all_goals try ((with_reducible intro hI); try first | (cases hI; done) | (simp only [INTS] at hI; try first | (exfalso; omega) | (have hT : True := hI; clear hT hI))))
            | ((first | (apply D.store cx_ok; decide) | (apply D.stept cx_ok; decide; decide) | (apply D.stepm cx_ok; decide; decide)); (simp (disch := omega) only [push_cast, simprocAttr, hS3, hZ3, hfz3, hAf3, hP, hk3, hg3] <;> rfl); try first | exact .inl rfl | exact .inr (by simp))
            | ((apply D.alloc cx_ok; decide; decide); (simp (disch := omega) only [push_cast, simprocAttr, hS3, hZ3, hfz3, hAf3, hP, hk3, hg3] <;> rfl); (simp (disch := omega) only [push_cast, simprocAttr, hS3, hZ3, hfz3, hAf3, hP, hk3, hg3, updH_at, Nat.add_assoc]); (simp (disch := omega) only [push_cast, simprocAttr, hS3, hZ3, hfz3, hAf3, hP, hk3, hg3] <;> omega))
            | ((apply D.alloct cx_ok; decide; decide); (simp (disch := omega) only [push_cast, simprocAttr, hS3, hZ3, hfz3, hAf3, hP, hk3, hg3] <;> rfl); first | exact .inl rfl | exact .inr (by simp))
            | ((first | (apply W.callv cx_ok; decide) | (apply D.callv cx_ok; decide; decide) | (apply D.callvt cx_ok; decide; decide)); (iterate 2 (simp (disch := omega) only [push_cast, simprocAttr, hS3, hZ3, hfz3, hAf3, hP, hk3, hg3] <;> rfl)); (with_reducible first | exact wordsW_ok x3 _ rfl hsz | exact Itoa_ok _ (by omega) (by omega)); try first | rfl | (simp (disch := omega) only [push_cast, simprocAttr, hS3, hZ3, hfz3, hAf3, hP, hk3, hg3] <;> rfl))
            | ((first | apply W.retC | apply W.endC' | apply W.retM | apply W.endM' | apply W.ret1 | apply W.end1 | apply W.ret2 | apply W.end2 | apply W.ret3 | apply W.end3 | apply W.ret0 | apply W.end0); (iterate 2 (try (simp (disch := omega) only [push_cast, simprocAttr, hS3, hZ3, hfz3, hAf3, hP, hk3, hg3] <;> rfl))))
            | ((apply P.eqNil; decide); (simp (disch := omega) only [push_cast, simprocAttr, hS3, hZ3, hfz3, hAf3, hP, hk3, hg3] <;> rfl))
            | ((apply P.eqNil'; decide); (simp (disch := omega) only [push_cast, simprocAttr, hS3, hZ3, hfz3, hAf3, hP, hk3, hg3] <;> rfl))
            | ((first | (apply P.neqSame; decide)); (iterate 3 (simp (disch := omega) only [push_cast, simprocAttr, hS3, hZ3, hfz3, hAf3, hP, hk3, hg3] <;> rfl)); exact Nat.zero_le _; exact Nat.zero_le _)
            | ((first | (apply P.toUnsafe; decide) | (apply P.fromUnsafe; decide)); (iterate 2 (simp (disch := omega) only [push_cast, simprocAttr, hS3, hZ3, hfz3, hAf3, hP, hk3, hg3] <;> rfl)); exact Nat.zero_le _; rfl; rfl)
            | ((apply P.noEscape; decide); (simp (disch := omega) only [push_cast, simprocAttr, hS3, hZ3, hfz3, hAf3, hP, hk3, hg3] <;> rfl))
            | ((apply AWL.appendS cx_ok rfl rfl; decide; rfl; rfl; rfl; rfl; rfl; rfl; rfl; rfl; exact byteZero; (iterate 2 (simp (disch := omega) only [push_cast, simprocAttr, hS3, hZ3, hfz3, hAf3, hP, hk3, hg3] <;> rfl)); omega; ((try dsimp only); (try simp only [strE_length, List.length_nil]); omega)))
            | ((apply W.callm cx_ok; decide); (simp (disch := omega) only [push_cast, simprocAttr, hS3, hZ3, hfz3, hAf3, hP, hk3, hg3] <;> rfl); (refine ws_used (id := 1) (G := G3) (l := l3) ?_ ?_ ?_ (by omega) hwb (by omega)); (iterate 3 (simp (disch := omega) only [push_cast, simprocAttr, hS3, hZ3, hfz3, hAf3, hP, hk3, hg3] <;> rfl)); (try omega); (try omega); (rintro r H' nx' ⟨rfl, rfl, rfl⟩))
            | ((apply D.callm cx_ok; decide; decide); (simp (disch := omega) only [push_cast, simprocAttr, hS3, hZ3, hfz3, hAf3, hP, hk3, hg3] <;> rfl); (refine ws_used (id := 1) (G := G3) (l := l3) ?_ ?_ ?_ (by omega) hwb (by omega)); (iterate 3 (simp (disch := omega) only [push_cast, simprocAttr, hS3, hZ3, hfz3, hAf3, hP, hk3, hg3] <;> rfl)); (try omega); (try omega); (first | exact .inl rfl | exact .inr (fun j x hj hx => upd_keep (by simp) (by simp) j x hj hx)))
            | ((first | apply W.retX | apply W.endX); (simp (disch := omega) only [push_cast, simprocAttr, hS3, hZ3, hfz3, hAf3, hP, hk3, hg3] <;> rfl); (refine ⟨?_, ?_, ?_⟩ <;> (first | rfl | (simp (disch := omega) only [push_cast, simprocAttr, hS3, hZ3, hfz3, hAf3, hP, hk3, hg3] <;> rfl))))
          all_goals
            (have hq : (l3 ++ lineW x3) ++ catB (rest3.map lineW) = textB h := by rw [← hp13, ByteArray.append_assoc]; rfl
             (refine ⟨rest3.length, ?_, k3 + 1, G3, l3 ++ lineW x3, rest3, rfl, hd'3, hq, (by rw [ByteArray.size_append]; omega), ⟨by rw [ByteArray.size_append]; omega, hG13, (by simp (disch := omega) only [push_cast, simprocAttr, hS3, hZ3, hfz3, hAf3, hP, hk3, hg3]; omega)⟩, ?_, ?_, ?_, ?_, ?_, ?_, ?_, ?_, ?_⟩; ((simp only [List.length_cons] at *; omega)); all_goals first | (simp (disch := omega) only [push_cast, simprocAttr, hS3, hZ3, hg3, hk3, hfz3, hAf3, hP] <;> first | rfl | omega) | omega))
      · obtain ⟨hk2, hg2, hd'2, hl'2, hm2, hx2⟩ := drop_cons hp02 eDoor []
        have hdv := hv.doors _ hm2
        have hsz := lineD_size hdv
        have hsz2 := wordsB_size (wordsD x2)
        have hwb : (0 : Nat) < (lineD x2).size := words_pos _
        have hlw : (lineD x2).size ≤ 793 := by unfold lineD; omega
        have hcm2 : 2 + x2.shut.length = x2.shut.length + 2 := Nat.add_comm _ _
        have hcm : 1 + x2.hours.length = x2.hours.length + 1 := Nat.add_comm _ _
        have hh1 := hdv.hours.1
        have hso1 : ∀ y ∈ x2.hours, 0 ≤ y.lo ∧ y.lo ≤ y.hi ∧ y.hi ≤ 2147483648 := fun y hy => by have := hdv.hours.2.1 y hy; omega
        have hso2 : ∀ y ∈ x2.shut, 0 ≤ y.lo ∧ y.lo ≤ y.hi ∧ y.hi ≤ 2147483648 := fun y hy => by have := hdv.shut.2.1 y hy; omega
        have hh2 := hdv.shut.1
        have hwl : (wordsD x2).length ≤ 1048576 := by simp [wordsD]; omega
        repeat' first
          | with_reducible refine thenQ_n ?_ | with_reducible refine AWs.seq ?_ | with_reducible refine loopQ_x ?_ | with_reducible refine thenQ_x ?_ | with_reducible refine blockQ_x ?_ | with_reducible refine blockQ_y (by decide) ?_
          | apply AW.seq | apply AW.region | apply AW.ret | apply AW.block | apply AW.skip | apply AW.exit | apply AW.scope | apply AW.label | apply AWL.nil | apply D.nil
          | refine AW.draw (id := 14) cx_mixed [2, 5, 6, 7, 8] [3, 4] [1, G2, s2.nx + 1] 2 (by decide +kernel) ?_
          | refine W.draw cx_mixed (by decide +kernel) ?_
          | ((first | (apply W.step cx_ok; decide) | (apply D.step cx_ok; decide; decide) | apply W.store cx_ok | apply AW.cond); (simp (disch := (first | omega | (simp only [List.length_append, List.length_map, List.length_cons, List.length_nil]; omega))) only [push_cast, simprocAttr, hS2, hZ2, hfz2, hAf2, hP, hk2, hg2, List.length_cons, List.length_nil, pure_str, take_str, List.all_append, wordsD, viewLL_str, List.take_of_length_le, hcm, hcm2] <;> rfl); all_goals try ((with_reducible intro hI); try first | (cases hI; done) | (simp only [INTS] at hI; try first | (exfalso; omega) | (have hT : True := hI; clear hT hI))))
          | ((first | (apply D.store cx_ok; decide) | (apply D.stept cx_ok; decide; decide) | (apply D.stepm cx_ok; decide; decide)); (simp (disch := (first | omega | (simp only [List.length_append, List.length_map, List.length_cons, List.length_nil]; omega))) only [push_cast, simprocAttr, hS2, hZ2, hfz2, hAf2, hP, hk2, hg2, List.length_cons, List.length_nil, pure_str, take_str, List.all_append, wordsD, viewLL_str, List.take_of_length_le, hcm, hcm2] <;> rfl); try first | exact .inl rfl | exact .inr (by simp))
          | ((apply D.alloc cx_ok; decide; decide); (simp (disch := (first | omega | (simp only [List.length_append, List.length_map, List.length_cons, List.length_nil]; omega))) only [push_cast, simprocAttr, hS2, hZ2, hfz2, hAf2, hP, hk2, hg2, List.length_cons, List.length_nil, pure_str, take_str, List.all_append, wordsD, viewLL_str, List.take_of_length_le, hcm, hcm2] <;> rfl); (simp (disch := (first | omega | (simp only [List.length_append, List.length_map, List.length_cons, List.length_nil]; omega))) only [push_cast, simprocAttr, hS2, hZ2, hfz2, hAf2, hP, hk2, hg2, List.length_cons, List.length_nil, pure_str, take_str, List.all_append, wordsD, viewLL_str, List.take_of_length_le, hcm, hcm2, updH_at, Nat.add_assoc]); (simp (disch := (first | omega | (simp only [List.length_append, List.length_map, List.length_cons, List.length_nil]; omega))) only [push_cast, simprocAttr, hS2, hZ2, hfz2, hAf2, hP, hk2, hg2, List.length_cons, List.length_nil, pure_str, take_str, List.all_append, wordsD, viewLL_str, List.take_of_length_le, hcm, hcm2] <;> omega))
          | ((apply D.alloct cx_ok; decide; decide); (simp (disch := (first | omega | (simp only [List.length_append, List.length_map, List.length_cons, List.length_nil]; omega))) only [push_cast, simprocAttr, hS2, hZ2, hfz2, hAf2, hP, hk2, hg2, List.length_cons, List.length_nil, pure_str, take_str, List.all_append, wordsD, viewLL_str, List.take_of_length_le, hcm, hcm2] <;> rfl); first | exact .inl rfl | exact .inr (by simp))
          | (apply W.append cx_ok; decide; rfl; rfl; rfl; decide; (iterate 3 (simp (disch := (first | omega | (simp only [List.length_append, List.length_map, List.length_cons, List.length_nil]; omega))) only [push_cast, simprocAttr, hS2, hZ2, hfz2, hAf2, hP, hk2, hg2, List.length_cons, List.length_nil, pure_str, take_str, List.all_append, wordsD, viewLL_str, List.take_of_length_le, hcm, hcm2] <;> rfl)); simp; ((first | rfl | exact idsLL_map _ (fun _ => rfl) _)); ((try dsimp only); (try simp only [List.length_map, List.length_append, List.length_cons, List.length_nil]); omega); ((try dsimp only); (try simp only [List.length_map, List.length_append, List.length_cons, List.length_nil]); omega))
          | (apply D.append cx_ok; decide; decide; rfl; rfl; rfl; decide; (iterate 3 (simp (disch := (first | omega | (simp only [List.length_append, List.length_map, List.length_cons, List.length_nil]; omega))) only [push_cast, simprocAttr, hS2, hZ2, hfz2, hAf2, hP, hk2, hg2, List.length_cons, List.length_nil, pure_str, take_str, List.all_append, wordsD, viewLL_str, List.take_of_length_le, hcm, hcm2] <;> rfl)); simp; ((first | rfl | exact idsLL_map _ (fun _ => rfl) _)); ((try dsimp only); (try simp only [List.length_map, List.length_append, List.length_cons, List.length_nil]); omega); ((try dsimp only); (try simp only [List.length_map, List.length_append, List.length_cons, List.length_nil]); omega); first | exact .inl rfl | exact .inr (by simp))
          | ((first | (apply W.callv cx_ok; decide) | (apply D.callv cx_ok; decide; decide) | (apply D.callvt cx_ok; decide; decide)); (iterate 2 (simp (disch := (first | omega | (simp only [List.length_append, List.length_map, List.length_cons, List.length_nil]; omega))) only [push_cast, simprocAttr, hS2, hZ2, hfz2, hAf2, hP, hk2, hg2, List.length_cons, List.length_nil, pure_str, take_str, List.all_append, wordsD, viewLL_str, List.take_of_length_le, hcm, hcm2] <;> rfl)); (with_reducible first | exact spans_ok x2.hours (by omega) hso1 | exact spans_ok x2.shut (by omega) hso2 | exact wordsD_ok x2 _ (by simp [wordsD]) hwl hsz); try first | rfl | (simp (disch := (first | omega | (simp only [List.length_append, List.length_map, List.length_cons, List.length_nil]; omega))) only [push_cast, simprocAttr, hS2, hZ2, hfz2, hAf2, hP, hk2, hg2, List.length_cons, List.length_nil, pure_str, take_str, List.all_append, wordsD, viewLL_str, List.take_of_length_le, hcm, hcm2] <;> rfl))
          | ((first | apply W.retC | apply W.endC' | apply W.retM | apply W.endM' | apply W.ret1 | apply W.end1 | apply W.ret2 | apply W.end2 | apply W.ret3 | apply W.end3 | apply W.ret0 | apply W.end0); (iterate 2 (try (simp (disch := (first | omega | (simp only [List.length_append, List.length_map, List.length_cons, List.length_nil]; omega))) only [push_cast, simprocAttr, hS2, hZ2, hfz2, hAf2, hP, hk2, hg2, List.length_cons, List.length_nil, pure_str, take_str, List.all_append, wordsD, viewLL_str, List.take_of_length_le, hcm, hcm2] <;> rfl))))
          | ((apply P.eqNil; decide); (simp (disch := (first | omega | (simp only [List.length_append, List.length_map, List.length_cons, List.length_nil]; omega))) only [push_cast, simprocAttr, hS2, hZ2, hfz2, hAf2, hP, hk2, hg2, List.length_cons, List.length_nil, pure_str, take_str, List.all_append, wordsD, viewLL_str, List.take_of_length_le, hcm, hcm2] <;> rfl))
          | ((apply P.eqNil'; decide); (simp (disch := (first | omega | (simp only [List.length_append, List.length_map, List.length_cons, List.length_nil]; omega))) only [push_cast, simprocAttr, hS2, hZ2, hfz2, hAf2, hP, hk2, hg2, List.length_cons, List.length_nil, pure_str, take_str, List.all_append, wordsD, viewLL_str, List.take_of_length_le, hcm, hcm2] <;> rfl))
          | ((first | (apply P.neqSame; decide)); (iterate 3 (simp (disch := (first | omega | (simp only [List.length_append, List.length_map, List.length_cons, List.length_nil]; omega))) only [push_cast, simprocAttr, hS2, hZ2, hfz2, hAf2, hP, hk2, hg2, List.length_cons, List.length_nil, pure_str, take_str, List.all_append, wordsD, viewLL_str, List.take_of_length_le, hcm, hcm2] <;> rfl)); exact Nat.zero_le _; exact Nat.zero_le _)
          | ((first | (apply P.toUnsafe; decide) | (apply P.fromUnsafe; decide)); (iterate 2 (simp (disch := (first | omega | (simp only [List.length_append, List.length_map, List.length_cons, List.length_nil]; omega))) only [push_cast, simprocAttr, hS2, hZ2, hfz2, hAf2, hP, hk2, hg2, List.length_cons, List.length_nil, pure_str, take_str, List.all_append, wordsD, viewLL_str, List.take_of_length_le, hcm, hcm2] <;> rfl)); exact Nat.zero_le _; rfl; rfl)
          | ((apply P.noEscape; decide); (simp (disch := (first | omega | (simp only [List.length_append, List.length_map, List.length_cons, List.length_nil]; omega))) only [push_cast, simprocAttr, hS2, hZ2, hfz2, hAf2, hP, hk2, hg2, List.length_cons, List.length_nil, pure_str, take_str, List.all_append, wordsD, viewLL_str, List.take_of_length_le, hcm, hcm2] <;> rfl))
          | ((apply AWL.appendS cx_ok rfl rfl; decide; rfl; rfl; rfl; rfl; rfl; rfl; rfl; rfl; exact byteZero; (iterate 2 (simp (disch := (first | omega | (simp only [List.length_append, List.length_map, List.length_cons, List.length_nil]; omega))) only [push_cast, simprocAttr, hS2, hZ2, hfz2, hAf2, hP, hk2, hg2, List.length_cons, List.length_nil, pure_str, take_str, List.all_append, wordsD, viewLL_str, List.take_of_length_le, hcm, hcm2] <;> rfl)); omega; ((try dsimp only); (try simp only [strE_length, List.length_nil]); omega)))
          | ((apply W.callm cx_ok; decide); (simp (disch := (first | omega | (simp only [List.length_append, List.length_map, List.length_cons, List.length_nil]; omega))) only [push_cast, simprocAttr, hS2, hZ2, hfz2, hAf2, hP, hk2, hg2, List.length_cons, List.length_nil, pure_str, take_str, List.all_append, wordsD, viewLL_str, List.take_of_length_le, hcm, hcm2] <;> rfl); (refine ws_used (id := 1) (G := G2) (l := l2) ?_ ?_ ?_ (by omega) hwb (by omega)); (iterate 3 (simp (disch := (first | omega | (simp only [List.length_append, List.length_map, List.length_cons, List.length_nil]; omega))) only [push_cast, simprocAttr, hS2, hZ2, hfz2, hAf2, hP, hk2, hg2, List.length_cons, List.length_nil, pure_str, take_str, List.all_append, wordsD, viewLL_str, List.take_of_length_le, hcm, hcm2] <;> rfl)); (try omega); (try omega); (rintro r H' nx' ⟨rfl, rfl, rfl⟩))
          | ((apply D.callm cx_ok; decide; decide); (simp (disch := (first | omega | (simp only [List.length_append, List.length_map, List.length_cons, List.length_nil]; omega))) only [push_cast, simprocAttr, hS2, hZ2, hfz2, hAf2, hP, hk2, hg2, List.length_cons, List.length_nil, pure_str, take_str, List.all_append, wordsD, viewLL_str, List.take_of_length_le, hcm, hcm2] <;> rfl); (refine ws_used (id := 1) (G := G2) (l := l2) ?_ ?_ ?_ (by omega) hwb (by omega)); (iterate 3 (simp (disch := (first | omega | (simp only [List.length_append, List.length_map, List.length_cons, List.length_nil]; omega))) only [push_cast, simprocAttr, hS2, hZ2, hfz2, hAf2, hP, hk2, hg2, List.length_cons, List.length_nil, pure_str, take_str, List.all_append, wordsD, viewLL_str, List.take_of_length_le, hcm, hcm2] <;> rfl)); (try omega); (try omega); (first | exact .inl rfl | exact .inr (fun j x hj hx => upd_keep (by simp) (by simp) j x hj hx)))
          | ((first | apply W.retX | apply W.endX); (simp (disch := (first | omega | (simp only [List.length_append, List.length_map, List.length_cons, List.length_nil]; omega))) only [push_cast, simprocAttr, hS2, hZ2, hfz2, hAf2, hP, hk2, hg2, List.length_cons, List.length_nil, pure_str, take_str, List.all_append, wordsD, viewLL_str, List.take_of_length_le, hcm, hcm2] <;> rfl); (refine ⟨?_, ?_, ?_⟩ <;> (first | rfl | (simp (disch := (first | omega | (simp only [List.length_append, List.length_map, List.length_cons, List.length_nil]; omega))) only [push_cast, simprocAttr, hS2, hZ2, hfz2, hAf2, hP, hk2, hg2, List.length_cons, List.length_nil, pure_str, take_str, List.all_append, wordsD, viewLL_str, List.take_of_length_le, hcm, hcm2] <;> rfl))))
        all_goals
          (have hq : (l2 ++ lineD x2) ++ catB (rest2.map lineD) = catB (h.rooms.map lineR) ++ catB (h.doors.map lineD) := by rw [← hp12, ByteArray.append_assoc]; rfl
           (refine ⟨rest2.length, ?_, k2 + 1, G2, l2 ++ lineD x2, rest2, rfl, hd'2, hq, (by rw [ByteArray.size_append]; omega), ⟨by rw [ByteArray.size_append]; omega, hG12, (by simp (disch := omega) only [push_cast, simprocAttr, hS2, hZ2, hfz2, hAf2, hP, hk2, hg2, List.length_cons, List.length_nil, pure_str, take_str, List.all_append, wordsD, viewLL_str, List.take_of_length_le, hcm, hcm2]; omega)⟩, (by omega), ?_, ?_, ?_, ?_, ?_, ?_, ?_, ?_, ?_⟩; ((simp only [List.length_cons] at *; omega)); all_goals first | (simp (disch := omega) only [push_cast, simprocAttr, hS2, hZ2, hg2, hk2, hfz2, hAf2, hP] <;> first | rfl | omega) | omega))
    · obtain ⟨hk, hg, hd', hl', hm, hx⟩ := drop_cons hp0 eRoom []
      have hrm := hrooms _ hm
      have hsz := lineR_size hrm
      have hsz2 := wordsB_size [(ByteArray.mk #[114, 111, 111, 109]), x.name, itoaB x.floor]
      have hwb : (0 : Nat) < (lineR x).size := words_pos _
      have hlw : (lineR x).size ≤ 67 := by unfold lineR; omega
      rcases hp3 with ⟨rfl, rfl, hB⟩ | ⟨hk0, hlz, hG1, hG2, hB, hG⟩
      · have hk : (0 : Int) < (h.rooms.length : Int) := by omega
        have hg : (h.rooms.map eRoom).getD 0 [] = eRoom x := hg
        repeat' first
          | with_reducible refine thenQ_n ?_ | with_reducible refine AWs.seq ?_ | with_reducible refine loopQ_x ?_ | with_reducible refine thenQ_x ?_ | with_reducible refine blockQ_x ?_ | with_reducible refine blockQ_y (by decide) ?_
          | apply AW.seq | apply AW.region | apply AW.ret | apply AW.block | apply AW.skip | apply AW.exit | apply AW.scope | apply AW.label | apply AWL.nil | apply D.nil
          | refine AW.draw (id := 8) cx_mixed [6, 7] [] [] 8 (by decide +kernel) ?_
          | refine W.draw cx_mixed (by decide +kernel) ?_
          | ((first | (apply W.step cx_ok; decide) | (apply D.step cx_ok; decide; decide) | apply W.store cx_ok | apply AW.cond); (simp (disch := omega) only [push_cast, simprocAttr, hS, hZ, hfz, hAf, hB, hk, hg, Int.natCast_zero, Int.toNat_zero] <;> rfl); all_goals try ((with_reducible intro hI); try first | (cases hI; done) | (simp only [INTS] at hI; try first | (exfalso; omega) | (have hT : True := hI; clear hT hI))))
          | ((first | (apply D.store cx_ok; decide) | (apply D.stept cx_ok; decide; decide) | (apply D.stepm cx_ok; decide; decide)); (simp (disch := omega) only [push_cast, simprocAttr, hS, hZ, hfz, hAf, hB, hk, hg, Int.natCast_zero, Int.toNat_zero] <;> rfl); try first | exact .inl rfl | exact .inr (by simp))
          | ((apply D.alloc cx_ok; decide; decide); (simp (disch := omega) only [push_cast, simprocAttr, hS, hZ, hfz, hAf, hB, hk, hg, Int.natCast_zero, Int.toNat_zero] <;> rfl); (simp (disch := omega) only [push_cast, simprocAttr, hS, hZ, hfz, hAf, hB, hk, hg, Int.natCast_zero, Int.toNat_zero, updH_at, Nat.add_assoc]); (simp (disch := omega) only [push_cast, simprocAttr, hS, hZ, hfz, hAf, hB, hk, hg, Int.natCast_zero, Int.toNat_zero] <;> omega))
          | ((apply D.alloct cx_ok; decide; decide); (simp (disch := omega) only [push_cast, simprocAttr, hS, hZ, hfz, hAf, hB, hk, hg, Int.natCast_zero, Int.toNat_zero] <;> rfl); first | exact .inl rfl | exact .inr (by simp))
          | ((first | (apply W.callv cx_ok; decide) | (apply D.callv cx_ok; decide; decide) | (apply D.callvt cx_ok; decide; decide)); (iterate 2 (simp (disch := omega) only [push_cast, simprocAttr, hS, hZ, hfz, hAf, hB, hk, hg, Int.natCast_zero, Int.toNat_zero] <;> rfl)); (with_reducible first | exact wordsR_ok x _ rfl hsz | exact Itoa_ok _ (by omega) (by omega)); try first | rfl | (simp (disch := omega) only [push_cast, simprocAttr, hS, hZ, hfz, hAf, hB, hk, hg, Int.natCast_zero, Int.toNat_zero] <;> rfl))
          | ((first | apply W.retC | apply W.endC' | apply W.retM | apply W.endM' | apply W.ret1 | apply W.end1 | apply W.ret2 | apply W.end2 | apply W.ret3 | apply W.end3 | apply W.ret0 | apply W.end0); (iterate 2 (try (simp (disch := omega) only [push_cast, simprocAttr, hS, hZ, hfz, hAf, hB, hk, hg, Int.natCast_zero, Int.toNat_zero] <;> rfl))))
          | ((apply P.eqNil; decide); (simp (disch := omega) only [push_cast, simprocAttr, hS, hZ, hfz, hAf, hB, hk, hg, Int.natCast_zero, Int.toNat_zero] <;> rfl))
          | ((apply P.eqNil'; decide); (simp (disch := omega) only [push_cast, simprocAttr, hS, hZ, hfz, hAf, hB, hk, hg, Int.natCast_zero, Int.toNat_zero] <;> rfl))
          | ((first | (apply P.neqSame; decide)); (iterate 3 (simp (disch := omega) only [push_cast, simprocAttr, hS, hZ, hfz, hAf, hB, hk, hg, Int.natCast_zero, Int.toNat_zero] <;> rfl)); exact Nat.zero_le _; exact Nat.zero_le _)
          | ((first | (apply P.toUnsafe; decide) | (apply P.fromUnsafe; decide)); (iterate 2 (simp (disch := omega) only [push_cast, simprocAttr, hS, hZ, hfz, hAf, hB, hk, hg, Int.natCast_zero, Int.toNat_zero] <;> rfl)); exact Nat.zero_le _; rfl; rfl)
          | ((apply P.noEscape; decide); (simp (disch := omega) only [push_cast, simprocAttr, hS, hZ, hfz, hAf, hB, hk, hg, Int.natCast_zero, Int.toNat_zero] <;> rfl))
          | ((apply AWL.appendS cx_ok rfl rfl; decide; rfl; rfl; rfl; rfl; rfl; rfl; rfl; rfl; exact byteZero; (iterate 2 (simp (disch := omega) only [push_cast, simprocAttr, hS, hZ, hfz, hAf, hB, hk, hg, Int.natCast_zero, Int.toNat_zero] <;> rfl)); omega; ((try dsimp only); (try simp only [strE_length, List.length_nil]); omega)))
          | ((apply W.callm cx_ok; decide); (simp (disch := omega) only [push_cast, simprocAttr, hS, hZ, hfz, hAf, hB, hk, hg, Int.natCast_zero, Int.toNat_zero] <;> rfl); (refine ws_fresh (id := 1) ?_ ?_ ?_ hwb (by omega)); (iterate 2 (simp (disch := omega) only [push_cast, simprocAttr, hS, hZ, hfz, hAf, hB, hk, hg, Int.natCast_zero, Int.toNat_zero] <;> rfl)); (simp (disch := omega) only [push_cast, simprocAttr, hS, hZ, hfz, hAf, hB, hk, hg, Int.natCast_zero, Int.toNat_zero] <;> omega); (try omega); (try omega); (rintro r H' nx' ⟨rfl, rfl, rfl⟩))
          | ((apply D.callm cx_ok; decide; decide); (simp (disch := omega) only [push_cast, simprocAttr, hS, hZ, hfz, hAf, hB, hk, hg, Int.natCast_zero, Int.toNat_zero] <;> rfl); (refine ws_fresh (id := 1) ?_ ?_ ?_ hwb (by omega)); (iterate 2 (simp (disch := omega) only [push_cast, simprocAttr, hS, hZ, hfz, hAf, hB, hk, hg, Int.natCast_zero, Int.toNat_zero] <;> rfl)); (simp (disch := omega) only [push_cast, simprocAttr, hS, hZ, hfz, hAf, hB, hk, hg, Int.natCast_zero, Int.toNat_zero] <;> omega); (try omega); (try omega); (first | exact .inl rfl | exact .inr (fun j x hj hx => upd_keep (by simp) (by simp) j x hj hx)))
          | ((first | apply W.retX | apply W.endX); (simp (disch := omega) only [push_cast, simprocAttr, hS, hZ, hfz, hAf, hB, hk, hg, Int.natCast_zero, Int.toNat_zero] <;> rfl); (refine ⟨?_, ?_, ?_⟩ <;> (first | rfl | (simp (disch := omega) only [push_cast, simprocAttr, hS, hZ, hfz, hAf, hB, hk, hg, Int.natCast_zero, Int.toNat_zero] <;> rfl))))
        all_goals
          (have hq : lineR x ++ catB (rest.map lineR) = catB (h.rooms.map lineR) := by rw [← hp1, empty_app]; rfl
           (refine ⟨rest.length, ?_, 1, s.nx + 9, lineR x, rest, rfl, hd', hq, (by omega), (.inr ⟨by omega, hwb, by omega, (by simp (disch := omega) only [push_cast, simprocAttr, hS, hZ, hfz, hAf, hB, hk, hg, Int.natCast_zero, Int.toNat_zero]; omega), (by simp (disch := omega) only [push_cast, simprocAttr, hS, hZ, hfz, hAf, hB, hk, hg, Int.natCast_zero, Int.toNat_zero]), (by simp (disch := omega) only [push_cast, simprocAttr, hS, hZ, hfz, hAf, hB, hk, hg, Int.natCast_zero, Int.toNat_zero])⟩), (by omega), ?_, ?_, ?_, ?_, ?_, ?_, ?_⟩; ((simp only [List.length_cons] at *; omega)); all_goals first | (simp (disch := omega) only [push_cast, simprocAttr, hS, hZ, hB, hg, hk, Int.natCast_zero, Int.toNat_zero, hfz, hAf] <;> first | rfl | omega) | omega))
      ·
        have hfzz : ∀ m, s.H (s.nx + m) = none := fun m => hfr _ (by omega)
        have hAf : (∀ m, ¬ ((0 : Nat) = s.nx + m)) ∧ (∀ m, ¬ (s.nx + m = (0 : Nat))) ∧ ¬ ((0 : Nat) = s.nx) ∧ ¬ (s.nx = (0 : Nat)) ∧ (∀ m, ¬ ((1 : Nat) = s.nx + m)) ∧ (∀ m, ¬ (s.nx + m = (1 : Nat))) ∧ ¬ ((1 : Nat) = s.nx) ∧ ¬ (s.nx = (1 : Nat)) ∧ (∀ m, ¬ ((G : Nat) = s.nx + m)) ∧ (∀ m, ¬ (s.nx + m = (G : Nat))) ∧ ¬ ((G : Nat) = s.nx) ∧ ¬ (s.nx = (G : Nat)) := by refine ⟨?_, ?_, ?_, ?_, ?_, ?_, ?_, ?_, ?_, ?_, ?_, ?_⟩ <;> intros <;> omega
        have hP : (0 : Nat) ≠ G ∧ (1 : Nat) ≠ G ∧ (G : Nat) ≠ 0 ∧ (G : Nat) ≠ 1 := by omega
        repeat' first
          | with_reducible refine thenQ_n ?_ | with_reducible refine AWs.seq ?_ | with_reducible refine loopQ_x ?_ | with_reducible refine thenQ_x ?_ | with_reducible refine blockQ_x ?_ | with_reducible refine blockQ_y (by decide) ?_
          | apply AW.seq | apply AW.region | apply AW.ret | apply AW.block | apply AW.skip | apply AW.exit | apply AW.scope | apply AW.label | apply AWL.nil | apply D.nil
          | refine AW.draw (id := 8) cx_mixed [6, 7] [] [] 8 (by decide +kernel) ?_
          | refine W.draw cx_mixed (by decide +kernel) ?_
          | ((first | (apply W.step cx_ok; decide) | (apply D.step cx_ok; decide; decide) | apply W.store cx_ok | apply AW.cond); (simp (disch := omega) only [push_cast, simprocAttr, hS, hZ, hfz, hAf, hP, hB, hG, hk, hg] <;> rfl); all_goals try ((with_reducible intro hI); try first | (cases hI; done) | (simp only [INTS] at hI; try first | (exfalso; omega) | (have hT : True := hI; clear hT hI))))
          | ((first | (apply D.store cx_ok; decide) | (apply D.stept cx_ok; decide; decide) | (apply D.stepm cx_ok; decide; decide)); (simp (disch := omega) only [push_cast, simprocAttr, hS, hZ, hfz, hAf, hP, hB, hG, hk, hg] <;> rfl); try first | exact .inl rfl | exact .inr (by simp))
          | ((apply D.alloc cx_ok; decide; decide); (simp (disch := omega) only [push_cast, simprocAttr, hS, hZ, hfz, hAf, hP, hB, hG, hk, hg] <;> rfl); (simp (disch := omega) only [push_cast, simprocAttr, hS, hZ, hfz, hAf, hP, hB, hG, hk, hg, updH_at, Nat.add_assoc]); (simp (disch := omega) only [push_cast, simprocAttr, hS, hZ, hfz, hAf, hP, hB, hG, hk, hg] <;> omega))
          | ((apply D.alloct cx_ok; decide; decide); (simp (disch := omega) only [push_cast, simprocAttr, hS, hZ, hfz, hAf, hP, hB, hG, hk, hg] <;> rfl); first | exact .inl rfl | exact .inr (by simp))
          | ((first | (apply W.callv cx_ok; decide) | (apply D.callv cx_ok; decide; decide) | (apply D.callvt cx_ok; decide; decide)); (iterate 2 (simp (disch := omega) only [push_cast, simprocAttr, hS, hZ, hfz, hAf, hP, hB, hG, hk, hg] <;> rfl)); (with_reducible first | exact wordsR_ok x _ rfl hsz | exact Itoa_ok _ (by omega) (by omega)); try first | rfl | (simp (disch := omega) only [push_cast, simprocAttr, hS, hZ, hfz, hAf, hP, hB, hG, hk, hg] <;> rfl))
          | ((first | apply W.retC | apply W.endC' | apply W.retM | apply W.endM' | apply W.ret1 | apply W.end1 | apply W.ret2 | apply W.end2 | apply W.ret3 | apply W.end3 | apply W.ret0 | apply W.end0); (iterate 2 (try (simp (disch := omega) only [push_cast, simprocAttr, hS, hZ, hfz, hAf, hP, hB, hG, hk, hg] <;> rfl))))
          | ((apply P.eqNil; decide); (simp (disch := omega) only [push_cast, simprocAttr, hS, hZ, hfz, hAf, hP, hB, hG, hk, hg] <;> rfl))
          | ((apply P.eqNil'; decide); (simp (disch := omega) only [push_cast, simprocAttr, hS, hZ, hfz, hAf, hP, hB, hG, hk, hg] <;> rfl))
          | ((first | (apply P.neqSame; decide)); (iterate 3 (simp (disch := omega) only [push_cast, simprocAttr, hS, hZ, hfz, hAf, hP, hB, hG, hk, hg] <;> rfl)); exact Nat.zero_le _; exact Nat.zero_le _)
          | ((first | (apply P.toUnsafe; decide) | (apply P.fromUnsafe; decide)); (iterate 2 (simp (disch := omega) only [push_cast, simprocAttr, hS, hZ, hfz, hAf, hP, hB, hG, hk, hg] <;> rfl)); exact Nat.zero_le _; rfl; rfl)
          | ((apply P.noEscape; decide); (simp (disch := omega) only [push_cast, simprocAttr, hS, hZ, hfz, hAf, hP, hB, hG, hk, hg] <;> rfl))
          | ((apply AWL.appendS cx_ok rfl rfl; decide; rfl; rfl; rfl; rfl; rfl; rfl; rfl; rfl; exact byteZero; (iterate 2 (simp (disch := omega) only [push_cast, simprocAttr, hS, hZ, hfz, hAf, hP, hB, hG, hk, hg] <;> rfl)); omega; ((try dsimp only); (try simp only [strE_length, List.length_nil]); omega)))
          | ((apply W.callm cx_ok; decide); (simp (disch := omega) only [push_cast, simprocAttr, hS, hZ, hfz, hAf, hP, hB, hG, hk, hg] <;> rfl); (refine ws_used (id := 1) (G := G) (l := l) ?_ ?_ ?_ (by omega) hwb (by omega)); (iterate 3 (simp (disch := omega) only [push_cast, simprocAttr, hS, hZ, hfz, hAf, hP, hB, hG, hk, hg] <;> rfl)); (try omega); (try omega); (rintro r H' nx' ⟨rfl, rfl, rfl⟩))
          | ((apply D.callm cx_ok; decide; decide); (simp (disch := omega) only [push_cast, simprocAttr, hS, hZ, hfz, hAf, hP, hB, hG, hk, hg] <;> rfl); (refine ws_used (id := 1) (G := G) (l := l) ?_ ?_ ?_ (by omega) hwb (by omega)); (iterate 3 (simp (disch := omega) only [push_cast, simprocAttr, hS, hZ, hfz, hAf, hP, hB, hG, hk, hg] <;> rfl)); (try omega); (try omega); (first | exact .inl rfl | exact .inr (fun j x hj hx => upd_keep (by simp) (by simp) j x hj hx)))
          | ((first | apply W.retX | apply W.endX); (simp (disch := omega) only [push_cast, simprocAttr, hS, hZ, hfz, hAf, hP, hB, hG, hk, hg] <;> rfl); (refine ⟨?_, ?_, ?_⟩ <;> (first | rfl | (simp (disch := omega) only [push_cast, simprocAttr, hS, hZ, hfz, hAf, hP, hB, hG, hk, hg] <;> rfl))))
        all_goals
          (have hq : (l ++ lineR x) ++ catB (rest.map lineR) = catB (h.rooms.map lineR) := by rw [← hp1, ByteArray.append_assoc]; rfl
           (refine ⟨rest.length, ?_, k + 1, G, l ++ lineR x, rest, rfl, hd', hq, (by rw [ByteArray.size_append]; omega), (.inr ⟨by omega, by rw [ByteArray.size_append]; omega, by omega, (by simp (disch := omega) only [push_cast, simprocAttr, hS, hZ, hfz, hAf, hP, hB, hG, hk, hg]; omega), (by simp (disch := omega) only [push_cast, simprocAttr, hS, hZ, hfz, hAf, hP, hB, hG, hk, hg]), (by simp (disch := omega) only [push_cast, simprocAttr, hS, hZ, hfz, hAf, hP, hB, hG, hk, hg])⟩), (by omega), ?_, ?_, ?_, ?_, ?_, ?_, ?_⟩; ((simp only [List.length_cons] at *; omega)); all_goals first | (simp (disch := omega) only [push_cast, simprocAttr, hS, hZ, hB, hG, hg, hk, hfz, hAf, hP] <;> first | rfl | omega) | omega))
  · have hP : printB h = (ByteArray.empty, (Check h).1) := if_pos hc
    rw [hP]
    refine OKat.of_bodyS (rs := [2, 3]) Tryd.func73 rfl (by decide +kernel) rfl (by simp [Tryd.ntmps73]) ?_
    simp only [Tryd.ntmps73]
    repeat' first
      | with_reducible refine thenQ_n ?_ | with_reducible refine AWs.seq ?_ | with_reducible refine loopQ_x ?_ | with_reducible refine thenQ_x ?_ | with_reducible refine blockQ_x ?_ | with_reducible refine blockQ_y (by decide) ?_
      | apply AW.seq | apply AW.region | apply AW.ret | apply AW.block | apply AW.skip | apply AW.exit | apply AW.scope | apply AW.label | apply AWL.nil | apply D.nil
      | refine W.draw cx_mixed (by decide +kernel) ?_
      | ((first | (apply W.step cx_ok; decide) | (apply D.step cx_ok; decide; decide) | apply W.store cx_ok | apply AW.cond); (simp (disch := omega) only [push_cast, simprocAttr, hc] <;> rfl); all_goals try ((with_reducible intro hI); try first | (cases hI; done) | (simp only [INTS] at hI; try first | (exfalso; omega) | (have hT : True := hI; clear hT hI))))
      | ((first | (apply W.callv cx_ok; decide) | (apply D.callv cx_ok; decide; decide)); (iterate 2 (simp (disch := omega) only [push_cast, simprocAttr, hc] <;> rfl)); (with_reducible first | exact Check_ok _ hfit); try first | rfl | (simp (disch := omega) only [push_cast, simprocAttr, hc] <;> rfl))
      | ((first | apply W.retC | apply W.endC' | apply W.retM | apply W.endM' | apply W.ret1 | apply W.end1 | apply W.ret2 | apply W.end2 | apply W.ret3 | apply W.end3 | apply W.ret0 | apply W.end0); (iterate 2 (try (simp (disch := omega) only [push_cast, simprocAttr, hc] <;> rfl))))
      | ((apply P.eqNil; decide); (simp (disch := omega) only [push_cast, simprocAttr, hc] <;> rfl))
      | ((apply P.eqNil'; decide); (simp (disch := omega) only [push_cast, simprocAttr, hc] <;> rfl))
      | ((first | (apply P.neqSame; decide)); (iterate 3 (simp (disch := omega) only [push_cast, simprocAttr, hc] <;> rfl)); exact Nat.zero_le _; exact Nat.zero_le _)
      | ((first | (apply P.toUnsafe; decide) | (apply P.fromUnsafe; decide)); (iterate 2 (simp (disch := omega) only [push_cast, simprocAttr, hc] <;> rfl)); exact Nat.zero_le _; rfl; rfl)
      | ((apply P.noEscape; decide); (simp (disch := omega) only [push_cast, simprocAttr, hc] <;> rfl))
      | ((apply AWL.appendS cx_ok rfl rfl; decide; rfl; rfl; rfl; rfl; rfl; rfl; rfl; rfl; exact byteZero; (iterate 2 (simp (disch := omega) only [push_cast, simprocAttr, hc] <;> rfl)); omega; ((try dsimp only); (try simp only [strE_length, List.length_nil]); omega)))
      | ((first | apply W.retX | apply W.endX); (simp (disch := omega) only [push_cast, simprocAttr, hc] <;> rfl); (refine ⟨?_, ?_, ?_⟩ <;> (first | rfl | (simp (disch := omega) only [push_cast, simprocAttr, hc] <;> rfl))))
    all_goals (show _ = _; rfl)

end Go.Proofs.Hs

namespace Go.Proofs.Hs
open Go Go.Pg Go.Proofs


def setDoor (h : House) (n : Nat) (l : List Span) : List Door := h.doors.set n ⟨(h.door n).hours, l⟩
def House.zero : House := ⟨[], [], []⟩
def shutDoor (h : House) (n : Int) (s : Span) : House × Int :=
  if doorE h n [] ≠ 0 then (.zero, doorE h n []) else if s.hi < s.lo ∨ timeB s.lo = false ∨ timeB s.hi = false then (.zero, 1) else
  if 8 < (shutH (h.door n).shut s false).length then (.zero, 2) else (⟨h.rooms, setDoor h n.toNat (shutH (h.door n).shut s false), h.ways⟩, 0)

theorem Shut_ok (h : House) (n0 : Int) (sp : Span) (hfit : h.Fit) : OKv cx 24 [.agg (eHouse h), ai n0, .agg (eSpan sp)] (.tup [.agg (eHouse (shutDoor h n0 sp).1), ai (shutDoor h n0 sp).2]) := by
  have hfr := hfit.rooms
  have hfw := hfit.nw
  have hfd := hfit.nd
  by_cases he : doorE h n0 [] = 0
  · obtain ⟨hc, ⟨hdn, hdl⟩, _⟩ := doorE_zero he
    have hv := Check_V hc
    have hdv := hv.door hdn hdl
    have hdg : (h.doors.map eDoor).getD n0.toNat [] = eDoor (h.door n0) := getD_map eDoor h.doors _ [] ⟨[], []⟩ (by omega)
    by_cases hsp : sp.hi < sp.lo ∨ timeB sp.lo = false ∨ timeB sp.hi = false
    · have hS : shutDoor h n0 sp = (.zero, 1) := by unfold shutDoor; rw [if_neg (by simp [he]), if_pos hsp]
      refine OKat.of_bodyC cx_ok (rs := [.cell 6 26, .tmp 7]) Tryd.func24 rfl (by decide +kernel) rfl (by decide) (by simp [Tryd.ntmps24]) ?_
      simp only [Tryd.ntmps24]
      repeat' first
        | apply AW.seq | apply AW.region | apply AW.ret | apply AW.block | apply AW.skip | apply AW.exit | apply AW.scope | apply AW.label | apply AWL.nil | apply D.nil
        | refine W.draw cx_mixed (by decide +kernel) ?_
        | ((first | (apply W.step cx_ok; decide) | (apply D.step cx_ok; decide; decide) | apply W.store cx_ok | (apply W.gS; rfl; decide) | (apply D.gS; rfl; decide; decide) | apply AW.cond); (simp (disch := omega) only [push_cast, simprocAttr, he] <;> rfl); all_goals try ((with_reducible intro hI); try first | (cases hI; done) | (simp only [INTS] at hI; try first | (exfalso; omega) | (have hT : True := hI; clear hT hI))))
        | ((first | (apply W.callv cx_ok; decide) | (apply D.callv cx_ok; decide; decide)); (iterate 2 (simp (disch := omega) only [push_cast, simprocAttr, he] <;> rfl)); (with_reducible first | exact doorNone_ok _ _ hfit | exact time_ok _); try first | rfl | (simp (disch := omega) only [push_cast, simprocAttr, he] <;> rfl))
        | ((first | apply W.retC | apply W.endC'); (iterate 2 (try (simp (disch := omega) only [push_cast, simprocAttr, he] <;> rfl))))
      all_goals first
        | (show _ = _; rw [hS]; rfl)
        | (exfalso; unfold timeB at hsp; simp only [Bool.and_eq_false_iff, decide_eq_false_iff_not] at hsp; omega)
    · have hspb : 0 ≤ sp.lo ∧ sp.lo ≤ sp.hi ∧ sp.hi ≤ 1073741823 := by unfold timeB at hsp; simp only [not_or, Bool.not_eq_false, Bool.and_eq_true, decide_eq_true_eq] at hsp; omega
      have hs1 := hspb.1
      have hs2 := hspb.2.1
      have hs3 := hspb.2.2
      have hS : shutDoor h n0 sp = if 8 < (shutH (h.door n0).shut sp false).length then (.zero, 2) else (⟨h.rooms, setDoor h n0.toNat (shutH (h.door n0).shut sp false), h.ways⟩, 0) := by unfold shutDoor; rw [if_neg (by simp [he]), if_neg hsp]
      have hshl := hdv.shut.1
      have hshb := hdv.shut.2.1
      rw [hS]
      refine OKat.of_bodyC cx_ok (rs := [.cell 6 26, .tmp 7]) Tryd.func24 rfl (by decide +kernel) rfl (by decide) (by simp [Tryd.ntmps24]) ?_
      simp only [Tryd.ntmps24]
      repeat' first
        | apply AW.seq | apply AW.region | apply AW.ret | apply AW.block | apply AW.skip | apply AW.exit | apply AW.scope | apply AW.label | apply AWL.nil | apply D.nil
        | refine W.draw cx_mixed (by decide +kernel) ?_
        | ((first | (apply W.step cx_ok; decide) | (apply D.step cx_ok; decide; decide) | apply W.store cx_ok | (apply W.gS; rfl; decide) | (apply D.gS; rfl; decide; decide) | apply AW.cond); (simp (disch := omega) only [push_cast, simprocAttr, he, hdn, hdl, hdg, hs1, hs2, hs3] <;> rfl); all_goals try ((with_reducible intro hI); try first | (cases hI; done) | (simp only [INTS] at hI; try first | (exfalso; omega) | (have hT : True := hI; clear hT hI))))
        | ((first | (apply W.callv cx_ok; decide) | (apply D.callv cx_ok; decide; decide)); (iterate 2 (simp (disch := omega) only [push_cast, simprocAttr, he, hdn, hdl, hdg, hs1, hs2, hs3] <;> rfl)); (with_reducible first | exact doorNone_ok _ _ hfit | exact time_ok _); try first | rfl | (simp (disch := omega) only [push_cast, simprocAttr, he, hdn, hdl, hdg, hs1, hs2, hs3] <;> rfl))
        | ((first | apply W.retC | apply W.endC'); (iterate 2 (try (simp (disch := omega) only [push_cast, simprocAttr, he, hdn, hdl, hdg, hs1, hs2, hs3] <;> rfl))))
      all_goals try (exfalso; omega)
      generalize hsh : (h.door n0).shut = sh at *
      generalize hlst : shutH sh sp false = lst at *
      refine AW.adopt 9 2 38 ?_ ?_
      · simp (disch := omega) only [push_cast, simprocAttr, he, hdn, hdl, hdg, hsh]
      refine AW.loop (fun n s => ∃ (k : Nat) (out : List Span) (s1 : Span) (put : Bool) (rest : List Span), n = rest.length ∧ (sh.drop k = rest) ∧ (out ++ shutH rest s1 put = lst) ∧ (out.length ≤ 2 * k ∧ k ≤ sh.length) ∧ (0 ≤ s1.lo ∧ s1.lo ≤ s1.hi ∧ s1.hi ≤ 1073741823) ∧ 4 ≤ s.nx ∧ s.tm 1 = ai n0 ∧ s.tm 3 = .ptr 0 0 0 1 ∧ s.tm 5 = .ptr 1 0 0 1 ∧ s.tm 6 = .ptr 2 0 0 1 ∧ s.tm 9 = .ref 3 0 out.length ∧ s.tm 10 = ab put ∧ s.tm 46 = lSpan sh ∧ s.tm 47 = ai sh.length ∧ s.tm 48 = ai k ∧ Pg.rowAt s.H (0) = some ({ k := 3, es := [eHouse h], ty := 26 }) ∧ Pg.rowAt s.H (1) = some ({ k := 2, es := [eSpan s1], ty := 38 }) ∧ Pg.rowAt s.H (2) = some ({ k := 3, es := [[.v (.slice none 0 0), .v (.slice none 0 0), .v (.slice none 0 0)]], ty := 26 }) ∧ Pg.rowAt s.H (3) = some ({ k := 2, es := out.map eSpan, ty := 38, lo := out.length })) (sh.length) ⟨0, [], sp, false, _, rfl, rfl, hlst, ⟨Nat.zero_le _, Nat.zero_le _⟩, hspb, ?_, ?_, ?_, ?_, ?_, ?_, ?_, ?_, ?_, ?_, ?_, ?_, ?_, ?_⟩ ?_
      iterate 14 (first | (simp (disch := omega) only [push_cast, simprocAttr, he, hdn, hdl, hdg, hsh] <;> first | rfl | omega) | omega)
      rintro n1_ s1_ ⟨k1_, out1_, s11_, put1_, rest1_, hn1_, hp01_, hp11_, hp21_, hp31_, hnl1_, hS1_⟩
      have hZ1_ : (0 : Nat) ≠ s1_.nx ∧ s1_.nx ≠ (0 : Nat) ∧ (1 : Nat) ≠ s1_.nx ∧ s1_.nx ≠ (1 : Nat) ∧ (2 : Nat) ≠ s1_.nx ∧ s1_.nx ≠ (2 : Nat) ∧ (3 : Nat) ≠ s1_.nx ∧ s1_.nx ≠ (3 : Nat) := by omega
      refine AW.fresh fun hfr1_ => ?_
      obtain ⟨b1, b2, b3⟩ := hp31_
      rcases rest1_ with _ | ⟨x, rest1_⟩
      · have hk1_ := drop_nil hp01_
        cases put1_ with
        | true =>
          have hLo : lst = out1_ := by rw [← hp11_]; simp [shutH]
          have hfz : ∀ m, s1_.H (s1_.nx + m) = none := fun m => hfr1_ _ (by omega)
          have hAq : (∀ m, ¬ ((1 : Nat) = s1_.nx + m)) ∧ (∀ m, ¬ (s1_.nx + m = (1 : Nat))) ∧ ¬ ((1 : Nat) = s1_.nx) ∧ ¬ (s1_.nx = (1 : Nat)) ∧ (∀ m, ¬ ((2 : Nat) = s1_.nx + m)) ∧ (∀ m, ¬ (s1_.nx + m = (2 : Nat))) ∧ ¬ ((2 : Nat) = s1_.nx) ∧ ¬ (s1_.nx = (2 : Nat)) ∧ (∀ m, ¬ ((3 : Nat) = s1_.nx + m)) ∧ (∀ m, ¬ (s1_.nx + m = (3 : Nat))) ∧ ¬ ((3 : Nat) = s1_.nx) ∧ ¬ (s1_.nx = (3 : Nat)) ∧ (∀ m, ¬ ((0 : Nat) = s1_.nx + m)) ∧ (∀ m, ¬ (s1_.nx + m = (0 : Nat))) ∧ ¬ ((0 : Nat) = s1_.nx) ∧ ¬ (s1_.nx = (0 : Nat)) := by refine ⟨?_, ?_, ?_, ?_, ?_, ?_, ?_, ?_, ?_, ?_, ?_, ?_, ?_, ?_, ?_, ?_⟩ <;> intros <;> omega
          repeat' first
            | apply AW.seq | apply AW.region | apply AW.ret | apply AW.block | apply AW.skip | apply AW.exit | apply AW.scope | apply AW.label | apply AWL.nil | apply D.nil
            | refine AW.draw (id := 27) cx_mixed [8] [] [] 9 (by decide +kernel) ?_
            | refine W.draw cx_mixed (by decide +kernel) ?_
            | ((first | (apply W.step cx_ok; decide) | (apply D.step cx_ok; decide; decide) | apply W.store cx_ok | (apply W.gS; rfl; decide) | (apply D.gS; rfl; decide; decide) | apply AW.cond); (simp (disch := omega) only [push_cast, simprocAttr, hS1_, hZ1_, hk1_, hLo, hfz, hAq, hdn, hdl, hdg, hsh, List.length_cons, List.length_nil] <;> rfl); all_goals try ((with_reducible intro hI); try first | (cases hI; done) | (simp only [INTS] at hI; try first | (exfalso; omega) | (have hT : True := hI; clear hT hI))))
            | ((first | (apply D.store cx_ok; decide) | (apply D.stept cx_ok; decide; decide) | (apply D.stepm cx_ok; decide; decide)); (simp (disch := omega) only [push_cast, simprocAttr, hS1_, hZ1_, hk1_, hLo, hfz, hAq, hdn, hdl, hdg, hsh, List.length_cons, List.length_nil] <;> rfl); try first | exact .inl rfl | exact .inr (by simp))
            | ((apply D.alloc cx_ok; decide; decide); (simp (disch := omega) only [push_cast, simprocAttr, hS1_, hZ1_, hk1_, hLo, hfz, hAq, hdn, hdl, hdg, hsh, List.length_cons, List.length_nil] <;> rfl); (simp (disch := omega) only [push_cast, simprocAttr, hS1_, hZ1_, hk1_, hLo, hfz, hAq, hdn, hdl, hdg, hsh, List.length_cons, List.length_nil, updH_at, Nat.add_assoc]); (simp (disch := omega) only [push_cast, simprocAttr, hS1_, hZ1_, hk1_, hLo, hfz, hAq, hdn, hdl, hdg, hsh, List.length_cons, List.length_nil] <;> omega))
            | ((apply D.alloct cx_ok; decide; decide); (simp (disch := omega) only [push_cast, simprocAttr, hS1_, hZ1_, hk1_, hLo, hfz, hAq, hdn, hdl, hdg, hsh, List.length_cons, List.length_nil] <;> rfl); first | exact .inl rfl | exact .inr (by simp))
            | (apply W.append cx_ok; decide; rfl; rfl; rfl; decide; (iterate 3 (simp (disch := omega) only [push_cast, simprocAttr, hS1_, hZ1_, hk1_, hLo, hfz, hAq, hdn, hdl, hdg, hsh, List.length_cons, List.length_nil] <;> rfl)); simp; (rfl); ((try dsimp only); (try simp only [List.length_map, List.length_append, List.length_cons, List.length_nil]); omega); ((try dsimp only); (try simp only [List.length_map, List.length_append, List.length_cons, List.length_nil]); omega))
            | (apply D.appendN cx_ok; decide; decide; rfl; rfl; rfl; decide; (iterate 3 (simp (disch := omega) only [push_cast, simprocAttr, hS1_, hZ1_, hk1_, hLo, hfz, hAq, hdn, hdl, hdg, hsh, List.length_cons, List.length_nil] <;> rfl)); simp; ((first | rfl | exact idsLL_map _ (fun _ => rfl) _)); ((try dsimp only); (try simp only [List.length_map, List.length_append, List.length_cons, List.length_nil]); omega); ((try dsimp only); (try simp only [List.length_map, List.length_append, List.length_cons, List.length_nil]); omega); (simp (disch := omega) only [push_cast, simprocAttr, hS1_, hZ1_, hk1_, hLo, hfz, hAq, hdn, hdl, hdg, hsh, List.length_cons, List.length_nil, updH_at, Nat.add_assoc]); (simp (disch := omega) only [push_cast, simprocAttr, hS1_, hZ1_, hk1_, hLo, hfz, hAq, hdn, hdl, hdg, hsh, List.length_cons, List.length_nil] <;> omega))
            | ((first | apply W.retC | apply W.endC'); (iterate 2 (try (simp (disch := omega) only [push_cast, simprocAttr, hS1_, hZ1_, hk1_, hLo, hfz, hAq, hdn, hdl, hdg, hsh, List.length_cons, List.length_nil] <;> rfl))))
          all_goals try (show _ = _; rw [if_pos (by rw [hLo]; first | omega | (simp only [List.length_append, List.length_cons, List.length_nil]; omega))]; rfl)
          have hle8 : ¬ 8 < lst.length := by rw [hLo]; first | omega | (simp only [List.length_append, List.length_cons, List.length_nil]; omega)
          rw [if_neg hle8]
          refine AW.adoptCell (s1_.nx + 7) 0 1 2 98 (r := { k := 3, es := [[.ref (s1_.nx + 2) 0 h.rooms.length, .v (.slice none 0 0), .ref (s1_.nx + 5) 0 h.ways.length]], ty := 26 }) (by simp (disch := omega) only [push_cast, simprocAttr, hS1_, hZ1_, hk1_, hLo, hfz, hAq, hdn, hdl, hdg, hsh, List.length_cons, List.length_nil]) (by rfl) ?_
          refine AW.loop (fun n s => ∃ (k R W0 B D : Nat) (od : List Door) (fz : Bool), n = h.doors.length - k ∧ (od = (setDoor h n0.toNat lst).take k) ∧ (od.length = k) ∧ (k ≤ h.doors.length) ∧ (4 ≤ R ∧ R < s.nx ∧ 4 ≤ W0 ∧ W0 < s.nx ∧ 4 ≤ B ∧ B < s.nx ∧ 4 ≤ D ∧ D < s.nx ∧ R ≠ W0 ∧ R ≠ B ∧ R ≠ D ∧ W0 ≠ B ∧ W0 ≠ D ∧ B ≠ D) ∧ 4 ≤ s.nx ∧ s.tm 1 = ai n0 ∧ s.tm 6 = .ptr 2 0 0 1 ∧ s.tm 9 = .ref 3 0 lst.length ∧ s.tm 13 = .ptr B 0 0 1 ∧ s.tm 118 = .lst (h.doors.map eDoor) ∧ s.tm 119 = ai h.doors.length ∧ s.tm 120 = ai k ∧ Pg.rowAt s.H (2) = some ({ k := 3, es := [[.v (.slice none 0 0), .v (.slice none 0 0), .v (.slice none 0 0)]], ty := 26 }) ∧ Pg.rowAt s.H (3) = some ({ k := 2, es := lst.map eSpan, ty := 38, lo := lst.length, fro := fz }) ∧ Pg.rowAt s.H (R) = some ({ k := 2, es := h.rooms.map eRoom, ty := 112, lo := h.rooms.length }) ∧ Pg.rowAt s.H (W0) = some ({ k := 5, es := h.ways.map eWay, ty := 76, lo := h.ways.length }) ∧ Pg.rowAt s.H (B) = some ({ k := 3, es := [[.ref R 0 h.rooms.length, .ref D 0 k, .ref W0 0 h.ways.length]], ty := 26 }) ∧ Pg.rowAt s.H (D) = some ({ k := 2, es := od.map eDoor, ty := 98, lo := k })) (h.doors.length) ⟨0, (s1_.nx + 2), (s1_.nx + 5), (s1_.nx + 7), (s1_.nx + 9), [], false, rfl, rfl, rfl, Nat.zero_le _, (by simp (disch := omega) only [push_cast, simprocAttr, hS1_, hZ1_, hk1_, hLo, hfz, hAq, hdn, hdl, hdg, hsh, List.length_cons, List.length_nil]; omega), ?_, ?_, ?_, ?_, ?_, ?_, ?_, ?_, ?_, ?_, ?_, ?_, ?_, ?_⟩ ?_
          iterate 14 (first | (simp (disch := omega) only [push_cast, simprocAttr, hS1_, hZ1_, hk1_, hLo, hfz, hAq, hdn, hdl, hdg, hsh, List.length_cons, List.length_nil] <;> first | rfl | omega) | omega)
          rintro n3 s3 ⟨k3, R3, W03, B3, D3, od3, fz3, hn3, hp03, hp13, hp23, hp33, hnl3, hS3⟩
          have hZ3 : (2 : Nat) ≠ s3.nx ∧ s3.nx ≠ (2 : Nat) ∧ (3 : Nat) ≠ s3.nx ∧ s3.nx ≠ (3 : Nat) ∧ (R3 : Nat) ≠ s3.nx ∧ s3.nx ≠ (R3 : Nat) ∧ (W03 : Nat) ≠ s3.nx ∧ s3.nx ≠ (W03 : Nat) ∧ (B3 : Nat) ≠ s3.nx ∧ s3.nx ≠ (B3 : Nat) ∧ (D3 : Nat) ≠ s3.nx ∧ s3.nx ≠ (D3 : Nat) := by omega
          refine AW.fresh fun hfr3 => ?_
          obtain ⟨q1, q2, q3, q4, q5, q6, q7, q8, q9, q10, q11, q12, q13, q14⟩ := hp33
          have hfz3 : ∀ m, s3.H (s3.nx + m) = none := fun m => hfr3 _ (by omega)
          have hAr : (∀ m, ¬ ((R3 : Nat) = s3.nx + m)) ∧ (∀ m, ¬ (s3.nx + m = (R3 : Nat))) ∧ ¬ ((R3 : Nat) = s3.nx) ∧ ¬ (s3.nx = (R3 : Nat)) ∧ (∀ m, ¬ ((W03 : Nat) = s3.nx + m)) ∧ (∀ m, ¬ (s3.nx + m = (W03 : Nat))) ∧ ¬ ((W03 : Nat) = s3.nx) ∧ ¬ (s3.nx = (W03 : Nat)) ∧ (∀ m, ¬ ((B3 : Nat) = s3.nx + m)) ∧ (∀ m, ¬ (s3.nx + m = (B3 : Nat))) ∧ ¬ ((B3 : Nat) = s3.nx) ∧ ¬ (s3.nx = (B3 : Nat)) ∧ (∀ m, ¬ ((D3 : Nat) = s3.nx + m)) ∧ (∀ m, ¬ (s3.nx + m = (D3 : Nat))) ∧ ¬ ((D3 : Nat) = s3.nx) ∧ ¬ (s3.nx = (D3 : Nat)) ∧ (∀ m, ¬ ((2 : Nat) = s3.nx + m)) ∧ (∀ m, ¬ (s3.nx + m = (2 : Nat))) ∧ ¬ ((2 : Nat) = s3.nx) ∧ ¬ (s3.nx = (2 : Nat)) ∧ (∀ m, ¬ ((3 : Nat) = s3.nx + m)) ∧ (∀ m, ¬ (s3.nx + m = (3 : Nat))) ∧ ¬ ((3 : Nat) = s3.nx) ∧ ¬ (s3.nx = (3 : Nat)) := by refine ⟨?_, ?_, ?_, ?_, ?_, ?_, ?_, ?_, ?_, ?_, ?_, ?_, ?_, ?_, ?_, ?_, ?_, ?_, ?_, ?_, ?_, ?_, ?_, ?_⟩ <;> intros <;> omega
          have hP : (2 : Nat) ≠ R3 ∧ (2 : Nat) ≠ W03 ∧ (2 : Nat) ≠ B3 ∧ (2 : Nat) ≠ D3 ∧ (3 : Nat) ≠ R3 ∧ (3 : Nat) ≠ W03 ∧ (3 : Nat) ≠ B3 ∧ (3 : Nat) ≠ D3 ∧ (R3 : Nat) ≠ 2 ∧ (R3 : Nat) ≠ 3 ∧ (R3 : Nat) ≠ W03 ∧ (R3 : Nat) ≠ B3 ∧ (R3 : Nat) ≠ D3 ∧ (W03 : Nat) ≠ 2 ∧ (W03 : Nat) ≠ 3 ∧ (W03 : Nat) ≠ R3 ∧ (W03 : Nat) ≠ B3 ∧ (W03 : Nat) ≠ D3 ∧ (B3 : Nat) ≠ 2 ∧ (B3 : Nat) ≠ 3 ∧ (B3 : Nat) ≠ R3 ∧ (B3 : Nat) ≠ W03 ∧ (B3 : Nat) ≠ D3 ∧ (D3 : Nat) ≠ 2 ∧ (D3 : Nat) ≠ 3 ∧ (D3 : Nat) ≠ R3 ∧ (D3 : Nat) ≠ W03 ∧ (D3 : Nat) ≠ B3 := by omega
          have hsl : (setDoor h n0.toNat lst).length = h.doors.length := by unfold setDoor; rw [List.length_set]
          by_cases hk3 : k3 < h.doors.length
          · have hk3a : (k3 : Int) < (h.doors.length : Int) := by omega
            obtain ⟨x, hx⟩ : ∃ x, h.doors[k3]? = some x := ⟨_, List.getElem?_eq_getElem hk3⟩
            have hgx : (h.doors.map eDoor).getD k3 [] = eDoor x := by rw [List.getD_eq_getElem?_getD, List.getElem?_map, hx]; rfl
            have hxm : x ∈ h.doors := List.mem_of_getElem? hx
            have hxl := hfit.doors x hxm
            by_cases hkn : (k3 : Int) = n0
            · have hdd : od3 ++ [⟨x.hours, lst⟩] = (setDoor h n0.toNat lst).take (k3 + 1) := by
                rw [List.take_add_one, hp03]
                congr 1
                unfold setDoor
                have hnk : n0.toNat = k3 := by omega
                have hdx : h.door (k3 : Int) = x := by unfold House.door; rw [Int.toNat_natCast, List.getD_eq_getElem?_getD, hx]; rfl
                rw [hnk, hdx]; simp [hk3]
              have hkq : ((k3 : Int) = n0) = True := eq_true hkn
              repeat' first
                | apply AW.seq | apply AW.region | apply AW.ret | apply AW.block | apply AW.skip | apply AW.exit | apply AW.scope | apply AW.label | apply AWL.nil | apply D.nil
                | refine AW.draw (id := 31) cx_mixed [7] [] [] 8 (by decide +kernel) ?_
                | refine W.draw cx_mixed (by decide +kernel) ?_
                | ((first | (apply W.step cx_ok; decide) | (apply D.step cx_ok; decide; decide) | apply W.store cx_ok | (apply W.gS; rfl; decide) | (apply D.gS; rfl; decide; decide) | apply AW.cond); (simp (disch := omega) only [push_cast, simprocAttr, hS3, hZ3, hfz3, hp13, hAr, hP, List.length_cons, List.length_nil, hk3a, hgx, hkq] <;> rfl); all_goals try ((with_reducible intro hI); try first | (cases hI; done) | (simp only [INTS] at hI; try first | (exfalso; omega) | (have hT : True := hI; clear hT hI))))
                | ((first | (apply D.store cx_ok; decide) | (apply D.stept cx_ok; decide; decide) | (apply D.stepm cx_ok; decide; decide)); (simp (disch := omega) only [push_cast, simprocAttr, hS3, hZ3, hfz3, hp13, hAr, hP, List.length_cons, List.length_nil, hk3a, hgx, hkq] <;> rfl); try first | exact .inl rfl | exact .inr (by simp))
                | ((apply D.alloc cx_ok; decide; decide); (simp (disch := omega) only [push_cast, simprocAttr, hS3, hZ3, hfz3, hp13, hAr, hP, List.length_cons, List.length_nil, hk3a, hgx, hkq] <;> rfl); (simp (disch := omega) only [push_cast, simprocAttr, hS3, hZ3, hfz3, hp13, hAr, hP, List.length_cons, List.length_nil, hk3a, hgx, hkq, updH_at, Nat.add_assoc]); (simp (disch := omega) only [push_cast, simprocAttr, hS3, hZ3, hfz3, hp13, hAr, hP, List.length_cons, List.length_nil, hk3a, hgx, hkq] <;> omega))
                | ((apply D.alloct cx_ok; decide; decide); (simp (disch := omega) only [push_cast, simprocAttr, hS3, hZ3, hfz3, hp13, hAr, hP, List.length_cons, List.length_nil, hk3a, hgx, hkq] <;> rfl); first | exact .inl rfl | exact .inr (by simp))
                | (apply D.appendN cx_ok; decide; decide; rfl; rfl; rfl; decide; (iterate 3 (simp (disch := omega) only [push_cast, simprocAttr, hS3, hZ3, hfz3, hp13, hAr, hP, List.length_cons, List.length_nil, hk3a, hgx, hkq] <;> rfl)); simp; ((first | rfl | exact idsLL_map _ (fun _ => rfl) _)); ((try dsimp only); (try simp only [List.length_map, List.length_append, List.length_cons, List.length_nil]); omega); ((try dsimp only); (try simp only [List.length_map, List.length_append, List.length_cons, List.length_nil]); omega); (simp (disch := omega) only [push_cast, simprocAttr, hS3, hZ3, hfz3, hp13, hAr, hP, List.length_cons, List.length_nil, hk3a, hgx, hkq, updH_at, Nat.add_assoc]); (simp (disch := omega) only [push_cast, simprocAttr, hS3, hZ3, hfz3, hp13, hAr, hP, List.length_cons, List.length_nil, hk3a, hgx, hkq] <;> omega))
                | (apply W.appendF cx_ok; decide; rfl; rfl; rfl; decide; (iterate 3 (simp (disch := omega) only [push_cast, simprocAttr, hS3, hZ3, hfz3, hp13, hAr, hP, List.length_cons, List.length_nil, hk3a, hgx, hkq] <;> rfl)); simp; (simp (disch := omega) only [push_cast, simprocAttr, hS3, hZ3, hfz3, hp13, hAr, hP, List.length_cons, List.length_nil, hk3a, hgx, hkq] <;> rfl); (simp; omega); ((try dsimp only); (try simp only [List.length_map, List.length_append, List.length_cons, List.length_nil]); omega); ((try dsimp only); (try simp only [List.length_map, List.length_append, List.length_cons, List.length_nil]); omega))
                | ((first | apply W.retC | apply W.endC'); (iterate 2 (try (simp (disch := omega) only [push_cast, simprocAttr, hS3, hZ3, hfz3, hp13, hAr, hP, List.length_cons, List.length_nil, hk3a, hgx, hkq] <;> rfl))))
              all_goals
                (refine ⟨(h.doors.length - (k3 + 1)), ?_, k3 + 1, R3, W03, B3, D3, od3 ++ [⟨x.hours, lst⟩], true, rfl, hdd, (by simp [hp13]), (by omega), (by simp (disch := omega) only [push_cast, simprocAttr, hS3, hZ3, hfz3, hp13, hAr, hP, List.length_cons, List.length_nil]; omega), ?_, ?_, ?_, ?_, ?_, ?_, ?_, ?_, ?_, ?_, ?_, ?_, ?_, ?_⟩; (omega); all_goals first | (simp (disch := omega) only [push_cast, simprocAttr, hS3, hZ3, hfz3, hp13, hk3a, hgx, hkq, hAr, hP, List.length_cons, List.length_nil] <;> first | rfl | omega) | omega)
            · have hdd : od3 ++ [x] = (setDoor h n0.toNat lst).take (k3 + 1) := by
                rw [List.take_add_one, hp03]
                congr 1
                unfold setDoor
                rw [List.getElem?_set, if_neg (by omega), hx]; rfl
              repeat' first
                | apply AW.seq | apply AW.region | apply AW.ret | apply AW.block | apply AW.skip | apply AW.exit | apply AW.scope | apply AW.label | apply AWL.nil | apply D.nil
                | refine AW.draw (id := 31) cx_mixed [7] [] [] 8 (by decide +kernel) ?_
                | refine W.draw cx_mixed (by decide +kernel) ?_
                | ((first | (apply W.step cx_ok; decide) | (apply D.step cx_ok; decide; decide) | apply W.store cx_ok | (apply W.gS; rfl; decide) | (apply D.gS; rfl; decide; decide) | apply AW.cond); (simp (disch := omega) only [push_cast, simprocAttr, hS3, hZ3, hfz3, hp13, hAr, hP, List.length_cons, List.length_nil, hk3a, hgx, hkn] <;> rfl); all_goals try ((with_reducible intro hI); try first | (cases hI; done) | (simp only [INTS] at hI; try first | (exfalso; omega) | (have hT : True := hI; clear hT hI))))
                | ((first | (apply D.store cx_ok; decide) | (apply D.stept cx_ok; decide; decide) | (apply D.stepm cx_ok; decide; decide)); (simp (disch := omega) only [push_cast, simprocAttr, hS3, hZ3, hfz3, hp13, hAr, hP, List.length_cons, List.length_nil, hk3a, hgx, hkn] <;> rfl); try first | exact .inl rfl | exact .inr (by simp))
                | ((apply D.alloc cx_ok; decide; decide); (simp (disch := omega) only [push_cast, simprocAttr, hS3, hZ3, hfz3, hp13, hAr, hP, List.length_cons, List.length_nil, hk3a, hgx, hkn] <;> rfl); (simp (disch := omega) only [push_cast, simprocAttr, hS3, hZ3, hfz3, hp13, hAr, hP, List.length_cons, List.length_nil, hk3a, hgx, hkn, updH_at, Nat.add_assoc]); (simp (disch := omega) only [push_cast, simprocAttr, hS3, hZ3, hfz3, hp13, hAr, hP, List.length_cons, List.length_nil, hk3a, hgx, hkn] <;> omega))
                | ((apply D.alloct cx_ok; decide; decide); (simp (disch := omega) only [push_cast, simprocAttr, hS3, hZ3, hfz3, hp13, hAr, hP, List.length_cons, List.length_nil, hk3a, hgx, hkn] <;> rfl); first | exact .inl rfl | exact .inr (by simp))
                | (apply D.appendN cx_ok; decide; decide; rfl; rfl; rfl; decide; (iterate 3 (simp (disch := omega) only [push_cast, simprocAttr, hS3, hZ3, hfz3, hp13, hAr, hP, List.length_cons, List.length_nil, hk3a, hgx, hkn] <;> rfl)); simp; ((first | rfl | exact idsLL_map _ (fun _ => rfl) _)); ((try dsimp only); (try simp only [List.length_map, List.length_append, List.length_cons, List.length_nil]); omega); ((try dsimp only); (try simp only [List.length_map, List.length_append, List.length_cons, List.length_nil]); omega); (simp (disch := omega) only [push_cast, simprocAttr, hS3, hZ3, hfz3, hp13, hAr, hP, List.length_cons, List.length_nil, hk3a, hgx, hkn, updH_at, Nat.add_assoc]); (simp (disch := omega) only [push_cast, simprocAttr, hS3, hZ3, hfz3, hp13, hAr, hP, List.length_cons, List.length_nil, hk3a, hgx, hkn] <;> omega))
                | (apply W.appendF cx_ok; decide; rfl; rfl; rfl; decide; (iterate 3 (simp (disch := omega) only [push_cast, simprocAttr, hS3, hZ3, hfz3, hp13, hAr, hP, List.length_cons, List.length_nil, hk3a, hgx, hkn] <;> rfl)); simp; (simp (disch := omega) only [push_cast, simprocAttr, hS3, hZ3, hfz3, hp13, hAr, hP, List.length_cons, List.length_nil, hk3a, hgx, hkn] <;> rfl); (simp; omega); ((try dsimp only); (try simp only [List.length_map, List.length_append, List.length_cons, List.length_nil]); omega); ((try dsimp only); (try simp only [List.length_map, List.length_append, List.length_cons, List.length_nil]); omega))
                | ((first | apply W.retC | apply W.endC'); (iterate 2 (try (simp (disch := omega) only [push_cast, simprocAttr, hS3, hZ3, hfz3, hp13, hAr, hP, List.length_cons, List.length_nil, hk3a, hgx, hkn] <;> rfl))))
              all_goals
                (refine ⟨(h.doors.length - (k3 + 1)), ?_, k3 + 1, R3, W03, B3, D3, od3 ++ [x], fz3, rfl, hdd, (by simp [hp13]), (by omega), (by simp (disch := omega) only [push_cast, simprocAttr, hS3, hZ3, hfz3, hp13, hAr, hP, List.length_cons, List.length_nil]; omega), ?_, ?_, ?_, ?_, ?_, ?_, ?_, ?_, ?_, ?_, ?_, ?_, ?_, ?_⟩; (omega); all_goals first | (simp (disch := omega) only [push_cast, simprocAttr, hS3, hZ3, hfz3, hp13, hk3a, hgx, hkn, hAr, hP, List.length_cons, List.length_nil] <;> first | rfl | omega) | omega)
          · have hk3a : ¬ (k3 : Int) < (h.doors.length : Int) := by omega
            have hko : od3 = setDoor h n0.toNat lst := by rw [hp03, List.take_of_length_le (by omega)]
            repeat' first
              | apply AW.seq | apply AW.region | apply AW.ret | apply AW.block | apply AW.skip | apply AW.exit | apply AW.scope | apply AW.label | apply AWL.nil | apply D.nil
              | refine W.draw cx_mixed (by decide +kernel) ?_
              | ((first | (apply W.step cx_ok; decide) | (apply D.step cx_ok; decide; decide) | apply W.store cx_ok | (apply W.gS; rfl; decide) | (apply D.gS; rfl; decide; decide) | apply AW.cond); (simp (disch := omega) only [push_cast, simprocAttr, hS3, hZ3, hfz3, hp13, hAr, hP, List.length_cons, List.length_nil, hk3a] <;> rfl); all_goals try ((with_reducible intro hI); try first | (cases hI; done) | (simp only [INTS] at hI; try first | (exfalso; omega) | (have hT : True := hI; clear hT hI))))
              | ((first | apply W.retC | apply W.endC'); (iterate 2 (try (simp (disch := omega) only [push_cast, simprocAttr, hS3, hZ3, hfz3, hp13, hAr, hP, List.length_cons, List.length_nil, hk3a] <;> rfl))))
            all_goals (show _ = _; rw [hko])
        | false =>
          have hLo : lst = out1_ ++ [s11_] := by rw [← hp11_]; simp [shutH]
          have hfz : ∀ m, s1_.H (s1_.nx + m) = none := fun m => hfr1_ _ (by omega)
          have hAq : (∀ m, ¬ ((1 : Nat) = s1_.nx + m)) ∧ (∀ m, ¬ (s1_.nx + m = (1 : Nat))) ∧ ¬ ((1 : Nat) = s1_.nx) ∧ ¬ (s1_.nx = (1 : Nat)) ∧ (∀ m, ¬ ((2 : Nat) = s1_.nx + m)) ∧ (∀ m, ¬ (s1_.nx + m = (2 : Nat))) ∧ ¬ ((2 : Nat) = s1_.nx) ∧ ¬ (s1_.nx = (2 : Nat)) ∧ (∀ m, ¬ ((3 : Nat) = s1_.nx + m)) ∧ (∀ m, ¬ (s1_.nx + m = (3 : Nat))) ∧ ¬ ((3 : Nat) = s1_.nx) ∧ ¬ (s1_.nx = (3 : Nat)) ∧ (∀ m, ¬ ((0 : Nat) = s1_.nx + m)) ∧ (∀ m, ¬ (s1_.nx + m = (0 : Nat))) ∧ ¬ ((0 : Nat) = s1_.nx) ∧ ¬ (s1_.nx = (0 : Nat)) := by refine ⟨?_, ?_, ?_, ?_, ?_, ?_, ?_, ?_, ?_, ?_, ?_, ?_, ?_, ?_, ?_, ?_⟩ <;> intros <;> omega
          repeat' first
            | apply AW.seq | apply AW.region | apply AW.ret | apply AW.block | apply AW.skip | apply AW.exit | apply AW.scope | apply AW.label | apply AWL.nil | apply D.nil
            | refine AW.draw (id := 27) cx_mixed [8] [] [] 9 (by decide +kernel) ?_
            | refine W.draw cx_mixed (by decide +kernel) ?_
            | ((first | (apply W.step cx_ok; decide) | (apply D.step cx_ok; decide; decide) | apply W.store cx_ok | (apply W.gS; rfl; decide) | (apply D.gS; rfl; decide; decide) | apply AW.cond); (simp (disch := omega) only [push_cast, simprocAttr, hS1_, hZ1_, hk1_, hLo, hfz, hAq, hdn, hdl, hdg, hsh, List.length_cons, List.length_nil] <;> rfl); all_goals try ((with_reducible intro hI); try first | (cases hI; done) | (simp only [INTS] at hI; try first | (exfalso; omega) | (have hT : True := hI; clear hT hI))))
            | ((first | (apply D.store cx_ok; decide) | (apply D.stept cx_ok; decide; decide) | (apply D.stepm cx_ok; decide; decide)); (simp (disch := omega) only [push_cast, simprocAttr, hS1_, hZ1_, hk1_, hLo, hfz, hAq, hdn, hdl, hdg, hsh, List.length_cons, List.length_nil] <;> rfl); try first | exact .inl rfl | exact .inr (by simp))
            | ((apply D.alloc cx_ok; decide; decide); (simp (disch := omega) only [push_cast, simprocAttr, hS1_, hZ1_, hk1_, hLo, hfz, hAq, hdn, hdl, hdg, hsh, List.length_cons, List.length_nil] <;> rfl); (simp (disch := omega) only [push_cast, simprocAttr, hS1_, hZ1_, hk1_, hLo, hfz, hAq, hdn, hdl, hdg, hsh, List.length_cons, List.length_nil, updH_at, Nat.add_assoc]); (simp (disch := omega) only [push_cast, simprocAttr, hS1_, hZ1_, hk1_, hLo, hfz, hAq, hdn, hdl, hdg, hsh, List.length_cons, List.length_nil] <;> omega))
            | ((apply D.alloct cx_ok; decide; decide); (simp (disch := omega) only [push_cast, simprocAttr, hS1_, hZ1_, hk1_, hLo, hfz, hAq, hdn, hdl, hdg, hsh, List.length_cons, List.length_nil] <;> rfl); first | exact .inl rfl | exact .inr (by simp))
            | (apply W.append cx_ok; decide; rfl; rfl; rfl; decide; (iterate 3 (simp (disch := omega) only [push_cast, simprocAttr, hS1_, hZ1_, hk1_, hLo, hfz, hAq, hdn, hdl, hdg, hsh, List.length_cons, List.length_nil] <;> rfl)); simp; (rfl); ((try dsimp only); (try simp only [List.length_map, List.length_append, List.length_cons, List.length_nil]); omega); ((try dsimp only); (try simp only [List.length_map, List.length_append, List.length_cons, List.length_nil]); omega))
            | (apply D.appendN cx_ok; decide; decide; rfl; rfl; rfl; decide; (iterate 3 (simp (disch := omega) only [push_cast, simprocAttr, hS1_, hZ1_, hk1_, hLo, hfz, hAq, hdn, hdl, hdg, hsh, List.length_cons, List.length_nil] <;> rfl)); simp; ((first | rfl | exact idsLL_map _ (fun _ => rfl) _)); ((try dsimp only); (try simp only [List.length_map, List.length_append, List.length_cons, List.length_nil]); omega); ((try dsimp only); (try simp only [List.length_map, List.length_append, List.length_cons, List.length_nil]); omega); (simp (disch := omega) only [push_cast, simprocAttr, hS1_, hZ1_, hk1_, hLo, hfz, hAq, hdn, hdl, hdg, hsh, List.length_cons, List.length_nil, updH_at, Nat.add_assoc]); (simp (disch := omega) only [push_cast, simprocAttr, hS1_, hZ1_, hk1_, hLo, hfz, hAq, hdn, hdl, hdg, hsh, List.length_cons, List.length_nil] <;> omega))
            | ((first | apply W.retC | apply W.endC'); (iterate 2 (try (simp (disch := omega) only [push_cast, simprocAttr, hS1_, hZ1_, hk1_, hLo, hfz, hAq, hdn, hdl, hdg, hsh, List.length_cons, List.length_nil] <;> rfl))))
          all_goals try (show _ = _; rw [if_pos (by rw [hLo]; first | omega | (simp only [List.length_append, List.length_cons, List.length_nil]; omega))]; rfl)
          have hle8 : ¬ 8 < lst.length := by rw [hLo]; first | omega | (simp only [List.length_append, List.length_cons, List.length_nil]; omega)
          rw [if_neg hle8]
          refine AW.adoptCell ((s1_.nx + 1) + 7) 0 1 2 98 (r := { k := 3, es := [[.ref ((s1_.nx + 1) + 2) 0 h.rooms.length, .v (.slice none 0 0), .ref ((s1_.nx + 1) + 5) 0 h.ways.length]], ty := 26 }) (by simp (disch := omega) only [push_cast, simprocAttr, hS1_, hZ1_, hk1_, hLo, hfz, hAq, hdn, hdl, hdg, hsh, List.length_cons, List.length_nil]) (by rfl) ?_
          refine AW.loop (fun n s => ∃ (k R W0 B D : Nat) (od : List Door) (fz : Bool), n = h.doors.length - k ∧ (od = (setDoor h n0.toNat lst).take k) ∧ (od.length = k) ∧ (k ≤ h.doors.length) ∧ (4 ≤ R ∧ R < s.nx ∧ 4 ≤ W0 ∧ W0 < s.nx ∧ 4 ≤ B ∧ B < s.nx ∧ 4 ≤ D ∧ D < s.nx ∧ R ≠ W0 ∧ R ≠ B ∧ R ≠ D ∧ W0 ≠ B ∧ W0 ≠ D ∧ B ≠ D) ∧ 4 ≤ s.nx ∧ s.tm 1 = ai n0 ∧ s.tm 6 = .ptr 2 0 0 1 ∧ s.tm 9 = .ref 3 0 lst.length ∧ s.tm 13 = .ptr B 0 0 1 ∧ s.tm 118 = .lst (h.doors.map eDoor) ∧ s.tm 119 = ai h.doors.length ∧ s.tm 120 = ai k ∧ Pg.rowAt s.H (2) = some ({ k := 3, es := [[.v (.slice none 0 0), .v (.slice none 0 0), .v (.slice none 0 0)]], ty := 26 }) ∧ Pg.rowAt s.H (3) = some ({ k := 2, es := lst.map eSpan, ty := 38, lo := lst.length, fro := fz }) ∧ Pg.rowAt s.H (R) = some ({ k := 2, es := h.rooms.map eRoom, ty := 112, lo := h.rooms.length }) ∧ Pg.rowAt s.H (W0) = some ({ k := 5, es := h.ways.map eWay, ty := 76, lo := h.ways.length }) ∧ Pg.rowAt s.H (B) = some ({ k := 3, es := [[.ref R 0 h.rooms.length, .ref D 0 k, .ref W0 0 h.ways.length]], ty := 26 }) ∧ Pg.rowAt s.H (D) = some ({ k := 2, es := od.map eDoor, ty := 98, lo := k })) (h.doors.length) ⟨0, ((s1_.nx + 1) + 2), ((s1_.nx + 1) + 5), ((s1_.nx + 1) + 7), ((s1_.nx + 1) + 9), [], false, rfl, rfl, rfl, Nat.zero_le _, (by simp (disch := omega) only [push_cast, simprocAttr, hS1_, hZ1_, hk1_, hLo, hfz, hAq, hdn, hdl, hdg, hsh, List.length_cons, List.length_nil]; omega), ?_, ?_, ?_, ?_, ?_, ?_, ?_, ?_, ?_, ?_, ?_, ?_, ?_, ?_⟩ ?_
          iterate 14 (first | (simp (disch := omega) only [push_cast, simprocAttr, hS1_, hZ1_, hk1_, hLo, hfz, hAq, hdn, hdl, hdg, hsh, List.length_cons, List.length_nil] <;> first | rfl | omega) | omega)
          rintro n3 s3 ⟨k3, R3, W03, B3, D3, od3, fz3, hn3, hp03, hp13, hp23, hp33, hnl3, hS3⟩
          have hZ3 : (2 : Nat) ≠ s3.nx ∧ s3.nx ≠ (2 : Nat) ∧ (3 : Nat) ≠ s3.nx ∧ s3.nx ≠ (3 : Nat) ∧ (R3 : Nat) ≠ s3.nx ∧ s3.nx ≠ (R3 : Nat) ∧ (W03 : Nat) ≠ s3.nx ∧ s3.nx ≠ (W03 : Nat) ∧ (B3 : Nat) ≠ s3.nx ∧ s3.nx ≠ (B3 : Nat) ∧ (D3 : Nat) ≠ s3.nx ∧ s3.nx ≠ (D3 : Nat) := by omega
          refine AW.fresh fun hfr3 => ?_
          obtain ⟨q1, q2, q3, q4, q5, q6, q7, q8, q9, q10, q11, q12, q13, q14⟩ := hp33
          have hfz3 : ∀ m, s3.H (s3.nx + m) = none := fun m => hfr3 _ (by omega)
          have hAr : (∀ m, ¬ ((R3 : Nat) = s3.nx + m)) ∧ (∀ m, ¬ (s3.nx + m = (R3 : Nat))) ∧ ¬ ((R3 : Nat) = s3.nx) ∧ ¬ (s3.nx = (R3 : Nat)) ∧ (∀ m, ¬ ((W03 : Nat) = s3.nx + m)) ∧ (∀ m, ¬ (s3.nx + m = (W03 : Nat))) ∧ ¬ ((W03 : Nat) = s3.nx) ∧ ¬ (s3.nx = (W03 : Nat)) ∧ (∀ m, ¬ ((B3 : Nat) = s3.nx + m)) ∧ (∀ m, ¬ (s3.nx + m = (B3 : Nat))) ∧ ¬ ((B3 : Nat) = s3.nx) ∧ ¬ (s3.nx = (B3 : Nat)) ∧ (∀ m, ¬ ((D3 : Nat) = s3.nx + m)) ∧ (∀ m, ¬ (s3.nx + m = (D3 : Nat))) ∧ ¬ ((D3 : Nat) = s3.nx) ∧ ¬ (s3.nx = (D3 : Nat)) ∧ (∀ m, ¬ ((2 : Nat) = s3.nx + m)) ∧ (∀ m, ¬ (s3.nx + m = (2 : Nat))) ∧ ¬ ((2 : Nat) = s3.nx) ∧ ¬ (s3.nx = (2 : Nat)) ∧ (∀ m, ¬ ((3 : Nat) = s3.nx + m)) ∧ (∀ m, ¬ (s3.nx + m = (3 : Nat))) ∧ ¬ ((3 : Nat) = s3.nx) ∧ ¬ (s3.nx = (3 : Nat)) := by refine ⟨?_, ?_, ?_, ?_, ?_, ?_, ?_, ?_, ?_, ?_, ?_, ?_, ?_, ?_, ?_, ?_, ?_, ?_, ?_, ?_, ?_, ?_, ?_, ?_⟩ <;> intros <;> omega
          have hP : (2 : Nat) ≠ R3 ∧ (2 : Nat) ≠ W03 ∧ (2 : Nat) ≠ B3 ∧ (2 : Nat) ≠ D3 ∧ (3 : Nat) ≠ R3 ∧ (3 : Nat) ≠ W03 ∧ (3 : Nat) ≠ B3 ∧ (3 : Nat) ≠ D3 ∧ (R3 : Nat) ≠ 2 ∧ (R3 : Nat) ≠ 3 ∧ (R3 : Nat) ≠ W03 ∧ (R3 : Nat) ≠ B3 ∧ (R3 : Nat) ≠ D3 ∧ (W03 : Nat) ≠ 2 ∧ (W03 : Nat) ≠ 3 ∧ (W03 : Nat) ≠ R3 ∧ (W03 : Nat) ≠ B3 ∧ (W03 : Nat) ≠ D3 ∧ (B3 : Nat) ≠ 2 ∧ (B3 : Nat) ≠ 3 ∧ (B3 : Nat) ≠ R3 ∧ (B3 : Nat) ≠ W03 ∧ (B3 : Nat) ≠ D3 ∧ (D3 : Nat) ≠ 2 ∧ (D3 : Nat) ≠ 3 ∧ (D3 : Nat) ≠ R3 ∧ (D3 : Nat) ≠ W03 ∧ (D3 : Nat) ≠ B3 := by omega
          have hsl : (setDoor h n0.toNat lst).length = h.doors.length := by unfold setDoor; rw [List.length_set]
          by_cases hk3 : k3 < h.doors.length
          · have hk3a : (k3 : Int) < (h.doors.length : Int) := by omega
            obtain ⟨x, hx⟩ : ∃ x, h.doors[k3]? = some x := ⟨_, List.getElem?_eq_getElem hk3⟩
            have hgx : (h.doors.map eDoor).getD k3 [] = eDoor x := by rw [List.getD_eq_getElem?_getD, List.getElem?_map, hx]; rfl
            have hxm : x ∈ h.doors := List.mem_of_getElem? hx
            have hxl := hfit.doors x hxm
            by_cases hkn : (k3 : Int) = n0
            · have hdd : od3 ++ [⟨x.hours, lst⟩] = (setDoor h n0.toNat lst).take (k3 + 1) := by
                rw [List.take_add_one, hp03]
                congr 1
                unfold setDoor
                have hnk : n0.toNat = k3 := by omega
                have hdx : h.door (k3 : Int) = x := by unfold House.door; rw [Int.toNat_natCast, List.getD_eq_getElem?_getD, hx]; rfl
                rw [hnk, hdx]; simp [hk3]
              have hkq : ((k3 : Int) = n0) = True := eq_true hkn
              repeat' first
                | apply AW.seq | apply AW.region | apply AW.ret | apply AW.block | apply AW.skip | apply AW.exit | apply AW.scope | apply AW.label | apply AWL.nil | apply D.nil
                | refine AW.draw (id := 31) cx_mixed [7] [] [] 8 (by decide +kernel) ?_
                | refine W.draw cx_mixed (by decide +kernel) ?_
                | ((first | (apply W.step cx_ok; decide) | (apply D.step cx_ok; decide; decide) | apply W.store cx_ok | (apply W.gS; rfl; decide) | (apply D.gS; rfl; decide; decide) | apply AW.cond); (simp (disch := omega) only [push_cast, simprocAttr, hS3, hZ3, hfz3, hp13, hAr, hP, List.length_cons, List.length_nil, hk3a, hgx, hkq] <;> rfl); all_goals try ((with_reducible intro hI); try first | (cases hI; done) | (simp only [INTS] at hI; try first | (exfalso; omega) | (have hT : True := hI; clear hT hI))))
                | ((first | (apply D.store cx_ok; decide) | (apply D.stept cx_ok; decide; decide) | (apply D.stepm cx_ok; decide; decide)); (simp (disch := omega) only [push_cast, simprocAttr, hS3, hZ3, hfz3, hp13, hAr, hP, List.length_cons, List.length_nil, hk3a, hgx, hkq] <;> rfl); try first | exact .inl rfl | exact .inr (by simp))
                | ((apply D.alloc cx_ok; decide; decide); (simp (disch := omega) only [push_cast, simprocAttr, hS3, hZ3, hfz3, hp13, hAr, hP, List.length_cons, List.length_nil, hk3a, hgx, hkq] <;> rfl); (simp (disch := omega) only [push_cast, simprocAttr, hS3, hZ3, hfz3, hp13, hAr, hP, List.length_cons, List.length_nil, hk3a, hgx, hkq, updH_at, Nat.add_assoc]); (simp (disch := omega) only [push_cast, simprocAttr, hS3, hZ3, hfz3, hp13, hAr, hP, List.length_cons, List.length_nil, hk3a, hgx, hkq] <;> omega))
                | ((apply D.alloct cx_ok; decide; decide); (simp (disch := omega) only [push_cast, simprocAttr, hS3, hZ3, hfz3, hp13, hAr, hP, List.length_cons, List.length_nil, hk3a, hgx, hkq] <;> rfl); first | exact .inl rfl | exact .inr (by simp))
                | (apply D.appendN cx_ok; decide; decide; rfl; rfl; rfl; decide; (iterate 3 (simp (disch := omega) only [push_cast, simprocAttr, hS3, hZ3, hfz3, hp13, hAr, hP, List.length_cons, List.length_nil, hk3a, hgx, hkq] <;> rfl)); simp; ((first | rfl | exact idsLL_map _ (fun _ => rfl) _)); ((try dsimp only); (try simp only [List.length_map, List.length_append, List.length_cons, List.length_nil]); omega); ((try dsimp only); (try simp only [List.length_map, List.length_append, List.length_cons, List.length_nil]); omega); (simp (disch := omega) only [push_cast, simprocAttr, hS3, hZ3, hfz3, hp13, hAr, hP, List.length_cons, List.length_nil, hk3a, hgx, hkq, updH_at, Nat.add_assoc]); (simp (disch := omega) only [push_cast, simprocAttr, hS3, hZ3, hfz3, hp13, hAr, hP, List.length_cons, List.length_nil, hk3a, hgx, hkq] <;> omega))
                | (apply W.appendF cx_ok; decide; rfl; rfl; rfl; decide; (iterate 3 (simp (disch := omega) only [push_cast, simprocAttr, hS3, hZ3, hfz3, hp13, hAr, hP, List.length_cons, List.length_nil, hk3a, hgx, hkq] <;> rfl)); simp; (simp (disch := omega) only [push_cast, simprocAttr, hS3, hZ3, hfz3, hp13, hAr, hP, List.length_cons, List.length_nil, hk3a, hgx, hkq] <;> rfl); (simp; omega); ((try dsimp only); (try simp only [List.length_map, List.length_append, List.length_cons, List.length_nil]); omega); ((try dsimp only); (try simp only [List.length_map, List.length_append, List.length_cons, List.length_nil]); omega))
                | ((first | apply W.retC | apply W.endC'); (iterate 2 (try (simp (disch := omega) only [push_cast, simprocAttr, hS3, hZ3, hfz3, hp13, hAr, hP, List.length_cons, List.length_nil, hk3a, hgx, hkq] <;> rfl))))
              all_goals
                (refine ⟨(h.doors.length - (k3 + 1)), ?_, k3 + 1, R3, W03, B3, D3, od3 ++ [⟨x.hours, lst⟩], true, rfl, hdd, (by simp [hp13]), (by omega), (by simp (disch := omega) only [push_cast, simprocAttr, hS3, hZ3, hfz3, hp13, hAr, hP, List.length_cons, List.length_nil]; omega), ?_, ?_, ?_, ?_, ?_, ?_, ?_, ?_, ?_, ?_, ?_, ?_, ?_, ?_⟩; (omega); all_goals first | (simp (disch := omega) only [push_cast, simprocAttr, hS3, hZ3, hfz3, hp13, hk3a, hgx, hkq, hAr, hP, List.length_cons, List.length_nil] <;> first | rfl | omega) | omega)
            · have hdd : od3 ++ [x] = (setDoor h n0.toNat lst).take (k3 + 1) := by
                rw [List.take_add_one, hp03]
                congr 1
                unfold setDoor
                rw [List.getElem?_set, if_neg (by omega), hx]; rfl
              repeat' first
                | apply AW.seq | apply AW.region | apply AW.ret | apply AW.block | apply AW.skip | apply AW.exit | apply AW.scope | apply AW.label | apply AWL.nil | apply D.nil
                | refine AW.draw (id := 31) cx_mixed [7] [] [] 8 (by decide +kernel) ?_
                | refine W.draw cx_mixed (by decide +kernel) ?_
                | ((first | (apply W.step cx_ok; decide) | (apply D.step cx_ok; decide; decide) | apply W.store cx_ok | (apply W.gS; rfl; decide) | (apply D.gS; rfl; decide; decide) | apply AW.cond); (simp (disch := omega) only [push_cast, simprocAttr, hS3, hZ3, hfz3, hp13, hAr, hP, List.length_cons, List.length_nil, hk3a, hgx, hkn] <;> rfl); all_goals try ((with_reducible intro hI); try first | (cases hI; done) | (simp only [INTS] at hI; try first | (exfalso; omega) | (have hT : True := hI; clear hT hI))))
                | ((first | (apply D.store cx_ok; decide) | (apply D.stept cx_ok; decide; decide) | (apply D.stepm cx_ok; decide; decide)); (simp (disch := omega) only [push_cast, simprocAttr, hS3, hZ3, hfz3, hp13, hAr, hP, List.length_cons, List.length_nil, hk3a, hgx, hkn] <;> rfl); try first | exact .inl rfl | exact .inr (by simp))
                | ((apply D.alloc cx_ok; decide; decide); (simp (disch := omega) only [push_cast, simprocAttr, hS3, hZ3, hfz3, hp13, hAr, hP, List.length_cons, List.length_nil, hk3a, hgx, hkn] <;> rfl); (simp (disch := omega) only [push_cast, simprocAttr, hS3, hZ3, hfz3, hp13, hAr, hP, List.length_cons, List.length_nil, hk3a, hgx, hkn, updH_at, Nat.add_assoc]); (simp (disch := omega) only [push_cast, simprocAttr, hS3, hZ3, hfz3, hp13, hAr, hP, List.length_cons, List.length_nil, hk3a, hgx, hkn] <;> omega))
                | ((apply D.alloct cx_ok; decide; decide); (simp (disch := omega) only [push_cast, simprocAttr, hS3, hZ3, hfz3, hp13, hAr, hP, List.length_cons, List.length_nil, hk3a, hgx, hkn] <;> rfl); first | exact .inl rfl | exact .inr (by simp))
                | (apply D.appendN cx_ok; decide; decide; rfl; rfl; rfl; decide; (iterate 3 (simp (disch := omega) only [push_cast, simprocAttr, hS3, hZ3, hfz3, hp13, hAr, hP, List.length_cons, List.length_nil, hk3a, hgx, hkn] <;> rfl)); simp; ((first | rfl | exact idsLL_map _ (fun _ => rfl) _)); ((try dsimp only); (try simp only [List.length_map, List.length_append, List.length_cons, List.length_nil]); omega); ((try dsimp only); (try simp only [List.length_map, List.length_append, List.length_cons, List.length_nil]); omega); (simp (disch := omega) only [push_cast, simprocAttr, hS3, hZ3, hfz3, hp13, hAr, hP, List.length_cons, List.length_nil, hk3a, hgx, hkn, updH_at, Nat.add_assoc]); (simp (disch := omega) only [push_cast, simprocAttr, hS3, hZ3, hfz3, hp13, hAr, hP, List.length_cons, List.length_nil, hk3a, hgx, hkn] <;> omega))
                | (apply W.appendF cx_ok; decide; rfl; rfl; rfl; decide; (iterate 3 (simp (disch := omega) only [push_cast, simprocAttr, hS3, hZ3, hfz3, hp13, hAr, hP, List.length_cons, List.length_nil, hk3a, hgx, hkn] <;> rfl)); simp; (simp (disch := omega) only [push_cast, simprocAttr, hS3, hZ3, hfz3, hp13, hAr, hP, List.length_cons, List.length_nil, hk3a, hgx, hkn] <;> rfl); (simp; omega); ((try dsimp only); (try simp only [List.length_map, List.length_append, List.length_cons, List.length_nil]); omega); ((try dsimp only); (try simp only [List.length_map, List.length_append, List.length_cons, List.length_nil]); omega))
                | ((first | apply W.retC | apply W.endC'); (iterate 2 (try (simp (disch := omega) only [push_cast, simprocAttr, hS3, hZ3, hfz3, hp13, hAr, hP, List.length_cons, List.length_nil, hk3a, hgx, hkn] <;> rfl))))
              all_goals
                (refine ⟨(h.doors.length - (k3 + 1)), ?_, k3 + 1, R3, W03, B3, D3, od3 ++ [x], fz3, rfl, hdd, (by simp [hp13]), (by omega), (by simp (disch := omega) only [push_cast, simprocAttr, hS3, hZ3, hfz3, hp13, hAr, hP, List.length_cons, List.length_nil]; omega), ?_, ?_, ?_, ?_, ?_, ?_, ?_, ?_, ?_, ?_, ?_, ?_, ?_, ?_⟩; (omega); all_goals first | (simp (disch := omega) only [push_cast, simprocAttr, hS3, hZ3, hfz3, hp13, hk3a, hgx, hkn, hAr, hP, List.length_cons, List.length_nil] <;> first | rfl | omega) | omega)
          · have hk3a : ¬ (k3 : Int) < (h.doors.length : Int) := by omega
            have hko : od3 = setDoor h n0.toNat lst := by rw [hp03, List.take_of_length_le (by omega)]
            repeat' first
              | apply AW.seq | apply AW.region | apply AW.ret | apply AW.block | apply AW.skip | apply AW.exit | apply AW.scope | apply AW.label | apply AWL.nil | apply D.nil
              | refine W.draw cx_mixed (by decide +kernel) ?_
              | ((first | (apply W.step cx_ok; decide) | (apply D.step cx_ok; decide; decide) | apply W.store cx_ok | (apply W.gS; rfl; decide) | (apply D.gS; rfl; decide; decide) | apply AW.cond); (simp (disch := omega) only [push_cast, simprocAttr, hS3, hZ3, hfz3, hp13, hAr, hP, List.length_cons, List.length_nil, hk3a] <;> rfl); all_goals try ((with_reducible intro hI); try first | (cases hI; done) | (simp only [INTS] at hI; try first | (exfalso; omega) | (have hT : True := hI; clear hT hI))))
              | ((first | apply W.retC | apply W.endC'); (iterate 2 (try (simp (disch := omega) only [push_cast, simprocAttr, hS3, hZ3, hfz3, hp13, hAr, hP, List.length_cons, List.length_nil, hk3a] <;> rfl))))
            all_goals (show _ = _; rw [hko])
      · obtain ⟨hk1_, hg1_, hd'1_, hl'1_, hm1_, hx1_⟩ := drop_cons hp01_ eSpan []
        have hxb := hshb x hm1_
        have x1 := hxb.1
        have x2 := hxb.2.1
        have x3 := hxb.2.2
        cases put1_ with
        | true =>
          repeat' first
            | apply AW.seq | apply AW.region | apply AW.ret | apply AW.block | apply AW.skip | apply AW.exit | apply AW.scope | apply AW.label | apply AWL.nil | apply D.nil
            | refine W.draw cx_mixed (by decide +kernel) ?_
            | ((first | (apply W.step cx_ok; decide) | (apply D.step cx_ok; decide; decide) | apply W.store cx_ok | (apply W.gS; rfl; decide) | (apply D.gS; rfl; decide; decide) | apply AW.cond); (simp (disch := omega) only [push_cast, simprocAttr, hS1_, hZ1_, hdn, hdl, hdg, hsh, List.length_cons, List.length_nil, hk1_, hg1_] <;> rfl); all_goals try ((with_reducible intro hI); try first | (cases hI; done) | (simp only [INTS] at hI; try first | (exfalso; omega) | (have hT : True := hI; clear hT hI))))
            | (apply W.append cx_ok; decide; rfl; rfl; rfl; decide; (iterate 3 (simp (disch := omega) only [push_cast, simprocAttr, hS1_, hZ1_, hdn, hdl, hdg, hsh, List.length_cons, List.length_nil, hk1_, hg1_] <;> rfl)); simp; (rfl); ((try dsimp only); (try simp only [List.length_map, List.length_append, List.length_cons, List.length_nil]); omega); ((try dsimp only); (try simp only [List.length_map, List.length_append, List.length_cons, List.length_nil]); omega))
            | ((first | apply W.retC | apply W.endC'); (iterate 2 (try (simp (disch := omega) only [push_cast, simprocAttr, hS1_, hZ1_, hdn, hdl, hdg, hsh, List.length_cons, List.length_nil, hk1_, hg1_] <;> rfl))))
          all_goals first
            | (have hxs : x = s11_ := by cases x; cases s11_; simp_all
               have hq : (out1_ ++ [x]) ++ shutH rest1_ s11_ true = lst := by rw [← hp11_, shutH, if_pos hxs]; simp
               (refine ⟨rest1_.length, ?_, k1_ + 1, out1_ ++ [x], s11_, true, rest1_, rfl, hd'1_, hq, (by first | omega | (simp only [List.length_append, List.length_cons, List.length_nil]; omega)), (by first | omega | (simp only [mergeS]; omega)), ?_, ?_, ?_, ?_, ?_, ?_, ?_, ?_, ?_, ?_, ?_, ?_, ?_, ?_⟩; ((simp only [List.length_cons] at *; omega)); all_goals first | (simp (disch := omega) only [push_cast, simprocAttr, hS1_, hZ1_, hg1_, hk1_, mergeS, List.length_cons, List.length_nil] <;> first | rfl | omega) | omega))
            | (have hxs : ¬ x = s11_ := fun e => by subst e; omega
               have hq : (out1_ ++ [x]) ++ shutH rest1_ s11_ true = lst := by rw [← hp11_, shutH, if_neg hxs, if_pos (by omega)]; simp
               (refine ⟨rest1_.length, ?_, k1_ + 1, out1_ ++ [x], s11_, true, rest1_, rfl, hd'1_, hq, (by first | omega | (simp only [List.length_append, List.length_cons, List.length_nil]; omega)), (by first | omega | (simp only [mergeS]; omega)), ?_, ?_, ?_, ?_, ?_, ?_, ?_, ?_, ?_, ?_, ?_, ?_, ?_, ?_⟩; ((simp only [List.length_cons] at *; omega)); all_goals first | (simp (disch := omega) only [push_cast, simprocAttr, hS1_, hZ1_, hg1_, hk1_, mergeS, List.length_cons, List.length_nil] <;> first | rfl | omega) | omega))
            | (have hxs : ¬ x = s11_ := fun e => by subst e; omega
               have hq : (out1_ ++ [x]) ++ shutH rest1_ s11_ true = lst := by rw [← hp11_, shutH, if_neg hxs, if_neg (by omega), if_pos (by omega), if_pos rfl]; simp
               (refine ⟨rest1_.length, ?_, k1_ + 1, out1_ ++ [x], s11_, true, rest1_, rfl, hd'1_, hq, (by first | omega | (simp only [List.length_append, List.length_cons, List.length_nil]; omega)), (by first | omega | (simp only [mergeS]; omega)), ?_, ?_, ?_, ?_, ?_, ?_, ?_, ?_, ?_, ?_, ?_, ?_, ?_, ?_⟩; ((simp only [List.length_cons] at *; omega)); all_goals first | (simp (disch := omega) only [push_cast, simprocAttr, hS1_, hZ1_, hg1_, hk1_, mergeS, List.length_cons, List.length_nil] <;> first | rfl | omega) | omega))
            | (have hxs : ¬ x = s11_ := fun e => by subst e; simp_all
               have hq : out1_ ++ shutH rest1_ (mergeS s11_ x) true = lst := by rw [← hp11_, shutH, if_neg hxs, if_neg (by omega), if_neg (by omega)]
               (refine ⟨rest1_.length, ?_, k1_ + 1, out1_, mergeS s11_ x, true, rest1_, rfl, hd'1_, hq, (by first | omega | (simp only [List.length_append, List.length_cons, List.length_nil]; omega)), (by first | omega | (simp only [mergeS]; omega)), ?_, ?_, ?_, ?_, ?_, ?_, ?_, ?_, ?_, ?_, ?_, ?_, ?_, ?_⟩; ((simp only [List.length_cons] at *; omega)); all_goals first | (simp (disch := omega) only [push_cast, simprocAttr, hS1_, hZ1_, hg1_, hk1_, mergeS, List.length_cons, List.length_nil] <;> first | rfl | omega) | omega))
        | false =>
          repeat' first
            | apply AW.seq | apply AW.region | apply AW.ret | apply AW.block | apply AW.skip | apply AW.exit | apply AW.scope | apply AW.label | apply AWL.nil | apply D.nil
            | refine W.draw cx_mixed (by decide +kernel) ?_
            | ((first | (apply W.step cx_ok; decide) | (apply D.step cx_ok; decide; decide) | apply W.store cx_ok | (apply W.gS; rfl; decide) | (apply D.gS; rfl; decide; decide) | apply AW.cond); (simp (disch := omega) only [push_cast, simprocAttr, hS1_, hZ1_, hdn, hdl, hdg, hsh, List.length_cons, List.length_nil, hk1_, hg1_] <;> rfl); all_goals try ((with_reducible intro hI); try first | (cases hI; done) | (simp only [INTS] at hI; try first | (exfalso; omega) | (have hT : True := hI; clear hT hI))))
            | (apply W.append cx_ok; decide; rfl; rfl; rfl; decide; (iterate 3 (simp (disch := omega) only [push_cast, simprocAttr, hS1_, hZ1_, hdn, hdl, hdg, hsh, List.length_cons, List.length_nil, hk1_, hg1_] <;> rfl)); simp; (rfl); ((try dsimp only); (try simp only [List.length_map, List.length_append, List.length_cons, List.length_nil]); omega); ((try dsimp only); (try simp only [List.length_map, List.length_append, List.length_cons, List.length_nil]); omega))
            | ((first | apply W.retC | apply W.endC'); (iterate 2 (try (simp (disch := omega) only [push_cast, simprocAttr, hS1_, hZ1_, hdn, hdl, hdg, hsh, List.length_cons, List.length_nil, hk1_, hg1_] <;> rfl))))
          all_goals first
            | (have hxs : x = s11_ := by cases x; cases s11_; simp_all
               have hq : (out1_ ++ [x]) ++ shutH rest1_ s11_ true = lst := by rw [← hp11_, shutH, if_pos hxs]; simp
               (refine ⟨rest1_.length, ?_, k1_ + 1, out1_ ++ [x], s11_, true, rest1_, rfl, hd'1_, hq, (by first | omega | (simp only [List.length_append, List.length_cons, List.length_nil]; omega)), (by first | omega | (simp only [mergeS]; omega)), ?_, ?_, ?_, ?_, ?_, ?_, ?_, ?_, ?_, ?_, ?_, ?_, ?_, ?_⟩; ((simp only [List.length_cons] at *; omega)); all_goals first | (simp (disch := omega) only [push_cast, simprocAttr, hS1_, hZ1_, hg1_, hk1_, mergeS, List.length_cons, List.length_nil] <;> first | rfl | omega) | omega))
            | (have hxs : ¬ x = s11_ := fun e => by subst e; omega
               have hq : (out1_ ++ [x]) ++ shutH rest1_ s11_ false = lst := by rw [← hp11_, shutH, if_neg hxs, if_pos (by omega)]; simp
               (refine ⟨rest1_.length, ?_, k1_ + 1, out1_ ++ [x], s11_, false, rest1_, rfl, hd'1_, hq, (by first | omega | (simp only [List.length_append, List.length_cons, List.length_nil]; omega)), (by first | omega | (simp only [mergeS]; omega)), ?_, ?_, ?_, ?_, ?_, ?_, ?_, ?_, ?_, ?_, ?_, ?_, ?_, ?_⟩; ((simp only [List.length_cons] at *; omega)); all_goals first | (simp (disch := omega) only [push_cast, simprocAttr, hS1_, hZ1_, hg1_, hk1_, mergeS, List.length_cons, List.length_nil] <;> first | rfl | omega) | omega))
            | (have hxs : ¬ x = s11_ := fun e => by subst e; omega
               have hq : (out1_ ++ [s11_, x]) ++ shutH rest1_ s11_ true = lst := by rw [← hp11_, shutH, if_neg hxs, if_neg (by omega), if_pos (by omega), if_neg (by decide)]; simp
               (refine ⟨rest1_.length, ?_, k1_ + 1, out1_ ++ [s11_, x], s11_, true, rest1_, rfl, hd'1_, hq, (by first | omega | (simp only [List.length_append, List.length_cons, List.length_nil]; omega)), (by first | omega | (simp only [mergeS]; omega)), ?_, ?_, ?_, ?_, ?_, ?_, ?_, ?_, ?_, ?_, ?_, ?_, ?_, ?_⟩; ((simp only [List.length_cons] at *; omega)); all_goals first | (simp (disch := omega) only [push_cast, simprocAttr, hS1_, hZ1_, hg1_, hk1_, mergeS, List.length_cons, List.length_nil] <;> first | rfl | omega) | omega))
            | (have hxs : ¬ x = s11_ := fun e => by subst e; simp_all
               have hq : out1_ ++ shutH rest1_ (mergeS s11_ x) false = lst := by rw [← hp11_, shutH, if_neg hxs, if_neg (by omega), if_neg (by omega)]
               (refine ⟨rest1_.length, ?_, k1_ + 1, out1_, mergeS s11_ x, false, rest1_, rfl, hd'1_, hq, (by first | omega | (simp only [List.length_append, List.length_cons, List.length_nil]; omega)), (by first | omega | (simp only [mergeS]; omega)), ?_, ?_, ?_, ?_, ?_, ?_, ?_, ?_, ?_, ?_, ?_, ?_, ?_, ?_⟩; ((simp only [List.length_cons] at *; omega)); all_goals first | (simp (disch := omega) only [push_cast, simprocAttr, hS1_, hZ1_, hg1_, hk1_, mergeS, List.length_cons, List.length_nil] <;> first | rfl | omega) | omega))
  ·
    refine OKat.of_bodyC cx_ok (rs := [.cell 6 26, .tmp 7]) Tryd.func24 rfl (by decide +kernel) rfl (by decide) (by simp [Tryd.ntmps24]) ?_
    simp only [Tryd.ntmps24]
    repeat' first
      | apply AW.seq | apply AW.region | apply AW.ret | apply AW.block | apply AW.skip | apply AW.exit | apply AW.scope | apply AW.label | apply AWL.nil | apply D.nil
      | refine W.draw cx_mixed (by decide +kernel) ?_
      | ((first | (apply W.step cx_ok; decide) | (apply D.step cx_ok; decide; decide) | apply W.store cx_ok | (apply W.gS; rfl; decide) | (apply D.gS; rfl; decide; decide) | apply AW.cond); (simp (disch := omega) only [push_cast, simprocAttr, he] <;> rfl); all_goals try ((with_reducible intro hI); try first | (cases hI; done) | (simp only [INTS] at hI; try first | (exfalso; omega) | (have hT : True := hI; clear hT hI))))
      | ((first | (apply W.callv cx_ok; decide) | (apply D.callv cx_ok; decide; decide)); (iterate 2 (simp (disch := omega) only [push_cast, simprocAttr, he] <;> rfl)); (with_reducible first | exact doorNone_ok _ _ hfit); try first | rfl | (simp (disch := omega) only [push_cast, simprocAttr, he] <;> rfl))
      | ((first | apply W.retC | apply W.endC'); (iterate 2 (try (simp (disch := omega) only [push_cast, simprocAttr, he] <;> rfl))))
    all_goals (show _ = _; unfold shutDoor; rw [if_pos he]; rfl)

end Go.Proofs.Hs

namespace Go.Proofs.Hs
open Go Go.Pg Go.Proofs

def exS : House := ⟨exH.rooms, [⟨[⟨21600, 64800⟩], [⟨21600, 21699⟩]⟩], exH.ways⟩
theorem exS_fit : exS.Fit := ⟨by decide, by decide, by decide, by decide, by decide⟩
def exT : ByteArray := ⟨#[114, 111, 111, 109, 32, 103, 97, 116, 101, 32, 48, 10, 114, 111, 111, 109, 32, 109, 105, 108, 108, 32, 48, 10, 114, 111, 111, 109, 32, 108, 111, 102, 116, 32, 49, 10, 100, 111, 111, 114, 32, 50, 49, 54, 48, 48, 45, 54, 52, 56, 48, 48, 32, 115, 104, 117, 116, 10, 119, 97, 121, 32, 48, 32, 49, 32, 54, 48, 32, 54, 48, 32, 45, 49, 10, 119, 97, 121, 32, 49, 32, 50, 32, 51, 48, 32, 48, 32, 48, 10]⟩
theorem v_ear : earliestH exH 0 64800 = ([64800, 64860, 108030], 0) := by decide +kernel
theorem v_lat : latestH exH 2 21700 = ([21610, 21670, 21700], 0) := by decide +kernel
theorem v_walk : Walk exH 0 0 [⟨0, false, 5⟩, ⟨1, false, 21600⟩] = (2, 21630, 0) := by decide +kernel
theorem v_one : checkWallH exH 0 0 2 21629 [0, 0, 21630] = 0 := by decide +kernel
theorem v_two : checkWallH exH 0 0 2 21630 [0, 60, 21630] = 8 := by decide +kernel
theorem v_next : nextOpenH exS 0 0 = (21700, 0) := by decide +kernel
theorem v_shut1 : (shutDoor exH 0 ⟨21600, 21699⟩).2 = 0 := by decide +kernel
theorem v_shut2 : (shutDoor exH 0 ⟨21600, 21699⟩).1.doors = exS.doors := by decide +kernel
theorem v_shut : shutDoor exH 0 ⟨21600, 21699⟩ = (exS, 0) := by
  have h1 := v_shut1
  have h2 := v_shut2
  have h3 : (shutDoor exH 0 ⟨21600, 21699⟩).1.rooms = exH.rooms := by
    unfold shutDoor at h1 ⊢
    split
    · rename_i h; rw [if_pos h] at h1; exact absurd h1 h
    · rename_i h; rw [if_neg h] at h1
      split
      · rename_i g; rw [if_pos g] at h1; cases h1
      · rename_i g; rw [if_neg g] at h1
        split
        · rename_i k; rw [if_pos k] at h1; cases h1
        · rfl
  have h4 : (shutDoor exH 0 ⟨21600, 21699⟩).1.ways = exH.ways := by
    unfold shutDoor at h1 ⊢
    split
    · rename_i h; rw [if_pos h] at h1; exact absurd h1 h
    · rename_i h; rw [if_neg h] at h1
      split
      · rename_i g; rw [if_pos g] at h1; cases h1
      · rename_i g; rw [if_neg g] at h1
        split
        · rename_i k; rw [if_pos k] at h1; cases h1
        · rfl
  generalize shutDoor exH 0 ⟨21600, 21699⟩ = r at *
  obtain ⟨⟨rr, rd, rw'⟩, e⟩ := r
  simp only at h1 h2 h3 h4
  subst h1; subst h2; subst h3; subst h4
  rfl
theorem v_print : printB exH = (exT, 0) := by
  have h1 : (printB exH).2 = 0 := by decide +kernel
  have h2 : (printB exH).1.data = exT.data := by decide +kernel
  generalize printB exH = r at *
  obtain ⟨⟨d⟩, e⟩ := r
  simp only at h1 h2
  subst h1; subst h2
  rfl

theorem s_ear : OKv cx 27 [.agg (eHouse exH), ai 0, ai 64800] (.tup [.lst [[ai 64800], [ai 64860], [ai 108030]], ai 0]) := by
  have := Earliest_ok exH 0 64800 exH_fit
  rw [v_ear] at this; exact this
theorem s_lat : OKv cx 29 [.agg (eHouse exH), ai 2, ai 21700] (.tup [.lst [[ai 21610], [ai 21670], [ai 21700]], ai 0]) := by
  have := Latest_ok exH 2 21700 exH_fit
  rw [v_lat] at this; exact this
theorem s_walk : OKv cx 22 [.agg (eHouse exH), ai 0, ai 0, .lst [[ai 0, ab false, ai 5], [ai 1, ab false, ai 21600]]] (.tup [ai 2, ai 21630, ai 0]) := by
  have := Walk_ok exH 0 0 [⟨0, false, 5⟩, ⟨1, false, 21600⟩] exH_fit (by decide)
  rw [v_walk] at this; exact this
theorem s_one : OKv cx 36 [.agg (eHouse exH), ai 0, ai 0, ai 2, ai 21629, .lst [[ai 0], [ai 0], [ai 21630]]] (ai 0) := by
  have := CheckWall_ok exH 0 0 2 21629 [0, 0, 21630] exH_fit (by decide)
  rw [v_one] at this; exact this
theorem s_two : OKv cx 36 [.agg (eHouse exH), ai 0, ai 0, ai 2, ai 21630, .lst [[ai 0], [ai 60], [ai 21630]]] (ai 8) := by
  have := CheckWall_ok exH 0 0 2 21630 [0, 60, 21630] exH_fit (by decide)
  rw [v_two] at this; exact this
theorem s_shut : OKv cx 24 [.agg (eHouse exH), ai 0, .agg [ai 21600, ai 21699]] (.tup [.agg (eHouse exS), ai 0]) := by
  have := Shut_ok exH 0 ⟨21600, 21699⟩ exH_fit
  rw [v_shut] at this; exact this
theorem s_next : OKv cx 60 [.agg (eHouse exS), ai 0, ai 0] (.tup [ai 21700, ai 0]) := by
  have := NextOpen_ok exS 0 0 exS_fit
  rw [v_next] at this; exact this
theorem s_print : OKv cx 73 [.agg (eHouse exH)] (.tup [at_ exT, ai 0]) := by
  have := Print_ok exH exH_fit
  rw [v_print] at this; exact this
theorem s_same1 : OKv cx 33 [.lst [[ai 64800], [ai 64860], [ai 108030]], .lst [[ai 64800], [ai 64860], [ai 108030]]] (ab true) := by
  have := SameInts_ok [64800, 64860, 108030] [64800, 64860, 108030] (by decide) (by decide)
  exact this
theorem s_same2 : OKv cx 33 [.lst [[ai 21610], [ai 21670], [ai 21700]], .lst [[ai 21610], [ai 21670], [ai 21700]]] (ab true) := by
  have := SameInts_ok [21610, 21670, 21700] [21610, 21670, 21700] (by decide) (by decide)
  exact this

end Go.Proofs.Hs

namespace Go.Proofs.Hs
open Go Go.Pg Go.Proofs

theorem sanity_ok : OKv cx 21 [] (ab true) := by
  refine OKat.of_body (rs := [0]) Tryd.func21 rfl (by decide +kernel) rfl (by simp [Tryd.ntmps21]) ?_
  simp only [Tryd.ntmps21]
  repeat' first
    | apply AW.seq | apply AW.region | apply AW.ret | apply AW.block | apply AW.skip | apply AW.exit | apply AW.scope | apply AW.label | apply AWL.nil
    | ((first | (apply W.step cx_ok; decide) | apply W.store cx_ok | (apply W.gS; rfl; decide) | apply AW.cond); (simp (disch := omega) only [push_cast, simprocAttr, Int.reduceAdd, Int.reduceLT, Int.reduceLE, Int.reduceToNat, Int.reduceNeg, Int.reduceEq, Int.cast_ofNat_Int, Int.natCast_one, Int.reduceBEq, Int.reduceBNe, Int.reduceNe, exT, List.toList_toArray] <;> rfl); all_goals try ((with_reducible intro hI); try first | (cases hI; done) | (simp only [INTS] at hI; try first | (exfalso; omega) | (have hT : True := hI; clear hT hI))))
    | ((apply W.callv cx_ok; decide); (iterate 2 (simp (disch := omega) only [push_cast, simprocAttr, Int.reduceAdd, Int.reduceLT, Int.reduceLE, Int.reduceToNat, Int.reduceNeg, Int.reduceEq, Int.cast_ofNat_Int, Int.natCast_one, Int.reduceBEq, Int.reduceBNe, Int.reduceNe, exT, List.toList_toArray] <;> rfl)); (with_reducible first | exact ex_ok | exact s_ear | exact s_lat | exact s_walk | exact s_one | exact s_two | exact s_shut | exact s_next | exact s_print | exact s_same1 | exact s_same2); try first | rfl | (simp (disch := omega) only [push_cast, simprocAttr, Int.reduceAdd, Int.reduceLT, Int.reduceLE, Int.reduceToNat, Int.reduceNeg, Int.reduceEq, Int.cast_ofNat_Int, Int.natCast_one, Int.reduceBEq, Int.reduceBNe, Int.reduceNe, exT, List.toList_toArray] <;> rfl))
    | ((first | apply W.ret1 | apply W.end1); (iterate 2 (try (simp (disch := omega) only [push_cast, simprocAttr, Int.reduceAdd, Int.reduceLT, Int.reduceLE, Int.reduceToNat, Int.reduceNeg, Int.reduceEq, Int.cast_ofNat_Int, Int.natCast_one, Int.reduceBEq, Int.reduceBNe, Int.reduceNe, exT, List.toList_toArray] <;> rfl))))
  all_goals (show _ = _; rfl)

end Go.Proofs.Hs
