/-
  Contracts of functions, proved by going through their code. No conditions.
-/
import Derived.Test.YtbeiiipphicdlaaGreatDoorTax
set_option linter.unusedVariables false
set_option linter.unusedSimpArgs false
set_option maxHeartbeats 8000000
set_option maxRecDepth 10000
namespace Go.Proofs.Hz
open Go Go.Pg Go.Proofs Go.Tx
attribute [local push_cast] Bool.and_false Bool.and_self Bool.and_true Bool.false_and Bool.false_eq_true Bool.not_false Bool.not_true Bool.true_and Int.toNat_one Int.toNat_zero List.all_append List.all_cons List.all_nil List.append_nil List.cons_append List.getD_cons_zero List.isEmpty_cons List.length_append List.length_cons List.length_drop List.length_nil List.length_take List.map_append List.map_cons List.map_nil List.mem_cons List.nil_append List.not_mem_nil List.take_length List.take_of_length_le Nat.add_assoc Nat.le_refl Nat.zero_add Nat.zero_le St.back TyD.isAgg and_self and_true dropM idsA idsL isEmpty_map leT natNe pureA pureL rowAt_aftJ takeM true_and
def WP (h : House) (nx : Nat) (H H' : Nat → Option AO) (nx' : Nat) : Prop :=
  Pg.rowAt H' 2 = some ({ k := 2, es := h.rooms.map eRoom, ty := 62, lo := h.rooms.length }) ∧ Pg.rowAt H' 3 = some ({ k := 2, es := h.doors.map eDoor, ty := 38, lo := h.doors.length }) ∧ Pg.rowAt H' 4 = some ({ k := 5, es := h.ways.map eWay, ty := 72, lo := h.ways.length }) ∧ nx ≤ nx' ∧ ∀ j, j < nx → j ≠ 2 → j ≠ 3 → j ≠ 4 → H' j = H j
theorem numsD_len : ∀ (l : List ByteArray) (o : List Int), (numsD l o).2 = true → (numsD l o).1.length = o.length + l.length
  | [], o, _ => rfl
  | x :: l, o, h => by
    rw [numsD] at h ⊢
    split at h
    · rename_i hx
      rw [if_pos hx, numsD_len l _ h, List.length_append, List.length_cons, List.length_cons, List.length_nil]; omega
    · cases h
theorem With_m (h : House) (line : ByteArray) (hb1 : h.rooms.length ≤ 1048576) (hb2 : h.doors.length ≤ 1048576) (hb3 : h.ways.length ≤ 1048576) (hs : line.size ≤ 1048575) (nx : Nat) (hn5 : 5 ≤ nx) :
    ∃ (F : (Nat → Option AO) → (Nat → Option AO)) (nx' : Nat),
      (∀ H, Pg.rowAt H 2 = some ({ k := 2, es := h.rooms.map eRoom, ty := 62, lo := h.rooms.length }) → Pg.rowAt H 3 = some ({ k := 2, es := h.doors.map eDoor, ty := 38, lo := h.doors.length }) → Pg.rowAt H 4 = some ({ k := 5, es := h.ways.map eWay, ty := 72, lo := h.ways.length }) →
        (∀ Qx : AV → (Nat → Option AO) → Nat → Prop, Qx (.tup [.agg [.ref 2 0 (withD h line).1.rooms.length, .ref 3 0 (withD h line).1.doors.length, .ref 4 0 (withD h line).1.ways.length], ab (withD h line).2]) (F H) nx' → OKm cx 34 [.agg [.ref 2 0 h.rooms.length, .ref 3 0 h.doors.length, .ref 4 0 h.ways.length], at_ line] H nx Qx) ∧ WP (withD h line).1 nx H (F H) nx') ∧
      ∀ H key o, 4 < key → key < nx → F (updH H key o) = updH (F H) key o := by
  have c1 : OKv cx 33 [at_ line, .v (.int .u8 32)] (.lst ((Tx.wordsB 32 line).map eStr)) := RWords_ok line 32 (by omega)
  have hcount := wordsB_count 32 line
  have hsz : ∀ w ∈ Tx.wordsB 32 line, w.size ≤ 1048575 := fun w hw => Nat.le_trans (Tx.wordsB_size hw) hs
  have hne : Tx.wordsB 32 line ≠ [] := by
    rw [wordsB_eq]; intro e; exact wordsF_ne 32 (bl line) (List.map_eq_nil_iff.1 e)
  unfold withD
  generalize Tx.wordsB 32 line = WW at *
  rcases WW with _ | ⟨a, ws⟩
  · exact absurd rfl hne
  have hl : ws.length ≤ 1048576 := by simp only [List.length_cons] at hcount; omega
  have hsw : ∀ w ∈ ws, w.size ≤ 1048575 := fun w hw => hsz w (by simp [hw])
  have i0 : ((0 : Int) < (ws.length : Int) + 1) = True := eq_true (by omega)
  have i1 : (0 < ws.length + 1) = True := eq_true (by omega)
  have i2 : ((0 : Int) < ((ws.length + 1 : Nat) : Int)) = True := eq_true (by omega)
  have i3 : ((1 : Int) ≤ (ws.length : Int) + 1) = True := eq_true (by omega)
  have i4 : (1 ≤ ws.length + 1) = True := eq_true (by omega)
  have hsl : 1 ≤ ws.length + 1 ∧ ws.length + 1 ≤ (List.map eStr ws).length + 1 ∧ ∀ (e : List AV), e ∈ eStr a :: List.map eStr ws → e.length = 1 := ⟨by omega, by rw [List.length_map]; exact Nat.le_refl _, fun e he => by
    rcases List.mem_cons.1 he with he | he
    · rw [he]; rfl
    · obtain ⟨z, _, rfl⟩ := List.mem_map.1 he; rfl⟩
  have hg0 : ∀ x y : List UInt8, x = y → (x == y) = true := fun x y e => by rw [beq_iff_eq]; exact e
  have hg1 : ∀ x y : List UInt8, ¬ x = y → (x == y) = false := fun x y e => by rw [beq_eq_false_iff_ne]; exact e
  have hf3 : ∀ x, flatA (.v x) = true := fun _ => rfl
  have hf5 : ∀ x y, flatA (.tup [.v x, .v y]) = true := fun _ _ => rfl
  have hf5b : ∀ x y z, flatA (.tup [.v x, .v y, .v z]) = true := fun _ _ _ => rfl
  have hf6 : ∀ l, flatA (.lst l) = false := fun _ => rfl
  have hf7 : ∀ l x, flatA (.tup [.lst l, .v x]) = false := fun _ _ => rfl
  have hf9 : ∀ H ids x y, afterH H ids (.tup [.v x, .v y]) = H := fun _ _ _ _ => rfl
  by_cases hR : bl a = bl sRoom
  · have t1 : (a.data.toList == (ByteArray.mk #[114, 111, 111, 109]).data.toList) = true := hg0 _ _ hR
    have t2 : (a.data.toList == (ByteArray.mk #[100, 111, 111, 114]).data.toList) = false := hg1 _ _ (fun e => by have h1 : bl sRoom = bl sDoor := hR.symm.trans e; revert h1; decide)
    have t3 : (a.data.toList == (ByteArray.mk #[119, 97, 121]).data.toList) = false := hg1 _ _ (fun e => by have h1 : bl sRoom = bl sWay := hR.symm.trans e; revert h1; decide)
    by_cases h3 : ws.length = 2
    · obtain ⟨b, c, rfl⟩ : ∃ b c, ws = [b, c] := by
        match ws, h3 with
        | [b, c], _ => exact ⟨b, c, rfl⟩
      have c2 := RNumber_ok c (Nat.le_trans (hsw c (by simp)) (by omega))
      have e1 : withW h [a, b, c] = (⟨h.rooms ++ [⟨b, (numD c).1⟩], h.doors, h.ways⟩, (numD c).2) := by
        unfold withW; rw [wAt0, if_pos ⟨hR, rfl⟩]; rfl
      rw [e1]
      clear e1
      generalize numD c = V at *
      obtain ⟨v, ok⟩ := V
      dsimp only at c2 ⊢
      try simp only [List.length_append, List.length_cons, List.length_nil, Nat.zero_add]
      apply Exists.intro
      apply Exists.intro (nx + 2)
      apply And.intro
      · intro H hr2 hr3 hr4
        apply And.intro
        · intro Qx hQ
          refine OKm.of_body cx_ok (rs := [.cell 4 26, .tmp 5]) Tryz.func34 rfl (by decide +kernel) rfl (by simp [Tryz.ntmps34]) ?_
          simp only [Tryz.ntmps34]
          refine AW.fresh fun hfrG0 => ?_
          have hfrG : ∀ id, nx ≤ id → H id = none := hfrG0
          repeat' first
            | ((apply D.buildL cx_ok; decide; decide); (iterate 3 (simp (disch := (first | omega | (simp only [List.length_append, List.length_map, List.length_cons, List.length_nil, List.length_take, List.length_drop, List.length_nil]; omega))) only [push_cast, simprocAttr, hn5, hr2, hr3, hr4, hfrG, i0, i1, i2, i3, i4, hf3, hf5, hf5b, hf6, hf7, hf9, t1, pur, ite_true] <;> rfl)); exact Nat.zero_le _)
            | apply AW.seq | apply AW.region | apply AW.ret | apply AW.block | apply AW.skip | apply AW.exit | apply AW.scope | apply AW.label | apply AWL.nil | apply D.nil
            | refine AW.draw (id := 4) cx_mixed [8, 10] [7, 9] [2, nx] 0 (by decide +kernel) ?_
            | refine W.draw cx_mixed (by decide +kernel) ?_
            | ((first | (apply W.step cx_ok; decide) | (apply D.step cx_ok; decide; decide) | apply W.store cx_ok | (apply W.gS; rfl; decide) | (apply D.gS; rfl; decide; decide) | apply AW.cond); (simp (disch := (first | omega | (simp only [List.length_append, List.length_map, List.length_cons, List.length_nil, List.length_take, List.length_drop, List.length_nil]; omega))) only [push_cast, simprocAttr, hn5, hr2, hr3, hr4, hfrG, i0, i1, i2, i3, i4, hf3, hf5, hf5b, hf6, hf7, hf9, t1] <;> rfl); all_goals try ((with_reducible intro hI); try first | (cases hI; done) | (simp only [INTS, not_true_eq_false] at hI; try first | (exfalso; omega) | (have hT : True := hI; clear hT hI))))
            | ((first | (apply D.store cx_ok; decide) | (apply D.stept cx_ok; decide; decide) | (apply D.stepm cx_ok; decide; decide)); (simp (disch := (first | omega | (simp only [List.length_append, List.length_map, List.length_cons, List.length_nil, List.length_take, List.length_drop, List.length_nil]; omega))) only [push_cast, simprocAttr, hn5, hr2, hr3, hr4, hfrG, i0, i1, i2, i3, i4, hf3, hf5, hf5b, hf6, hf7, hf9, t1] <;> rfl); try first | exact .inl rfl | exact .inr (by simp))
            | ((apply D.alloct cx_ok; decide; decide); (simp (disch := (first | omega | (simp only [List.length_append, List.length_map, List.length_cons, List.length_nil, List.length_take, List.length_drop, List.length_nil]; omega))) only [push_cast, simprocAttr, hn5, hr2, hr3, hr4, hfrG, i0, i1, i2, i3, i4, hf3, hf5, hf5b, hf6, hf7, hf9, t1] <;> rfl); first | exact .inl rfl | exact .inr (by simp))
            | (apply W.append cx_ok; decide; rfl; rfl; rfl; decide; (iterate 3 (simp (disch := (first | omega | (simp only [List.length_append, List.length_map, List.length_cons, List.length_nil, List.length_take, List.length_drop, List.length_nil]; omega))) only [push_cast, simprocAttr, hn5, hr2, hr3, hr4, hfrG, i0, i1, i2, i3, i4, hf3, hf5, hf5b, hf6, hf7, hf9, t1] <;> rfl)); (first | (focus (simp; done)) | (intro c hc; obtain ⟨x, _, rfl⟩ := List.mem_map.1 hc; rfl)); ((first | rfl | simp (disch := omega) only [push_cast])); ((try dsimp only); (try simp only [List.length_map, List.length_append, List.length_cons, List.length_nil, List.length_take, List.length_drop, List.length_nil]); omega); ((try dsimp only); (try simp only [List.length_map, List.length_append, List.length_cons, List.length_nil, List.length_take, List.length_drop, List.length_nil]); omega))
            | (apply D.append cx_ok; decide; decide; rfl; rfl; rfl; decide; (iterate 3 (simp (disch := (first | omega | (simp only [List.length_append, List.length_map, List.length_cons, List.length_nil, List.length_take, List.length_drop, List.length_nil]; omega))) only [push_cast, simprocAttr, hn5, hr2, hr3, hr4, hfrG, i0, i1, i2, i3, i4, hf3, hf5, hf5b, hf6, hf7, hf9, t1] <;> rfl)); (first | (focus (simp; done)) | (intro c hc; obtain ⟨x, _, rfl⟩ := List.mem_map.1 hc; rfl)); ((first | rfl | (focus (simp (disch := omega) only [push_cast]; done)))); ((try dsimp only); (try simp only [List.length_map, List.length_append, List.length_cons, List.length_nil, List.length_take, List.length_drop, List.length_nil]); omega); ((try dsimp only); (try simp only [List.length_map, List.length_append, List.length_cons, List.length_nil, List.length_take, List.length_drop, List.length_nil]); omega); first | exact .inl rfl | exact .inr (by simp))
            | ((first | (apply W.callv cx_ok; decide) | (apply D.callv cx_ok; decide; decide) | (apply D.callvt cx_ok; decide; decide)); (iterate 2 (simp (disch := (first | omega | (simp only [List.length_append, List.length_map, List.length_cons, List.length_nil, List.length_take, List.length_drop, List.length_nil]; omega))) only [push_cast, simprocAttr, hn5, hr2, hr3, hr4, hfrG, i0, i1, i2, i3, i4, hf3, hf5, hf5b, hf6, hf7, hf9, t1] <;> rfl)); (with_reducible first | exact c1 | exact c2); try first | rfl | (simp (disch := (first | omega | (simp only [List.length_append, List.length_map, List.length_cons, List.length_nil, List.length_take, List.length_drop, List.length_nil]; omega))) only [push_cast, simprocAttr, hn5, hr2, hr3, hr4, hfrG, i0, i1, i2, i3, i4, hf3, hf5, hf5b, hf6, hf7, hf9, t1] <;> rfl))

          all_goals
            ((try simp only [thenQ, blockQ, loopQ, scopeQ, if_true, reduceIte])
             first | apply W.retX | apply W.endX
             · (simp (disch := omega) only [push_cast, simprocAttr, hn5, hr2, hr3, hr4, hfrG, i0, i1, i2, i3, i4, hf3, hf5, hf5b, hf6, hf7, hf9, t1] <;> rfl)
             · exact hQ)
        · have q1 : ∀ j, j < nx → (j = nx) = False := fun j h => eq_false (by omega)
          refine ⟨?_, ?_, ?_, ?_, fun j h1 h2 h3 h4 => ?_⟩
          iterate 3 (first | done | (simp (disch := omega) only [push_cast, simprocAttr, hn5, hr2, hr3, hr4, i0, i1, i2, i3, i4, hf3, hf5, hf5b, hf6, hf7, hf9, t1] <;> rfl))
          · first | omega | (simp (disch := omega) only [push_cast, simprocAttr, hn5, hr2, hr3, hr4, i0, i1, i2, i3, i4, hf3, hf5, hf5b, hf6, hf7, hf9, t1] <;> omega)
          · simp (disch := omega) only [push_cast, simprocAttr, hn5, hr2, hr3, hr4, i0, i1, i2, i3, i4, hf3, hf5, hf5b, hf6, hf7, hf9, t1, h2, h3, h4, updH]
      · intro H key o hk4 hkn
        funext j
        simp (disch := omega) only [push_cast, simprocAttr, hn5, i0, i1, i2, i3, i4, hf3, hf5, hf5b, hf6, hf7, hf9, t1, updH]
        by_cases hj : j = key
        · have z : ¬ key = 2 ∧ ¬ key = 3 ∧ ¬ key = 4 ∧ ¬ key = nx ∧ ¬ key = nx + 1 ∧ ¬ key = nx + 2 ∧ ¬ key = nx + 3 := by omega
          simp [hj, z]
        · simp [hj]
    have n1 : ((ws.length : Int) + 1 == 3) = false := by rw [beq_eq_false_iff_ne]; omega
    have n2 : (((ws.length + 1 : Nat) : Int) == 3) = false := by rw [beq_eq_false_iff_ne]; omega
    have n3 : ((ws.length : Int) + 1 = 3) = False := eq_false (by omega)
    have e1 : withW h (a :: ws) = (h, false) := by
      unfold withW
      rw [wAt0, if_neg (fun e => h3 (by have := e.2; simp only [List.length_cons] at this; omega)), if_neg (fun e => by have h1 : bl sRoom = bl sDoor := hR.symm.trans e; revert h1; decide), if_neg (fun e => by have h1 : bl sRoom = bl sWay := hR.symm.trans e.1; revert h1; decide)]
    rw [e1]
    clear e1
    try simp only [List.length_append, List.length_cons, List.length_nil, Nat.zero_add]
    apply Exists.intro
    apply Exists.intro (nx + 2)
    apply And.intro
    · intro H hr2 hr3 hr4
      apply And.intro
      · intro Qx hQ
        refine OKm.of_body cx_ok (rs := [.cell 4 26, .tmp 5]) Tryz.func34 rfl (by decide +kernel) rfl (by simp [Tryz.ntmps34]) ?_
        simp only [Tryz.ntmps34]
        refine AW.fresh fun hfrG0 => ?_
        have hfrG : ∀ id, nx ≤ id → H id = none := hfrG0
        repeat' first
          | apply AW.seq | apply AW.region | apply AW.ret | apply AW.block | apply AW.skip | apply AW.exit | apply AW.scope | apply AW.label | apply AWL.nil | apply D.nil
          | refine W.draw cx_mixed (by decide +kernel) ?_
          | ((first | (apply W.step cx_ok; decide) | (apply D.step cx_ok; decide; decide) | apply W.store cx_ok | (apply W.gS; rfl; decide) | (apply D.gS; rfl; decide; decide) | apply AW.cond); (simp (disch := (first | omega | (simp only [List.length_append, List.length_map, List.length_cons, List.length_nil, List.length_take, List.length_drop, List.length_nil]; omega))) only [push_cast, simprocAttr, hn5, hr2, hr3, hr4, hfrG, i0, i1, i2, i3, i4, hf3, hf5, hf5b, hf6, hf7, hf9, t1, t2, t3, n1, n2, n3] <;> rfl); all_goals try ((with_reducible intro hI); try first | (cases hI; done) | (simp only [INTS, not_true_eq_false] at hI; try first | (exfalso; omega) | (have hT : True := hI; clear hT hI))))
          | (apply W.append cx_ok; decide; rfl; rfl; rfl; decide; (iterate 3 (simp (disch := (first | omega | (simp only [List.length_append, List.length_map, List.length_cons, List.length_nil, List.length_take, List.length_drop, List.length_nil]; omega))) only [push_cast, simprocAttr, hn5, hr2, hr3, hr4, hfrG, i0, i1, i2, i3, i4, hf3, hf5, hf5b, hf6, hf7, hf9, t1, t2, t3, n1, n2, n3] <;> rfl)); (first | (focus (simp; done)) | (intro c hc; obtain ⟨x, _, rfl⟩ := List.mem_map.1 hc; rfl)); ((first | rfl | simp (disch := omega) only [push_cast])); ((try dsimp only); (try simp only [List.length_map, List.length_append, List.length_cons, List.length_nil, List.length_take, List.length_drop, List.length_nil]); omega); ((try dsimp only); (try simp only [List.length_map, List.length_append, List.length_cons, List.length_nil, List.length_take, List.length_drop, List.length_nil]); omega))
          | ((first | (apply W.callv cx_ok; decide) | (apply D.callv cx_ok; decide; decide)); (iterate 2 (simp (disch := (first | omega | (simp only [List.length_append, List.length_map, List.length_cons, List.length_nil, List.length_take, List.length_drop, List.length_nil]; omega))) only [push_cast, simprocAttr, hn5, hr2, hr3, hr4, hfrG, i0, i1, i2, i3, i4, hf3, hf5, hf5b, hf6, hf7, hf9, t1, t2, t3, n1, n2, n3] <;> rfl)); (with_reducible first | exact c1); try first | rfl | (simp (disch := (first | omega | (simp only [List.length_append, List.length_map, List.length_cons, List.length_nil, List.length_take, List.length_drop, List.length_nil]; omega))) only [push_cast, simprocAttr, hn5, hr2, hr3, hr4, hfrG, i0, i1, i2, i3, i4, hf3, hf5, hf5b, hf6, hf7, hf9, t1, t2, t3, n1, n2, n3] <;> rfl))

        all_goals
          ((try simp only [thenQ, blockQ, loopQ, scopeQ, if_true, reduceIte])
           first | apply W.retX | apply W.endX
           · (simp (disch := omega) only [push_cast, simprocAttr, hn5, hr2, hr3, hr4, hfrG, i0, i1, i2, i3, i4, hf3, hf5, hf5b, hf6, hf7, hf9, t1, t2, t3, n1, n2, n3] <;> rfl)
           · exact hQ)
      · have q1 : ∀ j, j < nx → (j = nx) = False := fun j h => eq_false (by omega)
        refine ⟨?_, ?_, ?_, ?_, fun j h1 h2 h3 h4 => ?_⟩
        iterate 3 (first | done | (simp (disch := omega) only [push_cast, simprocAttr, hn5, hr2, hr3, hr4, i0, i1, i2, i3, i4, hf3, hf5, hf5b, hf6, hf7, hf9, t1, t2, t3, n1, n2, n3] <;> rfl))
        · first | omega | (simp (disch := omega) only [push_cast, simprocAttr, hn5, hr2, hr3, hr4, i0, i1, i2, i3, i4, hf3, hf5, hf5b, hf6, hf7, hf9, t1, t2, t3, n1, n2, n3] <;> omega)
        · simp (disch := omega) only [push_cast, simprocAttr, hn5, hr2, hr3, hr4, i0, i1, i2, i3, i4, hf3, hf5, hf5b, hf6, hf7, hf9, t1, t2, t3, n1, n2, n3, h2, h3, h4, updH]
    · intro H key o hk4 hkn
      funext j
      simp (disch := omega) only [push_cast, simprocAttr, hn5, i0, i1, i2, i3, i4, hf3, hf5, hf5b, hf6, hf7, hf9, t1, t2, t3, n1, n2, n3, updH]
      by_cases hj : j = key
      · have z : ¬ key = 2 ∧ ¬ key = 3 ∧ ¬ key = 4 ∧ ¬ key = nx ∧ ¬ key = nx + 1 ∧ ¬ key = nx + 2 ∧ ¬ key = nx + 3 := by omega
        simp [hj, z]
      · simp [hj]
  have t1 : (a.data.toList == (ByteArray.mk #[114, 111, 111, 109]).data.toList) = false := hg1 _ _ hR
  by_cases hD : bl a = bl sDoor
  · have t2 : (a.data.toList == (ByteArray.mk #[100, 111, 111, 114]).data.toList) = true := hg0 _ _ hD
    have c2 := RHours_ok ws hl hsw
    have e1 : withW h (a :: ws) = (⟨h.rooms, h.doors ++ [(hoursD ws false dNone).1], h.ways⟩, (hoursD ws false dNone).2) := by
      unfold withW
      rw [wAt0, if_neg (fun e => hR e.1), if_pos hD, List.drop_one, List.tail_cons]
    rw [e1]
    clear e1
    generalize hoursD ws false dNone = V at *
    obtain ⟨d, ok⟩ := V
    dsimp only at c2 ⊢
    try simp only [List.length_append, List.length_cons, List.length_nil, Nat.zero_add]
    apply Exists.intro
    apply Exists.intro (nx + 4)
    apply And.intro
    · intro H hr2 hr3 hr4
      apply And.intro
      · intro Qx hQ
        refine OKm.of_body cx_ok (rs := [.cell 4 26, .tmp 5]) Tryz.func34 rfl (by decide +kernel) rfl (by simp [Tryz.ntmps34]) ?_
        simp only [Tryz.ntmps34]
        refine AW.fresh fun hfrG0 => ?_
        have hfrG : ∀ id, nx ≤ id → H id = none := hfrG0
        repeat' first
          | apply AW.seq | apply AW.region | apply AW.ret | apply AW.block | apply AW.skip | apply AW.exit | apply AW.scope | apply AW.label | apply AWL.nil | apply D.nil
          | refine W.draw cx_mixed (by decide +kernel) ?_
          | ((first | (apply W.step cx_ok; decide) | (apply D.step cx_ok; decide; decide) | apply W.store cx_ok | (apply W.gS; rfl; decide) | (apply D.gS; rfl; decide; decide) | apply AW.cond); (simp (disch := (first | omega | (simp only [List.length_append, List.length_map, List.length_cons, List.length_nil, List.length_take, List.length_drop, List.length_nil]; omega))) only [push_cast, simprocAttr, hn5, hr2, hr3, hr4, hfrG, i0, i1, i2, i3, i4, hf3, hf5, hf5b, hf6, hf7, hf9, t1, t2, List.drop_one, List.tail_cons] <;> rfl); all_goals try ((with_reducible intro hI); try first | (cases hI; done) | (simp only [INTS, not_true_eq_false] at hI; try first | (exfalso; omega) | (have hT : True := hI; clear hT hI))))
          | ((apply W.step cx_ok; decide); (simp (disch := (first | omega | (simp only [List.length_append, List.length_map, List.length_cons, List.length_nil, List.length_take, List.length_drop, List.length_nil]; omega))) only [push_cast, simprocAttr, hn5, hr2, hr3, hr4, hfrG, i0, i1, i2, i3, i4, hf3, hf5, hf5b, hf6, hf7, hf9, t1, t2, List.drop_one, List.tail_cons]); (rw [if_pos hsl]; rfl))
          | (apply W.append cx_ok; decide; rfl; rfl; rfl; decide; (iterate 3 (simp (disch := (first | omega | (simp only [List.length_append, List.length_map, List.length_cons, List.length_nil, List.length_take, List.length_drop, List.length_nil]; omega))) only [push_cast, simprocAttr, hn5, hr2, hr3, hr4, hfrG, i0, i1, i2, i3, i4, hf3, hf5, hf5b, hf6, hf7, hf9, t1, t2, List.drop_one, List.tail_cons] <;> rfl)); (first | (focus (simp; done)) | (intro c hc; obtain ⟨x, _, rfl⟩ := List.mem_map.1 hc; rfl)); ((first | rfl | simp (disch := omega) only [push_cast])); ((try dsimp only); (try simp only [List.length_map, List.length_append, List.length_cons, List.length_nil, List.length_take, List.length_drop, List.length_nil]); omega); ((try dsimp only); (try simp only [List.length_map, List.length_append, List.length_cons, List.length_nil, List.length_take, List.length_drop, List.length_nil]); omega))
          | ((first | (apply W.callv cx_ok; decide) | (apply D.callv cx_ok; decide; decide)); (iterate 2 (simp (disch := (first | omega | (simp only [List.length_append, List.length_map, List.length_cons, List.length_nil, List.length_take, List.length_drop, List.length_nil]; omega))) only [push_cast, simprocAttr, hn5, hr2, hr3, hr4, hfrG, i0, i1, i2, i3, i4, hf3, hf5, hf5b, hf6, hf7, hf9, t1, t2, List.drop_one, List.tail_cons] <;> rfl)); (with_reducible first | exact c1 | exact c2); try first | rfl | (simp (disch := (first | omega | (simp only [List.length_append, List.length_map, List.length_cons, List.length_nil, List.length_take, List.length_drop, List.length_nil]; omega))) only [push_cast, simprocAttr, hn5, hr2, hr3, hr4, hfrG, i0, i1, i2, i3, i4, hf3, hf5, hf5b, hf6, hf7, hf9, t1, t2, List.drop_one, List.tail_cons] <;> rfl))

        all_goals
          ((try simp only [thenQ, blockQ, loopQ, scopeQ, if_true, reduceIte])
           first | apply W.retX | apply W.endX
           · (simp (disch := omega) only [push_cast, simprocAttr, hn5, hr2, hr3, hr4, hfrG, i0, i1, i2, i3, i4, hf3, hf5, hf5b, hf6, hf7, hf9, t1, t2, List.drop_one, List.tail_cons] <;> rfl)
           · exact hQ)
      · have q1 : ∀ j, j < nx → (j = nx) = False := fun j h => eq_false (by omega)
        refine ⟨?_, ?_, ?_, ?_, fun j h1 h2 h3 h4 => ?_⟩
        iterate 3 (first | done | (simp (disch := omega) only [push_cast, simprocAttr, hn5, hr2, hr3, hr4, i0, i1, i2, i3, i4, hf3, hf5, hf5b, hf6, hf7, hf9, t1, t2, List.drop_one, List.tail_cons] <;> rfl))
        · first | omega | (simp (disch := omega) only [push_cast, simprocAttr, hn5, hr2, hr3, hr4, i0, i1, i2, i3, i4, hf3, hf5, hf5b, hf6, hf7, hf9, t1, t2, List.drop_one, List.tail_cons] <;> omega)
        · simp (disch := omega) only [push_cast, simprocAttr, hn5, hr2, hr3, hr4, i0, i1, i2, i3, i4, hf3, hf5, hf5b, hf6, hf7, hf9, t1, t2, List.drop_one, List.tail_cons, h2, h3, h4, updH]
    · intro H key o hk4 hkn
      funext j
      simp (disch := omega) only [push_cast, simprocAttr, hn5, i0, i1, i2, i3, i4, hf3, hf5, hf5b, hf6, hf7, hf9, t1, t2, List.drop_one, List.tail_cons, updH]
      by_cases hj : j = key
      · have z : ¬ key = 2 ∧ ¬ key = 3 ∧ ¬ key = 4 ∧ ¬ key = nx ∧ ¬ key = nx + 1 ∧ ¬ key = nx + 2 ∧ ¬ key = nx + 3 := by omega
        simp [hj, z]
      · simp [hj]
  have t2 : (a.data.toList == (ByteArray.mk #[100, 111, 111, 114]).data.toList) = false := hg1 _ _ hD
  by_cases hW : bl a = bl sWay
  rotate_left
  · have t3 : (a.data.toList == (ByteArray.mk #[119, 97, 121]).data.toList) = false := hg1 _ _ hW
    have e1 : withW h (a :: ws) = (h, false) := by
      unfold withW
      rw [wAt0, if_neg (fun e => hR e.1), if_neg hD, if_neg (fun e => hW e.1)]
    rw [e1]
    clear e1
    try simp only [List.length_append, List.length_cons, List.length_nil, Nat.zero_add]
    apply Exists.intro
    apply Exists.intro (nx + 2)
    apply And.intro
    · intro H hr2 hr3 hr4
      apply And.intro
      · intro Qx hQ
        refine OKm.of_body cx_ok (rs := [.cell 4 26, .tmp 5]) Tryz.func34 rfl (by decide +kernel) rfl (by simp [Tryz.ntmps34]) ?_
        simp only [Tryz.ntmps34]
        refine AW.fresh fun hfrG0 => ?_
        have hfrG : ∀ id, nx ≤ id → H id = none := hfrG0
        repeat' first
          | apply AW.seq | apply AW.region | apply AW.ret | apply AW.block | apply AW.skip | apply AW.exit | apply AW.scope | apply AW.label | apply AWL.nil | apply D.nil
          | refine W.draw cx_mixed (by decide +kernel) ?_
          | ((first | (apply W.step cx_ok; decide) | (apply D.step cx_ok; decide; decide) | apply W.store cx_ok | (apply W.gS; rfl; decide) | (apply D.gS; rfl; decide; decide) | apply AW.cond); (simp (disch := (first | omega | (simp only [List.length_append, List.length_map, List.length_cons, List.length_nil, List.length_take, List.length_drop, List.length_nil]; omega))) only [push_cast, simprocAttr, hn5, hr2, hr3, hr4, hfrG, i0, i1, i2, i3, i4, hf3, hf5, hf5b, hf6, hf7, hf9, t1, t2, t3] <;> rfl); all_goals try ((with_reducible intro hI); try first | (cases hI; done) | (simp only [INTS, not_true_eq_false] at hI; try first | (exfalso; omega) | (have hT : True := hI; clear hT hI))))
          | (apply W.append cx_ok; decide; rfl; rfl; rfl; decide; (iterate 3 (simp (disch := (first | omega | (simp only [List.length_append, List.length_map, List.length_cons, List.length_nil, List.length_take, List.length_drop, List.length_nil]; omega))) only [push_cast, simprocAttr, hn5, hr2, hr3, hr4, hfrG, i0, i1, i2, i3, i4, hf3, hf5, hf5b, hf6, hf7, hf9, t1, t2, t3] <;> rfl)); (first | (focus (simp; done)) | (intro c hc; obtain ⟨x, _, rfl⟩ := List.mem_map.1 hc; rfl)); ((first | rfl | simp (disch := omega) only [push_cast])); ((try dsimp only); (try simp only [List.length_map, List.length_append, List.length_cons, List.length_nil, List.length_take, List.length_drop, List.length_nil]); omega); ((try dsimp only); (try simp only [List.length_map, List.length_append, List.length_cons, List.length_nil, List.length_take, List.length_drop, List.length_nil]); omega))
          | ((first | (apply W.callv cx_ok; decide) | (apply D.callv cx_ok; decide; decide)); (iterate 2 (simp (disch := (first | omega | (simp only [List.length_append, List.length_map, List.length_cons, List.length_nil, List.length_take, List.length_drop, List.length_nil]; omega))) only [push_cast, simprocAttr, hn5, hr2, hr3, hr4, hfrG, i0, i1, i2, i3, i4, hf3, hf5, hf5b, hf6, hf7, hf9, t1, t2, t3] <;> rfl)); (with_reducible first | exact c1); try first | rfl | (simp (disch := (first | omega | (simp only [List.length_append, List.length_map, List.length_cons, List.length_nil, List.length_take, List.length_drop, List.length_nil]; omega))) only [push_cast, simprocAttr, hn5, hr2, hr3, hr4, hfrG, i0, i1, i2, i3, i4, hf3, hf5, hf5b, hf6, hf7, hf9, t1, t2, t3] <;> rfl))

        all_goals
          ((try simp only [thenQ, blockQ, loopQ, scopeQ, if_true, reduceIte])
           first | apply W.retX | apply W.endX
           · (simp (disch := omega) only [push_cast, simprocAttr, hn5, hr2, hr3, hr4, hfrG, i0, i1, i2, i3, i4, hf3, hf5, hf5b, hf6, hf7, hf9, t1, t2, t3] <;> rfl)
           · exact hQ)
      · have q1 : ∀ j, j < nx → (j = nx) = False := fun j h => eq_false (by omega)
        refine ⟨?_, ?_, ?_, ?_, fun j h1 h2 h3 h4 => ?_⟩
        iterate 3 (first | done | (simp (disch := omega) only [push_cast, simprocAttr, hn5, hr2, hr3, hr4, i0, i1, i2, i3, i4, hf3, hf5, hf5b, hf6, hf7, hf9, t1, t2, t3] <;> rfl))
        · first | omega | (simp (disch := omega) only [push_cast, simprocAttr, hn5, hr2, hr3, hr4, i0, i1, i2, i3, i4, hf3, hf5, hf5b, hf6, hf7, hf9, t1, t2, t3] <;> omega)
        · simp (disch := omega) only [push_cast, simprocAttr, hn5, hr2, hr3, hr4, i0, i1, i2, i3, i4, hf3, hf5, hf5b, hf6, hf7, hf9, t1, t2, t3, h2, h3, h4, updH]
    · intro H key o hk4 hkn
      funext j
      simp (disch := omega) only [push_cast, simprocAttr, hn5, i0, i1, i2, i3, i4, hf3, hf5, hf5b, hf6, hf7, hf9, t1, t2, t3, updH]
      by_cases hj : j = key
      · have z : ¬ key = 2 ∧ ¬ key = 3 ∧ ¬ key = 4 ∧ ¬ key = nx ∧ ¬ key = nx + 1 ∧ ¬ key = nx + 2 ∧ ¬ key = nx + 3 := by omega
        simp [hj, z]
      · simp [hj]
  have t3 : (a.data.toList == (ByteArray.mk #[119, 97, 121]).data.toList) = true := hg0 _ _ hW
  by_cases h5 : ws.length = 5
  rotate_left
  · have n1 : ((ws.length : Int) + 1 == 6) = false := by rw [beq_eq_false_iff_ne]; omega
    have n2 : (((ws.length + 1 : Nat) : Int) == 6) = false := by rw [beq_eq_false_iff_ne]; omega
    have n3 : ((ws.length : Int) + 1 = 6) = False := eq_false (by omega)
    have e1 : withW h (a :: ws) = (h, false) := by
      unfold withW
      rw [wAt0, if_neg (fun e => hR e.1), if_neg hD, if_neg (fun e => h5 (by have := e.2; simp only [List.length_cons] at this; omega))]
    rw [e1]
    clear e1
    try simp only [List.length_append, List.length_cons, List.length_nil, Nat.zero_add]
    apply Exists.intro
    apply Exists.intro (nx + 2)
    apply And.intro
    · intro H hr2 hr3 hr4
      apply And.intro
      · intro Qx hQ
        refine OKm.of_body cx_ok (rs := [.cell 4 26, .tmp 5]) Tryz.func34 rfl (by decide +kernel) rfl (by simp [Tryz.ntmps34]) ?_
        simp only [Tryz.ntmps34]
        refine AW.fresh fun hfrG0 => ?_
        have hfrG : ∀ id, nx ≤ id → H id = none := hfrG0
        repeat' first
          | apply AW.seq | apply AW.region | apply AW.ret | apply AW.block | apply AW.skip | apply AW.exit | apply AW.scope | apply AW.label | apply AWL.nil | apply D.nil
          | refine W.draw cx_mixed (by decide +kernel) ?_
          | ((first | (apply W.step cx_ok; decide) | (apply D.step cx_ok; decide; decide) | apply W.store cx_ok | (apply W.gS; rfl; decide) | (apply D.gS; rfl; decide; decide) | apply AW.cond); (simp (disch := (first | omega | (simp only [List.length_append, List.length_map, List.length_cons, List.length_nil, List.length_take, List.length_drop, List.length_nil]; omega))) only [push_cast, simprocAttr, hn5, hr2, hr3, hr4, hfrG, i0, i1, i2, i3, i4, hf3, hf5, hf5b, hf6, hf7, hf9, t1, t2, t3, n1, n2, n3] <;> rfl); all_goals try ((with_reducible intro hI); try first | (cases hI; done) | (simp only [INTS, not_true_eq_false] at hI; try first | (exfalso; omega) | (have hT : True := hI; clear hT hI))))
          | (apply W.append cx_ok; decide; rfl; rfl; rfl; decide; (iterate 3 (simp (disch := (first | omega | (simp only [List.length_append, List.length_map, List.length_cons, List.length_nil, List.length_take, List.length_drop, List.length_nil]; omega))) only [push_cast, simprocAttr, hn5, hr2, hr3, hr4, hfrG, i0, i1, i2, i3, i4, hf3, hf5, hf5b, hf6, hf7, hf9, t1, t2, t3, n1, n2, n3] <;> rfl)); (first | (focus (simp; done)) | (intro c hc; obtain ⟨x, _, rfl⟩ := List.mem_map.1 hc; rfl)); ((first | rfl | simp (disch := omega) only [push_cast])); ((try dsimp only); (try simp only [List.length_map, List.length_append, List.length_cons, List.length_nil, List.length_take, List.length_drop, List.length_nil]); omega); ((try dsimp only); (try simp only [List.length_map, List.length_append, List.length_cons, List.length_nil, List.length_take, List.length_drop, List.length_nil]); omega))
          | ((first | (apply W.callv cx_ok; decide) | (apply D.callv cx_ok; decide; decide)); (iterate 2 (simp (disch := (first | omega | (simp only [List.length_append, List.length_map, List.length_cons, List.length_nil, List.length_take, List.length_drop, List.length_nil]; omega))) only [push_cast, simprocAttr, hn5, hr2, hr3, hr4, hfrG, i0, i1, i2, i3, i4, hf3, hf5, hf5b, hf6, hf7, hf9, t1, t2, t3, n1, n2, n3] <;> rfl)); (with_reducible first | exact c1); try first | rfl | (simp (disch := (first | omega | (simp only [List.length_append, List.length_map, List.length_cons, List.length_nil, List.length_take, List.length_drop, List.length_nil]; omega))) only [push_cast, simprocAttr, hn5, hr2, hr3, hr4, hfrG, i0, i1, i2, i3, i4, hf3, hf5, hf5b, hf6, hf7, hf9, t1, t2, t3, n1, n2, n3] <;> rfl))

        all_goals
          ((try simp only [thenQ, blockQ, loopQ, scopeQ, if_true, reduceIte])
           first | apply W.retX | apply W.endX
           · (simp (disch := omega) only [push_cast, simprocAttr, hn5, hr2, hr3, hr4, hfrG, i0, i1, i2, i3, i4, hf3, hf5, hf5b, hf6, hf7, hf9, t1, t2, t3, n1, n2, n3] <;> rfl)
           · exact hQ)
      · have q1 : ∀ j, j < nx → (j = nx) = False := fun j h => eq_false (by omega)
        refine ⟨?_, ?_, ?_, ?_, fun j h1 h2 h3 h4 => ?_⟩
        iterate 3 (first | done | (simp (disch := omega) only [push_cast, simprocAttr, hn5, hr2, hr3, hr4, i0, i1, i2, i3, i4, hf3, hf5, hf5b, hf6, hf7, hf9, t1, t2, t3, n1, n2, n3] <;> rfl))
        · first | omega | (simp (disch := omega) only [push_cast, simprocAttr, hn5, hr2, hr3, hr4, i0, i1, i2, i3, i4, hf3, hf5, hf5b, hf6, hf7, hf9, t1, t2, t3, n1, n2, n3] <;> omega)
        · simp (disch := omega) only [push_cast, simprocAttr, hn5, hr2, hr3, hr4, i0, i1, i2, i3, i4, hf3, hf5, hf5b, hf6, hf7, hf9, t1, t2, t3, n1, n2, n3, h2, h3, h4, updH]
    · intro H key o hk4 hkn
      funext j
      simp (disch := omega) only [push_cast, simprocAttr, hn5, i0, i1, i2, i3, i4, hf3, hf5, hf5b, hf6, hf7, hf9, t1, t2, t3, n1, n2, n3, updH]
      by_cases hj : j = key
      · have z : ¬ key = 2 ∧ ¬ key = 3 ∧ ¬ key = 4 ∧ ¬ key = nx ∧ ¬ key = nx + 1 ∧ ¬ key = nx + 2 ∧ ¬ key = nx + 3 := by omega
        simp [hj, z]
      · simp [hj]
  have n1 : ((ws.length : Int) + 1 == 6) = true := by rw [beq_iff_eq]; omega
  have n2 : (((ws.length + 1 : Nat) : Int) == 6) = true := by rw [beq_iff_eq]; omega
  have n3 : ((ws.length : Int) + 1 = 6) = True := eq_true (by omega)
  have c2 := RNumbers_ok ws hl (fun w hw => Nat.le_trans (hsw w hw) (by omega))
  have hnl := numsD_len ws []
  have e1 : withW h (a :: ws) = if (numsD ws []).2 = true then (⟨h.rooms, h.doors, h.ways ++ [⟨(numsD ws []).1.getD 0 0, (numsD ws []).1.getD 1 0, (numsD ws []).1.getD 2 0, (numsD ws []).1.getD 3 0, (numsD ws []).1.getD 4 0⟩]⟩, true) else (h, false) := by
    unfold withW
    rw [wAt0, if_neg (fun e => hR e.1), if_neg hD, if_pos ⟨hW, by rw [List.length_cons, h5]⟩, List.drop_one, List.tail_cons]
  rw [e1]
  clear e1
  generalize numsD ws [] = V at *
  obtain ⟨NN, ok⟩ := V
  dsimp only at c2 hnl ⊢
  cases ok with
  | false =>
    rw [if_neg Bool.false_ne_true]
    try simp only [List.length_append, List.length_cons, List.length_nil, Nat.zero_add]
    apply Exists.intro
    apply Exists.intro (nx + 2)
    apply And.intro
    · intro H hr2 hr3 hr4
      apply And.intro
      · intro Qx hQ
        refine OKm.of_body cx_ok (rs := [.cell 4 26, .tmp 5]) Tryz.func34 rfl (by decide +kernel) rfl (by simp [Tryz.ntmps34]) ?_
        simp only [Tryz.ntmps34]
        refine AW.fresh fun hfrG0 => ?_
        have hfrG : ∀ id, nx ≤ id → H id = none := hfrG0
        repeat' first
          | apply AW.seq | apply AW.region | apply AW.ret | apply AW.block | apply AW.skip | apply AW.exit | apply AW.scope | apply AW.label | apply AWL.nil | apply D.nil
          | refine W.draw cx_mixed (by decide +kernel) ?_
          | ((first | (apply W.step cx_ok; decide) | (apply D.step cx_ok; decide; decide) | apply W.store cx_ok | (apply W.gS; rfl; decide) | (apply D.gS; rfl; decide; decide) | apply AW.cond); (simp (disch := (first | omega | (simp only [List.length_append, List.length_map, List.length_cons, List.length_nil, List.length_take, List.length_drop, List.length_nil]; omega))) only [push_cast, simprocAttr, hn5, hr2, hr3, hr4, hfrG, i0, i1, i2, i3, i4, hf3, hf5, hf5b, hf6, hf7, hf9, t1, t2, t3, n1, n2, n3, List.drop_one, List.tail_cons] <;> rfl); all_goals try ((with_reducible intro hI); try first | (cases hI; done) | (simp only [INTS, not_true_eq_false] at hI; try first | (exfalso; omega) | (have hT : True := hI; clear hT hI))))
          | ((apply W.step cx_ok; decide); (simp (disch := (first | omega | (simp only [List.length_append, List.length_map, List.length_cons, List.length_nil, List.length_take, List.length_drop, List.length_nil]; omega))) only [push_cast, simprocAttr, hn5, hr2, hr3, hr4, hfrG, i0, i1, i2, i3, i4, hf3, hf5, hf5b, hf6, hf7, hf9, t1, t2, t3, n1, n2, n3, List.drop_one, List.tail_cons]); (rw [if_pos hsl]; rfl))
          | (apply W.append cx_ok; decide; rfl; rfl; rfl; decide; (iterate 3 (simp (disch := (first | omega | (simp only [List.length_append, List.length_map, List.length_cons, List.length_nil, List.length_take, List.length_drop, List.length_nil]; omega))) only [push_cast, simprocAttr, hn5, hr2, hr3, hr4, hfrG, i0, i1, i2, i3, i4, hf3, hf5, hf5b, hf6, hf7, hf9, t1, t2, t3, n1, n2, n3, List.drop_one, List.tail_cons] <;> rfl)); (first | (focus (simp; done)) | (intro c hc; obtain ⟨x, _, rfl⟩ := List.mem_map.1 hc; rfl)); ((first | rfl | simp (disch := omega) only [push_cast])); ((try dsimp only); (try simp only [List.length_map, List.length_append, List.length_cons, List.length_nil, List.length_take, List.length_drop, List.length_nil]); omega); ((try dsimp only); (try simp only [List.length_map, List.length_append, List.length_cons, List.length_nil, List.length_take, List.length_drop, List.length_nil]); omega))
          | ((first | (apply W.callv cx_ok; decide) | (apply D.callv cx_ok; decide; decide)); (iterate 2 (simp (disch := (first | omega | (simp only [List.length_append, List.length_map, List.length_cons, List.length_nil, List.length_take, List.length_drop, List.length_nil]; omega))) only [push_cast, simprocAttr, hn5, hr2, hr3, hr4, hfrG, i0, i1, i2, i3, i4, hf3, hf5, hf5b, hf6, hf7, hf9, t1, t2, t3, n1, n2, n3, List.drop_one, List.tail_cons] <;> rfl)); (with_reducible first | exact c1 | exact c2); try first | rfl | (simp (disch := (first | omega | (simp only [List.length_append, List.length_map, List.length_cons, List.length_nil, List.length_take, List.length_drop, List.length_nil]; omega))) only [push_cast, simprocAttr, hn5, hr2, hr3, hr4, hfrG, i0, i1, i2, i3, i4, hf3, hf5, hf5b, hf6, hf7, hf9, t1, t2, t3, n1, n2, n3, List.drop_one, List.tail_cons] <;> rfl))

        all_goals
          ((try simp only [thenQ, blockQ, loopQ, scopeQ, if_true, reduceIte])
           first | apply W.retX | apply W.endX
           · (simp (disch := omega) only [push_cast, simprocAttr, hn5, hr2, hr3, hr4, hfrG, i0, i1, i2, i3, i4, hf3, hf5, hf5b, hf6, hf7, hf9, t1, t2, t3, n1, n2, n3, List.drop_one, List.tail_cons] <;> rfl)
           · exact hQ)
      · have q1 : ∀ j, j < nx → (j = nx) = False := fun j h => eq_false (by omega)
        refine ⟨?_, ?_, ?_, ?_, fun j h1 h2 h3 h4 => ?_⟩
        iterate 3 (first | done | (simp (disch := omega) only [push_cast, simprocAttr, hn5, hr2, hr3, hr4, i0, i1, i2, i3, i4, hf3, hf5, hf5b, hf6, hf7, hf9, t1, t2, t3, n1, n2, n3, List.drop_one, List.tail_cons] <;> rfl))
        · first | omega | (simp (disch := omega) only [push_cast, simprocAttr, hn5, hr2, hr3, hr4, i0, i1, i2, i3, i4, hf3, hf5, hf5b, hf6, hf7, hf9, t1, t2, t3, n1, n2, n3, List.drop_one, List.tail_cons] <;> omega)
        · simp (disch := omega) only [push_cast, simprocAttr, hn5, hr2, hr3, hr4, i0, i1, i2, i3, i4, hf3, hf5, hf5b, hf6, hf7, hf9, t1, t2, t3, n1, n2, n3, List.drop_one, List.tail_cons, h2, h3, h4, updH]
    · intro H key o hk4 hkn
      funext j
      simp (disch := omega) only [push_cast, simprocAttr, hn5, i0, i1, i2, i3, i4, hf3, hf5, hf5b, hf6, hf7, hf9, t1, t2, t3, n1, n2, n3, List.drop_one, List.tail_cons, updH]
      by_cases hj : j = key
      · have z : ¬ key = 2 ∧ ¬ key = 3 ∧ ¬ key = 4 ∧ ¬ key = nx ∧ ¬ key = nx + 1 ∧ ¬ key = nx + 2 ∧ ¬ key = nx + 3 := by omega
        simp [hj, z]
      · simp [hj]
  | true =>
    have hnn : NN.length = 5 := by rw [hnl rfl, h5]; rfl
    obtain ⟨n0, m1, m2, m3, m4, rfl⟩ : ∃ n0 m1 m2 m3 m4, NN = [n0, m1, m2, m3, m4] := by
      match NN, hnn with
      | [n0, m1, m2, m3, m4], _ => exact ⟨n0, m1, m2, m3, m4, rfl⟩
    rw [if_pos rfl]
    simp only [List.getD_cons_zero, List.getD_cons_succ]
    try simp only [List.length_append, List.length_cons, List.length_nil, Nat.zero_add]
    apply Exists.intro
    apply Exists.intro (nx + 2)
    apply And.intro
    · intro H hr2 hr3 hr4
      apply And.intro
      · intro Qx hQ
        refine OKm.of_body cx_ok (rs := [.cell 4 26, .tmp 5]) Tryz.func34 rfl (by decide +kernel) rfl (by simp [Tryz.ntmps34]) ?_
        simp only [Tryz.ntmps34]
        refine AW.fresh fun hfrG0 => ?_
        have hfrG : ∀ id, nx ≤ id → H id = none := hfrG0
        repeat' first
          | ((apply D.buildL cx_ok; decide; decide); (iterate 3 (simp (disch := (first | omega | (simp only [List.length_append, List.length_map, List.length_cons, List.length_nil, List.length_take, List.length_drop, List.length_nil]; omega))) only [push_cast, simprocAttr, hn5, hr2, hr3, hr4, hfrG, i0, i1, i2, i3, i4, hf3, hf5, hf5b, hf6, hf7, hf9, t1, t2, t3, n1, n2, n3, List.drop_one, List.tail_cons, pur, ite_true] <;> rfl)); exact Nat.zero_le _)
          | apply AW.seq | apply AW.region | apply AW.ret | apply AW.block | apply AW.skip | apply AW.exit | apply AW.scope | apply AW.label | apply AWL.nil | apply D.nil
          | refine AW.draw (id := 14) cx_mixed [19, 21] [18, 20] [4, nx] 0 (by decide +kernel) ?_
          | refine W.draw cx_mixed (by decide +kernel) ?_
          | ((first | (apply W.step cx_ok; decide) | (apply D.step cx_ok; decide; decide) | apply W.store cx_ok | (apply W.gS; rfl; decide) | (apply D.gS; rfl; decide; decide) | apply AW.cond); (simp (disch := (first | omega | (simp only [List.length_append, List.length_map, List.length_cons, List.length_nil, List.length_take, List.length_drop, List.length_nil]; omega))) only [push_cast, simprocAttr, hn5, hr2, hr3, hr4, hfrG, i0, i1, i2, i3, i4, hf3, hf5, hf5b, hf6, hf7, hf9, t1, t2, t3, n1, n2, n3, List.drop_one, List.tail_cons] <;> rfl); all_goals try ((with_reducible intro hI); try first | (cases hI; done) | (simp only [INTS, not_true_eq_false] at hI; try first | (exfalso; omega) | (have hT : True := hI; clear hT hI))))
          | ((apply W.step cx_ok; decide); (simp (disch := (first | omega | (simp only [List.length_append, List.length_map, List.length_cons, List.length_nil, List.length_take, List.length_drop, List.length_nil]; omega))) only [push_cast, simprocAttr, hn5, hr2, hr3, hr4, hfrG, i0, i1, i2, i3, i4, hf3, hf5, hf5b, hf6, hf7, hf9, t1, t2, t3, n1, n2, n3, List.drop_one, List.tail_cons, pur, ite_true]); (rw [if_pos hsl]; rfl))
          | ((first | (apply D.store cx_ok; decide) | (apply D.stept cx_ok; decide; decide) | (apply D.stepm cx_ok; decide; decide)); (simp (disch := (first | omega | (simp only [List.length_append, List.length_map, List.length_cons, List.length_nil, List.length_take, List.length_drop, List.length_nil]; omega))) only [push_cast, simprocAttr, hn5, hr2, hr3, hr4, hfrG, i0, i1, i2, i3, i4, hf3, hf5, hf5b, hf6, hf7, hf9, t1, t2, t3, n1, n2, n3, List.drop_one, List.tail_cons] <;> rfl); try first | exact .inl rfl | exact .inr (by simp))
          | ((apply D.alloct cx_ok; decide; decide); (simp (disch := (first | omega | (simp only [List.length_append, List.length_map, List.length_cons, List.length_nil, List.length_take, List.length_drop, List.length_nil]; omega))) only [push_cast, simprocAttr, hn5, hr2, hr3, hr4, hfrG, i0, i1, i2, i3, i4, hf3, hf5, hf5b, hf6, hf7, hf9, t1, t2, t3, n1, n2, n3, List.drop_one, List.tail_cons] <;> rfl); first | exact .inl rfl | exact .inr (by simp))
          | (apply W.append cx_ok; decide; rfl; rfl; rfl; decide; (iterate 3 (simp (disch := (first | omega | (simp only [List.length_append, List.length_map, List.length_cons, List.length_nil, List.length_take, List.length_drop, List.length_nil]; omega))) only [push_cast, simprocAttr, hn5, hr2, hr3, hr4, hfrG, i0, i1, i2, i3, i4, hf3, hf5, hf5b, hf6, hf7, hf9, t1, t2, t3, n1, n2, n3, List.drop_one, List.tail_cons] <;> rfl)); (first | (focus (simp; done)) | (intro c hc; obtain ⟨x, _, rfl⟩ := List.mem_map.1 hc; rfl)); ((first | rfl | simp (disch := omega) only [push_cast])); ((try dsimp only); (try simp only [List.length_map, List.length_append, List.length_cons, List.length_nil, List.length_take, List.length_drop, List.length_nil]); omega); ((try dsimp only); (try simp only [List.length_map, List.length_append, List.length_cons, List.length_nil, List.length_take, List.length_drop, List.length_nil]); omega))
          | (apply D.append cx_ok; decide; decide; rfl; rfl; rfl; decide; (iterate 3 (simp (disch := (first | omega | (simp only [List.length_append, List.length_map, List.length_cons, List.length_nil, List.length_take, List.length_drop, List.length_nil]; omega))) only [push_cast, simprocAttr, hn5, hr2, hr3, hr4, hfrG, i0, i1, i2, i3, i4, hf3, hf5, hf5b, hf6, hf7, hf9, t1, t2, t3, n1, n2, n3, List.drop_one, List.tail_cons] <;> rfl)); (first | (focus (simp; done)) | (intro c hc; obtain ⟨x, _, rfl⟩ := List.mem_map.1 hc; rfl)); ((first | rfl | (focus (simp (disch := omega) only [push_cast]; done)))); ((try dsimp only); (try simp only [List.length_map, List.length_append, List.length_cons, List.length_nil, List.length_take, List.length_drop, List.length_nil]); omega); ((try dsimp only); (try simp only [List.length_map, List.length_append, List.length_cons, List.length_nil, List.length_take, List.length_drop, List.length_nil]); omega); first | exact .inl rfl | exact .inr (by simp))
          | ((first | (apply W.callv cx_ok; decide) | (apply D.callv cx_ok; decide; decide) | (apply D.callvt cx_ok; decide; decide)); (iterate 2 (simp (disch := (first | omega | (simp only [List.length_append, List.length_map, List.length_cons, List.length_nil, List.length_take, List.length_drop, List.length_nil]; omega))) only [push_cast, simprocAttr, hn5, hr2, hr3, hr4, hfrG, i0, i1, i2, i3, i4, hf3, hf5, hf5b, hf6, hf7, hf9, t1, t2, t3, n1, n2, n3, List.drop_one, List.tail_cons] <;> rfl)); (with_reducible first | exact c1 | exact c2); try first | rfl | (simp (disch := (first | omega | (simp only [List.length_append, List.length_map, List.length_cons, List.length_nil, List.length_take, List.length_drop, List.length_nil]; omega))) only [push_cast, simprocAttr, hn5, hr2, hr3, hr4, hfrG, i0, i1, i2, i3, i4, hf3, hf5, hf5b, hf6, hf7, hf9, t1, t2, t3, n1, n2, n3, List.drop_one, List.tail_cons] <;> rfl))

        all_goals
          ((try simp only [thenQ, blockQ, loopQ, scopeQ, if_true, reduceIte])
           first | apply W.retX | apply W.endX
           · (simp (disch := omega) only [push_cast, simprocAttr, hn5, hr2, hr3, hr4, hfrG, i0, i1, i2, i3, i4, hf3, hf5, hf5b, hf6, hf7, hf9, t1, t2, t3, n1, n2, n3, List.drop_one, List.tail_cons] <;> rfl)
           · exact hQ)
      · have q1 : ∀ j, j < nx → (j = nx) = False := fun j h => eq_false (by omega)
        refine ⟨?_, ?_, ?_, ?_, fun j h1 h2 h3 h4 => ?_⟩
        iterate 3 (first | done | (simp (disch := omega) only [push_cast, simprocAttr, hn5, hr2, hr3, hr4, i0, i1, i2, i3, i4, hf3, hf5, hf5b, hf6, hf7, hf9, t1, t2, t3, n1, n2, n3, List.drop_one, List.tail_cons] <;> rfl))
        · first | omega | (simp (disch := omega) only [push_cast, simprocAttr, hn5, hr2, hr3, hr4, i0, i1, i2, i3, i4, hf3, hf5, hf5b, hf6, hf7, hf9, t1, t2, t3, n1, n2, n3, List.drop_one, List.tail_cons] <;> omega)
        · simp (disch := omega) only [push_cast, simprocAttr, hn5, hr2, hr3, hr4, i0, i1, i2, i3, i4, hf3, hf5, hf5b, hf6, hf7, hf9, t1, t2, t3, n1, n2, n3, List.drop_one, List.tail_cons, h2, h3, h4, updH]
    · intro H key o hk4 hkn
      funext j
      simp (disch := omega) only [push_cast, simprocAttr, hn5, i0, i1, i2, i3, i4, hf3, hf5, hf5b, hf6, hf7, hf9, t1, t2, t3, n1, n2, n3, List.drop_one, List.tail_cons, updH]
      by_cases hj : j = key
      · have z : ¬ key = 2 ∧ ¬ key = 3 ∧ ¬ key = 4 ∧ ¬ key = nx ∧ ¬ key = nx + 1 ∧ ¬ key = nx + 2 ∧ ¬ key = nx + 3 := by omega
        simp [hj, z]
      · simp [hj]
end Go.Proofs.Hz
