/-
  Contracts of functions, proved by going through their code. No conditions.
-/
import Derived.Test.YtbeiiipphicdlaaGreatDoorTie
import Derived.Test.YtbeiiipphicdlaaGreatDoorCards
import Derived.LaidSub
import Derived.MakeChecks
import Derived.Shelf.Vars
import Derived.Stop.LaidErr
import Derived.Handed
import Derived.Lay
import Derived.Test.YtbeiiipphicdlaaGreatDoorTal
import Derived.Test.YtbeiiipphicdlaaGreatDoorTbc
import Derived.Test.YtbeiiipphicdlaaGreatDoorTbe
import Derived.Test.YtbeiiipphicdlaaGreatDoorTbi
set_option linter.unusedVariables false
set_option linter.unusedSimpArgs false
set_option maxHeartbeats 8000000
set_option maxRecDepth 10000
namespace Go.Proofs.Hz
open Go Go.Pg Go.Proofs Go.Tx
theorem few_fit {h : House} (hf : few h = true) (hn : ∀ r ∈ h.rooms, r.name.size ≤ 9223372036854775807) : h.Fit := by
  unfold few at hf
  split at hf
  · cases hf
  · refine ⟨hn, fun d hd => ?_, by omega, by omega, by omega⟩
    have := List.all_eq_true.1 hf d hd
    simp only [fewD, Bool.and_eq_true, decide_eq_true_eq] at this
    omega
theorem catB_size (m : Nat) : ∀ (l : List ByteArray), (∀ x ∈ l, x.size ≤ m) → (catB l).size ≤ l.length * m
  | [], _ => Nat.zero_le _
  | b :: l, h => by
    have h1 := h b (by simp)
    have h2 := catB_size m l fun x hx => h x (by simp [hx])
    rw [catB, ByteArray.size_append, List.length_cons, Nat.add_mul]
    omega
theorem textB_size {h : House} (hc : (Check h).1 = 0) : (textB h).size ≤ 100000 := by
  have hv := Check_V hc
  have hr := Check_rooms hc
  have z : (ByteArray.mk #[10]).size = 1 := rfl
  have a1 := catB_size 67 (h.rooms.map lineR) fun x hx => by
    obtain ⟨r, hr', rfl⟩ := List.mem_map.1 hx
    have := lineR_size (hr r hr')
    unfold lineR wordsB; rw [ByteArray.size_append, z]; omega
  have a2 := catB_size 793 (h.doors.map lineD) fun x hx => by
    obtain ⟨d, hd, rfl⟩ := List.mem_map.1 hx
    have := lineD_size (hv.doors d hd)
    unfold lineD wordsB; rw [ByteArray.size_append, z]; omega
  have a3 := catB_size 133 (h.ways.map lineW) fun x hx => by
    obtain ⟨w, hw, rfl⟩ := List.mem_map.1 hx
    have := lineW_size (hv.ways w hw) hv.rooms.2 hv.nd
    unfold lineW wordsB; rw [ByteArray.size_append, z]; omega
  rw [List.length_map] at a1 a2 a3
  have b1 := hv.rooms.2
  have b2 := hv.nd
  have b3 := hv.nw
  unfold textB
  rw [ByteArray.size_append, ByteArray.size_append]
  omega
theorem same_V {h : House} (hv : h.V) : OKv cx 11 [.agg (eHouse h), .agg (eHouse h)] (ab true) :=
  Same_ok h (by have := hv.rooms.2; omega) (by have := hv.nd; omega) (by have := hv.nw; omega) fun d hd => ⟨by have := (hv.doors d hd).hours.1; omega, by have := (hv.doors d hd).shut.1; omega⟩
theorem same_F (text : ByteArray) : OKv cx 11 [.agg (eHouse (parseF text).1), .agg (eHouse (parseF text).1)] (ab true) := by
  rcases parseF_cases text with ⟨h, hg, e⟩ | e
  · rw [e]; exact same_V (Check_V hg.1)
  · rw [e]; exact Same_ok hNone (by simp [hNone]) (by simp [hNone]) (by simp [hNone]) (by simp [hNone])
theorem V_fit {h : House} (hc : (Check h).1 = 0) : h.Fit := by
  have hv := Check_V hc
  have hr := Check_rooms hc
  exact ⟨fun r hr' => by have := named_size (hr r hr').1; omega, fun d hd => ⟨by have := (hv.doors d hd).hours.1; omega, by have := (hv.doors d hd).shut.1; omega⟩, by have := hv.rooms.2; omega, by have := hv.nd; omega, by have := hv.nw; omega⟩
theorem law3_ok (hs : OKv cx 6 [] (ab true)) (h : House) (text : ByteArray) (hn : ∀ r ∈ h.rooms, r.name.size ≤ 9223372036854775807) : OKv cx 3 [.agg (eHouse h), at_ text] (ab true) := by
  have hf3 : ∀ x, flatA (.v x) = true := fun _ => rfl
  have hf5 : ∀ x y, flatA (.tup [.v x, .v y]) = true := fun _ _ => rfl
  have hf5b : ∀ x y z, flatA (.tup [.v x, .v y, .v z]) = true := fun _ _ _ => rfl
  have hf6 : ∀ l, flatA (.lst l) = false := fun _ => rfl
  have hf7 : ∀ l x, flatA (.tup [.lst l, .v x]) = false := fun _ _ => rfl
  have hf9 : ∀ H ids x y, afterH H ids (.tup [.v x, .v y]) = H := fun _ _ _ _ => rfl
  have c0 := few_ok h
  by_cases hf : few h = true
  rotate_left
  · rw [Bool.not_eq_true] at hf
    rw [hf] at c0
    refine OKat.of_body (rs := [4]) Tryz.func3 rfl (by decide +kernel) rfl (by simp [Tryz.ntmps3]) ?_
    simp only [Tryz.ntmps3]
    repeat' first
      | apply AW.seq | apply AW.region | apply AW.ret | apply AW.block | apply AW.skip | apply AW.exit | apply AW.scope | apply AW.label | apply AWL.nil
      | ((first | (apply W.step cx_ok; decide) | apply W.store cx_ok | (apply W.gS; rfl; decide) | apply AW.cond); (simp (disch := omega) only [push_cast, simprocAttr, natNe, List.mem_cons, List.not_mem_nil, TyD.isAgg, Nat.add_assoc, Bool.and_self, Bool.and_true, Bool.true_and, Bool.false_and, Bool.and_false, Bool.not_true, Bool.not_false, Bool.false_eq_true, beq_self_eq_true, List.map_nil, List.length_nil, pure_doors, hf3, hf5, hf5b, St.back, rowAt_aftJ, idsL, idsA, List.cons_append, List.nil_append, List.append_nil, hf6, hf7, hf9] <;> rfl); all_goals try ((with_reducible intro hI); try first | (cases hI; done) | (simp only [INTS, not_true_eq_false] at hI; try first | (exfalso; omega) | (have hT : True := hI; clear hT hI))))
      | ((apply W.callv cx_ok; decide); (iterate 2 (simp (disch := omega) only [push_cast, simprocAttr, natNe, List.mem_cons, List.not_mem_nil, TyD.isAgg, Nat.add_assoc, Bool.and_self, Bool.and_true, Bool.true_and, Bool.false_and, Bool.and_false, Bool.not_true, Bool.not_false, Bool.false_eq_true, beq_self_eq_true, List.map_nil, List.length_nil, pure_doors, hf3, hf5, hf5b, St.back, rowAt_aftJ, idsL, idsA, List.cons_append, List.nil_append, List.append_nil, hf6, hf7, hf9] <;> rfl)); (with_reducible first | exact hs | exact c0); try first | rfl | (simp (disch := omega) only [push_cast, simprocAttr, natNe, List.mem_cons, List.not_mem_nil, TyD.isAgg, Nat.add_assoc, Bool.and_self, Bool.and_true, Bool.true_and, Bool.false_and, Bool.and_false, Bool.not_true, Bool.not_false, Bool.false_eq_true, beq_self_eq_true, List.map_nil, List.length_nil, pure_doors, hf3, hf5, hf5b, St.back, rowAt_aftJ, idsL, idsA, List.cons_append, List.nil_append, List.append_nil, hf6, hf7, hf9] <;> rfl))
      | ((first | apply W.ret1 | apply W.end1); (iterate 2 (try (simp (disch := omega) only [push_cast, simprocAttr, natNe, List.mem_cons, List.not_mem_nil, TyD.isAgg, Nat.add_assoc, Bool.and_self, Bool.and_true, Bool.true_and, Bool.false_and, Bool.and_false, Bool.not_true, Bool.not_false, Bool.false_eq_true, beq_self_eq_true, List.map_nil, List.length_nil, pure_doors, hf3, hf5, hf5b, St.back, rowAt_aftJ, idsL, idsA, List.cons_append, List.nil_append, List.append_nil, hf6, hf7, hf9] <;> rfl))))

    all_goals (show _ = _; rfl)
  have hfit := few_fit hf hn
  rw [hf] at c0
  by_cases h3 : 4000 < (text.size : Int)
  · have gT := eq_true h3
    refine OKat.of_body (rs := [4]) Tryz.func3 rfl (by decide +kernel) rfl (by simp [Tryz.ntmps3]) ?_
    simp only [Tryz.ntmps3]
    repeat' first
      | apply AW.seq | apply AW.region | apply AW.ret | apply AW.block | apply AW.skip | apply AW.exit | apply AW.scope | apply AW.label | apply AWL.nil
      | ((first | (apply W.step cx_ok; decide) | apply W.store cx_ok | (apply W.gS; rfl; decide) | apply AW.cond); (simp (disch := omega) only [push_cast, simprocAttr, natNe, List.mem_cons, List.not_mem_nil, TyD.isAgg, Nat.add_assoc, Bool.and_self, Bool.and_true, Bool.true_and, Bool.false_and, Bool.and_false, Bool.not_true, Bool.not_false, Bool.false_eq_true, beq_self_eq_true, List.map_nil, List.length_nil, pure_doors, hf3, hf5, hf5b, St.back, rowAt_aftJ, idsL, idsA, List.cons_append, List.nil_append, List.append_nil, hf6, hf7, hf9, gT] <;> rfl); all_goals try ((with_reducible intro hI); try first | (cases hI; done) | (simp only [INTS, not_true_eq_false] at hI; try first | (exfalso; omega) | (have hT : True := hI; clear hT hI))))
      | ((apply W.callv cx_ok; decide); (iterate 2 (simp (disch := omega) only [push_cast, simprocAttr, natNe, List.mem_cons, List.not_mem_nil, TyD.isAgg, Nat.add_assoc, Bool.and_self, Bool.and_true, Bool.true_and, Bool.false_and, Bool.and_false, Bool.not_true, Bool.not_false, Bool.false_eq_true, beq_self_eq_true, List.map_nil, List.length_nil, pure_doors, hf3, hf5, hf5b, St.back, rowAt_aftJ, idsL, idsA, List.cons_append, List.nil_append, List.append_nil, hf6, hf7, hf9, gT] <;> rfl)); (with_reducible first | exact hs | exact c0); try first | rfl | (simp (disch := omega) only [push_cast, simprocAttr, natNe, List.mem_cons, List.not_mem_nil, TyD.isAgg, Nat.add_assoc, Bool.and_self, Bool.and_true, Bool.true_and, Bool.false_and, Bool.and_false, Bool.not_true, Bool.not_false, Bool.false_eq_true, beq_self_eq_true, List.map_nil, List.length_nil, pure_doors, hf3, hf5, hf5b, St.back, rowAt_aftJ, idsL, idsA, List.cons_append, List.nil_append, List.append_nil, hf6, hf7, hf9, gT] <;> rfl))
      | ((first | apply W.ret1 | apply W.end1); (iterate 2 (try (simp (disch := omega) only [push_cast, simprocAttr, natNe, List.mem_cons, List.not_mem_nil, TyD.isAgg, Nat.add_assoc, Bool.and_self, Bool.and_true, Bool.true_and, Bool.false_and, Bool.and_false, Bool.not_true, Bool.not_false, Bool.false_eq_true, beq_self_eq_true, List.map_nil, List.length_nil, pure_doors, hf3, hf5, hf5b, St.back, rowAt_aftJ, idsL, idsA, List.cons_append, List.nil_append, List.append_nil, hf6, hf7, hf9, gT] <;> rfl))))

    all_goals (show _ = _; rfl)
  have gF := eq_false h3
  have c1 := Print_ok h hfit
  have c2 := RPrint_ok h hfit
  have c3 := Parse_ok text (by omega)
  have c4 := RParse_ok text (by omega)
  rw [parse_both] at c4
  have c5 := same_F text
  generalize printB h = PF at *
  generalize parseF text = QF at *
  obtain ⟨P1, P2⟩ := PF
  obtain ⟨Q1, Q2⟩ := QF
  dsimp only at *
  refine OKat.of_body (rs := [4]) Tryz.func3 rfl (by decide +kernel) rfl (by simp [Tryz.ntmps3]) ?_
  simp only [Tryz.ntmps3]
  repeat' first
    | apply AW.seq | apply AW.region | apply AW.ret | apply AW.block | apply AW.skip | apply AW.exit | apply AW.scope | apply AW.label | apply AWL.nil
    | ((first | (apply W.step cx_ok; decide) | apply W.store cx_ok | (apply W.gS; rfl; decide) | apply AW.cond); (simp (disch := omega) only [push_cast, simprocAttr, natNe, List.mem_cons, List.not_mem_nil, TyD.isAgg, Nat.add_assoc, Bool.and_self, Bool.and_true, Bool.true_and, Bool.false_and, Bool.and_false, Bool.not_true, Bool.not_false, Bool.false_eq_true, beq_self_eq_true, List.map_nil, List.length_nil, pure_doors, hf3, hf5, hf5b, St.back, rowAt_aftJ, idsL, idsA, List.cons_append, List.nil_append, List.append_nil, hf6, hf7, hf9, gF] <;> rfl); all_goals try ((with_reducible intro hI); try first | (cases hI; done) | (simp only [INTS, not_true_eq_false] at hI; try first | (exfalso; omega) | (have hT : True := hI; clear hT hI))))
    | ((apply W.callv cx_ok; decide); (iterate 2 (simp (disch := omega) only [push_cast, simprocAttr, natNe, List.mem_cons, List.not_mem_nil, TyD.isAgg, Nat.add_assoc, Bool.and_self, Bool.and_true, Bool.true_and, Bool.false_and, Bool.and_false, Bool.not_true, Bool.not_false, Bool.false_eq_true, beq_self_eq_true, List.map_nil, List.length_nil, pure_doors, hf3, hf5, hf5b, St.back, rowAt_aftJ, idsL, idsA, List.cons_append, List.nil_append, List.append_nil, hf6, hf7, hf9, gF] <;> rfl)); (with_reducible first | exact hs | exact c0 | exact c1 | exact c2 | exact c3 | exact c4 | exact c5); try first | rfl | (simp (disch := omega) only [push_cast, simprocAttr, natNe, List.mem_cons, List.not_mem_nil, TyD.isAgg, Nat.add_assoc, Bool.and_self, Bool.and_true, Bool.true_and, Bool.false_and, Bool.and_false, Bool.not_true, Bool.not_false, Bool.false_eq_true, beq_self_eq_true, List.map_nil, List.length_nil, pure_doors, hf3, hf5, hf5b, St.back, rowAt_aftJ, idsL, idsA, List.cons_append, List.nil_append, List.append_nil, hf6, hf7, hf9, gF] <;> rfl))
    | ((first | apply W.ret1 | apply W.end1); (iterate 2 (try (simp (disch := omega) only [push_cast, simprocAttr, natNe, List.mem_cons, List.not_mem_nil, TyD.isAgg, Nat.add_assoc, Bool.and_self, Bool.and_true, Bool.true_and, Bool.false_and, Bool.and_false, Bool.not_true, Bool.not_false, Bool.false_eq_true, beq_self_eq_true, List.map_nil, List.length_nil, pure_doors, hf3, hf5, hf5b, St.back, rowAt_aftJ, idsL, idsA, List.cons_append, List.nil_append, List.append_nil, hf6, hf7, hf9, gF] <;> rfl))))

  all_goals (show _ = _; rfl)
theorem law4_ok (hs : OKv cx 6 [] (ab true)) (h : House) (text : ByteArray) (hn : ∀ r ∈ h.rooms, r.name.size ≤ 9223372036854775807) : OKv cx 4 [.agg (eHouse h), at_ text] (ab true) := by
  have hf3 : ∀ x, flatA (.v x) = true := fun _ => rfl
  have hf5 : ∀ x y, flatA (.tup [.v x, .v y]) = true := fun _ _ => rfl
  have hf5b : ∀ x y z, flatA (.tup [.v x, .v y, .v z]) = true := fun _ _ _ => rfl
  have hf6 : ∀ l, flatA (.lst l) = false := fun _ => rfl
  have hf7 : ∀ l x, flatA (.tup [.lst l, .v x]) = false := fun _ _ => rfl
  have hf9 : ∀ H ids x y, afterH H ids (.tup [.v x, .v y]) = H := fun _ _ _ _ => rfl
  have c0 := few_ok h
  by_cases hf : few h = true
  rotate_left
  · rw [Bool.not_eq_true] at hf
    rw [hf] at c0
    refine OKat.of_body (rs := [4]) Tryz.func4 rfl (by decide +kernel) rfl (by simp [Tryz.ntmps4]) ?_
    simp only [Tryz.ntmps4]
    repeat' first
      | apply AW.seq | apply AW.region | apply AW.ret | apply AW.block | apply AW.skip | apply AW.exit | apply AW.scope | apply AW.label | apply AWL.nil
      | ((first | (apply W.step cx_ok; decide) | apply W.store cx_ok | (apply W.gS; rfl; decide) | apply AW.cond); (simp (disch := omega) only [push_cast, simprocAttr, natNe, List.mem_cons, List.not_mem_nil, TyD.isAgg, Nat.add_assoc, Bool.and_self, Bool.and_true, Bool.true_and, Bool.false_and, Bool.and_false, Bool.not_true, Bool.not_false, Bool.false_eq_true, beq_self_eq_true, List.map_nil, List.length_nil, pure_doors, hf3, hf5, hf5b, St.back, rowAt_aftJ, idsL, idsA, List.cons_append, List.nil_append, List.append_nil, hf6, hf7, hf9] <;> rfl); all_goals try ((with_reducible intro hI); try first | (cases hI; done) | (simp only [INTS, not_true_eq_false] at hI; try first | (exfalso; omega) | (have hT : True := hI; clear hT hI))))
      | ((apply W.callv cx_ok; decide); (iterate 2 (simp (disch := omega) only [push_cast, simprocAttr, natNe, List.mem_cons, List.not_mem_nil, TyD.isAgg, Nat.add_assoc, Bool.and_self, Bool.and_true, Bool.true_and, Bool.false_and, Bool.and_false, Bool.not_true, Bool.not_false, Bool.false_eq_true, beq_self_eq_true, List.map_nil, List.length_nil, pure_doors, hf3, hf5, hf5b, St.back, rowAt_aftJ, idsL, idsA, List.cons_append, List.nil_append, List.append_nil, hf6, hf7, hf9] <;> rfl)); (with_reducible first | exact hs | exact c0); try first | rfl | (simp (disch := omega) only [push_cast, simprocAttr, natNe, List.mem_cons, List.not_mem_nil, TyD.isAgg, Nat.add_assoc, Bool.and_self, Bool.and_true, Bool.true_and, Bool.false_and, Bool.and_false, Bool.not_true, Bool.not_false, Bool.false_eq_true, beq_self_eq_true, List.map_nil, List.length_nil, pure_doors, hf3, hf5, hf5b, St.back, rowAt_aftJ, idsL, idsA, List.cons_append, List.nil_append, List.append_nil, hf6, hf7, hf9] <;> rfl))
      | ((first | apply W.ret1 | apply W.end1); (iterate 2 (try (simp (disch := omega) only [push_cast, simprocAttr, natNe, List.mem_cons, List.not_mem_nil, TyD.isAgg, Nat.add_assoc, Bool.and_self, Bool.and_true, Bool.true_and, Bool.false_and, Bool.and_false, Bool.not_true, Bool.not_false, Bool.false_eq_true, beq_self_eq_true, List.map_nil, List.length_nil, pure_doors, hf3, hf5, hf5b, St.back, rowAt_aftJ, idsL, idsA, List.cons_append, List.nil_append, List.append_nil, hf6, hf7, hf9] <;> rfl))))

    all_goals (show _ = _; rfl)
  have hfit := few_fit hf hn
  rw [hf] at c0
  by_cases h3 : 4000 < (text.size : Int)
  · have gT := eq_true h3
    refine OKat.of_body (rs := [4]) Tryz.func4 rfl (by decide +kernel) rfl (by simp [Tryz.ntmps4]) ?_
    simp only [Tryz.ntmps4]
    repeat' first
      | apply AW.seq | apply AW.region | apply AW.ret | apply AW.block | apply AW.skip | apply AW.exit | apply AW.scope | apply AW.label | apply AWL.nil
      | ((first | (apply W.step cx_ok; decide) | apply W.store cx_ok | (apply W.gS; rfl; decide) | apply AW.cond); (simp (disch := omega) only [push_cast, simprocAttr, natNe, List.mem_cons, List.not_mem_nil, TyD.isAgg, Nat.add_assoc, Bool.and_self, Bool.and_true, Bool.true_and, Bool.false_and, Bool.and_false, Bool.not_true, Bool.not_false, Bool.false_eq_true, beq_self_eq_true, List.map_nil, List.length_nil, pure_doors, hf3, hf5, hf5b, St.back, rowAt_aftJ, idsL, idsA, List.cons_append, List.nil_append, List.append_nil, hf6, hf7, hf9, gT] <;> rfl); all_goals try ((with_reducible intro hI); try first | (cases hI; done) | (simp only [INTS, not_true_eq_false] at hI; try first | (exfalso; omega) | (have hT : True := hI; clear hT hI))))
      | ((apply W.callv cx_ok; decide); (iterate 2 (simp (disch := omega) only [push_cast, simprocAttr, natNe, List.mem_cons, List.not_mem_nil, TyD.isAgg, Nat.add_assoc, Bool.and_self, Bool.and_true, Bool.true_and, Bool.false_and, Bool.and_false, Bool.not_true, Bool.not_false, Bool.false_eq_true, beq_self_eq_true, List.map_nil, List.length_nil, pure_doors, hf3, hf5, hf5b, St.back, rowAt_aftJ, idsL, idsA, List.cons_append, List.nil_append, List.append_nil, hf6, hf7, hf9, gT] <;> rfl)); (with_reducible first | exact hs | exact c0); try first | rfl | (simp (disch := omega) only [push_cast, simprocAttr, natNe, List.mem_cons, List.not_mem_nil, TyD.isAgg, Nat.add_assoc, Bool.and_self, Bool.and_true, Bool.true_and, Bool.false_and, Bool.and_false, Bool.not_true, Bool.not_false, Bool.false_eq_true, beq_self_eq_true, List.map_nil, List.length_nil, pure_doors, hf3, hf5, hf5b, St.back, rowAt_aftJ, idsL, idsA, List.cons_append, List.nil_append, List.append_nil, hf6, hf7, hf9, gT] <;> rfl))
      | ((first | apply W.ret1 | apply W.end1); (iterate 2 (try (simp (disch := omega) only [push_cast, simprocAttr, natNe, List.mem_cons, List.not_mem_nil, TyD.isAgg, Nat.add_assoc, Bool.and_self, Bool.and_true, Bool.true_and, Bool.false_and, Bool.and_false, Bool.not_true, Bool.not_false, Bool.false_eq_true, beq_self_eq_true, List.map_nil, List.length_nil, pure_doors, hf3, hf5, hf5b, St.back, rowAt_aftJ, idsL, idsA, List.cons_append, List.nil_append, List.append_nil, hf6, hf7, hf9, gT] <;> rfl))))

    all_goals (show _ = _; rfl)
  have gF := eq_false h3
  have c1 := Print_ok h hfit
  have c6 := Parse_ok text (by omega)
  unfold printB at c1
  by_cases hc : (Check h).1 = 0
  · rw [if_neg (by simp [hc])] at c1
    have c2 : OKv cx 9 [at_ (textB h)] (.tup [.agg (eHouse h), ai 0]) := by
      have := Parse_ok (textB h) (Nat.le_trans (textB_size hc) (by omega))
      rw [parseF_good (h := h) ⟨hc, rfl⟩] at this
      exact this
    have c5 := same_V (Check_V hc)
    generalize textB h = TT at *
    dsimp only at c1
    rcases parseF_cases text with ⟨m, hm, hq⟩ | hq
    · rw [hq] at c6
      have c7 : OKv cx 7 [.agg (eHouse m)] (.tup [at_ text, ai 0]) := by
        have := Print_ok m (V_fit hm.1)
        unfold printB at this
        rw [if_neg (by simp [hm.1]), hm.2] at this
        exact this
      dsimp only at c6
      refine OKat.of_body (rs := [4]) Tryz.func4 rfl (by decide +kernel) rfl (by simp [Tryz.ntmps4]) ?_
      simp only [Tryz.ntmps4]
      repeat' first
        | apply AW.seq | apply AW.region | apply AW.ret | apply AW.block | apply AW.skip | apply AW.exit | apply AW.scope | apply AW.label | apply AWL.nil
        | ((first | (apply W.step cx_ok; decide) | apply W.store cx_ok | (apply W.gS; rfl; decide) | apply AW.cond); (simp (disch := omega) only [push_cast, simprocAttr, natNe, List.mem_cons, List.not_mem_nil, TyD.isAgg, Nat.add_assoc, Bool.and_self, Bool.and_true, Bool.true_and, Bool.false_and, Bool.and_false, Bool.not_true, Bool.not_false, Bool.false_eq_true, beq_self_eq_true, List.map_nil, List.length_nil, pure_doors, hf3, hf5, hf5b, St.back, rowAt_aftJ, idsL, idsA, List.cons_append, List.nil_append, List.append_nil, hf6, hf7, hf9, gF] <;> rfl); all_goals try ((with_reducible intro hI); try first | (cases hI; done) | (simp only [INTS, not_true_eq_false] at hI; try first | (exfalso; omega) | (have hT : True := hI; clear hT hI))))
        | ((apply W.callv cx_ok; decide); (iterate 2 (simp (disch := omega) only [push_cast, simprocAttr, natNe, List.mem_cons, List.not_mem_nil, TyD.isAgg, Nat.add_assoc, Bool.and_self, Bool.and_true, Bool.true_and, Bool.false_and, Bool.and_false, Bool.not_true, Bool.not_false, Bool.false_eq_true, beq_self_eq_true, List.map_nil, List.length_nil, pure_doors, hf3, hf5, hf5b, St.back, rowAt_aftJ, idsL, idsA, List.cons_append, List.nil_append, List.append_nil, hf6, hf7, hf9, gF] <;> rfl)); (with_reducible first | exact hs | exact c0 | exact c1 | exact c2 | exact c5 | exact c6 | exact c7); try first | rfl | (simp (disch := omega) only [push_cast, simprocAttr, natNe, List.mem_cons, List.not_mem_nil, TyD.isAgg, Nat.add_assoc, Bool.and_self, Bool.and_true, Bool.true_and, Bool.false_and, Bool.and_false, Bool.not_true, Bool.not_false, Bool.false_eq_true, beq_self_eq_true, List.map_nil, List.length_nil, pure_doors, hf3, hf5, hf5b, St.back, rowAt_aftJ, idsL, idsA, List.cons_append, List.nil_append, List.append_nil, hf6, hf7, hf9, gF] <;> rfl))
        | ((first | apply W.ret1 | apply W.end1); (iterate 2 (try (simp (disch := omega) only [push_cast, simprocAttr, natNe, List.mem_cons, List.not_mem_nil, TyD.isAgg, Nat.add_assoc, Bool.and_self, Bool.and_true, Bool.true_and, Bool.false_and, Bool.and_false, Bool.not_true, Bool.not_false, Bool.false_eq_true, beq_self_eq_true, List.map_nil, List.length_nil, pure_doors, hf3, hf5, hf5b, St.back, rowAt_aftJ, idsL, idsA, List.cons_append, List.nil_append, List.append_nil, hf6, hf7, hf9, gF] <;> rfl))))

      all_goals (show _ = _; rfl)
    · rw [hq] at c6
      dsimp only at c6
      refine OKat.of_body (rs := [4]) Tryz.func4 rfl (by decide +kernel) rfl (by simp [Tryz.ntmps4]) ?_
      simp only [Tryz.ntmps4]
      repeat' first
        | apply AW.seq | apply AW.region | apply AW.ret | apply AW.block | apply AW.skip | apply AW.exit | apply AW.scope | apply AW.label | apply AWL.nil
        | ((first | (apply W.step cx_ok; decide) | apply W.store cx_ok | (apply W.gS; rfl; decide) | apply AW.cond); (simp (disch := omega) only [push_cast, simprocAttr, natNe, List.mem_cons, List.not_mem_nil, TyD.isAgg, Nat.add_assoc, Bool.and_self, Bool.and_true, Bool.true_and, Bool.false_and, Bool.and_false, Bool.not_true, Bool.not_false, Bool.false_eq_true, beq_self_eq_true, List.map_nil, List.length_nil, pure_doors, hf3, hf5, hf5b, St.back, rowAt_aftJ, idsL, idsA, List.cons_append, List.nil_append, List.append_nil, hf6, hf7, hf9, gF, hNone] <;> rfl); all_goals try ((with_reducible intro hI); try first | (cases hI; done) | (simp only [INTS, not_true_eq_false] at hI; try first | (exfalso; omega) | (have hT : True := hI; clear hT hI))))
        | ((apply W.callv cx_ok; decide); (iterate 2 (simp (disch := omega) only [push_cast, simprocAttr, natNe, List.mem_cons, List.not_mem_nil, TyD.isAgg, Nat.add_assoc, Bool.and_self, Bool.and_true, Bool.true_and, Bool.false_and, Bool.and_false, Bool.not_true, Bool.not_false, Bool.false_eq_true, beq_self_eq_true, List.map_nil, List.length_nil, pure_doors, hf3, hf5, hf5b, St.back, rowAt_aftJ, idsL, idsA, List.cons_append, List.nil_append, List.append_nil, hf6, hf7, hf9, gF, hNone] <;> rfl)); (with_reducible first | exact hs | exact c0 | exact c1 | exact c2 | exact c5 | exact c6); try first | rfl | (simp (disch := omega) only [push_cast, simprocAttr, natNe, List.mem_cons, List.not_mem_nil, TyD.isAgg, Nat.add_assoc, Bool.and_self, Bool.and_true, Bool.true_and, Bool.false_and, Bool.and_false, Bool.not_true, Bool.not_false, Bool.false_eq_true, beq_self_eq_true, List.map_nil, List.length_nil, pure_doors, hf3, hf5, hf5b, St.back, rowAt_aftJ, idsL, idsA, List.cons_append, List.nil_append, List.append_nil, hf6, hf7, hf9, gF, hNone] <;> rfl))
        | ((first | apply W.ret1 | apply W.end1); (iterate 2 (try (simp (disch := omega) only [push_cast, simprocAttr, natNe, List.mem_cons, List.not_mem_nil, TyD.isAgg, Nat.add_assoc, Bool.and_self, Bool.and_true, Bool.true_and, Bool.false_and, Bool.and_false, Bool.not_true, Bool.not_false, Bool.false_eq_true, beq_self_eq_true, List.map_nil, List.length_nil, pure_doors, hf3, hf5, hf5b, St.back, rowAt_aftJ, idsL, idsA, List.cons_append, List.nil_append, List.append_nil, hf6, hf7, hf9, gF, hNone] <;> rfl))))

      all_goals (show _ = _; rfl)
  rw [if_pos hc] at c1
  have n1 : ((Check h).1 = 0) = False := eq_false hc
  have n2 : ((Check h).1 == 0) = false := by rw [beq_eq_false_iff_ne]; exact hc
  have n3 : ((Check h).1 != 0) = true := by rw [bne_iff_ne]; exact hc
  generalize (Check h).1 = E at *
  dsimp only at c1
  rcases parseF_cases text with ⟨m, hm, hq⟩ | hq
  · rw [hq] at c6
    have c7 : OKv cx 7 [.agg (eHouse m)] (.tup [at_ text, ai 0]) := by
      have := Print_ok m (V_fit hm.1)
      unfold printB at this
      rw [if_neg (by simp [hm.1]), hm.2] at this
      exact this
    dsimp only at c6
    refine OKat.of_body (rs := [4]) Tryz.func4 rfl (by decide +kernel) rfl (by simp [Tryz.ntmps4]) ?_
    simp only [Tryz.ntmps4]
    repeat' first
      | apply AW.seq | apply AW.region | apply AW.ret | apply AW.block | apply AW.skip | apply AW.exit | apply AW.scope | apply AW.label | apply AWL.nil
      | ((first | (apply W.step cx_ok; decide) | apply W.store cx_ok | (apply W.gS; rfl; decide) | apply AW.cond); (simp (disch := omega) only [push_cast, simprocAttr, natNe, List.mem_cons, List.not_mem_nil, TyD.isAgg, Nat.add_assoc, Bool.and_self, Bool.and_true, Bool.true_and, Bool.false_and, Bool.and_false, Bool.not_true, Bool.not_false, Bool.false_eq_true, beq_self_eq_true, List.map_nil, List.length_nil, pure_doors, hf3, hf5, hf5b, St.back, rowAt_aftJ, idsL, idsA, List.cons_append, List.nil_append, List.append_nil, hf6, hf7, hf9, gF, n1, n2, n3] <;> rfl); all_goals try ((with_reducible intro hI); try first | (cases hI; done) | (simp only [INTS, not_true_eq_false] at hI; try first | (exfalso; omega) | (have hT : True := hI; clear hT hI))))
      | ((apply W.callv cx_ok; decide); (iterate 2 (simp (disch := omega) only [push_cast, simprocAttr, natNe, List.mem_cons, List.not_mem_nil, TyD.isAgg, Nat.add_assoc, Bool.and_self, Bool.and_true, Bool.true_and, Bool.false_and, Bool.and_false, Bool.not_true, Bool.not_false, Bool.false_eq_true, beq_self_eq_true, List.map_nil, List.length_nil, pure_doors, hf3, hf5, hf5b, St.back, rowAt_aftJ, idsL, idsA, List.cons_append, List.nil_append, List.append_nil, hf6, hf7, hf9, gF, n1, n2, n3] <;> rfl)); (with_reducible first | exact hs | exact c0 | exact c1 | exact c6 | exact c7); try first | rfl | (simp (disch := omega) only [push_cast, simprocAttr, natNe, List.mem_cons, List.not_mem_nil, TyD.isAgg, Nat.add_assoc, Bool.and_self, Bool.and_true, Bool.true_and, Bool.false_and, Bool.and_false, Bool.not_true, Bool.not_false, Bool.false_eq_true, beq_self_eq_true, List.map_nil, List.length_nil, pure_doors, hf3, hf5, hf5b, St.back, rowAt_aftJ, idsL, idsA, List.cons_append, List.nil_append, List.append_nil, hf6, hf7, hf9, gF, n1, n2, n3] <;> rfl))
      | ((first | apply W.ret1 | apply W.end1); (iterate 2 (try (simp (disch := omega) only [push_cast, simprocAttr, natNe, List.mem_cons, List.not_mem_nil, TyD.isAgg, Nat.add_assoc, Bool.and_self, Bool.and_true, Bool.true_and, Bool.false_and, Bool.and_false, Bool.not_true, Bool.not_false, Bool.false_eq_true, beq_self_eq_true, List.map_nil, List.length_nil, pure_doors, hf3, hf5, hf5b, St.back, rowAt_aftJ, idsL, idsA, List.cons_append, List.nil_append, List.append_nil, hf6, hf7, hf9, gF, n1, n2, n3] <;> rfl))))

    all_goals (show _ = _; rfl)
  · rw [hq] at c6
    dsimp only at c6
    refine OKat.of_body (rs := [4]) Tryz.func4 rfl (by decide +kernel) rfl (by simp [Tryz.ntmps4]) ?_
    simp only [Tryz.ntmps4]
    repeat' first
      | apply AW.seq | apply AW.region | apply AW.ret | apply AW.block | apply AW.skip | apply AW.exit | apply AW.scope | apply AW.label | apply AWL.nil
      | ((first | (apply W.step cx_ok; decide) | apply W.store cx_ok | (apply W.gS; rfl; decide) | apply AW.cond); (simp (disch := omega) only [push_cast, simprocAttr, natNe, List.mem_cons, List.not_mem_nil, TyD.isAgg, Nat.add_assoc, Bool.and_self, Bool.and_true, Bool.true_and, Bool.false_and, Bool.and_false, Bool.not_true, Bool.not_false, Bool.false_eq_true, beq_self_eq_true, List.map_nil, List.length_nil, pure_doors, hf3, hf5, hf5b, St.back, rowAt_aftJ, idsL, idsA, List.cons_append, List.nil_append, List.append_nil, hf6, hf7, hf9, gF, n1, n2, n3, hNone] <;> rfl); all_goals try ((with_reducible intro hI); try first | (cases hI; done) | (simp only [INTS, not_true_eq_false] at hI; try first | (exfalso; omega) | (have hT : True := hI; clear hT hI))))
      | ((apply W.callv cx_ok; decide); (iterate 2 (simp (disch := omega) only [push_cast, simprocAttr, natNe, List.mem_cons, List.not_mem_nil, TyD.isAgg, Nat.add_assoc, Bool.and_self, Bool.and_true, Bool.true_and, Bool.false_and, Bool.and_false, Bool.not_true, Bool.not_false, Bool.false_eq_true, beq_self_eq_true, List.map_nil, List.length_nil, pure_doors, hf3, hf5, hf5b, St.back, rowAt_aftJ, idsL, idsA, List.cons_append, List.nil_append, List.append_nil, hf6, hf7, hf9, gF, n1, n2, n3, hNone] <;> rfl)); (with_reducible first | exact hs | exact c0 | exact c1 | exact c6); try first | rfl | (simp (disch := omega) only [push_cast, simprocAttr, natNe, List.mem_cons, List.not_mem_nil, TyD.isAgg, Nat.add_assoc, Bool.and_self, Bool.and_true, Bool.true_and, Bool.false_and, Bool.and_false, Bool.not_true, Bool.not_false, Bool.false_eq_true, beq_self_eq_true, List.map_nil, List.length_nil, pure_doors, hf3, hf5, hf5b, St.back, rowAt_aftJ, idsL, idsA, List.cons_append, List.nil_append, List.append_nil, hf6, hf7, hf9, gF, n1, n2, n3, hNone] <;> rfl))
      | ((first | apply W.ret1 | apply W.end1); (iterate 2 (try (simp (disch := omega) only [push_cast, simprocAttr, natNe, List.mem_cons, List.not_mem_nil, TyD.isAgg, Nat.add_assoc, Bool.and_self, Bool.and_true, Bool.true_and, Bool.false_and, Bool.and_false, Bool.not_true, Bool.not_false, Bool.false_eq_true, beq_self_eq_true, List.map_nil, List.length_nil, pure_doors, hf3, hf5, hf5b, St.back, rowAt_aftJ, idsL, idsA, List.cons_append, List.nil_append, List.append_nil, hf6, hf7, hf9, gF, n1, n2, n3, hNone] <;> rfl))))

    all_goals (show _ = _; rfl)
end Go.Proofs.Hz

set_option maxRecDepth 100000
namespace Go.Proofs.Hz
open Go Go.Pg Go.Proofs Go.ChangeShapes Go.WideShapes Go.ChangeAt Go.RowKit
open Go.Proofs.YtbeiiipphicdlaaGreatDoor
theorem own_knob : ownKnob Tryz.prog.godebug = none := by kernel_rfl
abbrev zHouse : Value := .agg #[.slice none 0 0, .slice none 0 0, .slice none 0 0]
section
variable {H : Type} {enc : TypeId × Value → H} {P : Program} {W : World} {b : Nat} {sp : Nat → Bool} {held : Bool}
theorem trodAll_pop {t : TypeId} {ts : List TypeId} {vs : List Value} {ds : List (DataW H)} {ps : List MemPlace} (h : DataW.TrodAll enc P W b sp held (t :: ts) vs ds ps) :
    ∃ v vs' d ds' p q, vs = v :: vs' ∧ ds = d :: ds' ∧ DataW.Trod enc P W b sp held t v d p ∧ DataW.TrodAll enc P W b sp held ts vs' ds' q := by
  match vs, ds, h with
  | v :: vs, d :: ds, ⟨p, q, h1, h2, _⟩ => exact ⟨v, vs, d, ds, p, q, rfl, rfl, h1, h2⟩
theorem trodAll_end {vs : List Value} {ds : List (DataW H)} {ps : List MemPlace} (h : DataW.TrodAll enc P W b sp held [] vs ds ps) : vs = [] := by
  match vs, ds, h with
  | [], [], _ => rfl
end
abbrev laid5 : List (String × DataW Unit) := Rows.houseTextsRow.laid
theorem met5 (os : Os) (args : Array Value) : laidMetH Tryz.prog laid5 ((World.laidAll Tryz.prog os laid5).forCall (fun _ _ => 0) ⟨#[], args, []⟩).memory := by
  rw [MakeChecks.laidMetH_plain _ _ _ (by kernel_rfl)]
  exact laidMet_laidAll _ (by kernel_rfl) (by kernel_rfl)
theorem shaped5 (os : Os) : (World.laidAll Tryz.prog os laid5).Shaped Tryz.prog := World.shaped_of_ZipB (by kernel_rfl) (by kernel_rfl)
section
variable {H : Type} {enc : TypeId × Value → H}
theorem handed_shaped {a : Assume} {C : Checked} {os : Os} {f : FuncId} {fn : Func} {s : ChangeSpec} {conds : List PathCond} {apart fresh handsOn again : Bool} {X : World → Array Value → Prop}
    (hX : ∀ (w w' : World) (args : Array Value), w.heap = w'.heap → X w args → X w' args)
    (own : ownKnob C.prog.godebug = none) (started : os.Started) (noInit : C.prog.inits.idxOf? f = none) (hfn : C.prog.funcs[f]? = some fn)
    (witness : ∃ (w : World) (tape : Tape) (i : Input), w.os = os ∧ (w.forCall tape i).Shaped C.prog ∧ i.vars = [] ∧ Input.okWide C.prog (w.forCall tape i) .any w.heap.size f i ∧
      ((s.pre enc C.prog fn conds apart (w.forCall tape i).memory i.args ∧ X (w.forCall tape i).memory i.args) ∧ sizedMet enc C.prog fn (OpenSpec.ofChange s) apart (w.forCall tape i).memory i.args) ∧ a.holds C.prog (lone (Frame.enter C.prog f i.args .normal) [] (w.forCall tape i)))
    (contract : ∀ (W : World) (base : Nat) (args : Array Value) (ds gs : List (DataW H)) (before : List MemPlace),
      (∀ (j : Nat) t v, fn.params[j]? = some t → args[j]? = some v → Value.okWide C.prog W .any base t v) →
      DataW.Whole enc C.prog fn.params.toList s.vars apart W args.toList ds gs before → X W args → W.ShapedOpen C.prog →
      Calls C.prog f args W fun e W' => ∃ v, e = .returned v ∧ s.post enc C.prog fn apart fresh handsOn again W args v W') :
    ReturnsInHanded a C os f .any (fun w args => (s.pre enc C.prog fn conds apart w args ∧ X w args) ∧ sizedMet enc C.prog fn (OpenSpec.ofChange s) apart w args) (s.post enc C.prog fn apart fresh handsOn again) := by
  refine returnsInHanded_of_calls own started noInit witness fun w tape i _ hsh _ hok hpre _ => ?_
  obtain ⟨_, _, _, fn', hfn', _, _, _, _, hval⟩ := hok
  obtain rfl : fn' = fn := Option.some.inj (hfn'.symm.trans hfn)
  obtain ⟨⟨⟨ds, gs, before, hw, _⟩, hx⟩, _⟩ := hpre
  refine (contract (w.forCall tape i) w.heap.size i.args ds gs before hval (DataW.Whole.of_heap (w' := w.forCall tape i) (by rfl) hw) (hX _ _ _ (by rfl) hx) hsh).mono ?_
  rintro e W' ⟨v, rfl, hp⟩
  exact ChangeSpec.post_blind hp
end
theorem laid_pow5 : laid5.filter (fun x => x.1 == "internal/strconv.uint64pow10") = [("internal/strconv.uint64pow10", Lib.tabData .u64 Lib.pow10Tab)] := by rfl
theorem laid_syn5 : laid5.filter (fun x => x.1 == "strconv.ErrSyntax") = [("strconv.ErrSyntax", .iface "*errors.errorString" (.ptr (.agg [.lit (.string [105, 110, 118, 97, 108, 105, 100, 32, 115, 121, 110, 116, 97, 120])])))] := by rfl
theorem laid_rng5 : laid5.filter (fun x => x.1 == "strconv.ErrRange") = [("strconv.ErrRange", .iface "*errors.errorString" (.ptr (.agg [.lit (.string [118, 97, 108, 117, 101, 32, 111, 117, 116, 32, 111, 102, 32, 114, 97, 110, 103, 101])])))] := by rfl
theorem star5 : "*" ++ "errors.errorString" = "*errors.errorString" := by decide
theorem row172 (u : TypeId) (h : Tryz.prog.typeName? 3 u = some "*errors.errorString") : u = 172 :=
  typeName_ptr_named (nm := "errors.errorString") (by rw [star5]; kernel_rfl) (by kernel_rfl) (by decide) u (by rw [star5]; exact h)
theorem env_of {W : World} (h : laidMetH Tryz.prog laid5 W) (hsh : W.ShapedOpen Tryz.prog) : Env W := by
  refine ⟨?_, ?_, ?_, ?_⟩
  · have h1 := h.filter (fun x => x.1 == "internal/strconv.uint64pow10")
    rw [laid_pow5, Go.MakeChecks.laidMetH_plain _ _ _ (by rfl)] at h1
    exact Lib.tabIs_of_head (g := 0) (t := 153) (e := 137) (n := 20) (by kernel_rfl) (by kernel_rfl) Tryz.underlying153 Tryz.underlying137 (by kernel_rfl) (by kernel_rfl) h1
  · exact cell_of_shapedOpen_int (P := Tryz.prog) (g := 1) (t := 3) (zero := #[.int .i64 0]) hsh (of_decide_eq_true (by kernel_rfl)) (by kernel_rfl) rfl (by kernel_rfl) (by kernel_rfl) Tryz.underlying3
  · have h1 := h.filter (fun x => x.1 == "strconv.ErrSyntax")
    rw [laid_syn5, Go.MakeChecks.laidMetH_plain _ _ _ (by rfl)] at h1
    have hg : Tryz.prog.globalNamed "strconv.ErrSyntax" = some 2 := by kernel_rfl
    obtain ⟨a, s, hv, _⟩ := laid_sentinel h1 hg (by kernel_rfl) Tryz.underlying64 row172 Tryz.underlying172 Tryz.underlying174 rfl rfl Tryz.underlying9 (by kernel_rfl) (by kernel_rfl)
    exact ⟨_, _, by have h0 := World.var?_cell hg hv 0; simpa using h0⟩
  · have h1 := h.filter (fun x => x.1 == "strconv.ErrRange")
    rw [laid_rng5, Go.MakeChecks.laidMetH_plain _ _ _ (by rfl)] at h1
    have hg : Tryz.prog.globalNamed "strconv.ErrRange" = some 3 := by kernel_rfl
    obtain ⟨a, s, hv, _⟩ := laid_sentinel h1 hg (by kernel_rfl) Tryz.underlying64 row172 Tryz.underlying172 Tryz.underlying174 rfl rfl Tryz.underlying9 (by kernel_rfl) (by kernel_rfl)
    exact ⟨_, _, by have h0 := World.var?_cell hg hv 0; simpa using h0⟩
theorem run_true5 {f : FuncId} {avs : List AV} {W : World} {args : Array Value} (hok : OKv cx f avs (ab true)) (hE : Env W) (hs : args.size = avs.length) (hr : RepL (pureSg (Old W)) W avs (fun i => args[i]?)) :
    Calls Tryz.prog f args W fun e W' => e = .returned (.bool true) ∧ Below W.heap.size W W' := by
  refine (hok.2 W (Old W) args hE (fun b h => h) hs hr).mono ?_
  rintro e W' ⟨hb, v, r, he, hr, hv⟩
  subst hr
  simp only [Rep] at hv
  subst hv
  exact ⟨he, hb⟩
end Go.Proofs.Hz
