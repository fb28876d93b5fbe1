/-
  Contracts of functions, proved by going through their code. No conditions.
-/
import Derived.Test.YtbeiiipphicdlaaGreatDoorTat
import Derived.Test.YtbeiiipphicdlaaGreatDoorTau
set_option linter.unusedVariables false
set_option linter.unusedSimpArgs false
set_option maxHeartbeats 8000000
set_option maxRecDepth 10000
namespace Go.Proofs.Hz
open Go Go.Pg Go.Proofs Go.Tx
attribute [local push_cast] Bool.and_false Bool.and_self Bool.and_true Bool.false_and Bool.false_eq_true Bool.not_false Bool.not_true Bool.true_and List.mem_cons List.not_mem_nil Nat.add_assoc TyD.isAgg natNe
theorem lineR_eq (x : Room) : lineR x = (ByteArray.mk #[114, 111, 111, 109, 32]) ++ x.name ++ (ByteArray.mk #[32]) ++ itoaB x.floor ++ (ByteArray.mk #[10]) := by
  refine bl_inj ?_
  unfold lineR
  rw [line_bl]
  simp only [bl_app, bl_one, List.map_cons, List.map_nil, Lib.join_cons, Lib.joinTail, List.flatten_cons, List.flatten_nil, List.append_assoc, List.append_nil]
  rfl
theorem lineW_eq (x : Way) : lineW x = (ByteArray.mk #[119, 97, 121, 32]) ++ itoaB x.a ++ (ByteArray.mk #[32]) ++ itoaB x.b ++ (ByteArray.mk #[32]) ++ itoaB x.secs ++ (ByteArray.mk #[32]) ++ itoaB x.back ++ (ByteArray.mk #[32]) ++ itoaB x.door ++ (ByteArray.mk #[10]) := by
  refine bl_inj ?_
  unfold lineW wordsW
  rw [line_bl]
  simp only [bl_app, bl_one, List.map_cons, List.map_nil, Lib.join_cons, Lib.joinTail, List.flatten_cons, List.flatten_nil, List.append_assoc, List.append_nil]
  rfl
theorem spsB_bl : ∀ l : List Span, bl (spsB l) = Lib.joinTail [32] ((l.map spanB).map bl)
  | [] => rfl
  | x :: l => by
    rw [spsB_cons, bl_app, bl_app, bl_one, spsB_bl l]
    simp [Lib.joinTail]
theorem lineD_eq (x : Door) : lineD x = (ByteArray.mk #[100, 111, 111, 114]) ++ spsB x.hours ++ (ByteArray.mk #[32, 115, 104, 117, 116]) ++ spsB x.shut ++ (ByteArray.mk #[10]) := by
  refine bl_inj ?_
  unfold lineD
  rw [wordsD_cons, line_bl, List.map_cons, Lib.join_cons]
  simp only [bl_app, bl_one, spsB_bl, List.map_append, List.map_cons, List.map_nil, Lib.joinTail, List.flatten_append, List.flatten_cons, List.flatten_nil, List.append_assoc, List.append_nil, List.nil_append, List.singleton_append]
theorem RText_ok (h : House) (hv : h.V) (hrooms : ∀ r ∈ h.rooms, named r.name = true ∧ -60 ≤ r.floor ∧ r.floor ≤ 60) (hnm : ∀ r ∈ h.rooms, r.name.size ≤ 16) : OKv cx 27 [.agg (eHouse h)] (at_ (textB h)) := by
  have hv1 := hv.rooms
  have hv2 := hv.nd
  have hv3 := hv.nw
  obtain ⟨T1, hT1⟩ : ∃ z, catB (h.rooms.map lineR) = z := ⟨_, rfl⟩
  obtain ⟨T2, hT2⟩ : ∃ z, T1 ++ catB (h.doors.map lineD) = z := ⟨_, rfl⟩
  obtain ⟨T3, hT3⟩ : ∃ z, T2 ++ catB (h.ways.map lineW) = z := ⟨_, rfl⟩
  have hTT : textB h = T3 := by unfold textB; rw [← hT3, ← hT2, ← hT1, ByteArray.append_assoc]
  rw [hTT]
  refine OKat.of_body (rs := [2]) Tryz.func27 rfl (by decide +kernel) rfl (by simp [Tryz.ntmps27]) ?_
  simp only [Tryz.ntmps27]
  repeat' first
    | apply AW.seq | apply AW.region | apply AW.ret | apply AW.block | apply AW.skip | apply AW.exit | apply AW.scope | apply AW.label | apply AWL.nil | apply D.nil
    | refine W.draw cx_mixed (by decide +kernel) ?_
    | ((first | (apply W.step cx_ok; decide) | (apply D.step cx_ok; decide; decide) | apply W.store cx_ok | apply AW.cond); (simp (disch := omega) only [push_cast, simprocAttr] <;> rfl); all_goals try ((with_reducible intro hI); try first | (cases hI; done) | (simp only [INTS, not_true_eq_false] at hI; try first | (exfalso; omega) | (have hT : True := hI; clear hT hI))))
    | ((first | apply W.ret1 | apply W.end1); (iterate 2 (try (simp (disch := omega) only [push_cast, simprocAttr] <;> rfl))))

  refine AW.loop (fun n s => ∃ (k : Nat) (r : ByteArray) (rest : List Room), n = rest.length ∧ (h.rooms.drop k = rest) ∧ (r ++ catB (rest.map lineR) = T1) ∧ (r.size ≤ 64 * k) ∧ (k ≤ 24) ∧ 1 ≤ s.nx ∧ s.tm 1 = .ptr 0 0 0 1 ∧ s.tm 3 = at_ r ∧ s.tm 4 = ai k ∧ Pg.rowAt s.H (0) = some ({ k := 3, es := [eHouse h], ty := 26 })) (h.rooms.length) ⟨0, ByteArray.empty, h.rooms, rfl, rfl, (by rw [ByteArray.empty_append]; exact hT1), (Nat.zero_le _), (Nat.zero_le _), ?_, ?_, ?_, ?_, ?_⟩ ?_
  iterate 5 (first | (simp (disch := omega) only [push_cast, simprocAttr] <;> first | rfl | omega) | omega)
  rintro n1 s1 ⟨k1, r1, rest1, hn1, hp01, hp11, hp21, hp31, hnl1, hS1⟩
  have hZ1 : (0 : Nat) ≠ s1.nx ∧ s1.nx ≠ (0 : Nat) := by omega
  rcases rest1 with _ | ⟨x, rest1⟩
  rotate_left
  · obtain ⟨hk, hg, hd', hl', hm', hx⟩ := drop_cons hp01 eRoom []
    have hgl := hnm x hm'
    obtain ⟨_, f1, f2⟩ := hrooms x hm'
    have s1 := itoaB_size x.floor (by omega) (by omega)
    have i1 := RDecimal_ok x.floor (by omega) (by omega)
    have hkl : k1 < h.rooms.length := by omega
    have hc0 : r1.size + (ByteArray.mk #[114, 111, 111, 109, 32]).size ≤ maxLen := by
      simp only [ByteArray.size_append, mkS1, mkS5]
      unfold maxLen; omega
    have hc1 : (r1 ++ (ByteArray.mk #[114, 111, 111, 109, 32])).size + (x.name).size ≤ maxLen := by
      simp only [ByteArray.size_append, mkS1, mkS5]
      unfold maxLen; omega
    have hc2 : (r1 ++ (ByteArray.mk #[114, 111, 111, 109, 32]) ++ x.name).size + (ByteArray.mk #[32]).size ≤ maxLen := by
      simp only [ByteArray.size_append, mkS1, mkS5]
      unfold maxLen; omega
    have hc3 : (r1 ++ (ByteArray.mk #[114, 111, 111, 109, 32]) ++ x.name ++ (ByteArray.mk #[32])).size + (itoaB x.floor).size ≤ maxLen := by
      simp only [ByteArray.size_append, mkS1, mkS5]
      unfold maxLen; omega
    have hc4 : (r1 ++ (ByteArray.mk #[114, 111, 111, 109, 32]) ++ x.name ++ (ByteArray.mk #[32]) ++ (itoaB x.floor)).size + (ByteArray.mk #[10]).size ≤ maxLen := by
      simp only [ByteArray.size_append, mkS1, mkS5]
      unfold maxLen; omega
    have hap : r1 ++ (ByteArray.mk #[114, 111, 111, 109, 32]) ++ x.name ++ (ByteArray.mk #[32]) ++ (itoaB x.floor) ++ (ByteArray.mk #[10]) ++ catB (rest1.map lineR) = T1 := by rw [← hp11, List.map_cons, catB_cons, lineR_eq]; simp only [ByteArray.append_assoc]
    have hz : (r1 ++ (ByteArray.mk #[114, 111, 111, 109, 32]) ++ x.name ++ (ByteArray.mk #[32]) ++ (itoaB x.floor) ++ (ByteArray.mk #[10])).size ≤ 64 * (k1 + 1) := by simp only [ByteArray.size_append, mkS1, mkS5]; omega
    repeat' first
      | apply AW.seq | apply AW.region | apply AW.ret | apply AW.block | apply AW.skip | apply AW.exit | apply AW.scope | apply AW.label | apply AWL.nil | apply D.nil
      | refine W.draw cx_mixed (by decide +kernel) ?_
      | ((first | (apply W.step cx_ok; decide) | (apply D.step cx_ok; decide; decide) | apply W.store cx_ok | apply AW.cond); (simp (disch := omega) only [push_cast, simprocAttr, hS1, hZ1, hk, hg, hx, hc0, hc1, hc2, hc3, hc4] <;> rfl); all_goals try ((with_reducible intro hI); try first | (cases hI; done) | (simp only [INTS, not_true_eq_false] at hI; try first | (exfalso; omega) | (have hT : True := hI; clear hT hI))))
      | ((first | (apply W.callv cx_ok; decide) | (apply D.callv cx_ok; decide; decide)); (iterate 2 (simp (disch := omega) only [push_cast, simprocAttr, hS1, hZ1, hk, hg, hx, hc0, hc1, hc2, hc3, hc4] <;> rfl)); (with_reducible first | exact i1); try first | rfl | (simp (disch := omega) only [push_cast, simprocAttr, hS1, hZ1, hk, hg, hx, hc0, hc1, hc2, hc3, hc4] <;> rfl))
      | ((first | apply W.ret1 | apply W.end1); (iterate 2 (try (simp (disch := omega) only [push_cast, simprocAttr, hS1, hZ1, hk, hg, hx, hc0, hc1, hc2, hc3, hc4] <;> rfl))))

    all_goals (refine ⟨rest1.length, ?_, k1 + 1, r1 ++ (ByteArray.mk #[114, 111, 111, 109, 32]) ++ x.name ++ (ByteArray.mk #[32]) ++ (itoaB x.floor) ++ (ByteArray.mk #[10]), rest1, rfl, hd', hap, hz, (by omega), ?_, ?_, ?_, ?_, ?_⟩; ((simp only [List.length_cons] at *; omega)); all_goals first | (simp (disch := omega) only [push_cast, simprocAttr, hS1, hZ1, hk, hg, hx, hc0, hc1, hc2, hc3, hc4] <;> first | rfl | omega) | omega)
  have hk := drop_nil hp01
  have hq1 : r1 = T1 := by rw [← hp11]; exact ByteArray.append_empty.symm
  subst hq1
  repeat' first
    | apply AW.seq | apply AW.region | apply AW.ret | apply AW.block | apply AW.skip | apply AW.exit | apply AW.scope | apply AW.label | apply AWL.nil | apply D.nil
    | refine W.draw cx_mixed (by decide +kernel) ?_
    | ((first | (apply W.step cx_ok; decide) | (apply D.step cx_ok; decide; decide) | apply W.store cx_ok | apply AW.cond); (simp (disch := omega) only [push_cast, simprocAttr, hS1, hZ1, hk] <;> rfl); all_goals try ((with_reducible intro hI); try first | (cases hI; done) | (simp only [INTS, not_true_eq_false] at hI; try first | (exfalso; omega) | (have hT : True := hI; clear hT hI))))
    | ((first | apply W.ret1 | apply W.end1); (iterate 2 (try (simp (disch := omega) only [push_cast, simprocAttr, hS1, hZ1, hk] <;> rfl))))

  refine AW.loop (fun n s => ∃ (k : Nat) (r : ByteArray) (rest : List Door), n = rest.length ∧ (h.doors.drop k = rest) ∧ (r ++ catB (rest.map lineD) = T2) ∧ (r.size ≤ 1536 + 800 * k) ∧ (k ≤ 16) ∧ 1 ≤ s.nx ∧ s.tm 1 = .ptr 0 0 0 1 ∧ s.tm 3 = at_ r ∧ s.tm 5 = ai k ∧ Pg.rowAt s.H (0) = some ({ k := 3, es := [eHouse h], ty := 26 })) (h.doors.length) ⟨0, r1, h.doors, rfl, rfl, hT2, (by omega), (Nat.zero_le _), ?_, ?_, ?_, ?_, ?_⟩ ?_
  iterate 5 (first | (simp (disch := omega) only [push_cast, simprocAttr, hS1, hZ1, hk] <;> first | rfl | omega) | omega)
  rintro n2 s2 ⟨k2, r2, rest2, hn2, hp02, hp12, hp22, hp32, hnl2, hS2⟩
  have hZ2 : (0 : Nat) ≠ s2.nx ∧ s2.nx ≠ (0 : Nat) := by omega
  rcases rest2 with _ | ⟨x, rest2⟩
  rotate_left
  · obtain ⟨hk2, hg2, hd2, hl2, hm2, hx2⟩ := drop_cons hp02 eDoor []
    have hdk := doorV_Dok (hv.doors x hm2)
    obtain ⟨⟨n1, _⟩, ⟨n2, _⟩⟩ := hv.doors x hm2
    have i1 := RSpans_ok x.hours (by omega) hdk.1
    have i2 := RSpans_ok x.shut (by omega) hdk.2
    have s1 := spsB_size x.hours hdk.1
    have s2 := spsB_size x.shut hdk.2
    have hkl : k2 < h.doors.length := by omega
    have hc0 : r2.size + (ByteArray.mk #[100, 111, 111, 114]).size ≤ maxLen := by
      simp only [ByteArray.size_append, mkS1, mkS4, mkS5]
      unfold maxLen; omega
    have hc1 : (r2 ++ (ByteArray.mk #[100, 111, 111, 114])).size + (spsB x.hours).size ≤ maxLen := by
      simp only [ByteArray.size_append, mkS1, mkS4, mkS5]
      unfold maxLen; omega
    have hc2 : (r2 ++ (ByteArray.mk #[100, 111, 111, 114]) ++ (spsB x.hours)).size + (ByteArray.mk #[32, 115, 104, 117, 116]).size ≤ maxLen := by
      simp only [ByteArray.size_append, mkS1, mkS4, mkS5]
      unfold maxLen; omega
    have hc3 : (r2 ++ (ByteArray.mk #[100, 111, 111, 114]) ++ (spsB x.hours) ++ (ByteArray.mk #[32, 115, 104, 117, 116])).size + (spsB x.shut).size ≤ maxLen := by
      simp only [ByteArray.size_append, mkS1, mkS4, mkS5]
      unfold maxLen; omega
    have hc4 : (r2 ++ (ByteArray.mk #[100, 111, 111, 114]) ++ (spsB x.hours) ++ (ByteArray.mk #[32, 115, 104, 117, 116]) ++ (spsB x.shut)).size + (ByteArray.mk #[10]).size ≤ maxLen := by
      simp only [ByteArray.size_append, mkS1, mkS4, mkS5]
      unfold maxLen; omega
    have hap : r2 ++ (ByteArray.mk #[100, 111, 111, 114]) ++ (spsB x.hours) ++ (ByteArray.mk #[32, 115, 104, 117, 116]) ++ (spsB x.shut) ++ (ByteArray.mk #[10]) ++ catB (rest2.map lineD) = T2 := by rw [← hp12, List.map_cons, catB_cons, lineD_eq]; simp only [ByteArray.append_assoc]
    have hz : (r2 ++ (ByteArray.mk #[100, 111, 111, 114]) ++ (spsB x.hours) ++ (ByteArray.mk #[32, 115, 104, 117, 116]) ++ (spsB x.shut) ++ (ByteArray.mk #[10])).size ≤ 1536 + 800 * (k2 + 1) := by simp only [ByteArray.size_append, mkS1, mkS4, mkS5]; omega
    repeat' first
      | apply AW.seq | apply AW.region | apply AW.ret | apply AW.block | apply AW.skip | apply AW.exit | apply AW.scope | apply AW.label | apply AWL.nil | apply D.nil
      | refine W.draw cx_mixed (by decide +kernel) ?_
      | ((first | (apply W.step cx_ok; decide) | (apply D.step cx_ok; decide; decide) | apply W.store cx_ok | apply AW.cond); (simp (disch := omega) only [push_cast, simprocAttr, hS2, hZ2, hk2, hg2, hx2, hc0, hc1, hc2, hc3, hc4] <;> rfl); all_goals try ((with_reducible intro hI); try first | (cases hI; done) | (simp only [INTS, not_true_eq_false] at hI; try first | (exfalso; omega) | (have hT : True := hI; clear hT hI))))
      | ((first | (apply W.callv cx_ok; decide) | (apply D.callv cx_ok; decide; decide)); (iterate 2 (simp (disch := omega) only [push_cast, simprocAttr, hS2, hZ2, hk2, hg2, hx2, hc0, hc1, hc2, hc3, hc4] <;> rfl)); (with_reducible first | exact i1 | exact i2); try first | rfl | (simp (disch := omega) only [push_cast, simprocAttr, hS2, hZ2, hk2, hg2, hx2, hc0, hc1, hc2, hc3, hc4] <;> rfl))
      | ((first | apply W.ret1 | apply W.end1); (iterate 2 (try (simp (disch := omega) only [push_cast, simprocAttr, hS2, hZ2, hk2, hg2, hx2, hc0, hc1, hc2, hc3, hc4] <;> rfl))))

    all_goals (refine ⟨rest2.length, ?_, k2 + 1, r2 ++ (ByteArray.mk #[100, 111, 111, 114]) ++ (spsB x.hours) ++ (ByteArray.mk #[32, 115, 104, 117, 116]) ++ (spsB x.shut) ++ (ByteArray.mk #[10]), rest2, rfl, hd2, hap, hz, (by omega), ?_, ?_, ?_, ?_, ?_⟩; ((simp only [List.length_cons] at *; omega)); all_goals first | (simp (disch := omega) only [push_cast, simprocAttr, hS2, hZ2, hk2, hg2, hx2, hc0, hc1, hc2, hc3, hc4] <;> first | rfl | omega) | omega)
  have hk2 := drop_nil hp02
  have hq2 : r2 = T2 := by rw [← hp12]; exact ByteArray.append_empty.symm
  subst hq2
  repeat' first
    | apply AW.seq | apply AW.region | apply AW.ret | apply AW.block | apply AW.skip | apply AW.exit | apply AW.scope | apply AW.label | apply AWL.nil | apply D.nil
    | refine W.draw cx_mixed (by decide +kernel) ?_
    | ((first | (apply W.step cx_ok; decide) | (apply D.step cx_ok; decide; decide) | apply W.store cx_ok | apply AW.cond); (simp (disch := omega) only [push_cast, simprocAttr, hS2, hZ2, hk2] <;> rfl); all_goals try ((with_reducible intro hI); try first | (cases hI; done) | (simp only [INTS, not_true_eq_false] at hI; try first | (exfalso; omega) | (have hT : True := hI; clear hT hI))))
    | ((first | apply W.ret1 | apply W.end1); (iterate 2 (try (simp (disch := omega) only [push_cast, simprocAttr, hS2, hZ2, hk2] <;> rfl))))

  refine AW.loop (fun n s => ∃ (k : Nat) (r : ByteArray) (rest : List Way), n = rest.length ∧ (h.ways.drop k = rest) ∧ (r ++ catB (rest.map lineW) = T3) ∧ (r.size ≤ 14336 + 128 * k) ∧ (k ≤ 60) ∧ 1 ≤ s.nx ∧ s.tm 1 = .ptr 0 0 0 1 ∧ s.tm 3 = at_ r ∧ s.tm 6 = ai k ∧ Pg.rowAt s.H (0) = some ({ k := 3, es := [eHouse h], ty := 26 })) (h.ways.length) ⟨0, r2, h.ways, rfl, rfl, hT3, (by omega), (Nat.zero_le _), ?_, ?_, ?_, ?_, ?_⟩ ?_
  iterate 5 (first | (simp (disch := omega) only [push_cast, simprocAttr, hS2, hZ2, hk2] <;> first | rfl | omega) | omega)
  rintro n3 s3 ⟨k3, r3, rest3, hn3, hp03, hp13, hp23, hp33, hnl3, hS3⟩
  have hZ3 : (0 : Nat) ≠ s3.nx ∧ s3.nx ≠ (0 : Nat) := by omega
  rcases rest3 with _ | ⟨x, rest3⟩
  rotate_left
  · obtain ⟨hk3, hg3, hd3, hl3, hm3, hx3⟩ := drop_cons hp03 eWay []
    obtain ⟨⟨a1, a2⟩, ⟨b1, b2⟩, _, ⟨c1, c2⟩, ⟨d1, d2⟩, ⟨e1, e2⟩⟩ := hv.ways x hm3
    have s1 := itoaB_size x.a (by omega) (by omega)
    have s2 := itoaB_size x.b (by omega) (by omega)
    have s3 := itoaB_size x.secs (by omega) (by omega)
    have s4 := itoaB_size x.back (by omega) (by omega)
    have s5 := itoaB_size x.door (by omega) (by omega)
    have i1 := RDecimal_ok x.a (by omega) (by omega)
    have i2 := RDecimal_ok x.b (by omega) (by omega)
    have i3 := RDecimal_ok x.secs (by omega) (by omega)
    have i4 := RDecimal_ok x.back (by omega) (by omega)
    have i5 := RDecimal_ok x.door (by omega) (by omega)
    have hkl : k3 < h.ways.length := by omega
    have hc0 : r3.size + (ByteArray.mk #[119, 97, 121, 32]).size ≤ maxLen := by
      simp only [ByteArray.size_append, mkS1, mkS4]
      unfold maxLen; omega
    have hc1 : (r3 ++ (ByteArray.mk #[119, 97, 121, 32])).size + (itoaB x.a).size ≤ maxLen := by
      simp only [ByteArray.size_append, mkS1, mkS4]
      unfold maxLen; omega
    have hc2 : (r3 ++ (ByteArray.mk #[119, 97, 121, 32]) ++ (itoaB x.a)).size + (ByteArray.mk #[32]).size ≤ maxLen := by
      simp only [ByteArray.size_append, mkS1, mkS4]
      unfold maxLen; omega
    have hc3 : (r3 ++ (ByteArray.mk #[119, 97, 121, 32]) ++ (itoaB x.a) ++ (ByteArray.mk #[32])).size + (itoaB x.b).size ≤ maxLen := by
      simp only [ByteArray.size_append, mkS1, mkS4]
      unfold maxLen; omega
    have hc4 : (r3 ++ (ByteArray.mk #[119, 97, 121, 32]) ++ (itoaB x.a) ++ (ByteArray.mk #[32]) ++ (itoaB x.b)).size + (ByteArray.mk #[32]).size ≤ maxLen := by
      simp only [ByteArray.size_append, mkS1, mkS4]
      unfold maxLen; omega
    have hc5 : (r3 ++ (ByteArray.mk #[119, 97, 121, 32]) ++ (itoaB x.a) ++ (ByteArray.mk #[32]) ++ (itoaB x.b) ++ (ByteArray.mk #[32])).size + (itoaB x.secs).size ≤ maxLen := by
      simp only [ByteArray.size_append, mkS1, mkS4]
      unfold maxLen; omega
    have hc6 : (r3 ++ (ByteArray.mk #[119, 97, 121, 32]) ++ (itoaB x.a) ++ (ByteArray.mk #[32]) ++ (itoaB x.b) ++ (ByteArray.mk #[32]) ++ (itoaB x.secs)).size + (ByteArray.mk #[32]).size ≤ maxLen := by
      simp only [ByteArray.size_append, mkS1, mkS4]
      unfold maxLen; omega
    have hc7 : (r3 ++ (ByteArray.mk #[119, 97, 121, 32]) ++ (itoaB x.a) ++ (ByteArray.mk #[32]) ++ (itoaB x.b) ++ (ByteArray.mk #[32]) ++ (itoaB x.secs) ++ (ByteArray.mk #[32])).size + (itoaB x.back).size ≤ maxLen := by
      simp only [ByteArray.size_append, mkS1, mkS4]
      unfold maxLen; omega
    have hc8 : (r3 ++ (ByteArray.mk #[119, 97, 121, 32]) ++ (itoaB x.a) ++ (ByteArray.mk #[32]) ++ (itoaB x.b) ++ (ByteArray.mk #[32]) ++ (itoaB x.secs) ++ (ByteArray.mk #[32]) ++ (itoaB x.back)).size + (ByteArray.mk #[32]).size ≤ maxLen := by
      simp only [ByteArray.size_append, mkS1, mkS4]
      unfold maxLen; omega
    have hc9 : (r3 ++ (ByteArray.mk #[119, 97, 121, 32]) ++ (itoaB x.a) ++ (ByteArray.mk #[32]) ++ (itoaB x.b) ++ (ByteArray.mk #[32]) ++ (itoaB x.secs) ++ (ByteArray.mk #[32]) ++ (itoaB x.back) ++ (ByteArray.mk #[32])).size + (itoaB x.door).size ≤ maxLen := by
      simp only [ByteArray.size_append, mkS1, mkS4]
      unfold maxLen; omega
    have hc10 : (r3 ++ (ByteArray.mk #[119, 97, 121, 32]) ++ (itoaB x.a) ++ (ByteArray.mk #[32]) ++ (itoaB x.b) ++ (ByteArray.mk #[32]) ++ (itoaB x.secs) ++ (ByteArray.mk #[32]) ++ (itoaB x.back) ++ (ByteArray.mk #[32]) ++ (itoaB x.door)).size + (ByteArray.mk #[10]).size ≤ maxLen := by
      simp only [ByteArray.size_append, mkS1, mkS4]
      unfold maxLen; omega
    have hap : r3 ++ (ByteArray.mk #[119, 97, 121, 32]) ++ (itoaB x.a) ++ (ByteArray.mk #[32]) ++ (itoaB x.b) ++ (ByteArray.mk #[32]) ++ (itoaB x.secs) ++ (ByteArray.mk #[32]) ++ (itoaB x.back) ++ (ByteArray.mk #[32]) ++ (itoaB x.door) ++ (ByteArray.mk #[10]) ++ catB (rest3.map lineW) = T3 := by rw [← hp13, List.map_cons, catB_cons, lineW_eq]; simp only [ByteArray.append_assoc]
    have hz : (r3 ++ (ByteArray.mk #[119, 97, 121, 32]) ++ (itoaB x.a) ++ (ByteArray.mk #[32]) ++ (itoaB x.b) ++ (ByteArray.mk #[32]) ++ (itoaB x.secs) ++ (ByteArray.mk #[32]) ++ (itoaB x.back) ++ (ByteArray.mk #[32]) ++ (itoaB x.door) ++ (ByteArray.mk #[10])).size ≤ 14336 + 128 * (k3 + 1) := by simp only [ByteArray.size_append, mkS1, mkS4]; omega
    repeat' first
      | apply AW.seq | apply AW.region | apply AW.ret | apply AW.block | apply AW.skip | apply AW.exit | apply AW.scope | apply AW.label | apply AWL.nil | apply D.nil
      | refine W.draw cx_mixed (by decide +kernel) ?_
      | ((first | (apply W.step cx_ok; decide) | (apply D.step cx_ok; decide; decide) | apply W.store cx_ok | apply AW.cond); (simp (disch := omega) only [push_cast, simprocAttr, hS3, hZ3, hk3, hg3, hx3, hc0, hc1, hc2, hc3, hc4, hc5, hc6, hc7, hc8, hc9, hc10] <;> rfl); all_goals try ((with_reducible intro hI); try first | (cases hI; done) | (simp only [INTS, not_true_eq_false] at hI; try first | (exfalso; omega) | (have hT : True := hI; clear hT hI))))
      | ((first | (apply W.callv cx_ok; decide) | (apply D.callv cx_ok; decide; decide)); (iterate 2 (simp (disch := omega) only [push_cast, simprocAttr, hS3, hZ3, hk3, hg3, hx3, hc0, hc1, hc2, hc3, hc4, hc5, hc6, hc7, hc8, hc9, hc10] <;> rfl)); (with_reducible first | exact i1 | exact i2 | exact i3 | exact i4 | exact i5); try first | rfl | (simp (disch := omega) only [push_cast, simprocAttr, hS3, hZ3, hk3, hg3, hx3, hc0, hc1, hc2, hc3, hc4, hc5, hc6, hc7, hc8, hc9, hc10] <;> rfl))
      | ((first | apply W.ret1 | apply W.end1); (iterate 2 (try (simp (disch := omega) only [push_cast, simprocAttr, hS3, hZ3, hk3, hg3, hx3, hc0, hc1, hc2, hc3, hc4, hc5, hc6, hc7, hc8, hc9, hc10] <;> rfl))))

    all_goals (refine ⟨rest3.length, ?_, k3 + 1, r3 ++ (ByteArray.mk #[119, 97, 121, 32]) ++ (itoaB x.a) ++ (ByteArray.mk #[32]) ++ (itoaB x.b) ++ (ByteArray.mk #[32]) ++ (itoaB x.secs) ++ (ByteArray.mk #[32]) ++ (itoaB x.back) ++ (ByteArray.mk #[32]) ++ (itoaB x.door) ++ (ByteArray.mk #[10]), rest3, rfl, hd3, hap, hz, (by omega), ?_, ?_, ?_, ?_, ?_⟩; ((simp only [List.length_cons] at *; omega)); all_goals first | (simp (disch := omega) only [push_cast, simprocAttr, hS3, hZ3, hk3, hg3, hx3, hc0, hc1, hc2, hc3, hc4, hc5, hc6, hc7, hc8, hc9, hc10] <;> first | rfl | omega) | omega)
  have hk3 := drop_nil hp03
  have hq3 : r3 = T3 := by rw [← hp13]; exact ByteArray.append_empty.symm
  subst hq3
  repeat' first
    | apply AW.seq | apply AW.region | apply AW.ret | apply AW.block | apply AW.skip | apply AW.exit | apply AW.scope | apply AW.label | apply AWL.nil | apply D.nil
    | refine W.draw cx_mixed (by decide +kernel) ?_
    | ((first | (apply W.step cx_ok; decide) | (apply D.step cx_ok; decide; decide) | apply W.store cx_ok | apply AW.cond); (simp (disch := omega) only [push_cast, simprocAttr, hS3, hZ3, hk3] <;> rfl); all_goals try ((with_reducible intro hI); try first | (cases hI; done) | (simp only [INTS, not_true_eq_false] at hI; try first | (exfalso; omega) | (have hT : True := hI; clear hT hI))))
    | ((first | apply W.ret1 | apply W.end1); (iterate 2 (try (simp (disch := omega) only [push_cast, simprocAttr, hS3, hZ3, hk3] <;> rfl))))

  all_goals (show _ = _; rfl)
theorem namedL_len (n : Nat) : ∀ l : List UInt8, namedL n l = true → n ≤ 16
  | [], h => by
    unfold namedL at h
    simp only [Bool.and_eq_true, decide_eq_true_eq] at h
    omega
  | b :: l, h => by
    unfold namedL at h
    split at h
    · exact namedL_len n l h
    · cases h
theorem named_sz {s : ByteArray} (h : named s = true) : s.size ≤ 16 := namedL_len _ _ h
theorem RTextV_ok (h : House) (hc : (Check h).1 = 0) : OKv cx 27 [.agg (eHouse h)] (at_ (textB h)) :=
  RText_ok h (Check_V hc) (Check_rooms hc) fun r hr => named_sz (Check_rooms hc r hr).1
theorem RPrint_ok (h : House) (hfit : h.Fit) : OKv cx 8 [.agg (eHouse h)] (.tup [at_ (printB h).1, ai (printB h).2]) := by
  have c1 := Error_ok h hfit
  unfold printB
  by_cases hc : (Check h).1 = 0
  · rw [if_neg (by simp [hc])]
    have c2 := RTextV_ok h hc
    rw [hc] at c1
    refine OKat.of_body (rs := [2, 3]) Tryz.func8 rfl (by decide +kernel) rfl (by simp [Tryz.ntmps8]) ?_
    simp only [Tryz.ntmps8]
    repeat' first
      | apply AW.seq | apply AW.region | apply AW.ret | apply AW.block | apply AW.skip | apply AW.exit | apply AW.scope | apply AW.label | apply AWL.nil
      | ((first | (apply W.step cx_ok; decide) | apply AW.cond); (simp (disch := omega) only [push_cast, simprocAttr] <;> rfl); all_goals try ((with_reducible intro hI); try first | (cases hI; done) | (simp only [INTS, not_true_eq_false] at hI; try first | (exfalso; omega) | (have hT : True := hI; clear hT hI))))
      | ((apply W.callv cx_ok; decide); (iterate 2 (simp (disch := omega) only [push_cast, simprocAttr] <;> rfl)); (with_reducible first | exact c1 | exact c2); try first | rfl | (simp (disch := omega) only [push_cast, simprocAttr] <;> rfl))
      | ((first | apply W.ret2 | apply W.end2); (iterate 2 (try (simp (disch := omega) only [push_cast, simprocAttr] <;> rfl))))

    all_goals (show _ = _; rfl)
  · rw [if_pos hc]
    obtain ⟨E, hE⟩ : ∃ z, (Check h).1 = z := ⟨_, rfl⟩
    rw [hE] at c1 hc ⊢
    have w1 := eq_false hc
    have w2 : (E == 0) = false := by rw [beq_eq_false_iff_ne]; exact hc
    have w3 : (E != 0) = true := by rw [bne_iff_ne]; exact hc
    refine OKat.of_body (rs := [2, 3]) Tryz.func8 rfl (by decide +kernel) rfl (by simp [Tryz.ntmps8]) ?_
    simp only [Tryz.ntmps8]
    repeat' first
      | apply AW.seq | apply AW.region | apply AW.ret | apply AW.block | apply AW.skip | apply AW.exit | apply AW.scope | apply AW.label | apply AWL.nil
      | ((first | (apply W.step cx_ok; decide) | apply AW.cond); (simp (disch := omega) only [push_cast, simprocAttr, w1, w2, w3] <;> rfl); all_goals try ((with_reducible intro hI); try first | (cases hI; done) | (simp only [INTS, not_true_eq_false] at hI; try first | (exfalso; omega) | (have hT : True := hI; clear hT hI))))
      | ((apply W.callv cx_ok; decide); (iterate 2 (simp (disch := omega) only [push_cast, simprocAttr, w1, w2, w3] <;> rfl)); (with_reducible first | exact c1); try first | rfl | (simp (disch := omega) only [push_cast, simprocAttr, w1, w2, w3] <;> rfl))
      | ((first | apply W.ret2 | apply W.end2); (iterate 2 (try (simp (disch := omega) only [push_cast, simprocAttr, w1, w2, w3] <;> rfl))))

    all_goals (show _ = _; rfl)
end Go.Proofs.Hz
