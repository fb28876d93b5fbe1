/-
  Contracts of functions, proved by going through their code. No conditions.
-/
import Derived.Test.YtbeiiipphicdlaaGreatDoorTar
import Derived.Test.YtbeiiipphicdlaaGreatDoorTat
import Derived.Test.YtbeiiipphicdlaaGreatDoorTba
set_option linter.unusedVariables false
set_option linter.unusedSimpArgs false
set_option maxHeartbeats 8000000
set_option maxRecDepth 10000
namespace Go.Proofs.Hz
open Go Go.Pg Go.Proofs Go.Tx
attribute [local push_cast] Bool.and_false Bool.and_self Bool.and_true Bool.false_and Bool.false_eq_true Bool.not_false Bool.not_true Bool.true_and List.all_append List.all_cons List.all_nil List.append_nil List.cons_append List.length_drop List.length_take List.mem_cons List.nil_append List.not_mem_nil List.take_length List.take_of_length_le Nat.add_assoc St.back TyD.isAgg and_self and_true dropM idsA idsL leT natNe pureA pureL rowAt_aftJ takeM true_and
theorem cut_len (l : List UInt8) (sep : List UInt8) : (Lib.cut l sep).1.length ≤ l.length ∧ (Lib.cut l sep).2.1.length ≤ l.length := by
  unfold Lib.cut
  split
  · simp only [List.length_take, List.length_drop]; omega
  · simp
theorem span_ok (s : ByteArray) (hs : s.size ≤ 4000000) : OKv cx 32 [at_ s] (.agg (eSpan (spanI s))) := by
  have hc := cut_len (bl s) [45]
  rw [bl_len] at hc
  have c1 := cut_ok s (by omega)
  have hA : (cutA s).size ≤ 281474976710656 := by unfold cutA; rw [show (mkB (Lib.cut (bl s) [45]).1).size = (Lib.cut (bl s) [45]).1.length from rfl]; omega
  have hB : (cutB s).size ≤ 281474976710656 := by unfold cutB; rw [show (mkB (Lib.cut (bl s) [45]).2.1).size = (Lib.cut (bl s) [45]).2.1.length from rfl]; omega
  have c2 := number_ok (cutA s) hA
  have c3 := number_ok (cutB s) hB
  unfold spanI
  generalize (Lib.cut (bl s) [45]).2.2 = ok at *
  generalize cutA s = A at *
  generalize cutB s = B at *
  have hf3 : ∀ x, flatA (.v x) = true := fun _ => rfl
  have hf5 : ∀ x y, flatA (.tup [.v x, .v y]) = true := fun _ _ => rfl
  have hf5b : ∀ x y z, flatA (.tup [.v x, .v y, .v z]) = true := fun _ _ _ => rfl
  have hf6 : ∀ l, flatA (.lst l) = false := fun _ => rfl
  have hf7 : ∀ l x, flatA (.tup [.lst l, .v x]) = false := fun _ _ => rfl
  have hf9 : ∀ H ids x y, afterH H ids (.tup [.v x, .v y]) = H := fun _ _ _ _ => rfl
  refine OKat.of_bodyM cx_ok (rs := [.cell 2 51]) Tryz.func32 rfl (by decide +kernel) rfl (by simp [Tryz.ntmps32]) ?_
  simp only [Tryz.ntmps32]
  repeat' first
    | apply AW.seq | apply AW.region | apply AW.ret | apply AW.block | apply AW.skip | apply AW.exit | apply AW.scope | apply AW.label | apply AWL.nil
    | ((first | (apply W.step cx_ok; decide) | apply W.store cx_ok | apply AW.cond); (simp (disch := (first | omega | (simp only [List.length_append, List.length_map, List.length_cons, List.length_nil, List.length_take, List.length_drop]; omega))) only [push_cast, simprocAttr, hf3, hf6, hf5, hf5b, hf9] <;> rfl); all_goals try ((with_reducible intro hI); try first | (cases hI; done) | (simp only [INTS, not_true_eq_false] at hI; try first | (exfalso; omega) | (have hT : True := hI; clear hT hI))))
    | (apply W.append cx_ok; decide; rfl; rfl; rfl; decide; (iterate 3 (simp (disch := (first | omega | (simp only [List.length_append, List.length_map, List.length_cons, List.length_nil, List.length_take, List.length_drop]; omega))) only [push_cast, simprocAttr, hf3, hf6, hf5, hf5b, hf9] <;> rfl)); (first | (focus (simp; done)) | (intro c hc; obtain ⟨x, _, rfl⟩ := List.mem_map.1 hc; rfl)); ((first | rfl | simp (disch := omega) only [push_cast])); ((try dsimp only); (try simp only [List.length_map, List.length_append, List.length_cons, List.length_nil, List.length_take, List.length_drop]); omega); ((try dsimp only); (try simp only [List.length_map, List.length_append, List.length_cons, List.length_nil, List.length_take, List.length_drop]); omega))
    | ((apply W.callv cx_ok; decide); (iterate 2 (simp (disch := (first | omega | (simp only [List.length_append, List.length_map, List.length_cons, List.length_nil, List.length_take, List.length_drop]; omega))) only [push_cast, simprocAttr, hf3, hf6, hf5, hf5b, hf9] <;> rfl)); (with_reducible first | exact c1 | exact c2 | exact c3); try first | rfl | (simp (disch := (first | omega | (simp only [List.length_append, List.length_map, List.length_cons, List.length_nil, List.length_take, List.length_drop]; omega))) only [push_cast, simprocAttr, hf3, hf6, hf5, hf5b, hf9] <;> rfl))
    | ((first | apply W.retM | apply W.endM'); (iterate 2 (try (simp (disch := (first | omega | (simp only [List.length_append, List.length_map, List.length_cons, List.length_nil, List.length_take, List.length_drop]; omega))) only [push_cast, simprocAttr, hf3, hf6, hf5, hf5b, hf9] <;> rfl))))

  all_goals (show _ = _; rfl)
theorem rowAt_eqY {H H' : Nat → Option AO} {i : Nat} (h : H' i = H i) : Pg.rowAt H' i = Pg.rowAt H i := by unfold Pg.rowAt; rw [h]
theorem rnd_okY (l : Nat) : (cx.rnd l).OK := ⟨cx_ok.T, cx_ok.eqT, cx_ok.E⟩
theorem rnd_mixedY (l : Nat) : (cx.rnd l).P.follows .mixedOrders = true := cx_mixed
theorem awk_genY {C : Cx} {N : Nat} {y z : Code} {Q : Exit → St → Prop} {s : St} (G : St → Prop) (hG : G s) (h : ∀ t, G t → AWk C N y z Q t) : AWk C N y z Q s := h s hG
abbrev strR (b : ByteArray) : Row := { k := 1, es := [[at_ b]], ty := 9 }
theorem Lines_m (s0 : ByteArray) (H : Nat → Option AO) (m : Nat) : OKm cx 28 [at_ s0] H m (fun r H' nx' => r = .clo 54 [.ptr m 0 0 1] ∧ H' = updH H m (.row (strR s0)) ∧ nx' = m + 1) := by
  refine OKm.of_body cx_ok (rs := [.tmp 2]) Tryz.func28 rfl (by decide +kernel) rfl (by simp [Tryz.ntmps28]) ?_
  simp only [Tryz.ntmps28]
  repeat' first
    | apply AW.seq | apply AW.region | apply AW.ret | apply AW.block | apply AW.skip | apply AW.exit | apply AW.scope | apply AW.label | apply AWL.nil
    | ((first | (apply W.step cx_ok; decide) | apply AW.cond); (simp (disch := (first | omega | (simp only [List.length_append, List.length_map, List.length_cons, List.length_nil, List.length_take, List.length_drop]; omega))) only [push_cast, simprocAttr] <;> rfl); all_goals try ((with_reducible intro hI); try first | (cases hI; done) | (simp only [INTS, not_true_eq_false] at hI; try first | (exfalso; omega) | (have hT : True := hI; clear hT hI))))
    | (apply W.append cx_ok; decide; rfl; rfl; rfl; decide; (iterate 3 (simp (disch := (first | omega | (simp only [List.length_append, List.length_map, List.length_cons, List.length_nil, List.length_take, List.length_drop]; omega))) only [push_cast, simprocAttr] <;> rfl)); (first | (focus (simp; done)) | (intro c hc; obtain ⟨x, _, rfl⟩ := List.mem_map.1 hc; rfl)); ((first | rfl | simp (disch := omega) only [push_cast])); ((try dsimp only); (try simp only [List.length_map, List.length_append, List.length_cons, List.length_nil, List.length_take, List.length_drop]); omega); ((try dsimp only); (try simp only [List.length_map, List.length_append, List.length_cons, List.length_nil, List.length_take, List.length_drop]); omega))


  all_goals
    (apply W.retX (vs := [.clo 54 [.ptr m 0 0 1]])
     · (simp (disch := omega) only [push_cast, simprocAttr] <;> rfl)
     · exact ⟨rfl, rfl, rfl⟩)
structure YlS (l n0 id M : Nat) (c : House → Nat) (f : House → ByteArray → House × Bool) (J : House × Bool → (Nat → Option AO) → Prop) : Prop where
  frame : ∀ p H i o, J p H → (n0 ≤ i ∨ i = id) → J p (updH H i o)
  grow : ∀ h x, 1 ≤ x.size → c (f h x).1 ≤ c h + x.size
  y : ∀ p H nx (x : ByteArray), p.2 = false → J p H → n0 ≤ nx → x.size ≤ M → c p.1 + 1 ≤ M →
    YOK cx l [at_ x] H nx (fun b H' nx' => b = !(f p.1 x).2 ∧ J (f p.1 x) H' ∧ nx ≤ nx' ∧ ∀ i, (i = id ∨ n0 ≤ i) → i < nx → H' i = H i)
theorem Lines1_ok (s0 : ByteArray) (M : Nat) (hM : M ≤ 1099511627776) (l n0 id : Nat) (hid : id < n0) {c : House → Nat} {f : House → ByteArray → House × Bool} {J : House × Bool → (Nat → Option AO) → Prop} (hJ : YlS l n0 id M c f J) (H : Nat → Option AO) (nx : Nat) (hnx : n0 ≤ nx) (p0 : House × Bool) (hs : c p0.1 + s0.size ≤ M) (hp0 : p0.2 = false) (hJ0 : J p0 H) (hrow : Pg.rowAt H id = some (strR s0)) :
    OKm cx 54 [.v (.func (.yield l) #[] #[]), .ptr id 0 0 1] H nx (fun _ H' nx' => J (linesF f s0.size s0 p0) H' ∧ n0 ≤ nx') := by
  obtain ⟨RES, hRES⟩ : ∃ z, linesF f s0.size s0 p0 = z := ⟨_, rfl⟩
  rw [hRES]
  have hf3 : ∀ x, flatA (.v x) = true := fun _ => rfl
  have hf5 : ∀ x y, flatA (.tup [.v x, .v y]) = true := fun _ _ => rfl
  have hf5b : ∀ x y z, flatA (.tup [.v x, .v y, .v z]) = true := fun _ _ _ => rfl
  have hf6 : ∀ l, flatA (.lst l) = false := fun _ => rfl
  have hf7 : ∀ l x, flatA (.tup [.lst l, .v x]) = false := fun _ _ => rfl
  have hf9 : ∀ H ids x y, afterH H ids (.tup [.v x, .v y]) = H := fun _ _ _ _ => rfl
  refine OKm.of_body cx_ok (rs := []) Tryz.func54 rfl (by decide +kernel) rfl (by simp [Tryz.ntmps54]) ?_
  simp only [Tryz.ntmps54]
  repeat' first
    | apply AW.seq | apply AW.region | apply AW.ret | apply AW.block | apply AW.skip | apply AW.exit | apply AW.scope | apply AW.label | apply AWL.nil | apply D.nil
    | refine W.draw cx_mixed (by decide +kernel) ?_
    | ((first | (apply W.step cx_ok; decide) | (apply D.step cx_ok; decide; decide) | apply W.store cx_ok | apply AW.cond); (simp (disch := (first | omega | (simp only [List.length_append, List.length_map, List.length_cons, List.length_nil, List.length_take, List.length_drop]; omega))) only [push_cast, simprocAttr] <;> rfl); all_goals try ((with_reducible intro hI); try first | (cases hI; done) | (simp only [INTS, not_true_eq_false] at hI; try first | (exfalso; omega) | (have hT : True := hI; clear hT hI))))
    | (apply W.append cx_ok; decide; rfl; rfl; rfl; decide; (iterate 3 (simp (disch := (first | omega | (simp only [List.length_append, List.length_map, List.length_cons, List.length_nil, List.length_take, List.length_drop]; omega))) only [push_cast, simprocAttr] <;> rfl)); (first | (focus (simp; done)) | (intro c hc; obtain ⟨x, _, rfl⟩ := List.mem_map.1 hc; rfl)); ((first | rfl | simp (disch := omega) only [push_cast])); ((try dsimp only); (try simp only [List.length_map, List.length_append, List.length_cons, List.length_nil, List.length_take, List.length_drop]); omega); ((try dsimp only); (try simp only [List.length_map, List.length_append, List.length_cons, List.length_nil, List.length_take, List.length_drop]); omega))


  refine AW.loop (fun n s => ∃ (k : Nat) (p : House × Bool) (r : ByteArray), n = k ∧ (linesF f k r p = RES) ∧ (p.2 = false) ∧ (J p s.H) ∧ (r.size ≤ k) ∧ (c p.1 + r.size ≤ M) ∧ n0 ≤ s.nx ∧ s.tm 0 = .v (.func (.yield l) #[] #[]) ∧ s.tm 1 = .ptr id 0 0 1 ∧ Pg.rowAt s.H (id) = some (strR r)) (s0.size) ⟨s0.size, p0, s0, rfl, hRES, hp0, (by (try simp (disch := omega) only [push_cast, simprocAttr]); (repeat (refine hJ.frame _ _ _ _ ?_ (by omega))); exact hJ0), (Nat.le_refl _), hs, ?_, ?_, ?_, ?_⟩ ?_
  iterate 4 (first | (simp (disch := omega) only [push_cast, simprocAttr, hrow] <;> first | rfl | omega) | omega)
  rintro n1 s1 ⟨k1, p1, r1, hn1, hp01, hp11, hp21, hp31, hp41, hnl1, hS1⟩
  have hZ1 : (id : Nat) ≠ s1.nx ∧ s1.nx ≠ (id : Nat) := by omega
  by_cases hz : r1.size = 0
  · have hzF : ((0 : Int) < (r1.size : Int)) = False := eq_false (by omega)
    rw [linesF_nil _ _ hz] at hp01
    repeat' first
      | apply AW.seq | apply AW.region | apply AW.ret | apply AW.block | apply AW.skip | apply AW.exit | apply AW.scope | apply AW.label | apply AWL.nil | apply D.nil
      | refine W.draw cx_mixed (by decide +kernel) ?_
      | ((first | (apply W.step cx_ok; decide) | (apply D.step cx_ok; decide; decide) | apply W.store cx_ok | apply AW.cond); (simp (disch := (first | omega | (simp only [List.length_append, List.length_map, List.length_cons, List.length_nil, List.length_take, List.length_drop]; omega))) only [push_cast, simprocAttr, hS1, hZ1, hf3, hf6, hzF] <;> rfl); all_goals try ((with_reducible intro hI); try first | (cases hI; done) | (simp only [INTS, not_true_eq_false] at hI; try first | (exfalso; omega) | (have hT : True := hI; clear hT hI))))
      | (apply W.append cx_ok; decide; rfl; rfl; rfl; decide; (iterate 3 (simp (disch := (first | omega | (simp only [List.length_append, List.length_map, List.length_cons, List.length_nil, List.length_take, List.length_drop]; omega))) only [push_cast, simprocAttr, hS1, hZ1, hf3, hf6, hzF] <;> rfl)); (first | (focus (simp; done)) | (intro c hc; obtain ⟨x, _, rfl⟩ := List.mem_map.1 hc; rfl)); ((first | rfl | simp (disch := omega) only [push_cast])); ((try dsimp only); (try simp only [List.length_map, List.length_append, List.length_cons, List.length_nil, List.length_take, List.length_drop]); omega); ((try dsimp only); (try simp only [List.length_map, List.length_append, List.length_cons, List.length_nil, List.length_take, List.length_drop]); omega))

    all_goals
      ((try simp only [thenQ, blockQ, loopQ, scopeQ, if_true, reduceIte])
       first | apply W.retX (vs := []) | apply W.endX (vs := [])
       · rfl
       refine ⟨?_, ?_⟩
       · rw [← hp01]; exact hp21
       · show n0 ≤ s1.nx; omega)
  have hzT : ((0 : Int) < (r1.size : Int)) = True := eq_true (by omega)
  rcases k1 with _ | k1
  · omega
  have hTl := lnT_size r1 hz
  have hTs : (lnT r1).size ≤ k1 := by omega
  have hHs : (lnH r1).size ≤ M := Nat.le_trans (lnH_size r1) (by omega)
  rw [linesF, if_neg (by simp [hz, hp11])] at hp01
  have c1 := indexB_ok r1
  have hil := lnI_lt r1
  unfold lnH lnT at hp01
  unfold lnH at hHs
  unfold lnT at hTs
  by_cases hi : 0 ≤ lnI r1
  · have hiT : (0 ≤ lnI r1) = True := eq_true hi
    have hlt := hil hi
    rw [if_pos hi, if_pos hi] at hp01
    rw [if_pos hi] at hTs hHs
    generalize lnI r1 = I at *
    have h0 : 0 ≤ I + 1 := by omega
    have h1 : (I + 1).toNat ≤ r1.size := by omega
    have z1 : (r1.extract 0 (I + 1).toNat).size = (I + 1).toNat := by rw [ByteArray.size_extract]; omega
    have z2 : (r1.extract (I + 1).toNat r1.size).size = r1.size - (I + 1).toNat := by rw [ByteArray.size_extract]; omega
    have hH1 : 1 ≤ (r1.extract 0 (I + 1).toNat).size := by omega
    have hcg := hJ.grow p1.1 (r1.extract 0 (I + 1).toNat) hH1
    repeat' first
      | apply AW.seq | apply AW.region | apply AW.ret | apply AW.block | apply AW.skip | apply AW.exit | apply AW.scope | apply AW.label | apply AWL.nil | apply D.nil
      | refine AW.draw (id := 4) cx_mixed [9] [] [id] 0 (by decide +kernel) ?_
      | refine W.draw cx_mixed (by decide +kernel) ?_
      | ((first | (apply W.step cx_ok; decide) | (apply D.step cx_ok; decide; decide) | apply W.store cx_ok | apply AW.cond); (simp (disch := (first | omega | (simp only [List.length_append, List.length_map, List.length_cons, List.length_nil, List.length_take, List.length_drop]; omega))) only [push_cast, simprocAttr, hS1, hZ1, hf3, hf6, hzT, hiT, h0, h1, Nat.zero_le, Nat.le_refl] <;> rfl); all_goals try ((with_reducible intro hI); try first | (cases hI; done) | (simp only [INTS, not_true_eq_false] at hI; try first | (exfalso; omega) | (have hT : True := hI; clear hT hI))))
      | ((first | (apply D.store cx_ok; decide) | (apply D.stept cx_ok; decide; decide) | (apply D.stepm cx_ok; decide; decide)); (simp (disch := (first | omega | (simp only [List.length_append, List.length_map, List.length_cons, List.length_nil, List.length_take, List.length_drop]; omega))) only [push_cast, simprocAttr, hS1, hZ1, hf3, hf6, hzT, hiT, h0, h1, Nat.zero_le, Nat.le_refl] <;> rfl); try first | exact .inl rfl | exact .inr (by simp))
      | ((apply D.alloct cx_ok; decide; decide); (simp (disch := (first | omega | (simp only [List.length_append, List.length_map, List.length_cons, List.length_nil, List.length_take, List.length_drop]; omega))) only [push_cast, simprocAttr, hS1, hZ1, hf3, hf6, hzT, hiT, h0, h1, Nat.zero_le, Nat.le_refl] <;> rfl); first | exact .inl rfl | exact .inr (by simp))
      | (apply W.append cx_ok; decide; rfl; rfl; rfl; decide; (iterate 3 (simp (disch := (first | omega | (simp only [List.length_append, List.length_map, List.length_cons, List.length_nil, List.length_take, List.length_drop]; omega))) only [push_cast, simprocAttr, hS1, hZ1, hf3, hf6, hzT, hiT, h0, h1, Nat.zero_le, Nat.le_refl] <;> rfl)); (first | (focus (simp; done)) | (intro c hc; obtain ⟨x, _, rfl⟩ := List.mem_map.1 hc; rfl)); ((first | rfl | simp (disch := omega) only [push_cast])); ((try dsimp only); (try simp only [List.length_map, List.length_append, List.length_cons, List.length_nil, List.length_take, List.length_drop]); omega); ((try dsimp only); (try simp only [List.length_map, List.length_append, List.length_cons, List.length_nil, List.length_take, List.length_drop]); omega))
      | ((first | (apply W.callv cx_ok; decide) | (apply D.callv cx_ok; decide; decide) | (apply D.callvt cx_ok; decide; decide)); (iterate 2 (simp (disch := (first | omega | (simp only [List.length_append, List.length_map, List.length_cons, List.length_nil, List.length_take, List.length_drop]; omega))) only [push_cast, simprocAttr, hS1, hZ1, hf3, hf6, hzT, hiT, h0, h1, Nat.zero_le, Nat.le_refl] <;> rfl)); (with_reducible first | exact c1); try first | rfl | (simp (disch := (first | omega | (simp only [List.length_append, List.length_map, List.length_cons, List.length_nil, List.length_take, List.length_drop]; omega))) only [push_cast, simprocAttr, hS1, hZ1, hf3, hf6, hzT, hiT, h0, h1, Nat.zero_le, Nat.le_refl] <;> rfl))
      | ((first | apply W.retC | apply W.endC' | apply W.retM | apply W.endM' | apply W.ret1 | apply W.end1 | apply W.ret2 | apply W.end2 | apply W.ret3 | apply W.end3 | apply W.ret0 | apply W.end0); (iterate 2 (try (simp (disch := (first | omega | (simp only [List.length_append, List.length_map, List.length_cons, List.length_nil, List.length_take, List.length_drop]; omega))) only [push_cast, simprocAttr, hS1, hZ1, hf3, hf6, hzT, hiT, h0, h1, Nat.zero_le, Nat.le_refl] <;> rfl))))

    refine W.yield (by decide) (by simp (disch := omega) only [push_cast, simprocAttr, hS1, hZ1, hf3, hf6, hzT, hiT, h0, h1, Nat.zero_le, Nat.le_refl] <;> rfl) (va := [at_ (r1.extract 0 (I + 1).toNat)]) (by simp (disch := omega) only [push_cast, simprocAttr, hS1, hZ1, hf3, hf6, hzT, hiT, h0, h1, Nat.zero_le, Nat.le_refl] <;> rfl) (hJ.y p1 _ _ (r1.extract 0 (I + 1).toNat) hp11 (by (try simp (disch := omega) only [push_cast, simprocAttr]); (repeat (refine hJ.frame _ _ _ _ ?_ (by omega))); exact hp21) (show n0 ≤ s1.nx by omega) hHs (by omega)) ?_
    rintro b H2 nx2 ⟨hbb, hJ2, hn2q, hfr⟩
    have hn3 : s1.nx ≤ nx2 := hn2q
    have hid2 : Pg.rowAt H2 id = some (strR (r1.extract (I + 1).toNat r1.size)) := (rowAt_eqY (hfr id (.inl rfl) (show id < s1.nx by omega))).trans (by simp (disch := omega) only [push_cast, simprocAttr, hS1, hZ1, hf3, hf6, hzT, hiT, h0, h1, Nat.zero_le, Nat.le_refl] <;> rfl)
    cases hst : (f p1.1 (r1.extract 0 (I + 1).toNat)).2 with
    | true =>
      have hb0 : b = false := by rw [hbb, hst]; rfl
      subst hb0
      repeat' first
        | apply AW.seq | apply AW.region | apply AW.ret | apply AW.block | apply AW.skip | apply AW.exit | apply AW.scope | apply AW.label | apply AWL.nil | apply D.nil
        | refine W.draw cx_mixed (by decide +kernel) ?_
        | ((first | (apply W.step cx_ok; decide) | (apply D.step cx_ok; decide; decide) | apply W.store cx_ok | apply AW.cond); (simp (disch := (first | omega | (simp only [List.length_append, List.length_map, List.length_cons, List.length_nil, List.length_take, List.length_drop]; omega))) only [push_cast, simprocAttr, hS1, hZ1, hf3, hf6, hzT, hiT, h0, h1, Nat.zero_le, Nat.le_refl] <;> rfl); all_goals try ((with_reducible intro hI); try first | (cases hI; done) | (simp only [INTS, not_true_eq_false] at hI; try first | (exfalso; omega) | (have hT : True := hI; clear hT hI))))
        | (apply W.append cx_ok; decide; rfl; rfl; rfl; decide; (iterate 3 (simp (disch := (first | omega | (simp only [List.length_append, List.length_map, List.length_cons, List.length_nil, List.length_take, List.length_drop]; omega))) only [push_cast, simprocAttr, hS1, hZ1, hf3, hf6, hzT, hiT, h0, h1, Nat.zero_le, Nat.le_refl] <;> rfl)); (first | (focus (simp; done)) | (intro c hc; obtain ⟨x, _, rfl⟩ := List.mem_map.1 hc; rfl)); ((first | rfl | simp (disch := omega) only [push_cast])); ((try dsimp only); (try simp only [List.length_map, List.length_append, List.length_cons, List.length_nil, List.length_take, List.length_drop]); omega); ((try dsimp only); (try simp only [List.length_map, List.length_append, List.length_cons, List.length_nil, List.length_take, List.length_drop]); omega))

      all_goals
        ((try simp only [thenQ, blockQ, loopQ, scopeQ, if_true, reduceIte])
         first | apply W.retX (vs := []) | apply W.endX (vs := [])
         · rfl
         refine ⟨?_, ?_⟩
         · rw [linesF_stop _ _ _ hst] at hp01; rw [← hp01]; exact hJ2
         · show n0 ≤ nx2; omega)
    | false =>
      have hb0 : b = true := by rw [hbb, hst]; rfl
      subst hb0
      repeat' first
        | apply AW.seq | apply AW.region | apply AW.ret | apply AW.block | apply AW.skip | apply AW.exit | apply AW.scope | apply AW.label | apply AWL.nil | apply D.nil
        | refine W.draw cx_mixed (by decide +kernel) ?_
        | ((first | (apply W.step cx_ok; decide) | (apply D.step cx_ok; decide; decide) | apply W.store cx_ok | apply AW.cond); (simp (disch := (first | omega | (simp only [List.length_append, List.length_map, List.length_cons, List.length_nil, List.length_take, List.length_drop]; omega))) only [push_cast, simprocAttr, hS1, hZ1, hf3, hf6, hzT, hiT, h0, h1, Nat.zero_le, Nat.le_refl, hid2] <;> rfl); all_goals try ((with_reducible intro hI); try first | (cases hI; done) | (simp only [INTS, not_true_eq_false] at hI; try first | (exfalso; omega) | (have hT : True := hI; clear hT hI))))
        | (apply W.append cx_ok; decide; rfl; rfl; rfl; decide; (iterate 3 (simp (disch := (first | omega | (simp only [List.length_append, List.length_map, List.length_cons, List.length_nil, List.length_take, List.length_drop]; omega))) only [push_cast, simprocAttr, hS1, hZ1, hf3, hf6, hzT, hiT, h0, h1, Nat.zero_le, Nat.le_refl, hid2] <;> rfl)); (first | (focus (simp; done)) | (intro c hc; obtain ⟨x, _, rfl⟩ := List.mem_map.1 hc; rfl)); ((first | rfl | simp (disch := omega) only [push_cast])); ((try dsimp only); (try simp only [List.length_map, List.length_append, List.length_cons, List.length_nil, List.length_take, List.length_drop]); omega); ((try dsimp only); (try simp only [List.length_map, List.length_append, List.length_cons, List.length_nil, List.length_take, List.length_drop]); omega))

      all_goals
        (refine ⟨k1, ?_, k1, f p1.1 (r1.extract 0 (I + 1).toNat), (r1.extract (I + 1).toNat r1.size), rfl, hp01, hst, (by (try simp (disch := omega) only [push_cast, simprocAttr]); (repeat (refine hJ.frame _ _ _ _ ?_ (by omega))); exact hJ2), hTs, (by omega), ?_, ?_, ?_, ?_⟩; (omega); all_goals first | (simp (disch := omega) only [push_cast, simprocAttr, hS1, hZ1, hzT, hiT, h0, h1, Nat.zero_le, Nat.le_refl, hf3, hf6, hid2] <;> first | rfl | omega) | omega)
  · have hiF : (0 ≤ lnI r1) = False := eq_false hi
    rw [if_neg hi, if_neg hi] at hp01
    rw [if_neg hi] at hTs hHs
    generalize lnI r1 = I at *
    have hH1 : 1 ≤ r1.size := by omega
    have z2 : ByteArray.empty.size = 0 := rfl
    have hcg := hJ.grow p1.1 r1 hH1
    repeat' first
      | apply AW.seq | apply AW.region | apply AW.ret | apply AW.block | apply AW.skip | apply AW.exit | apply AW.scope | apply AW.label | apply AWL.nil | apply D.nil
      | refine AW.draw (id := 4) cx_mixed [9] [] [id] 0 (by decide +kernel) ?_
      | refine W.draw cx_mixed (by decide +kernel) ?_
      | ((first | (apply W.step cx_ok; decide) | (apply D.step cx_ok; decide; decide) | apply W.store cx_ok | apply AW.cond); (simp (disch := (first | omega | (simp only [List.length_append, List.length_map, List.length_cons, List.length_nil, List.length_take, List.length_drop]; omega))) only [push_cast, simprocAttr, hS1, hZ1, hf3, hf6, hzT, hiF] <;> rfl); all_goals try ((with_reducible intro hI); try first | (cases hI; done) | (simp only [INTS, not_true_eq_false] at hI; try first | (exfalso; omega) | (have hT : True := hI; clear hT hI))))
      | ((first | (apply D.store cx_ok; decide) | (apply D.stept cx_ok; decide; decide) | (apply D.stepm cx_ok; decide; decide)); (simp (disch := (first | omega | (simp only [List.length_append, List.length_map, List.length_cons, List.length_nil, List.length_take, List.length_drop]; omega))) only [push_cast, simprocAttr, hS1, hZ1, hf3, hf6, hzT, hiF] <;> rfl); try first | exact .inl rfl | exact .inr (by simp))
      | ((apply D.alloct cx_ok; decide; decide); (simp (disch := (first | omega | (simp only [List.length_append, List.length_map, List.length_cons, List.length_nil, List.length_take, List.length_drop]; omega))) only [push_cast, simprocAttr, hS1, hZ1, hf3, hf6, hzT, hiF] <;> rfl); first | exact .inl rfl | exact .inr (by simp))
      | (apply W.append cx_ok; decide; rfl; rfl; rfl; decide; (iterate 3 (simp (disch := (first | omega | (simp only [List.length_append, List.length_map, List.length_cons, List.length_nil, List.length_take, List.length_drop]; omega))) only [push_cast, simprocAttr, hS1, hZ1, hf3, hf6, hzT, hiF] <;> rfl)); (first | (focus (simp; done)) | (intro c hc; obtain ⟨x, _, rfl⟩ := List.mem_map.1 hc; rfl)); ((first | rfl | simp (disch := omega) only [push_cast])); ((try dsimp only); (try simp only [List.length_map, List.length_append, List.length_cons, List.length_nil, List.length_take, List.length_drop]); omega); ((try dsimp only); (try simp only [List.length_map, List.length_append, List.length_cons, List.length_nil, List.length_take, List.length_drop]); omega))
      | ((first | (apply W.callv cx_ok; decide) | (apply D.callv cx_ok; decide; decide) | (apply D.callvt cx_ok; decide; decide)); (iterate 2 (simp (disch := (first | omega | (simp only [List.length_append, List.length_map, List.length_cons, List.length_nil, List.length_take, List.length_drop]; omega))) only [push_cast, simprocAttr, hS1, hZ1, hf3, hf6, hzT, hiF] <;> rfl)); (with_reducible first | exact c1); try first | rfl | (simp (disch := (first | omega | (simp only [List.length_append, List.length_map, List.length_cons, List.length_nil, List.length_take, List.length_drop]; omega))) only [push_cast, simprocAttr, hS1, hZ1, hf3, hf6, hzT, hiF] <;> rfl))
      | ((first | apply W.retC | apply W.endC' | apply W.retM | apply W.endM' | apply W.ret1 | apply W.end1 | apply W.ret2 | apply W.end2 | apply W.ret3 | apply W.end3 | apply W.ret0 | apply W.end0); (iterate 2 (try (simp (disch := (first | omega | (simp only [List.length_append, List.length_map, List.length_cons, List.length_nil, List.length_take, List.length_drop]; omega))) only [push_cast, simprocAttr, hS1, hZ1, hf3, hf6, hzT, hiF] <;> rfl))))

    refine W.yield (by decide) (by simp (disch := omega) only [push_cast, simprocAttr, hS1, hZ1, hf3, hf6, hzT, hiF] <;> rfl) (va := [at_ r1]) (by simp (disch := omega) only [push_cast, simprocAttr, hS1, hZ1, hf3, hf6, hzT, hiF] <;> rfl) (hJ.y p1 _ _ r1 hp11 (by (try simp (disch := omega) only [push_cast, simprocAttr]); (repeat (refine hJ.frame _ _ _ _ ?_ (by omega))); exact hp21) (show n0 ≤ s1.nx by omega) hHs (by omega)) ?_
    rintro b H2 nx2 ⟨hbb, hJ2, hn2q, hfr⟩
    have hn3 : s1.nx ≤ nx2 := hn2q
    have hid2 : Pg.rowAt H2 id = some (strR ByteArray.empty) := (rowAt_eqY (hfr id (.inl rfl) (show id < s1.nx by omega))).trans (by simp (disch := omega) only [push_cast, simprocAttr, hS1, hZ1, hf3, hf6, hzT, hiF] <;> rfl)
    cases hst : (f p1.1 r1).2 with
    | true =>
      have hb0 : b = false := by rw [hbb, hst]; rfl
      subst hb0
      repeat' first
        | apply AW.seq | apply AW.region | apply AW.ret | apply AW.block | apply AW.skip | apply AW.exit | apply AW.scope | apply AW.label | apply AWL.nil | apply D.nil
        | refine W.draw cx_mixed (by decide +kernel) ?_
        | ((first | (apply W.step cx_ok; decide) | (apply D.step cx_ok; decide; decide) | apply W.store cx_ok | apply AW.cond); (simp (disch := (first | omega | (simp only [List.length_append, List.length_map, List.length_cons, List.length_nil, List.length_take, List.length_drop]; omega))) only [push_cast, simprocAttr, hS1, hZ1, hf3, hf6, hzT, hiF] <;> rfl); all_goals try ((with_reducible intro hI); try first | (cases hI; done) | (simp only [INTS, not_true_eq_false] at hI; try first | (exfalso; omega) | (have hT : True := hI; clear hT hI))))
        | (apply W.append cx_ok; decide; rfl; rfl; rfl; decide; (iterate 3 (simp (disch := (first | omega | (simp only [List.length_append, List.length_map, List.length_cons, List.length_nil, List.length_take, List.length_drop]; omega))) only [push_cast, simprocAttr, hS1, hZ1, hf3, hf6, hzT, hiF] <;> rfl)); (first | (focus (simp; done)) | (intro c hc; obtain ⟨x, _, rfl⟩ := List.mem_map.1 hc; rfl)); ((first | rfl | simp (disch := omega) only [push_cast])); ((try dsimp only); (try simp only [List.length_map, List.length_append, List.length_cons, List.length_nil, List.length_take, List.length_drop]); omega); ((try dsimp only); (try simp only [List.length_map, List.length_append, List.length_cons, List.length_nil, List.length_take, List.length_drop]); omega))

      all_goals
        ((try simp only [thenQ, blockQ, loopQ, scopeQ, if_true, reduceIte])
         first | apply W.retX (vs := []) | apply W.endX (vs := [])
         · rfl
         refine ⟨?_, ?_⟩
         · rw [linesF_stop _ _ _ hst] at hp01; rw [← hp01]; exact hJ2
         · show n0 ≤ nx2; omega)
    | false =>
      have hb0 : b = true := by rw [hbb, hst]; rfl
      subst hb0
      repeat' first
        | apply AW.seq | apply AW.region | apply AW.ret | apply AW.block | apply AW.skip | apply AW.exit | apply AW.scope | apply AW.label | apply AWL.nil | apply D.nil
        | refine W.draw cx_mixed (by decide +kernel) ?_
        | ((first | (apply W.step cx_ok; decide) | (apply D.step cx_ok; decide; decide) | apply W.store cx_ok | apply AW.cond); (simp (disch := (first | omega | (simp only [List.length_append, List.length_map, List.length_cons, List.length_nil, List.length_take, List.length_drop]; omega))) only [push_cast, simprocAttr, hS1, hZ1, hf3, hf6, hzT, hiF, hid2] <;> rfl); all_goals try ((with_reducible intro hI); try first | (cases hI; done) | (simp only [INTS, not_true_eq_false] at hI; try first | (exfalso; omega) | (have hT : True := hI; clear hT hI))))
        | (apply W.append cx_ok; decide; rfl; rfl; rfl; decide; (iterate 3 (simp (disch := (first | omega | (simp only [List.length_append, List.length_map, List.length_cons, List.length_nil, List.length_take, List.length_drop]; omega))) only [push_cast, simprocAttr, hS1, hZ1, hf3, hf6, hzT, hiF, hid2] <;> rfl)); (first | (focus (simp; done)) | (intro c hc; obtain ⟨x, _, rfl⟩ := List.mem_map.1 hc; rfl)); ((first | rfl | simp (disch := omega) only [push_cast])); ((try dsimp only); (try simp only [List.length_map, List.length_append, List.length_cons, List.length_nil, List.length_take, List.length_drop]); omega); ((try dsimp only); (try simp only [List.length_map, List.length_append, List.length_cons, List.length_nil, List.length_take, List.length_drop]); omega))

      all_goals
        (refine ⟨k1, ?_, k1, f p1.1 r1, ByteArray.empty, rfl, hp01, hst, (by (try simp (disch := omega) only [push_cast, simprocAttr]); (repeat (refine hJ.frame _ _ _ _ ?_ (by omega))); exact hJ2), hTs, (by omega), ?_, ?_, ?_, ?_⟩; (omega); all_goals first | (simp (disch := omega) only [push_cast, simprocAttr, hS1, hZ1, hzT, hiF, hf3, hf6, hid2] <;> first | rfl | omega) | omega)
end Go.Proofs.Hz

set_option maxRecDepth 100000
set_option maxHeartbeats 4000000
namespace Go.Proofs.Hz
open Go Go.Pg Go.Proofs Go.RowKit Go.Tx
def cntH (h : House) : Nat := h.rooms.length + h.doors.length + h.ways.length
def FitD (h : House) : Prop := (∀ r ∈ h.rooms, r.name.size ≤ 1048576) ∧ ∀ d ∈ h.doors, d.hours.length ≤ 1048576 ∧ d.shut.length ≤ 1048576
theorem FitD.fit {h : House} (hf : FitD h) (hk : cntH h ≤ 1048576) : h.Fit := by
  unfold cntH at hk
  exact ⟨fun r hr => Nat.le_trans (hf.1 r hr) (by omega), hf.2, by omega, by omega, by omega⟩
theorem doorI_len : ∀ (l : List ByteArray) (b : Bool) (d : Door), (doorI l b d).hours.length ≤ d.hours.length + l.length ∧ (doorI l b d).shut.length ≤ d.shut.length + l.length
  | [], _, d => ⟨Nat.le_add_right _ _, Nat.le_add_right _ _⟩
  | x :: l, b, d => by
    unfold doorI
    rw [List.length_cons]
    split
    · have := doorI_len l true d; omega
    · refine ⟨Nat.le_trans (doorI_len l b _).1 ?_, Nat.le_trans (doorI_len l b _).2 ?_⟩ <;> (cases b <;> simp <;> omega)
theorem stepT_cnt1 (h : House) (x : ByteArray) : cntH (stepT h x).1 ≤ cntH h + 1 := by
  unfold stepT cntH
  split
  · simp only [List.length_append, List.length_cons, List.length_nil]; omega
  · split
    · simp only [List.length_append, List.length_cons, List.length_nil]; omega
    · split
      · simp only [List.length_append, List.length_cons, List.length_nil]; omega
      · show h.rooms.length + h.doors.length + h.ways.length ≤ _; omega
theorem stepT_cnt (h : House) (x : ByteArray) (hx : 1 ≤ x.size) : cntH (stepT h x).1 ≤ cntH h + x.size := Nat.le_trans (stepT_cnt1 h x) (by omega)
theorem stepT_fit {h : House} {x : ByteArray} (hf : FitD h) (hs : x.size ≤ 1000000) : FitD (stepT h x).1 := by
  have hb := bare_size x
  have hsz : ∀ w ∈ Tx.wordsB 32 (bareB x), w.size ≤ 1048576 := fun w hw => Nat.le_trans (Tx.wordsB_size hw) (by omega)
  have hc := wordsB_count 32 (bareB x)
  unfold stepT
  generalize Tx.wordsB 32 (bareB x) = WW at *
  split
  · refine ⟨fun r hr => ?_, hf.2⟩
    rcases List.mem_append.1 hr with hr | hr
    · exact hf.1 r hr
    · rw [List.mem_singleton.1 hr]; exact wAt_size hsz 1
  · split
    · refine ⟨hf.1, fun d hd => ?_⟩
      rcases List.mem_append.1 hd with hd | hd
      · exact hf.2 d hd
      · rw [List.mem_singleton.1 hd]
        have := doorI_len (WW.drop 1) false ⟨[], []⟩
        rw [List.length_drop] at this
        simp only [List.length_nil] at this
        omega
    · split <;> exact hf
theorem AW.settleD {C : Cx} {N : Nat} {Q : Exit → St → Prop} {s : St} {c : Code} (m : Nat) {A B : List Span}
    (h1 : Pg.rowAt s.H m = some { k := 2, es := [[.ref (m + 1) 0 A.length, .ref (m + 2) 0 B.length]], ty := 38 }) (h2 : Pg.rowAt s.H (m + 1) = some { k := 2, es := A.map eSpan, ty := 51, lo := A.length }) (h3 : Pg.rowAt s.H (m + 2) = some { k := 2, es := B.map eSpan, ty := 51, lo := B.length })
    (h : ∀ H3, Pg.rowAt H3 m = some { k := 2, es := [[lSpan A, lSpan B]], ty := 38 } → (∀ j, j ≠ m → j ≠ m + 1 → j ≠ m + 2 → H3 j = s.H j) → AW C N c Q { s with H := H3 }) : AW C N c Q s := by
  have hv : ∀ (i : Nat) (L : List Span), Pg.rowAt s.H i = some { k := 2, es := L.map eSpan, ty := 51, lo := L.length } → viewA s.H (.ref i 0 L.length) = some (lSpan L) := by
    intro i L hi
    unfold viewA
    rw [hi]
    dsimp only
    rw [if_pos ⟨by omega, by rw [List.length_map]; omega, pure_spans L⟩, List.drop_zero, List.take_of_length_le (by simp)]
  refine AW.settle m [m + 1, m + 2] (es' := [[lSpan A, lSpan B]]) h1 (fun i hi => ?_) (by simp) rfl (fun i e e' he he' => ?_) (h _ ?_ ?_)
  · simp only [List.mem_cons, List.not_mem_nil, or_false] at hi
    rcases hi with rfl | rfl
    · exact ⟨_, h2⟩
    · exact ⟨_, h3⟩
  · cases i with
    | succ i => simp at he
    | zero =>
      simp only [List.getElem?_cons_zero, Option.some.injEq] at he he'
      subst he; subst he'
      refine ⟨rfl, fun j a b ha hb => ?_⟩
      match j with
      | 0 =>
        simp only [List.getElem?_cons_zero, Option.some.injEq] at ha hb
        subst ha; subst hb
        exact ⟨.view (hv _ A h2), fun x hx => by simp only [idsA, List.mem_singleton] at hx; rw [hx]; simp⟩
      | 1 =>
        simp only [List.getElem?_cons_succ, List.getElem?_cons_zero, Option.some.injEq] at ha hb
        subst ha; subst hb
        exact ⟨.view (hv _ B h3), fun x hx => by simp only [idsA, List.mem_singleton] at hx; rw [hx]; simp⟩
      | j + 2 => simp at ha
  · unfold Pg.rowAt updH
    rw [if_pos rfl]
  · intro j n1 n2 n3
    simp only [updH, frz]
    rw [if_neg n1, if_neg (by simp [n2, n3])]
end Go.Proofs.Hz
