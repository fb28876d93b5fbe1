/-
  Contracts of functions, proved by going through their code. No conditions.
-/
import Derived.Test.YtbeiiipphicdlaaGreatDoorTau
import Derived.Test.YtbeiiipphicdlaaGreatDoorTay
import Derived.Test.YtbeiiipphicdlaaGreatDoorTaz
set_option linter.unusedVariables false
set_option linter.unusedSimpArgs false
set_option maxHeartbeats 8000000
set_option maxRecDepth 10000
namespace Go.Proofs.Hz
open Go Go.Pg Go.Proofs Go.Tx
attribute [local push_cast] Bool.and_false Bool.and_self Bool.and_true Bool.false_and Bool.false_eq_true Bool.not_false Bool.not_true Bool.true_and List.all_append List.all_cons List.all_nil List.append_nil List.cons_append List.isEmpty_cons List.length_append List.length_cons List.length_drop List.length_nil List.length_take List.map_append List.map_cons List.map_nil List.mem_cons List.nil_append List.not_mem_nil List.take_length List.take_of_length_le Nat.add_assoc Nat.le_refl Nat.zero_add Nat.zero_le St.back TyD.isAgg and_self and_true dropM idsA idsL isEmpty_map leT natNe pureA pureL pure_doors rowAt_aftJ takeM true_and
theorem rowAt_eqI {H H' : Nat → Option AO} {i : Nat} (h : H' i = H i) : Pg.rowAt H' i = Pg.rowAt H i := by unfold Pg.rowAt; rw [h]
def FitK (h : House) (k : Nat) : Prop := h.rooms.length + h.doors.length + h.ways.length ≤ k ∧ (∀ r ∈ h.rooms, r.name.size ≤ 1048576) ∧ ∀ d ∈ h.doors, d.hours.length ≤ 1048576 ∧ d.shut.length ≤ 1048576
theorem fitK_none : FitK hNone 0 := ⟨Nat.le_refl _, by simp [hNone], by simp [hNone]⟩
theorem FitK.fit {h : House} {k : Nat} (hf : FitK h k) (hk : k ≤ 1048576) : h.Fit := by
  obtain ⟨h1, h2, h3⟩ := hf
  exact ⟨fun r hr => Nat.le_trans (h2 r hr) (by omega), h3, by omega, by omega, by omega⟩
theorem FitK.mono {h : House} {k k' : Nat} (hf : FitK h k) (hk : k ≤ k') : FitK h k' := ⟨Nat.le_trans hf.1 hk, hf.2⟩
theorem FitK.room {h : House} {k : Nat} (hf : FitK h k) (r : Room) (hr : r.name.size ≤ 1048576) : FitK ⟨h.rooms ++ [r], h.doors, h.ways⟩ (k + 1) := by
  refine ⟨?_, fun x hx => ?_, hf.2.2⟩
  · have := hf.1; simp only [List.length_append, List.length_cons, List.length_nil]; omega
  · rcases List.mem_append.1 hx with hx | hx
    · exact hf.2.1 x hx
    · rw [List.mem_singleton.1 hx]; exact hr
theorem FitK.door {h : House} {k : Nat} (hf : FitK h k) (d : Door) (hd : d.hours.length ≤ 1048576 ∧ d.shut.length ≤ 1048576) : FitK ⟨h.rooms, h.doors ++ [d], h.ways⟩ (k + 1) := by
  refine ⟨?_, hf.2.1, fun x hx => ?_⟩
  · have := hf.1; simp only [List.length_append, List.length_cons, List.length_nil]; omega
  · rcases List.mem_append.1 hx with hx | hx
    · exact hf.2.2 x hx
    · rw [List.mem_singleton.1 hx]; exact hd
theorem FitK.way {h : House} {k : Nat} (hf : FitK h k) (w : Way) : FitK ⟨h.rooms, h.doors, h.ways ++ [w]⟩ (k + 1) := by
  refine ⟨?_, hf.2⟩
  have := hf.1; simp only [List.length_append, List.length_cons, List.length_nil]; omega
theorem wAt_size {w : List ByteArray} {n : Nat} (h : ∀ x ∈ w, x.size ≤ n) (i : Nat) : (wAt w i).size ≤ n := by
  unfold wAt
  rw [List.getD_eq_getElem?_getD]
  cases hh : w[i]? with
  | none => exact Nat.zero_le _
  | some x => exact h x (List.mem_of_getElem? hh)
theorem hoursD_len : ∀ (l : List ByteArray) (b : Bool) (d : Door), (hoursD l b d).1.hours.length ≤ d.hours.length + l.length ∧ (hoursD l b d).1.shut.length ≤ d.shut.length + l.length
  | [], _, d => ⟨Nat.le_add_right _ _, Nat.le_add_right _ _⟩
  | x :: l, b, d => by
    unfold hoursD
    rw [List.length_cons]
    split
    · have := hoursD_len l true d; omega
    · split
      · refine ⟨Nat.le_trans (hoursD_len l b _).1 ?_, Nat.le_trans (hoursD_len l b _).2 ?_⟩ <;> (cases b <;> simp <;> omega)
      · exact ⟨Nat.zero_le _, Nat.zero_le _⟩
theorem withD_fit {h : House} {k : Nat} {line : ByteArray} (hf : FitK h k) (hs : line.size ≤ 1000000) : FitK (withD h line).1 (k + 1) := by
  have hsz : ∀ w ∈ Tx.wordsB 32 line, w.size ≤ 1048576 := fun w hw => Nat.le_trans (Tx.wordsB_size hw) (by omega)
  have hc := wordsB_count 32 line
  unfold withD
  generalize Tx.wordsB 32 line = WW at *
  unfold withW
  split
  · exact hf.room _ (wAt_size hsz 1)
  · split
    · have := hoursD_len (WW.drop 1) false dNone
      rw [List.length_drop] at this
      refine hf.door _ ⟨?_, ?_⟩
      · have h1 := this.1; have h2 : dNone.hours.length = 0 := rfl; omega
      · have h1 := this.2; have h2 : dNone.shut.length = 0 := rfl; omega
    · split
      · split
        · exact hf.way _
        · exact hf.mono (by omega)
      · exact hf.mono (by omega)
theorem RParse_ok (s0 : ByteArray) (hs : s0.size ≤ 1000000) : OKv cx 10 [at_ s0] (.tup [.agg (eHouse (parseD s0).1), ai (parseD s0).2]) := by
  obtain ⟨FIN, hFIN⟩ : ∃ z, parseD s0 = z := ⟨_, rfl⟩
  rw [hFIN]
  unfold parseD at hFIN
  have c0 : OKv cx 33 [at_ s0, .v (.int .u8 10)] (.lst ((Tx.wordsB 10 s0).map eStr)) := RWords_ok s0 10 (by omega)
  have hcount := wordsB_count 10 s0
  have hsz : ∀ w ∈ Tx.wordsB 10 s0, w.size ≤ 1000000 := fun w hw => Nat.le_trans (Tx.wordsB_size hw) hs
  generalize Tx.wordsB 10 s0 = WW at *
  obtain ⟨RES, hRES⟩ : ∃ z, foldD WW hNone = z := ⟨_, rfl⟩
  rw [hRES] at hFIN
  have hf3 : ∀ x, flatA (.v x) = true := fun _ => rfl
  have hf5 : ∀ x y, flatA (.tup [.v x, .v y]) = true := fun _ _ => rfl
  have hf5b : ∀ x y z, flatA (.tup [.v x, .v y, .v z]) = true := fun _ _ _ => rfl
  have hf6 : ∀ l, flatA (.lst l) = false := fun _ => rfl
  have hf7 : ∀ l x, flatA (.tup [.lst l, .v x]) = false := fun _ _ => rfl
  have hf9 : ∀ H ids x y, afterH H ids (.tup [.v x, .v y]) = H := fun _ _ _ _ => rfl
  refine OKat.of_bodyM cx_ok (rs := [.cell 2 26, .tmp 3]) Tryz.func10 rfl (by decide +kernel) rfl (by simp [Tryz.ntmps10]) ?_
  simp only [Tryz.ntmps10]
  repeat' first
    | apply AW.seq | apply AW.region | apply AW.ret | apply AW.block | apply AW.skip | apply AW.exit | apply AW.scope | apply AW.label | apply AWL.nil | apply D.nil
    | refine W.draw cx_mixed (by decide +kernel) ?_
    | ((first | (apply W.step cx_ok; decide) | (apply D.step cx_ok; decide; decide) | apply W.store cx_ok | (apply W.gS; rfl; decide) | (apply D.gS; rfl; decide; decide) | apply AW.cond); (simp (disch := (first | omega | (simp only [List.length_append, List.length_map, List.length_cons, List.length_nil, List.length_take, List.length_drop]; omega))) only [push_cast, simprocAttr, hf3, hf5, hf5b, hf6, hf7, hf9] <;> rfl); all_goals try ((with_reducible intro hI); try first | (cases hI; done) | (simp only [INTS, not_true_eq_false] at hI; try first | (exfalso; omega) | (have hT : True := hI; clear hT hI))))
    | (apply W.append cx_ok; decide; rfl; rfl; rfl; decide; (iterate 3 (simp (disch := (first | omega | (simp only [List.length_append, List.length_map, List.length_cons, List.length_nil, List.length_take, List.length_drop]; omega))) only [push_cast, simprocAttr, hf3, hf5, hf5b, hf6, hf7, hf9] <;> rfl)); (first | (focus (simp; done)) | (intro c hc; obtain ⟨x, _, rfl⟩ := List.mem_map.1 hc; rfl)); ((first | rfl | simp (disch := omega) only [push_cast])); ((try dsimp only); (try simp only [List.length_map, List.length_append, List.length_cons, List.length_nil, List.length_take, List.length_drop]); omega); ((try dsimp only); (try simp only [List.length_map, List.length_append, List.length_cons, List.length_nil, List.length_take, List.length_drop]); omega))
    | ((first | (apply W.callv cx_ok; decide) | (apply D.callv cx_ok; decide; decide)); (iterate 2 (simp (disch := (first | omega | (simp only [List.length_append, List.length_map, List.length_cons, List.length_nil, List.length_take, List.length_drop]; omega))) only [push_cast, simprocAttr, hf3, hf5, hf5b, hf6, hf7, hf9] <;> rfl)); (with_reducible first | exact c0); try first | rfl | (simp (disch := (first | omega | (simp only [List.length_append, List.length_map, List.length_cons, List.length_nil, List.length_take, List.length_drop]; omega))) only [push_cast, simprocAttr, hf3, hf5, hf5b, hf6, hf7, hf9] <;> rfl))
    | ((first | apply W.retM | apply W.endM'); (iterate 2 (try (simp (disch := (first | omega | (simp only [List.length_append, List.length_map, List.length_cons, List.length_nil, List.length_take, List.length_drop]; omega))) only [push_cast, simprocAttr, hf3, hf5, hf5b, hf6, hf7, hf9] <;> rfl))))

  refine AW.adoptCell 1 0 0 2 62 (r := { k := 3, es := [[.v (.slice none 0 0), .v (.slice none 0 0), .v (.slice none 0 0)]], ty := 26 }) (by simp (disch := omega) only [push_cast, simprocAttr, hf3, hf5, hf5b, hf6, hf7, hf9] <;> rfl) rfl ?_
  refine AW.adoptCell 1 0 1 2 38 (r := { k := 3, es := [[.ref 2 0 0, .v (.slice none 0 0), .v (.slice none 0 0)]], ty := 26 }) (by simp (disch := omega) only [push_cast, simprocAttr, hf3, hf5, hf5b, hf6, hf7, hf9] <;> rfl) rfl ?_
  refine AW.adoptCell 1 0 2 5 72 (r := { k := 3, es := [[.ref 2 0 0, .ref 3 0 0, .v (.slice none 0 0)]], ty := 26 }) (by simp (disch := omega) only [push_cast, simprocAttr, hf3, hf5, hf5b, hf6, hf7, hf9] <;> rfl) rfl ?_
  refine AW.loop (fun n s => ∃ (k : Nat) (h : House) (rest : List ByteArray), n = rest.length ∧ (WW.drop k = rest) ∧ (foldD rest h = RES) ∧ (FitK h k) ∧ (k ≤ WW.length) ∧ 5 ≤ s.nx ∧ s.tm 0 = at_ s0 ∧ s.tm 2 = .ptr 0 0 0 1 ∧ s.tm 4 = .ptr 1 0 0 1 ∧ s.tm 5 = .lst (WW.map eStr) ∧ s.tm 6 = ai k ∧ Pg.rowAt s.H (0) = some ({ k := 3, es := [[.v (.slice none 0 0), .v (.slice none 0 0), .v (.slice none 0 0)]], ty := 26 }) ∧ Pg.rowAt s.H (1) = some ({ k := 3, es := [[.ref 2 0 h.rooms.length, .ref 3 0 h.doors.length, .ref 4 0 h.ways.length]], ty := 26 }) ∧ Pg.rowAt s.H (2) = some ({ k := 2, es := h.rooms.map eRoom, ty := 62, lo := h.rooms.length }) ∧ Pg.rowAt s.H (3) = some ({ k := 2, es := h.doors.map eDoor, ty := 38, lo := h.doors.length }) ∧ Pg.rowAt s.H (4) = some ({ k := 5, es := h.ways.map eWay, ty := 72, lo := h.ways.length })) (WW.length) ⟨0, hNone, WW, rfl, rfl, hRES, (fitK_none), (Nat.zero_le _), ?_, ?_, ?_, ?_, ?_, ?_, ?_, ?_, ?_, ?_, ?_⟩ ?_
  iterate 11 (first | (simp (disch := omega) only [push_cast, simprocAttr, hf3, hf5, hf5b, hf6, hf7, hf9] <;> first | rfl | omega) | omega)
  rintro n1 s1 ⟨k1, h1, rest1, hn1, hp01, hp11, hp21, hp31, hnl1, hS1⟩
  have hZ1 : (0 : Nat) ≠ s1.nx ∧ s1.nx ≠ (0 : Nat) ∧ (1 : Nat) ≠ s1.nx ∧ s1.nx ≠ (1 : Nat) ∧ (2 : Nat) ≠ s1.nx ∧ s1.nx ≠ (2 : Nat) ∧ (3 : Nat) ≠ s1.nx ∧ s1.nx ≠ (3 : Nat) ∧ (4 : Nat) ≠ s1.nx ∧ s1.nx ≠ (4 : Nat) := by omega
  refine AW.fresh fun hfr1 => ?_
  have hlen := congrArg List.length hp01
  rw [List.length_drop] at hlen
  by_cases hc : k1 + 1 < WW.length
  · have hcT : ((k1 : Int) + 1 < (WW.length : Int)) = True := eq_true (by omega)
    rcases rest1 with _ | ⟨x, rest1⟩
    · simp only [List.length_nil] at hlen; omega
    have hne : rest1 ≠ [] := fun e => by rw [e] at hlen; simp only [List.length_cons, List.length_nil] at hlen; omega
    obtain ⟨hkk, hg, hd', hl', hm', hx⟩ := drop_cons hp01 eStr []
    rw [foldD, if_neg hne] at hp11
    have hxs := hsz x hm'
    have hk1 := hp21.1
    obtain ⟨F, nx2, hW, hF⟩ := With_m h1 x (by omega) (by omega) (by omega) (by omega) (s1.nx + 12) (by omega)
    have r2 : Pg.rowAt s1.H 2 = some ({ k := 2, es := h1.rooms.map eRoom, ty := 62, lo := h1.rooms.length }) := by simp only [hS1]
    have r3 : Pg.rowAt s1.H 3 = some ({ k := 2, es := h1.doors.map eDoor, ty := 38, lo := h1.doors.length }) := by simp only [hS1]
    have r4 : Pg.rowAt s1.H 4 = some ({ k := 5, es := h1.ways.map eWay, ty := 72, lo := h1.ways.length }) := by simp only [hS1]
    have u9 : ∀ j, j < s1.nx → updH s1.H (s1.nx + 9) (.row ({ k := 3, es := [[.v (.slice none 0 0), .v (.slice none 0 0), .v (.slice none 0 0)]], ty := 26 })) j = s1.H j := fun j hj => by simp only [updH]; rw [if_neg (by omega)]
    obtain ⟨hc2, q2, q3, q4, hnx2', hkeep⟩ := hW s1.H r2 r3 r4
    have hc3 := (hW (updH s1.H (s1.nx + 9) (.row ({ k := 3, es := [[.v (.slice none 0 0), .v (.slice none 0 0), .v (.slice none 0 0)]], ty := 26 }))) ((rowAt_eqI (u9 2 (by omega))).trans r2) ((rowAt_eqI (u9 3 (by omega))).trans r3) ((rowAt_eqI (u9 4 (by omega))).trans r4)).1
    rw [hF s1.H (s1.nx + 9) _ (by omega) (by omega)] at hc3
    clear hW hF
    generalize F s1.H = H2 at *
    have hH2n : H2 (s1.nx + 9) = none := (hkeep (s1.nx + 9) (by omega) (by omega) (by omega) (by omega)).trans (hfr1 _ (by omega))
    have hnx2 : s1.nx + 12 ≤ nx2 := hnx2'
    have hfit := withD_fit hp21 hxs
    have k0 : Pg.rowAt H2 0 = some ({ k := 3, es := [[.v (.slice none 0 0), .v (.slice none 0 0), .v (.slice none 0 0)]], ty := 26 }) := (rowAt_eqI (hkeep 0 (by omega) (by decide) (by decide) (by decide))).trans (by simp only [hS1])
    have k1f : Pg.rowAt H2 1 = some ({ k := 3, es := [[.ref 2 0 h1.rooms.length, .ref 3 0 h1.doors.length, .ref 4 0 h1.ways.length]], ty := 26 }) := (rowAt_eqI (hkeep 1 (by omega) (by decide) (by decide) (by decide))).trans (by simp only [hS1])
    have hav2 : ∀ id x, id ∉ [2, 3, 4, s1.nx + 9] → s1.H id = some x → H2 id = some x := by
      intro id x hn hx
      simp only [List.mem_cons, List.not_mem_nil, or_false, not_or] at hn
      have hlt : id < s1.nx := Nat.lt_of_not_le fun hle => by rw [hfr1 id hle] at hx; cases hx
      rw [hkeep id (by omega) hn.1 hn.2.1 hn.2.2.1]; exact hx
    generalize withD h1 x = V at *
    obtain ⟨h', ok⟩ := V
    dsimp only at hc2 hc3 q2 q3 q4 hfit hp11
    have hcall : ∀ A Hx nn, A = [.agg [.ref 2 0 h1.rooms.length, .ref 3 0 h1.doors.length, .ref 4 0 h1.ways.length], at_ x] → Hx = s1.H → nn = s1.nx + 12 → OKm cx 34 A Hx nn (fun r g n => r = .tup [.agg [.ref 2 0 h'.rooms.length, .ref 3 0 h'.doors.length, .ref 4 0 h'.ways.length], ab ok] ∧ g = H2 ∧ n = nx2) := by
      rintro _ _ _ rfl rfl rfl
      exact hc2 _ ⟨rfl, rfl, rfl⟩
    have hcall2 : ∀ A Hx nn, A = [.agg [.ref 2 0 h1.rooms.length, .ref 3 0 h1.doors.length, .ref 4 0 h1.ways.length], at_ x] → Hx = updH s1.H (s1.nx + 9) (.row ({ k := 3, es := [[.v (.slice none 0 0), .v (.slice none 0 0), .v (.slice none 0 0)]], ty := 26 })) → nn = s1.nx + 12 → OKm cx 34 A Hx nn (fun r g n => r = .tup [.agg [.ref 2 0 h'.rooms.length, .ref 3 0 h'.doors.length, .ref 4 0 h'.ways.length], ab ok] ∧ g = updH H2 (s1.nx + 9) (.row ({ k := 3, es := [[.v (.slice none 0 0), .v (.slice none 0 0), .v (.slice none 0 0)]], ty := 26 })) ∧ n = nx2) := by
      rintro _ _ _ rfl rfl rfl
      exact hc3 _ ⟨rfl, rfl, rfl⟩
    clear hc2 hc3
    cases ok with
    | false =>
      rw [if_neg Bool.false_ne_true] at hp11
      have hF : FIN = (hNone, 7) := by rw [← hFIN, ← hp11, if_neg (fun e => by have := e.1; cases this)]
      subst hF
      repeat' first
        | apply DX.nil
        | ((apply X.step cx_ok; decide; decide); (simp (disch := (first | omega | (simp only [List.length_append, List.length_map, List.length_cons, List.length_nil, List.length_take, List.length_drop, List.length_nil]; omega))) only [push_cast, simprocAttr, hS1, hZ1, hfr1, hf3, hf5, hf5b, hf6, hf7, hf9, hkk, hg, hx, hcT, k0, k1f, q2, q3, q4] <;> rfl); all_goals try ((with_reducible intro hI); try first | (cases hI; done) | (simp only [INTS, not_true_eq_false] at hI; try first | (exfalso; omega) | (have hT : True := hI; clear hT hI))))
        | ((first | (apply X.stept cx_ok; decide; decide) | (apply X.stepm cx_ok; decide; decide)); (simp (disch := (first | omega | (simp only [List.length_append, List.length_map, List.length_cons, List.length_nil, List.length_take, List.length_drop, List.length_nil]; omega))) only [push_cast, simprocAttr, hS1, hZ1, hfr1, hf3, hf5, hf5b, hf6, hf7, hf9, hkk, hg, hx, hcT, k0, k1f, q2, q3, q4] <;> rfl))
        | ((apply X.alloc cx_ok; decide; decide); (simp (disch := (first | omega | (simp only [List.length_append, List.length_map, List.length_cons, List.length_nil, List.length_take, List.length_drop, List.length_nil]; omega))) only [push_cast, simprocAttr, hS1, hZ1, hfr1, hf3, hf5, hf5b, hf6, hf7, hf9, hkk, hg, hx, hcT, k0, k1f, q2, q3, q4] <;> rfl))
        | ((apply X.store cx_ok; decide); (simp (disch := (first | omega | (simp only [List.length_append, List.length_map, List.length_cons, List.length_nil, List.length_take, List.length_drop, List.length_nil]; omega))) only [push_cast, simprocAttr, hS1, hZ1, hfr1, hf3, hf5, hf5b, hf6, hf7, hf9, hkk, hg, hx, hcT, k0, k1f, q2, q3, q4] <;> rfl); (focus (simp; done)))
        | ((apply X.callm cx_ok; decide; decide); (simp (disch := (first | omega | (simp only [List.length_append, List.length_map, List.length_cons, List.length_nil, List.length_take, List.length_drop, List.length_nil]; omega))) only [push_cast, simprocAttr, hS1, hZ1, hfr1, hf3, hf5, hf5b, hf6, hf7, hf9, hkk, hg, hx, hcT, k0, k1f, q2, q3, q4] <;> rfl); (refine hcall _ _ _ ?_ ?_ ?_); (iterate 3 (simp (disch := (first | omega | (simp only [List.length_append, List.length_map, List.length_cons, List.length_nil, List.length_take, List.length_drop, List.length_nil]; omega))) only [push_cast, simprocAttr, hS1, hZ1, hfr1, hf3, hf5, hf5b, hf6, hf7, hf9, hkk, hg, hx, hcT, k0, k1f, q2, q3, q4] <;> rfl)); (refine hcall2 _ _ _ ?_ ?_ ?_); (iterate 3 (simp (disch := (first | omega | (simp only [List.length_append, List.length_map, List.length_cons, List.length_nil, List.length_take, List.length_drop, List.length_nil]; omega))) only [push_cast, simprocAttr, hS1, hZ1, hfr1, hf3, hf5, hf5b, hf6, hf7, hf9, hkk, hg, hx, hcT, k0, k1f, q2, q3, q4] <;> rfl)); exact hH2n; exact hnx2; exact hav2)
        | refine AW.drawX (id := 6) cx_mixed [5, 10, 11] [6, 7, 8] [2, 3, 4, s1.nx + 9] 12 5 9 ({ k := 3, es := [[.v (.slice none 0 0), .v (.slice none 0 0), .v (.slice none 0 0)]], ty := 26 }) (by decide +kernel) (by decide +kernel) (by decide) (by simp (disch := (first | omega | (simp only [List.length_append, List.length_map, List.length_cons, List.length_nil, List.length_take, List.length_drop, List.length_nil]; omega))) only [push_cast, simprocAttr, hS1, hZ1, hfr1, hf3, hf5, hf5b, hf6, hf7, hf9, hkk, hg, hx, hcT, k0, k1f, q2, q3, q4]) ?_
        | apply AW.seq | apply AW.region | apply AW.ret | apply AW.block | apply AW.skip | apply AW.exit | apply AW.scope | apply AW.label | apply AWL.nil | apply D.nil
        | refine W.draw cx_mixed (by decide +kernel) ?_
        | ((first | (apply W.step cx_ok; decide) | (apply D.step cx_ok; decide; decide) | apply W.store cx_ok | (apply W.gS; rfl; decide) | (apply D.gS; rfl; decide; decide) | apply AW.cond); (simp (disch := (first | omega | (simp only [List.length_append, List.length_map, List.length_cons, List.length_nil, List.length_take, List.length_drop, List.length_nil]; omega))) only [push_cast, simprocAttr, hS1, hZ1, hfr1, hf3, hf5, hf5b, hf6, hf7, hf9, hkk, hg, hx, hcT, k0, k1f, q2, q3, q4] <;> rfl); all_goals try ((with_reducible intro hI); try first | (cases hI; done) | (simp only [INTS, not_true_eq_false] at hI; try first | (exfalso; omega) | (have hT : True := hI; clear hT hI))))
        | (apply W.append cx_ok; decide; rfl; rfl; rfl; decide; (iterate 3 (simp (disch := (first | omega | (simp only [List.length_append, List.length_map, List.length_cons, List.length_nil, List.length_take, List.length_drop, List.length_nil]; omega))) only [push_cast, simprocAttr, hS1, hZ1, hfr1, hf3, hf5, hf5b, hf6, hf7, hf9, hkk, hg, hx, hcT, k0, k1f, q2, q3, q4] <;> rfl)); (first | (focus (simp; done)) | (intro c hc; obtain ⟨x, _, rfl⟩ := List.mem_map.1 hc; rfl)); ((first | rfl | simp (disch := omega) only [push_cast])); ((try dsimp only); (try simp only [List.length_map, List.length_append, List.length_cons, List.length_nil, List.length_take, List.length_drop, List.length_nil]); omega); ((try dsimp only); (try simp only [List.length_map, List.length_append, List.length_cons, List.length_nil, List.length_take, List.length_drop, List.length_nil]); omega))
        | ((first | apply W.retM | apply W.endM'); (iterate 2 (try (simp (disch := (first | omega | (simp only [List.length_append, List.length_map, List.length_cons, List.length_nil, List.length_take, List.length_drop, List.length_nil]; omega))) only [push_cast, simprocAttr, hS1, hZ1, hfr1, hf3, hf5, hf5b, hf6, hf7, hf9, hkk, hg, hx, hcT, k0, k1f, q2, q3, q4] <;> rfl))))

      all_goals (show _ = _; rfl)
    | true =>
      rw [if_pos rfl] at hp11
      repeat' first
        | apply DX.nil
        | ((apply X.step cx_ok; decide; decide); (simp (disch := (first | omega | (simp only [List.length_append, List.length_map, List.length_cons, List.length_nil, List.length_take, List.length_drop, List.length_nil]; omega))) only [push_cast, simprocAttr, hS1, hZ1, hfr1, hf3, hf5, hf5b, hf6, hf7, hf9, hkk, hg, hx, hcT, k0, k1f, q2, q3, q4] <;> rfl); all_goals try ((with_reducible intro hI); try first | (cases hI; done) | (simp only [INTS, not_true_eq_false] at hI; try first | (exfalso; omega) | (have hT : True := hI; clear hT hI))))
        | ((first | (apply X.stept cx_ok; decide; decide) | (apply X.stepm cx_ok; decide; decide)); (simp (disch := (first | omega | (simp only [List.length_append, List.length_map, List.length_cons, List.length_nil, List.length_take, List.length_drop, List.length_nil]; omega))) only [push_cast, simprocAttr, hS1, hZ1, hfr1, hf3, hf5, hf5b, hf6, hf7, hf9, hkk, hg, hx, hcT, k0, k1f, q2, q3, q4] <;> rfl))
        | ((apply X.alloc cx_ok; decide; decide); (simp (disch := (first | omega | (simp only [List.length_append, List.length_map, List.length_cons, List.length_nil, List.length_take, List.length_drop, List.length_nil]; omega))) only [push_cast, simprocAttr, hS1, hZ1, hfr1, hf3, hf5, hf5b, hf6, hf7, hf9, hkk, hg, hx, hcT, k0, k1f, q2, q3, q4] <;> rfl))
        | ((apply X.store cx_ok; decide); (simp (disch := (first | omega | (simp only [List.length_append, List.length_map, List.length_cons, List.length_nil, List.length_take, List.length_drop, List.length_nil]; omega))) only [push_cast, simprocAttr, hS1, hZ1, hfr1, hf3, hf5, hf5b, hf6, hf7, hf9, hkk, hg, hx, hcT, k0, k1f, q2, q3, q4] <;> rfl); (focus (simp; done)))
        | ((apply X.callm cx_ok; decide; decide); (simp (disch := (first | omega | (simp only [List.length_append, List.length_map, List.length_cons, List.length_nil, List.length_take, List.length_drop, List.length_nil]; omega))) only [push_cast, simprocAttr, hS1, hZ1, hfr1, hf3, hf5, hf5b, hf6, hf7, hf9, hkk, hg, hx, hcT, k0, k1f, q2, q3, q4] <;> rfl); (refine hcall _ _ _ ?_ ?_ ?_); (iterate 3 (simp (disch := (first | omega | (simp only [List.length_append, List.length_map, List.length_cons, List.length_nil, List.length_take, List.length_drop, List.length_nil]; omega))) only [push_cast, simprocAttr, hS1, hZ1, hfr1, hf3, hf5, hf5b, hf6, hf7, hf9, hkk, hg, hx, hcT, k0, k1f, q2, q3, q4] <;> rfl)); (refine hcall2 _ _ _ ?_ ?_ ?_); (iterate 3 (simp (disch := (first | omega | (simp only [List.length_append, List.length_map, List.length_cons, List.length_nil, List.length_take, List.length_drop, List.length_nil]; omega))) only [push_cast, simprocAttr, hS1, hZ1, hfr1, hf3, hf5, hf5b, hf6, hf7, hf9, hkk, hg, hx, hcT, k0, k1f, q2, q3, q4] <;> rfl)); exact hH2n; exact hnx2; exact hav2)
        | refine AW.drawX (id := 6) cx_mixed [5, 10, 11] [6, 7, 8] [2, 3, 4, s1.nx + 9] 12 5 9 ({ k := 3, es := [[.v (.slice none 0 0), .v (.slice none 0 0), .v (.slice none 0 0)]], ty := 26 }) (by decide +kernel) (by decide +kernel) (by decide) (by simp (disch := (first | omega | (simp only [List.length_append, List.length_map, List.length_cons, List.length_nil, List.length_take, List.length_drop, List.length_nil]; omega))) only [push_cast, simprocAttr, hS1, hZ1, hfr1, hf3, hf5, hf5b, hf6, hf7, hf9, hkk, hg, hx, hcT, k0, k1f, q2, q3, q4]) ?_
        | apply AW.seq | apply AW.region | apply AW.ret | apply AW.block | apply AW.skip | apply AW.exit | apply AW.scope | apply AW.label | apply AWL.nil | apply D.nil
        | refine W.draw cx_mixed (by decide +kernel) ?_
        | ((first | (apply W.step cx_ok; decide) | (apply D.step cx_ok; decide; decide) | apply W.store cx_ok | (apply W.gS; rfl; decide) | (apply D.gS; rfl; decide; decide) | apply AW.cond); (simp (disch := (first | omega | (simp only [List.length_append, List.length_map, List.length_cons, List.length_nil, List.length_take, List.length_drop, List.length_nil]; omega))) only [push_cast, simprocAttr, hS1, hZ1, hfr1, hf3, hf5, hf5b, hf6, hf7, hf9, hkk, hg, hx, hcT, k0, k1f, q2, q3, q4] <;> rfl); all_goals try ((with_reducible intro hI); try first | (cases hI; done) | (simp only [INTS, not_true_eq_false] at hI; try first | (exfalso; omega) | (have hT : True := hI; clear hT hI))))
        | (apply W.append cx_ok; decide; rfl; rfl; rfl; decide; (iterate 3 (simp (disch := (first | omega | (simp only [List.length_append, List.length_map, List.length_cons, List.length_nil, List.length_take, List.length_drop, List.length_nil]; omega))) only [push_cast, simprocAttr, hS1, hZ1, hfr1, hf3, hf5, hf5b, hf6, hf7, hf9, hkk, hg, hx, hcT, k0, k1f, q2, q3, q4] <;> rfl)); (first | (focus (simp; done)) | (intro c hc; obtain ⟨x, _, rfl⟩ := List.mem_map.1 hc; rfl)); ((first | rfl | simp (disch := omega) only [push_cast])); ((try dsimp only); (try simp only [List.length_map, List.length_append, List.length_cons, List.length_nil, List.length_take, List.length_drop, List.length_nil]); omega); ((try dsimp only); (try simp only [List.length_map, List.length_append, List.length_cons, List.length_nil, List.length_take, List.length_drop, List.length_nil]); omega))
        | ((first | apply W.retM | apply W.endM'); (iterate 2 (try (simp (disch := (first | omega | (simp only [List.length_append, List.length_map, List.length_cons, List.length_nil, List.length_take, List.length_drop, List.length_nil]; omega))) only [push_cast, simprocAttr, hS1, hZ1, hfr1, hf3, hf5, hf5b, hf6, hf7, hf9, hkk, hg, hx, hcT, k0, k1f, q2, q3, q4] <;> rfl))))

      all_goals (refine ⟨rest1.length, ?_, k1 + 1, h', rest1, rfl, hd', hp11, hfit, (by omega), ?_, ?_, ?_, ?_, ?_, ?_, ?_, ?_, ?_, ?_, ?_⟩; ((simp only [List.length_cons] at *; omega)); all_goals first | (simp (disch := omega) only [push_cast, simprocAttr, hS1, hZ1, hf3, hf5, hf5b, hf6, hf7, hf9, hfr1, hkk, hg, hx, hcT, k0, k1f, q2, q3, q4] <;> first | rfl | omega) | omega)
  have hcF : ((k1 : Int) + 1 < (WW.length : Int)) = False := eq_false (by omega)
  have hR : RES = (h1, true) := by
    rw [← hp11]
    rcases rest1 with _ | ⟨x, _ | ⟨y, rest1⟩⟩
    · rfl
    · rw [foldD, if_pos rfl]
    · simp only [List.length_cons] at hlen; omega
  subst hR
  have hkb : k1 ≤ 1048576 := by omega
  have hfit := hp21.fit hkb
  have c2 := Error_ok h1 hfit
  have hk1 := hp21.1
  by_cases hE : (Check h1).1 = 0
  rotate_left
  · have n1 : ((Check h1).1 = 0) = False := eq_false hE
    have n2 : ((Check h1).1 == 0) = false := by rw [beq_eq_false_iff_ne]; exact hE
    have n3 : ((Check h1).1 != 0) = true := by rw [bne_iff_ne]; exact hE
    have hF : FIN = (hNone, 7) := by rw [← hFIN, if_neg (fun e => hE e.2.1)]
    subst hF
    clear hFIN
    generalize (Check h1).1 = E at *
    repeat' first
      | apply AW.seq | apply AW.region | apply AW.ret | apply AW.block | apply AW.skip | apply AW.exit | apply AW.scope | apply AW.label | apply AWL.nil | apply D.nil
      | refine W.draw cx_mixed (by decide +kernel) ?_
      | ((first | (apply W.step cx_ok; decide) | (apply D.step cx_ok; decide; decide) | apply W.store cx_ok | (apply W.gS; rfl; decide) | (apply D.gS; rfl; decide; decide) | apply AW.cond); (simp (disch := (first | omega | (simp only [List.length_append, List.length_map, List.length_cons, List.length_nil, List.length_take, List.length_drop, List.length_nil]; omega))) only [push_cast, simprocAttr, hS1, hZ1, hfr1, hf3, hf5, hf5b, hf6, hf7, hf9, hcF, n1, n2, n3] <;> rfl); all_goals try ((with_reducible intro hI); try first | (cases hI; done) | (simp only [INTS, not_true_eq_false] at hI; try first | (exfalso; omega) | (have hT : True := hI; clear hT hI))))
      | (apply W.append cx_ok; decide; rfl; rfl; rfl; decide; (iterate 3 (simp (disch := (first | omega | (simp only [List.length_append, List.length_map, List.length_cons, List.length_nil, List.length_take, List.length_drop, List.length_nil]; omega))) only [push_cast, simprocAttr, hS1, hZ1, hfr1, hf3, hf5, hf5b, hf6, hf7, hf9, hcF, n1, n2, n3] <;> rfl)); (first | (focus (simp; done)) | (intro c hc; obtain ⟨x, _, rfl⟩ := List.mem_map.1 hc; rfl)); ((first | rfl | simp (disch := omega) only [push_cast])); ((try dsimp only); (try simp only [List.length_map, List.length_append, List.length_cons, List.length_nil, List.length_take, List.length_drop, List.length_nil]); omega); ((try dsimp only); (try simp only [List.length_map, List.length_append, List.length_cons, List.length_nil, List.length_take, List.length_drop, List.length_nil]); omega))
      | ((first | (apply W.callv cx_ok; decide) | (apply D.callv cx_ok; decide; decide)); (iterate 2 (simp (disch := (first | omega | (simp only [List.length_append, List.length_map, List.length_cons, List.length_nil, List.length_take, List.length_drop, List.length_nil]; omega))) only [push_cast, simprocAttr, hS1, hZ1, hfr1, hf3, hf5, hf5b, hf6, hf7, hf9, hcF, n1, n2, n3] <;> rfl)); (with_reducible first | exact c2); try first | rfl | (simp (disch := (first | omega | (simp only [List.length_append, List.length_map, List.length_cons, List.length_nil, List.length_take, List.length_drop, List.length_nil]; omega))) only [push_cast, simprocAttr, hS1, hZ1, hfr1, hf3, hf5, hf5b, hf6, hf7, hf9, hcF, n1, n2, n3] <;> rfl))
      | ((first | apply W.retM | apply W.endM'); (iterate 2 (try (simp (disch := (first | omega | (simp only [List.length_append, List.length_map, List.length_cons, List.length_nil, List.length_take, List.length_drop, List.length_nil]; omega))) only [push_cast, simprocAttr, hS1, hZ1, hfr1, hf3, hf5, hf5b, hf6, hf7, hf9, hcF, n1, n2, n3] <;> rfl))))

    all_goals (show _ = _; rfl)
  have c3 := RTextV_ok h1 hE
  rw [hE] at c2
  by_cases ht : textB h1 = s0
  · have hT : ((textB h1).data.toList == s0.data.toList) = true := by rw [ht, beq_iff_eq]
    have hF : FIN = (h1, 0) := by rw [← hFIN, if_pos ⟨rfl, hE, ht⟩]
    subst hF
    clear hFIN
    generalize textB h1 = T at *
    repeat' first
      | apply AW.seq | apply AW.region | apply AW.ret | apply AW.block | apply AW.skip | apply AW.exit | apply AW.scope | apply AW.label | apply AWL.nil | apply D.nil
      | refine W.draw cx_mixed (by decide +kernel) ?_
      | ((first | (apply W.step cx_ok; decide) | (apply D.step cx_ok; decide; decide) | apply W.store cx_ok | (apply W.gS; rfl; decide) | (apply D.gS; rfl; decide; decide) | apply AW.cond); (simp (disch := (first | omega | (simp only [List.length_append, List.length_map, List.length_cons, List.length_nil, List.length_take, List.length_drop, List.length_nil]; omega))) only [push_cast, simprocAttr, hS1, hZ1, hfr1, hf3, hf5, hf5b, hf6, hf7, hf9, hcF, hT] <;> rfl); all_goals try ((with_reducible intro hI); try first | (cases hI; done) | (simp only [INTS, not_true_eq_false] at hI; try first | (exfalso; omega) | (have hT : True := hI; clear hT hI))))
      | (apply W.append cx_ok; decide; rfl; rfl; rfl; decide; (iterate 3 (simp (disch := (first | omega | (simp only [List.length_append, List.length_map, List.length_cons, List.length_nil, List.length_take, List.length_drop, List.length_nil]; omega))) only [push_cast, simprocAttr, hS1, hZ1, hfr1, hf3, hf5, hf5b, hf6, hf7, hf9, hcF, hT] <;> rfl)); (first | (focus (simp; done)) | (intro c hc; obtain ⟨x, _, rfl⟩ := List.mem_map.1 hc; rfl)); ((first | rfl | simp (disch := omega) only [push_cast])); ((try dsimp only); (try simp only [List.length_map, List.length_append, List.length_cons, List.length_nil, List.length_take, List.length_drop, List.length_nil]); omega); ((try dsimp only); (try simp only [List.length_map, List.length_append, List.length_cons, List.length_nil, List.length_take, List.length_drop, List.length_nil]); omega))
      | ((first | (apply W.callv cx_ok; decide) | (apply D.callv cx_ok; decide; decide)); (iterate 2 (simp (disch := (first | omega | (simp only [List.length_append, List.length_map, List.length_cons, List.length_nil, List.length_take, List.length_drop, List.length_nil]; omega))) only [push_cast, simprocAttr, hS1, hZ1, hfr1, hf3, hf5, hf5b, hf6, hf7, hf9, hcF, hT] <;> rfl)); (with_reducible first | exact c2 | exact c3); try first | rfl | (simp (disch := (first | omega | (simp only [List.length_append, List.length_map, List.length_cons, List.length_nil, List.length_take, List.length_drop, List.length_nil]; omega))) only [push_cast, simprocAttr, hS1, hZ1, hfr1, hf3, hf5, hf5b, hf6, hf7, hf9, hcF, hT] <;> rfl))
      | ((first | apply W.retM | apply W.endM'); (iterate 2 (try (simp (disch := (first | omega | (simp only [List.length_append, List.length_map, List.length_cons, List.length_nil, List.length_take, List.length_drop, List.length_nil]; omega))) only [push_cast, simprocAttr, hS1, hZ1, hfr1, hf3, hf5, hf5b, hf6, hf7, hf9, hcF, hT] <;> rfl))))

    all_goals (show _ = _; rfl)
  have hT : ((textB h1).data.toList == s0.data.toList) = false := by rw [beq_eq_false_iff_ne]; exact fun h => ht (bl_inj h)
  have hF : FIN = (hNone, 7) := by rw [← hFIN, if_neg (fun e => ht e.2.2)]
  subst hF
  clear hFIN
  generalize textB h1 = T at *
  repeat' first
    | apply AW.seq | apply AW.region | apply AW.ret | apply AW.block | apply AW.skip | apply AW.exit | apply AW.scope | apply AW.label | apply AWL.nil | apply D.nil
    | refine W.draw cx_mixed (by decide +kernel) ?_
    | ((first | (apply W.step cx_ok; decide) | (apply D.step cx_ok; decide; decide) | apply W.store cx_ok | (apply W.gS; rfl; decide) | (apply D.gS; rfl; decide; decide) | apply AW.cond); (simp (disch := (first | omega | (simp only [List.length_append, List.length_map, List.length_cons, List.length_nil, List.length_take, List.length_drop, List.length_nil]; omega))) only [push_cast, simprocAttr, hS1, hZ1, hfr1, hf3, hf5, hf5b, hf6, hf7, hf9, hcF, hT] <;> rfl); all_goals try ((with_reducible intro hI); try first | (cases hI; done) | (simp only [INTS, not_true_eq_false] at hI; try first | (exfalso; omega) | (have hT : True := hI; clear hT hI))))
    | (apply W.append cx_ok; decide; rfl; rfl; rfl; decide; (iterate 3 (simp (disch := (first | omega | (simp only [List.length_append, List.length_map, List.length_cons, List.length_nil, List.length_take, List.length_drop, List.length_nil]; omega))) only [push_cast, simprocAttr, hS1, hZ1, hfr1, hf3, hf5, hf5b, hf6, hf7, hf9, hcF, hT] <;> rfl)); (first | (focus (simp; done)) | (intro c hc; obtain ⟨x, _, rfl⟩ := List.mem_map.1 hc; rfl)); ((first | rfl | simp (disch := omega) only [push_cast])); ((try dsimp only); (try simp only [List.length_map, List.length_append, List.length_cons, List.length_nil, List.length_take, List.length_drop, List.length_nil]); omega); ((try dsimp only); (try simp only [List.length_map, List.length_append, List.length_cons, List.length_nil, List.length_take, List.length_drop, List.length_nil]); omega))
    | ((first | (apply W.callv cx_ok; decide) | (apply D.callv cx_ok; decide; decide)); (iterate 2 (simp (disch := (first | omega | (simp only [List.length_append, List.length_map, List.length_cons, List.length_nil, List.length_take, List.length_drop, List.length_nil]; omega))) only [push_cast, simprocAttr, hS1, hZ1, hfr1, hf3, hf5, hf5b, hf6, hf7, hf9, hcF, hT] <;> rfl)); (with_reducible first | exact c2 | exact c3); try first | rfl | (simp (disch := (first | omega | (simp only [List.length_append, List.length_map, List.length_cons, List.length_nil, List.length_take, List.length_drop, List.length_nil]; omega))) only [push_cast, simprocAttr, hS1, hZ1, hfr1, hf3, hf5, hf5b, hf6, hf7, hf9, hcF, hT] <;> rfl))
    | ((first | apply W.retM | apply W.endM'); (iterate 2 (try (simp (disch := (first | omega | (simp only [List.length_append, List.length_map, List.length_cons, List.length_nil, List.length_take, List.length_drop, List.length_nil]; omega))) only [push_cast, simprocAttr, hS1, hZ1, hfr1, hf3, hf5, hf5b, hf6, hf7, hf9, hcF, hT] <;> rfl))))

  all_goals (show _ = _; rfl)
end Go.Proofs.Hz
