/-
  Contracts of functions, proved by going through their code. No conditions.
-/
import Derived.Test.YtbeiiipphicdlaaGreatDoorTap
import Derived.Test.YtbeiiipphicdlaaGreatDoorTbe
import Derived.Test.YtbeiiipphicdlaaGreatDoorTbf
set_option linter.unusedVariables false
set_option linter.unusedSimpArgs false
set_option maxHeartbeats 8000000
set_option maxRecDepth 10000
namespace Go.Proofs.Hz
open Go Go.Pg Go.Proofs
def setDoor (h : House) (n : Nat) (l : List Span) : List Door := h.doors.set n ⟨(h.door n).hours, l⟩
def House.zero : House := ⟨[], [], []⟩
def shutDoor (h : House) (n : Int) (s : Span) : House × Int :=
  if doorE h n [] ≠ 0 then (.zero, doorE h n []) else if s.hi < s.lo ∨ timeB s.lo = false ∨ timeB s.hi = false then (.zero, 1) else
  if 8 < (shutH (h.door n).shut s false).length then (.zero, 2) else (⟨h.rooms, setDoor h n.toNat (shutH (h.door n).shut s false), h.ways⟩, 0)
theorem Shut_ok (h : House) (n0 : Int) (sp : Span) (hfit : h.Fit) : OKv cx 17 [.agg (eHouse h), ai n0, .agg (eSpan sp)] (.tup [.agg (eHouse (shutDoor h n0 sp).1), ai (shutDoor h n0 sp).2]) := by
  have hfr := hfit.rooms
  have hfw := hfit.nw
  have hfd := hfit.nd
  by_cases he : doorE h n0 [] = 0
  · obtain ⟨hc, ⟨hdn, hdl⟩, _⟩ := doorE_zero he
    have hv := Check_V hc
    have hdv := hv.door hdn hdl
    have hdg : (h.doors.map eDoor).getD n0.toNat [] = eDoor (h.door n0) := getD_map eDoor h.doors _ [] ⟨[], []⟩ (by omega)
    by_cases hsp : sp.hi < sp.lo ∨ timeB sp.lo = false ∨ timeB sp.hi = false
    · have hS : shutDoor h n0 sp = (.zero, 1) := by unfold shutDoor; rw [if_neg (by simp [he]), if_pos hsp]
      refine OKat.of_bodyC cx_ok (rs := [.cell 6 26, .tmp 7]) Tryz.func17 rfl (by decide +kernel) rfl (by decide) (by simp [Tryz.ntmps17]) ?_
      simp only [Tryz.ntmps17]
      repeat' first
        | apply AW.seq | apply AW.region | apply AW.ret | apply AW.block | apply AW.skip | apply AW.exit | apply AW.scope | apply AW.label | apply AWL.nil | apply D.nil
        | refine W.draw cx_mixed (by decide +kernel) ?_
        | ((first | (apply W.step cx_ok; decide) | (apply D.step cx_ok; decide; decide) | apply W.store cx_ok | (apply W.gS; rfl; decide) | (apply D.gS; rfl; decide; decide) | apply AW.cond); (simp (disch := omega) only [push_cast, simprocAttr, he] <;> rfl); all_goals try ((with_reducible intro hI); try first | (cases hI; done) | (simp only [INTS] at hI; try first | (exfalso; omega) | (have hT : True := hI; clear hT hI))))
        | ((first | (apply W.callv cx_ok; decide) | (apply D.callv cx_ok; decide; decide)); (iterate 2 (simp (disch := omega) only [push_cast, simprocAttr, he] <;> rfl)); (with_reducible first | exact doorNone_ok _ _ hfit | exact time_ok _); try first | rfl | (simp (disch := omega) only [push_cast, simprocAttr, he] <;> rfl))
        | ((first | apply W.retC | apply W.endC'); (iterate 2 (try (simp (disch := omega) only [push_cast, simprocAttr, he] <;> rfl))))
      all_goals first
        | (show _ = _; rw [hS]; rfl)
        | (exfalso; unfold timeB at hsp; simp only [Bool.and_eq_false_iff, decide_eq_false_iff_not] at hsp; omega)
    · have hspb : 0 ≤ sp.lo ∧ sp.lo ≤ sp.hi ∧ sp.hi ≤ 1073741823 := by unfold timeB at hsp; simp only [not_or, Bool.not_eq_false, Bool.and_eq_true, decide_eq_true_eq] at hsp; omega
      have hs1 := hspb.1
      have hs2 := hspb.2.1
      have hs3 := hspb.2.2
      have hS : shutDoor h n0 sp = if 8 < (shutH (h.door n0).shut sp false).length then (.zero, 2) else (⟨h.rooms, setDoor h n0.toNat (shutH (h.door n0).shut sp false), h.ways⟩, 0) := by unfold shutDoor; rw [if_neg (by simp [he]), if_neg hsp]
      have hshl := hdv.shut.1
      have hshb := hdv.shut.2.1
      rw [hS]
      refine OKat.of_bodyC cx_ok (rs := [.cell 6 26, .tmp 7]) Tryz.func17 rfl (by decide +kernel) rfl (by decide) (by simp [Tryz.ntmps17]) ?_
      simp only [Tryz.ntmps17]
      repeat' first
        | apply AW.seq | apply AW.region | apply AW.ret | apply AW.block | apply AW.skip | apply AW.exit | apply AW.scope | apply AW.label | apply AWL.nil | apply D.nil
        | refine W.draw cx_mixed (by decide +kernel) ?_
        | ((first | (apply W.step cx_ok; decide) | (apply D.step cx_ok; decide; decide) | apply W.store cx_ok | (apply W.gS; rfl; decide) | (apply D.gS; rfl; decide; decide) | apply AW.cond); (simp (disch := omega) only [push_cast, simprocAttr, he, hdn, hdl, hdg, hs1, hs2, hs3] <;> rfl); all_goals try ((with_reducible intro hI); try first | (cases hI; done) | (simp only [INTS] at hI; try first | (exfalso; omega) | (have hT : True := hI; clear hT hI))))
        | ((first | (apply W.callv cx_ok; decide) | (apply D.callv cx_ok; decide; decide)); (iterate 2 (simp (disch := omega) only [push_cast, simprocAttr, he, hdn, hdl, hdg, hs1, hs2, hs3] <;> rfl)); (with_reducible first | exact doorNone_ok _ _ hfit | exact time_ok _); try first | rfl | (simp (disch := omega) only [push_cast, simprocAttr, he, hdn, hdl, hdg, hs1, hs2, hs3] <;> rfl))
        | ((first | apply W.retC | apply W.endC'); (iterate 2 (try (simp (disch := omega) only [push_cast, simprocAttr, he, hdn, hdl, hdg, hs1, hs2, hs3] <;> rfl))))
      all_goals try (exfalso; omega)
      generalize hsh : (h.door n0).shut = sh at *
      generalize hlst : shutH sh sp false = lst at *
      refine AW.adopt 9 2 51 ?_ ?_
      · simp (disch := omega) only [push_cast, simprocAttr, he, hdn, hdl, hdg, hsh]
      refine AW.loop (fun n s => ∃ (k : Nat) (out : List Span) (s1 : Span) (put : Bool) (rest : List Span), n = rest.length ∧ (sh.drop k = rest) ∧ (out ++ shutH rest s1 put = lst) ∧ (out.length ≤ 2 * k ∧ k ≤ sh.length) ∧ (0 ≤ s1.lo ∧ s1.lo ≤ s1.hi ∧ s1.hi ≤ 1073741823) ∧ 4 ≤ s.nx ∧ s.tm 1 = ai n0 ∧ s.tm 3 = .ptr 0 0 0 1 ∧ s.tm 5 = .ptr 1 0 0 1 ∧ s.tm 6 = .ptr 2 0 0 1 ∧ s.tm 9 = .ref 3 0 out.length ∧ s.tm 10 = ab put ∧ s.tm 46 = lSpan sh ∧ s.tm 47 = ai sh.length ∧ s.tm 48 = ai k ∧ Pg.rowAt s.H (0) = some ({ k := 3, es := [eHouse h], ty := 26 }) ∧ Pg.rowAt s.H (1) = some ({ k := 2, es := [eSpan s1], ty := 51 }) ∧ Pg.rowAt s.H (2) = some ({ k := 3, es := [[.v (.slice none 0 0), .v (.slice none 0 0), .v (.slice none 0 0)]], ty := 26 }) ∧ Pg.rowAt s.H (3) = some ({ k := 2, es := out.map eSpan, ty := 51, lo := out.length })) (sh.length) ⟨0, [], sp, false, _, rfl, rfl, hlst, ⟨Nat.zero_le _, Nat.zero_le _⟩, hspb, ?_, ?_, ?_, ?_, ?_, ?_, ?_, ?_, ?_, ?_, ?_, ?_, ?_, ?_⟩ ?_
      iterate 14 (first | (simp (disch := omega) only [push_cast, simprocAttr, he, hdn, hdl, hdg, hsh] <;> first | rfl | omega) | omega)
      rintro n1_ s1_ ⟨k1_, out1_, s11_, put1_, rest1_, hn1_, hp01_, hp11_, hp21_, hp31_, hnl1_, hS1_⟩
      have hZ1_ : (0 : Nat) ≠ s1_.nx ∧ s1_.nx ≠ (0 : Nat) ∧ (1 : Nat) ≠ s1_.nx ∧ s1_.nx ≠ (1 : Nat) ∧ (2 : Nat) ≠ s1_.nx ∧ s1_.nx ≠ (2 : Nat) ∧ (3 : Nat) ≠ s1_.nx ∧ s1_.nx ≠ (3 : Nat) := by omega
      refine AW.fresh fun hfr1_ => ?_
      obtain ⟨b1, b2, b3⟩ := hp31_
      rcases rest1_ with _ | ⟨x, rest1_⟩
      · have hk1_ := drop_nil hp01_
        cases put1_ with
        | true =>
          have hLo : lst = out1_ := by rw [← hp11_]; simp [shutH]
          have hfz : ∀ m, s1_.H (s1_.nx + m) = none := fun m => hfr1_ _ (by omega)
          have hAq : (∀ m, ¬ ((1 : Nat) = s1_.nx + m)) ∧ (∀ m, ¬ (s1_.nx + m = (1 : Nat))) ∧ ¬ ((1 : Nat) = s1_.nx) ∧ ¬ (s1_.nx = (1 : Nat)) ∧ (∀ m, ¬ ((2 : Nat) = s1_.nx + m)) ∧ (∀ m, ¬ (s1_.nx + m = (2 : Nat))) ∧ ¬ ((2 : Nat) = s1_.nx) ∧ ¬ (s1_.nx = (2 : Nat)) ∧ (∀ m, ¬ ((3 : Nat) = s1_.nx + m)) ∧ (∀ m, ¬ (s1_.nx + m = (3 : Nat))) ∧ ¬ ((3 : Nat) = s1_.nx) ∧ ¬ (s1_.nx = (3 : Nat)) ∧ (∀ m, ¬ ((0 : Nat) = s1_.nx + m)) ∧ (∀ m, ¬ (s1_.nx + m = (0 : Nat))) ∧ ¬ ((0 : Nat) = s1_.nx) ∧ ¬ (s1_.nx = (0 : Nat)) := by refine ⟨?_, ?_, ?_, ?_, ?_, ?_, ?_, ?_, ?_, ?_, ?_, ?_, ?_, ?_, ?_, ?_⟩ <;> intros <;> omega
          repeat' first
            | apply AW.seq | apply AW.region | apply AW.ret | apply AW.block | apply AW.skip | apply AW.exit | apply AW.scope | apply AW.label | apply AWL.nil | apply D.nil
            | refine AW.draw (id := 27) cx_mixed [8] [] [] 9 (by decide +kernel) ?_
            | refine W.draw cx_mixed (by decide +kernel) ?_
            | ((first | (apply W.step cx_ok; decide) | (apply D.step cx_ok; decide; decide) | apply W.store cx_ok | (apply W.gS; rfl; decide) | (apply D.gS; rfl; decide; decide) | apply AW.cond); (simp (disch := omega) only [push_cast, simprocAttr, hS1_, hZ1_, hk1_, hLo, hfz, hAq, hdn, hdl, hdg, hsh, List.length_cons, List.length_nil] <;> rfl); all_goals try ((with_reducible intro hI); try first | (cases hI; done) | (simp only [INTS] at hI; try first | (exfalso; omega) | (have hT : True := hI; clear hT hI))))
            | ((first | (apply D.store cx_ok; decide) | (apply D.stept cx_ok; decide; decide) | (apply D.stepm cx_ok; decide; decide)); (simp (disch := omega) only [push_cast, simprocAttr, hS1_, hZ1_, hk1_, hLo, hfz, hAq, hdn, hdl, hdg, hsh, List.length_cons, List.length_nil] <;> rfl); try first | exact .inl rfl | exact .inr (by simp))
            | ((apply D.alloc cx_ok; decide; decide); (simp (disch := omega) only [push_cast, simprocAttr, hS1_, hZ1_, hk1_, hLo, hfz, hAq, hdn, hdl, hdg, hsh, List.length_cons, List.length_nil] <;> rfl); (simp (disch := omega) only [push_cast, simprocAttr, hS1_, hZ1_, hk1_, hLo, hfz, hAq, hdn, hdl, hdg, hsh, List.length_cons, List.length_nil, updH_at, Nat.add_assoc]); (simp (disch := omega) only [push_cast, simprocAttr, hS1_, hZ1_, hk1_, hLo, hfz, hAq, hdn, hdl, hdg, hsh, List.length_cons, List.length_nil] <;> omega))
            | ((apply D.alloct cx_ok; decide; decide); (simp (disch := omega) only [push_cast, simprocAttr, hS1_, hZ1_, hk1_, hLo, hfz, hAq, hdn, hdl, hdg, hsh, List.length_cons, List.length_nil] <;> rfl); first | exact .inl rfl | exact .inr (by simp))
            | (apply W.append cx_ok; decide; rfl; rfl; rfl; decide; (iterate 3 (simp (disch := omega) only [push_cast, simprocAttr, hS1_, hZ1_, hk1_, hLo, hfz, hAq, hdn, hdl, hdg, hsh, List.length_cons, List.length_nil] <;> rfl)); simp; (rfl); ((try dsimp only); (try simp only [List.length_map, List.length_append, List.length_cons, List.length_nil]); omega); ((try dsimp only); (try simp only [List.length_map, List.length_append, List.length_cons, List.length_nil]); omega))
            | (apply D.appendN cx_ok; decide; decide; rfl; rfl; rfl; decide; (iterate 3 (simp (disch := omega) only [push_cast, simprocAttr, hS1_, hZ1_, hk1_, hLo, hfz, hAq, hdn, hdl, hdg, hsh, List.length_cons, List.length_nil] <;> rfl)); simp; ((first | rfl | exact idsLL_map _ (fun _ => rfl) _)); ((try dsimp only); (try simp only [List.length_map, List.length_append, List.length_cons, List.length_nil]); omega); ((try dsimp only); (try simp only [List.length_map, List.length_append, List.length_cons, List.length_nil]); omega); (simp (disch := omega) only [push_cast, simprocAttr, hS1_, hZ1_, hk1_, hLo, hfz, hAq, hdn, hdl, hdg, hsh, List.length_cons, List.length_nil, updH_at, Nat.add_assoc]); (simp (disch := omega) only [push_cast, simprocAttr, hS1_, hZ1_, hk1_, hLo, hfz, hAq, hdn, hdl, hdg, hsh, List.length_cons, List.length_nil] <;> omega))
            | ((first | apply W.retC | apply W.endC'); (iterate 2 (try (simp (disch := omega) only [push_cast, simprocAttr, hS1_, hZ1_, hk1_, hLo, hfz, hAq, hdn, hdl, hdg, hsh, List.length_cons, List.length_nil] <;> rfl))))
          all_goals try (show _ = _; rw [if_pos (by rw [hLo]; first | omega | (simp only [List.length_append, List.length_cons, List.length_nil]; omega))]; rfl)
          have hle8 : ¬ 8 < lst.length := by rw [hLo]; first | omega | (simp only [List.length_append, List.length_cons, List.length_nil]; omega)
          rw [if_neg hle8]
          refine AW.adoptCell (s1_.nx + 7) 0 1 2 38 (r := { k := 3, es := [[.ref (s1_.nx + 2) 0 h.rooms.length, .v (.slice none 0 0), .ref (s1_.nx + 5) 0 h.ways.length]], ty := 26 }) (by simp (disch := omega) only [push_cast, simprocAttr, hS1_, hZ1_, hk1_, hLo, hfz, hAq, hdn, hdl, hdg, hsh, List.length_cons, List.length_nil]) (by rfl) ?_
          refine AW.loop (fun n s => ∃ (k R W0 B D : Nat) (od : List Door) (fz : Bool), n = h.doors.length - k ∧ (od = (setDoor h n0.toNat lst).take k) ∧ (od.length = k) ∧ (k ≤ h.doors.length) ∧ (4 ≤ R ∧ R < s.nx ∧ 4 ≤ W0 ∧ W0 < s.nx ∧ 4 ≤ B ∧ B < s.nx ∧ 4 ≤ D ∧ D < s.nx ∧ R ≠ W0 ∧ R ≠ B ∧ R ≠ D ∧ W0 ≠ B ∧ W0 ≠ D ∧ B ≠ D) ∧ 4 ≤ s.nx ∧ s.tm 1 = ai n0 ∧ s.tm 6 = .ptr 2 0 0 1 ∧ s.tm 9 = .ref 3 0 lst.length ∧ s.tm 13 = .ptr B 0 0 1 ∧ s.tm 118 = .lst (h.doors.map eDoor) ∧ s.tm 119 = ai h.doors.length ∧ s.tm 120 = ai k ∧ Pg.rowAt s.H (2) = some ({ k := 3, es := [[.v (.slice none 0 0), .v (.slice none 0 0), .v (.slice none 0 0)]], ty := 26 }) ∧ Pg.rowAt s.H (3) = some ({ k := 2, es := lst.map eSpan, ty := 51, lo := lst.length, fro := fz }) ∧ Pg.rowAt s.H (R) = some ({ k := 2, es := h.rooms.map eRoom, ty := 62, lo := h.rooms.length }) ∧ Pg.rowAt s.H (W0) = some ({ k := 5, es := h.ways.map eWay, ty := 72, lo := h.ways.length }) ∧ Pg.rowAt s.H (B) = some ({ k := 3, es := [[.ref R 0 h.rooms.length, .ref D 0 k, .ref W0 0 h.ways.length]], ty := 26 }) ∧ Pg.rowAt s.H (D) = some ({ k := 2, es := od.map eDoor, ty := 38, lo := k })) (h.doors.length) ⟨0, (s1_.nx + 2), (s1_.nx + 5), (s1_.nx + 7), (s1_.nx + 9), [], false, rfl, rfl, rfl, Nat.zero_le _, (by simp (disch := omega) only [push_cast, simprocAttr, hS1_, hZ1_, hk1_, hLo, hfz, hAq, hdn, hdl, hdg, hsh, List.length_cons, List.length_nil]; omega), ?_, ?_, ?_, ?_, ?_, ?_, ?_, ?_, ?_, ?_, ?_, ?_, ?_, ?_⟩ ?_
          iterate 14 (first | (simp (disch := omega) only [push_cast, simprocAttr, hS1_, hZ1_, hk1_, hLo, hfz, hAq, hdn, hdl, hdg, hsh, List.length_cons, List.length_nil] <;> first | rfl | omega) | omega)
          rintro n3 s3 ⟨k3, R3, W03, B3, D3, od3, fz3, hn3, hp03, hp13, hp23, hp33, hnl3, hS3⟩
          have hZ3 : (2 : Nat) ≠ s3.nx ∧ s3.nx ≠ (2 : Nat) ∧ (3 : Nat) ≠ s3.nx ∧ s3.nx ≠ (3 : Nat) ∧ (R3 : Nat) ≠ s3.nx ∧ s3.nx ≠ (R3 : Nat) ∧ (W03 : Nat) ≠ s3.nx ∧ s3.nx ≠ (W03 : Nat) ∧ (B3 : Nat) ≠ s3.nx ∧ s3.nx ≠ (B3 : Nat) ∧ (D3 : Nat) ≠ s3.nx ∧ s3.nx ≠ (D3 : Nat) := by omega
          refine AW.fresh fun hfr3 => ?_
          obtain ⟨q1, q2, q3, q4, q5, q6, q7, q8, q9, q10, q11, q12, q13, q14⟩ := hp33
          have hfz3 : ∀ m, s3.H (s3.nx + m) = none := fun m => hfr3 _ (by omega)
          have hAr : (∀ m, ¬ ((R3 : Nat) = s3.nx + m)) ∧ (∀ m, ¬ (s3.nx + m = (R3 : Nat))) ∧ ¬ ((R3 : Nat) = s3.nx) ∧ ¬ (s3.nx = (R3 : Nat)) ∧ (∀ m, ¬ ((W03 : Nat) = s3.nx + m)) ∧ (∀ m, ¬ (s3.nx + m = (W03 : Nat))) ∧ ¬ ((W03 : Nat) = s3.nx) ∧ ¬ (s3.nx = (W03 : Nat)) ∧ (∀ m, ¬ ((B3 : Nat) = s3.nx + m)) ∧ (∀ m, ¬ (s3.nx + m = (B3 : Nat))) ∧ ¬ ((B3 : Nat) = s3.nx) ∧ ¬ (s3.nx = (B3 : Nat)) ∧ (∀ m, ¬ ((D3 : Nat) = s3.nx + m)) ∧ (∀ m, ¬ (s3.nx + m = (D3 : Nat))) ∧ ¬ ((D3 : Nat) = s3.nx) ∧ ¬ (s3.nx = (D3 : Nat)) ∧ (∀ m, ¬ ((2 : Nat) = s3.nx + m)) ∧ (∀ m, ¬ (s3.nx + m = (2 : Nat))) ∧ ¬ ((2 : Nat) = s3.nx) ∧ ¬ (s3.nx = (2 : Nat)) ∧ (∀ m, ¬ ((3 : Nat) = s3.nx + m)) ∧ (∀ m, ¬ (s3.nx + m = (3 : Nat))) ∧ ¬ ((3 : Nat) = s3.nx) ∧ ¬ (s3.nx = (3 : Nat)) := by refine ⟨?_, ?_, ?_, ?_, ?_, ?_, ?_, ?_, ?_, ?_, ?_, ?_, ?_, ?_, ?_, ?_, ?_, ?_, ?_, ?_, ?_, ?_, ?_, ?_⟩ <;> intros <;> omega
          have hP : (2 : Nat) ≠ R3 ∧ (2 : Nat) ≠ W03 ∧ (2 : Nat) ≠ B3 ∧ (2 : Nat) ≠ D3 ∧ (3 : Nat) ≠ R3 ∧ (3 : Nat) ≠ W03 ∧ (3 : Nat) ≠ B3 ∧ (3 : Nat) ≠ D3 ∧ (R3 : Nat) ≠ 2 ∧ (R3 : Nat) ≠ 3 ∧ (R3 : Nat) ≠ W03 ∧ (R3 : Nat) ≠ B3 ∧ (R3 : Nat) ≠ D3 ∧ (W03 : Nat) ≠ 2 ∧ (W03 : Nat) ≠ 3 ∧ (W03 : Nat) ≠ R3 ∧ (W03 : Nat) ≠ B3 ∧ (W03 : Nat) ≠ D3 ∧ (B3 : Nat) ≠ 2 ∧ (B3 : Nat) ≠ 3 ∧ (B3 : Nat) ≠ R3 ∧ (B3 : Nat) ≠ W03 ∧ (B3 : Nat) ≠ D3 ∧ (D3 : Nat) ≠ 2 ∧ (D3 : Nat) ≠ 3 ∧ (D3 : Nat) ≠ R3 ∧ (D3 : Nat) ≠ W03 ∧ (D3 : Nat) ≠ B3 := by omega
          have hsl : (setDoor h n0.toNat lst).length = h.doors.length := by unfold setDoor; rw [List.length_set]
          by_cases hk3 : k3 < h.doors.length
          · have hk3a : (k3 : Int) < (h.doors.length : Int) := by omega
            obtain ⟨x, hx⟩ : ∃ x, h.doors[k3]? = some x := ⟨_, List.getElem?_eq_getElem hk3⟩
            have hgx : (h.doors.map eDoor).getD k3 [] = eDoor x := by rw [List.getD_eq_getElem?_getD, List.getElem?_map, hx]; rfl
            have hxm : x ∈ h.doors := List.mem_of_getElem? hx
            have hxl := hfit.doors x hxm
            by_cases hkn : (k3 : Int) = n0
            · have hdd : od3 ++ [⟨x.hours, lst⟩] = (setDoor h n0.toNat lst).take (k3 + 1) := by
                rw [List.take_add_one, hp03]
                congr 1
                unfold setDoor
                have hnk : n0.toNat = k3 := by omega
                have hdx : h.door (k3 : Int) = x := by unfold House.door; rw [Int.toNat_natCast, List.getD_eq_getElem?_getD, hx]; rfl
                rw [hnk, hdx]; simp [hk3]
              have hkq : ((k3 : Int) = n0) = True := eq_true hkn
              repeat' first
                | apply AW.seq | apply AW.region | apply AW.ret | apply AW.block | apply AW.skip | apply AW.exit | apply AW.scope | apply AW.label | apply AWL.nil | apply D.nil
                | refine AW.draw (id := 31) cx_mixed [7] [] [] 8 (by decide +kernel) ?_
                | refine W.draw cx_mixed (by decide +kernel) ?_
                | ((first | (apply W.step cx_ok; decide) | (apply D.step cx_ok; decide; decide) | apply W.store cx_ok | (apply W.gS; rfl; decide) | (apply D.gS; rfl; decide; decide) | apply AW.cond); (simp (disch := omega) only [push_cast, simprocAttr, hS3, hZ3, hfz3, hp13, hAr, hP, List.length_cons, List.length_nil, hk3a, hgx, hkq] <;> rfl); all_goals try ((with_reducible intro hI); try first | (cases hI; done) | (simp only [INTS] at hI; try first | (exfalso; omega) | (have hT : True := hI; clear hT hI))))
                | ((first | (apply D.store cx_ok; decide) | (apply D.stept cx_ok; decide; decide) | (apply D.stepm cx_ok; decide; decide)); (simp (disch := omega) only [push_cast, simprocAttr, hS3, hZ3, hfz3, hp13, hAr, hP, List.length_cons, List.length_nil, hk3a, hgx, hkq] <;> rfl); try first | exact .inl rfl | exact .inr (by simp))
                | ((apply D.alloc cx_ok; decide; decide); (simp (disch := omega) only [push_cast, simprocAttr, hS3, hZ3, hfz3, hp13, hAr, hP, List.length_cons, List.length_nil, hk3a, hgx, hkq] <;> rfl); (simp (disch := omega) only [push_cast, simprocAttr, hS3, hZ3, hfz3, hp13, hAr, hP, List.length_cons, List.length_nil, hk3a, hgx, hkq, updH_at, Nat.add_assoc]); (simp (disch := omega) only [push_cast, simprocAttr, hS3, hZ3, hfz3, hp13, hAr, hP, List.length_cons, List.length_nil, hk3a, hgx, hkq] <;> omega))
                | ((apply D.alloct cx_ok; decide; decide); (simp (disch := omega) only [push_cast, simprocAttr, hS3, hZ3, hfz3, hp13, hAr, hP, List.length_cons, List.length_nil, hk3a, hgx, hkq] <;> rfl); first | exact .inl rfl | exact .inr (by simp))
                | (apply D.appendN cx_ok; decide; decide; rfl; rfl; rfl; decide; (iterate 3 (simp (disch := omega) only [push_cast, simprocAttr, hS3, hZ3, hfz3, hp13, hAr, hP, List.length_cons, List.length_nil, hk3a, hgx, hkq] <;> rfl)); simp; ((first | rfl | exact idsLL_map _ (fun _ => rfl) _)); ((try dsimp only); (try simp only [List.length_map, List.length_append, List.length_cons, List.length_nil]); omega); ((try dsimp only); (try simp only [List.length_map, List.length_append, List.length_cons, List.length_nil]); omega); (simp (disch := omega) only [push_cast, simprocAttr, hS3, hZ3, hfz3, hp13, hAr, hP, List.length_cons, List.length_nil, hk3a, hgx, hkq, updH_at, Nat.add_assoc]); (simp (disch := omega) only [push_cast, simprocAttr, hS3, hZ3, hfz3, hp13, hAr, hP, List.length_cons, List.length_nil, hk3a, hgx, hkq] <;> omega))
                | (apply W.appendF cx_ok; decide; rfl; rfl; rfl; decide; (iterate 3 (simp (disch := omega) only [push_cast, simprocAttr, hS3, hZ3, hfz3, hp13, hAr, hP, List.length_cons, List.length_nil, hk3a, hgx, hkq] <;> rfl)); simp; (simp (disch := omega) only [push_cast, simprocAttr, hS3, hZ3, hfz3, hp13, hAr, hP, List.length_cons, List.length_nil, hk3a, hgx, hkq] <;> rfl); (simp; omega); ((try dsimp only); (try simp only [List.length_map, List.length_append, List.length_cons, List.length_nil]); omega); ((try dsimp only); (try simp only [List.length_map, List.length_append, List.length_cons, List.length_nil]); omega))
                | ((first | apply W.retC | apply W.endC'); (iterate 2 (try (simp (disch := omega) only [push_cast, simprocAttr, hS3, hZ3, hfz3, hp13, hAr, hP, List.length_cons, List.length_nil, hk3a, hgx, hkq] <;> rfl))))
              all_goals
                (refine ⟨(h.doors.length - (k3 + 1)), ?_, k3 + 1, R3, W03, B3, D3, od3 ++ [⟨x.hours, lst⟩], true, rfl, hdd, (by simp [hp13]), (by omega), (by simp (disch := omega) only [push_cast, simprocAttr, hS3, hZ3, hfz3, hp13, hAr, hP, List.length_cons, List.length_nil]; omega), ?_, ?_, ?_, ?_, ?_, ?_, ?_, ?_, ?_, ?_, ?_, ?_, ?_, ?_⟩; (omega); all_goals first | (simp (disch := omega) only [push_cast, simprocAttr, hS3, hZ3, hfz3, hp13, hk3a, hgx, hkq, hAr, hP, List.length_cons, List.length_nil] <;> first | rfl | omega) | omega)
            · have hdd : od3 ++ [x] = (setDoor h n0.toNat lst).take (k3 + 1) := by
                rw [List.take_add_one, hp03]
                congr 1
                unfold setDoor
                rw [List.getElem?_set, if_neg (by omega), hx]; rfl
              repeat' first
                | apply AW.seq | apply AW.region | apply AW.ret | apply AW.block | apply AW.skip | apply AW.exit | apply AW.scope | apply AW.label | apply AWL.nil | apply D.nil
                | refine AW.draw (id := 31) cx_mixed [7] [] [] 8 (by decide +kernel) ?_
                | refine W.draw cx_mixed (by decide +kernel) ?_
                | ((first | (apply W.step cx_ok; decide) | (apply D.step cx_ok; decide; decide) | apply W.store cx_ok | (apply W.gS; rfl; decide) | (apply D.gS; rfl; decide; decide) | apply AW.cond); (simp (disch := omega) only [push_cast, simprocAttr, hS3, hZ3, hfz3, hp13, hAr, hP, List.length_cons, List.length_nil, hk3a, hgx, hkn] <;> rfl); all_goals try ((with_reducible intro hI); try first | (cases hI; done) | (simp only [INTS] at hI; try first | (exfalso; omega) | (have hT : True := hI; clear hT hI))))
                | ((first | (apply D.store cx_ok; decide) | (apply D.stept cx_ok; decide; decide) | (apply D.stepm cx_ok; decide; decide)); (simp (disch := omega) only [push_cast, simprocAttr, hS3, hZ3, hfz3, hp13, hAr, hP, List.length_cons, List.length_nil, hk3a, hgx, hkn] <;> rfl); try first | exact .inl rfl | exact .inr (by simp))
                | ((apply D.alloc cx_ok; decide; decide); (simp (disch := omega) only [push_cast, simprocAttr, hS3, hZ3, hfz3, hp13, hAr, hP, List.length_cons, List.length_nil, hk3a, hgx, hkn] <;> rfl); (simp (disch := omega) only [push_cast, simprocAttr, hS3, hZ3, hfz3, hp13, hAr, hP, List.length_cons, List.length_nil, hk3a, hgx, hkn, updH_at, Nat.add_assoc]); (simp (disch := omega) only [push_cast, simprocAttr, hS3, hZ3, hfz3, hp13, hAr, hP, List.length_cons, List.length_nil, hk3a, hgx, hkn] <;> omega))
                | ((apply D.alloct cx_ok; decide; decide); (simp (disch := omega) only [push_cast, simprocAttr, hS3, hZ3, hfz3, hp13, hAr, hP, List.length_cons, List.length_nil, hk3a, hgx, hkn] <;> rfl); first | exact .inl rfl | exact .inr (by simp))
                | (apply D.appendN cx_ok; decide; decide; rfl; rfl; rfl; decide; (iterate 3 (simp (disch := omega) only [push_cast, simprocAttr, hS3, hZ3, hfz3, hp13, hAr, hP, List.length_cons, List.length_nil, hk3a, hgx, hkn] <;> rfl)); simp; ((first | rfl | exact idsLL_map _ (fun _ => rfl) _)); ((try dsimp only); (try simp only [List.length_map, List.length_append, List.length_cons, List.length_nil]); omega); ((try dsimp only); (try simp only [List.length_map, List.length_append, List.length_cons, List.length_nil]); omega); (simp (disch := omega) only [push_cast, simprocAttr, hS3, hZ3, hfz3, hp13, hAr, hP, List.length_cons, List.length_nil, hk3a, hgx, hkn, updH_at, Nat.add_assoc]); (simp (disch := omega) only [push_cast, simprocAttr, hS3, hZ3, hfz3, hp13, hAr, hP, List.length_cons, List.length_nil, hk3a, hgx, hkn] <;> omega))
                | (apply W.appendF cx_ok; decide; rfl; rfl; rfl; decide; (iterate 3 (simp (disch := omega) only [push_cast, simprocAttr, hS3, hZ3, hfz3, hp13, hAr, hP, List.length_cons, List.length_nil, hk3a, hgx, hkn] <;> rfl)); simp; (simp (disch := omega) only [push_cast, simprocAttr, hS3, hZ3, hfz3, hp13, hAr, hP, List.length_cons, List.length_nil, hk3a, hgx, hkn] <;> rfl); (simp; omega); ((try dsimp only); (try simp only [List.length_map, List.length_append, List.length_cons, List.length_nil]); omega); ((try dsimp only); (try simp only [List.length_map, List.length_append, List.length_cons, List.length_nil]); omega))
                | ((first | apply W.retC | apply W.endC'); (iterate 2 (try (simp (disch := omega) only [push_cast, simprocAttr, hS3, hZ3, hfz3, hp13, hAr, hP, List.length_cons, List.length_nil, hk3a, hgx, hkn] <;> rfl))))
              all_goals
                (refine ⟨(h.doors.length - (k3 + 1)), ?_, k3 + 1, R3, W03, B3, D3, od3 ++ [x], fz3, rfl, hdd, (by simp [hp13]), (by omega), (by simp (disch := omega) only [push_cast, simprocAttr, hS3, hZ3, hfz3, hp13, hAr, hP, List.length_cons, List.length_nil]; omega), ?_, ?_, ?_, ?_, ?_, ?_, ?_, ?_, ?_, ?_, ?_, ?_, ?_, ?_⟩; (omega); all_goals first | (simp (disch := omega) only [push_cast, simprocAttr, hS3, hZ3, hfz3, hp13, hk3a, hgx, hkn, hAr, hP, List.length_cons, List.length_nil] <;> first | rfl | omega) | omega)
          · have hk3a : ¬ (k3 : Int) < (h.doors.length : Int) := by omega
            have hko : od3 = setDoor h n0.toNat lst := by rw [hp03, List.take_of_length_le (by omega)]
            repeat' first
              | apply AW.seq | apply AW.region | apply AW.ret | apply AW.block | apply AW.skip | apply AW.exit | apply AW.scope | apply AW.label | apply AWL.nil | apply D.nil
              | refine W.draw cx_mixed (by decide +kernel) ?_
              | ((first | (apply W.step cx_ok; decide) | (apply D.step cx_ok; decide; decide) | apply W.store cx_ok | (apply W.gS; rfl; decide) | (apply D.gS; rfl; decide; decide) | apply AW.cond); (simp (disch := omega) only [push_cast, simprocAttr, hS3, hZ3, hfz3, hp13, hAr, hP, List.length_cons, List.length_nil, hk3a] <;> rfl); all_goals try ((with_reducible intro hI); try first | (cases hI; done) | (simp only [INTS] at hI; try first | (exfalso; omega) | (have hT : True := hI; clear hT hI))))
              | ((first | apply W.retC | apply W.endC'); (iterate 2 (try (simp (disch := omega) only [push_cast, simprocAttr, hS3, hZ3, hfz3, hp13, hAr, hP, List.length_cons, List.length_nil, hk3a] <;> rfl))))
            all_goals (show _ = _; rw [hko])
        | false =>
          have hLo : lst = out1_ ++ [s11_] := by rw [← hp11_]; simp [shutH]
          have hfz : ∀ m, s1_.H (s1_.nx + m) = none := fun m => hfr1_ _ (by omega)
          have hAq : (∀ m, ¬ ((1 : Nat) = s1_.nx + m)) ∧ (∀ m, ¬ (s1_.nx + m = (1 : Nat))) ∧ ¬ ((1 : Nat) = s1_.nx) ∧ ¬ (s1_.nx = (1 : Nat)) ∧ (∀ m, ¬ ((2 : Nat) = s1_.nx + m)) ∧ (∀ m, ¬ (s1_.nx + m = (2 : Nat))) ∧ ¬ ((2 : Nat) = s1_.nx) ∧ ¬ (s1_.nx = (2 : Nat)) ∧ (∀ m, ¬ ((3 : Nat) = s1_.nx + m)) ∧ (∀ m, ¬ (s1_.nx + m = (3 : Nat))) ∧ ¬ ((3 : Nat) = s1_.nx) ∧ ¬ (s1_.nx = (3 : Nat)) ∧ (∀ m, ¬ ((0 : Nat) = s1_.nx + m)) ∧ (∀ m, ¬ (s1_.nx + m = (0 : Nat))) ∧ ¬ ((0 : Nat) = s1_.nx) ∧ ¬ (s1_.nx = (0 : Nat)) := by refine ⟨?_, ?_, ?_, ?_, ?_, ?_, ?_, ?_, ?_, ?_, ?_, ?_, ?_, ?_, ?_, ?_⟩ <;> intros <;> omega
          repeat' first
            | apply AW.seq | apply AW.region | apply AW.ret | apply AW.block | apply AW.skip | apply AW.exit | apply AW.scope | apply AW.label | apply AWL.nil | apply D.nil
            | refine AW.draw (id := 27) cx_mixed [8] [] [] 9 (by decide +kernel) ?_
            | refine W.draw cx_mixed (by decide +kernel) ?_
            | ((first | (apply W.step cx_ok; decide) | (apply D.step cx_ok; decide; decide) | apply W.store cx_ok | (apply W.gS; rfl; decide) | (apply D.gS; rfl; decide; decide) | apply AW.cond); (simp (disch := omega) only [push_cast, simprocAttr, hS1_, hZ1_, hk1_, hLo, hfz, hAq, hdn, hdl, hdg, hsh, List.length_cons, List.length_nil] <;> rfl); all_goals try ((with_reducible intro hI); try first | (cases hI; done) | (simp only [INTS] at hI; try first | (exfalso; omega) | (have hT : True := hI; clear hT hI))))
            | ((first | (apply D.store cx_ok; decide) | (apply D.stept cx_ok; decide; decide) | (apply D.stepm cx_ok; decide; decide)); (simp (disch := omega) only [push_cast, simprocAttr, hS1_, hZ1_, hk1_, hLo, hfz, hAq, hdn, hdl, hdg, hsh, List.length_cons, List.length_nil] <;> rfl); try first | exact .inl rfl | exact .inr (by simp))
            | ((apply D.alloc cx_ok; decide; decide); (simp (disch := omega) only [push_cast, simprocAttr, hS1_, hZ1_, hk1_, hLo, hfz, hAq, hdn, hdl, hdg, hsh, List.length_cons, List.length_nil] <;> rfl); (simp (disch := omega) only [push_cast, simprocAttr, hS1_, hZ1_, hk1_, hLo, hfz, hAq, hdn, hdl, hdg, hsh, List.length_cons, List.length_nil, updH_at, Nat.add_assoc]); (simp (disch := omega) only [push_cast, simprocAttr, hS1_, hZ1_, hk1_, hLo, hfz, hAq, hdn, hdl, hdg, hsh, List.length_cons, List.length_nil] <;> omega))
            | ((apply D.alloct cx_ok; decide; decide); (simp (disch := omega) only [push_cast, simprocAttr, hS1_, hZ1_, hk1_, hLo, hfz, hAq, hdn, hdl, hdg, hsh, List.length_cons, List.length_nil] <;> rfl); first | exact .inl rfl | exact .inr (by simp))
            | (apply W.append cx_ok; decide; rfl; rfl; rfl; decide; (iterate 3 (simp (disch := omega) only [push_cast, simprocAttr, hS1_, hZ1_, hk1_, hLo, hfz, hAq, hdn, hdl, hdg, hsh, List.length_cons, List.length_nil] <;> rfl)); simp; (rfl); ((try dsimp only); (try simp only [List.length_map, List.length_append, List.length_cons, List.length_nil]); omega); ((try dsimp only); (try simp only [List.length_map, List.length_append, List.length_cons, List.length_nil]); omega))
            | (apply D.appendN cx_ok; decide; decide; rfl; rfl; rfl; decide; (iterate 3 (simp (disch := omega) only [push_cast, simprocAttr, hS1_, hZ1_, hk1_, hLo, hfz, hAq, hdn, hdl, hdg, hsh, List.length_cons, List.length_nil] <;> rfl)); simp; ((first | rfl | exact idsLL_map _ (fun _ => rfl) _)); ((try dsimp only); (try simp only [List.length_map, List.length_append, List.length_cons, List.length_nil]); omega); ((try dsimp only); (try simp only [List.length_map, List.length_append, List.length_cons, List.length_nil]); omega); (simp (disch := omega) only [push_cast, simprocAttr, hS1_, hZ1_, hk1_, hLo, hfz, hAq, hdn, hdl, hdg, hsh, List.length_cons, List.length_nil, updH_at, Nat.add_assoc]); (simp (disch := omega) only [push_cast, simprocAttr, hS1_, hZ1_, hk1_, hLo, hfz, hAq, hdn, hdl, hdg, hsh, List.length_cons, List.length_nil] <;> omega))
            | ((first | apply W.retC | apply W.endC'); (iterate 2 (try (simp (disch := omega) only [push_cast, simprocAttr, hS1_, hZ1_, hk1_, hLo, hfz, hAq, hdn, hdl, hdg, hsh, List.length_cons, List.length_nil] <;> rfl))))
          all_goals try (show _ = _; rw [if_pos (by rw [hLo]; first | omega | (simp only [List.length_append, List.length_cons, List.length_nil]; omega))]; rfl)
          have hle8 : ¬ 8 < lst.length := by rw [hLo]; first | omega | (simp only [List.length_append, List.length_cons, List.length_nil]; omega)
          rw [if_neg hle8]
          refine AW.adoptCell ((s1_.nx + 1) + 7) 0 1 2 38 (r := { k := 3, es := [[.ref ((s1_.nx + 1) + 2) 0 h.rooms.length, .v (.slice none 0 0), .ref ((s1_.nx + 1) + 5) 0 h.ways.length]], ty := 26 }) (by simp (disch := omega) only [push_cast, simprocAttr, hS1_, hZ1_, hk1_, hLo, hfz, hAq, hdn, hdl, hdg, hsh, List.length_cons, List.length_nil]) (by rfl) ?_
          refine AW.loop (fun n s => ∃ (k R W0 B D : Nat) (od : List Door) (fz : Bool), n = h.doors.length - k ∧ (od = (setDoor h n0.toNat lst).take k) ∧ (od.length = k) ∧ (k ≤ h.doors.length) ∧ (4 ≤ R ∧ R < s.nx ∧ 4 ≤ W0 ∧ W0 < s.nx ∧ 4 ≤ B ∧ B < s.nx ∧ 4 ≤ D ∧ D < s.nx ∧ R ≠ W0 ∧ R ≠ B ∧ R ≠ D ∧ W0 ≠ B ∧ W0 ≠ D ∧ B ≠ D) ∧ 4 ≤ s.nx ∧ s.tm 1 = ai n0 ∧ s.tm 6 = .ptr 2 0 0 1 ∧ s.tm 9 = .ref 3 0 lst.length ∧ s.tm 13 = .ptr B 0 0 1 ∧ s.tm 118 = .lst (h.doors.map eDoor) ∧ s.tm 119 = ai h.doors.length ∧ s.tm 120 = ai k ∧ Pg.rowAt s.H (2) = some ({ k := 3, es := [[.v (.slice none 0 0), .v (.slice none 0 0), .v (.slice none 0 0)]], ty := 26 }) ∧ Pg.rowAt s.H (3) = some ({ k := 2, es := lst.map eSpan, ty := 51, lo := lst.length, fro := fz }) ∧ Pg.rowAt s.H (R) = some ({ k := 2, es := h.rooms.map eRoom, ty := 62, lo := h.rooms.length }) ∧ Pg.rowAt s.H (W0) = some ({ k := 5, es := h.ways.map eWay, ty := 72, lo := h.ways.length }) ∧ Pg.rowAt s.H (B) = some ({ k := 3, es := [[.ref R 0 h.rooms.length, .ref D 0 k, .ref W0 0 h.ways.length]], ty := 26 }) ∧ Pg.rowAt s.H (D) = some ({ k := 2, es := od.map eDoor, ty := 38, lo := k })) (h.doors.length) ⟨0, ((s1_.nx + 1) + 2), ((s1_.nx + 1) + 5), ((s1_.nx + 1) + 7), ((s1_.nx + 1) + 9), [], false, rfl, rfl, rfl, Nat.zero_le _, (by simp (disch := omega) only [push_cast, simprocAttr, hS1_, hZ1_, hk1_, hLo, hfz, hAq, hdn, hdl, hdg, hsh, List.length_cons, List.length_nil]; omega), ?_, ?_, ?_, ?_, ?_, ?_, ?_, ?_, ?_, ?_, ?_, ?_, ?_, ?_⟩ ?_
          iterate 14 (first | (simp (disch := omega) only [push_cast, simprocAttr, hS1_, hZ1_, hk1_, hLo, hfz, hAq, hdn, hdl, hdg, hsh, List.length_cons, List.length_nil] <;> first | rfl | omega) | omega)
          rintro n3 s3 ⟨k3, R3, W03, B3, D3, od3, fz3, hn3, hp03, hp13, hp23, hp33, hnl3, hS3⟩
          have hZ3 : (2 : Nat) ≠ s3.nx ∧ s3.nx ≠ (2 : Nat) ∧ (3 : Nat) ≠ s3.nx ∧ s3.nx ≠ (3 : Nat) ∧ (R3 : Nat) ≠ s3.nx ∧ s3.nx ≠ (R3 : Nat) ∧ (W03 : Nat) ≠ s3.nx ∧ s3.nx ≠ (W03 : Nat) ∧ (B3 : Nat) ≠ s3.nx ∧ s3.nx ≠ (B3 : Nat) ∧ (D3 : Nat) ≠ s3.nx ∧ s3.nx ≠ (D3 : Nat) := by omega
          refine AW.fresh fun hfr3 => ?_
          obtain ⟨q1, q2, q3, q4, q5, q6, q7, q8, q9, q10, q11, q12, q13, q14⟩ := hp33
          have hfz3 : ∀ m, s3.H (s3.nx + m) = none := fun m => hfr3 _ (by omega)
          have hAr : (∀ m, ¬ ((R3 : Nat) = s3.nx + m)) ∧ (∀ m, ¬ (s3.nx + m = (R3 : Nat))) ∧ ¬ ((R3 : Nat) = s3.nx) ∧ ¬ (s3.nx = (R3 : Nat)) ∧ (∀ m, ¬ ((W03 : Nat) = s3.nx + m)) ∧ (∀ m, ¬ (s3.nx + m = (W03 : Nat))) ∧ ¬ ((W03 : Nat) = s3.nx) ∧ ¬ (s3.nx = (W03 : Nat)) ∧ (∀ m, ¬ ((B3 : Nat) = s3.nx + m)) ∧ (∀ m, ¬ (s3.nx + m = (B3 : Nat))) ∧ ¬ ((B3 : Nat) = s3.nx) ∧ ¬ (s3.nx = (B3 : Nat)) ∧ (∀ m, ¬ ((D3 : Nat) = s3.nx + m)) ∧ (∀ m, ¬ (s3.nx + m = (D3 : Nat))) ∧ ¬ ((D3 : Nat) = s3.nx) ∧ ¬ (s3.nx = (D3 : Nat)) ∧ (∀ m, ¬ ((2 : Nat) = s3.nx + m)) ∧ (∀ m, ¬ (s3.nx + m = (2 : Nat))) ∧ ¬ ((2 : Nat) = s3.nx) ∧ ¬ (s3.nx = (2 : Nat)) ∧ (∀ m, ¬ ((3 : Nat) = s3.nx + m)) ∧ (∀ m, ¬ (s3.nx + m = (3 : Nat))) ∧ ¬ ((3 : Nat) = s3.nx) ∧ ¬ (s3.nx = (3 : Nat)) := by refine ⟨?_, ?_, ?_, ?_, ?_, ?_, ?_, ?_, ?_, ?_, ?_, ?_, ?_, ?_, ?_, ?_, ?_, ?_, ?_, ?_, ?_, ?_, ?_, ?_⟩ <;> intros <;> omega
          have hP : (2 : Nat) ≠ R3 ∧ (2 : Nat) ≠ W03 ∧ (2 : Nat) ≠ B3 ∧ (2 : Nat) ≠ D3 ∧ (3 : Nat) ≠ R3 ∧ (3 : Nat) ≠ W03 ∧ (3 : Nat) ≠ B3 ∧ (3 : Nat) ≠ D3 ∧ (R3 : Nat) ≠ 2 ∧ (R3 : Nat) ≠ 3 ∧ (R3 : Nat) ≠ W03 ∧ (R3 : Nat) ≠ B3 ∧ (R3 : Nat) ≠ D3 ∧ (W03 : Nat) ≠ 2 ∧ (W03 : Nat) ≠ 3 ∧ (W03 : Nat) ≠ R3 ∧ (W03 : Nat) ≠ B3 ∧ (W03 : Nat) ≠ D3 ∧ (B3 : Nat) ≠ 2 ∧ (B3 : Nat) ≠ 3 ∧ (B3 : Nat) ≠ R3 ∧ (B3 : Nat) ≠ W03 ∧ (B3 : Nat) ≠ D3 ∧ (D3 : Nat) ≠ 2 ∧ (D3 : Nat) ≠ 3 ∧ (D3 : Nat) ≠ R3 ∧ (D3 : Nat) ≠ W03 ∧ (D3 : Nat) ≠ B3 := by omega
          have hsl : (setDoor h n0.toNat lst).length = h.doors.length := by unfold setDoor; rw [List.length_set]
          by_cases hk3 : k3 < h.doors.length
          · have hk3a : (k3 : Int) < (h.doors.length : Int) := by omega
            obtain ⟨x, hx⟩ : ∃ x, h.doors[k3]? = some x := ⟨_, List.getElem?_eq_getElem hk3⟩
            have hgx : (h.doors.map eDoor).getD k3 [] = eDoor x := by rw [List.getD_eq_getElem?_getD, List.getElem?_map, hx]; rfl
            have hxm : x ∈ h.doors := List.mem_of_getElem? hx
            have hxl := hfit.doors x hxm
            by_cases hkn : (k3 : Int) = n0
            · have hdd : od3 ++ [⟨x.hours, lst⟩] = (setDoor h n0.toNat lst).take (k3 + 1) := by
                rw [List.take_add_one, hp03]
                congr 1
                unfold setDoor
                have hnk : n0.toNat = k3 := by omega
                have hdx : h.door (k3 : Int) = x := by unfold House.door; rw [Int.toNat_natCast, List.getD_eq_getElem?_getD, hx]; rfl
                rw [hnk, hdx]; simp [hk3]
              have hkq : ((k3 : Int) = n0) = True := eq_true hkn
              repeat' first
                | apply AW.seq | apply AW.region | apply AW.ret | apply AW.block | apply AW.skip | apply AW.exit | apply AW.scope | apply AW.label | apply AWL.nil | apply D.nil
                | refine AW.draw (id := 31) cx_mixed [7] [] [] 8 (by decide +kernel) ?_
                | refine W.draw cx_mixed (by decide +kernel) ?_
                | ((first | (apply W.step cx_ok; decide) | (apply D.step cx_ok; decide; decide) | apply W.store cx_ok | (apply W.gS; rfl; decide) | (apply D.gS; rfl; decide; decide) | apply AW.cond); (simp (disch := omega) only [push_cast, simprocAttr, hS3, hZ3, hfz3, hp13, hAr, hP, List.length_cons, List.length_nil, hk3a, hgx, hkq] <;> rfl); all_goals try ((with_reducible intro hI); try first | (cases hI; done) | (simp only [INTS] at hI; try first | (exfalso; omega) | (have hT : True := hI; clear hT hI))))
                | ((first | (apply D.store cx_ok; decide) | (apply D.stept cx_ok; decide; decide) | (apply D.stepm cx_ok; decide; decide)); (simp (disch := omega) only [push_cast, simprocAttr, hS3, hZ3, hfz3, hp13, hAr, hP, List.length_cons, List.length_nil, hk3a, hgx, hkq] <;> rfl); try first | exact .inl rfl | exact .inr (by simp))
                | ((apply D.alloc cx_ok; decide; decide); (simp (disch := omega) only [push_cast, simprocAttr, hS3, hZ3, hfz3, hp13, hAr, hP, List.length_cons, List.length_nil, hk3a, hgx, hkq] <;> rfl); (simp (disch := omega) only [push_cast, simprocAttr, hS3, hZ3, hfz3, hp13, hAr, hP, List.length_cons, List.length_nil, hk3a, hgx, hkq, updH_at, Nat.add_assoc]); (simp (disch := omega) only [push_cast, simprocAttr, hS3, hZ3, hfz3, hp13, hAr, hP, List.length_cons, List.length_nil, hk3a, hgx, hkq] <;> omega))
                | ((apply D.alloct cx_ok; decide; decide); (simp (disch := omega) only [push_cast, simprocAttr, hS3, hZ3, hfz3, hp13, hAr, hP, List.length_cons, List.length_nil, hk3a, hgx, hkq] <;> rfl); first | exact .inl rfl | exact .inr (by simp))
                | (apply D.appendN cx_ok; decide; decide; rfl; rfl; rfl; decide; (iterate 3 (simp (disch := omega) only [push_cast, simprocAttr, hS3, hZ3, hfz3, hp13, hAr, hP, List.length_cons, List.length_nil, hk3a, hgx, hkq] <;> rfl)); simp; ((first | rfl | exact idsLL_map _ (fun _ => rfl) _)); ((try dsimp only); (try simp only [List.length_map, List.length_append, List.length_cons, List.length_nil]); omega); ((try dsimp only); (try simp only [List.length_map, List.length_append, List.length_cons, List.length_nil]); omega); (simp (disch := omega) only [push_cast, simprocAttr, hS3, hZ3, hfz3, hp13, hAr, hP, List.length_cons, List.length_nil, hk3a, hgx, hkq, updH_at, Nat.add_assoc]); (simp (disch := omega) only [push_cast, simprocAttr, hS3, hZ3, hfz3, hp13, hAr, hP, List.length_cons, List.length_nil, hk3a, hgx, hkq] <;> omega))
                | (apply W.appendF cx_ok; decide; rfl; rfl; rfl; decide; (iterate 3 (simp (disch := omega) only [push_cast, simprocAttr, hS3, hZ3, hfz3, hp13, hAr, hP, List.length_cons, List.length_nil, hk3a, hgx, hkq] <;> rfl)); simp; (simp (disch := omega) only [push_cast, simprocAttr, hS3, hZ3, hfz3, hp13, hAr, hP, List.length_cons, List.length_nil, hk3a, hgx, hkq] <;> rfl); (simp; omega); ((try dsimp only); (try simp only [List.length_map, List.length_append, List.length_cons, List.length_nil]); omega); ((try dsimp only); (try simp only [List.length_map, List.length_append, List.length_cons, List.length_nil]); omega))
                | ((first | apply W.retC | apply W.endC'); (iterate 2 (try (simp (disch := omega) only [push_cast, simprocAttr, hS3, hZ3, hfz3, hp13, hAr, hP, List.length_cons, List.length_nil, hk3a, hgx, hkq] <;> rfl))))
              all_goals
                (refine ⟨(h.doors.length - (k3 + 1)), ?_, k3 + 1, R3, W03, B3, D3, od3 ++ [⟨x.hours, lst⟩], true, rfl, hdd, (by simp [hp13]), (by omega), (by simp (disch := omega) only [push_cast, simprocAttr, hS3, hZ3, hfz3, hp13, hAr, hP, List.length_cons, List.length_nil]; omega), ?_, ?_, ?_, ?_, ?_, ?_, ?_, ?_, ?_, ?_, ?_, ?_, ?_, ?_⟩; (omega); all_goals first | (simp (disch := omega) only [push_cast, simprocAttr, hS3, hZ3, hfz3, hp13, hk3a, hgx, hkq, hAr, hP, List.length_cons, List.length_nil] <;> first | rfl | omega) | omega)
            · have hdd : od3 ++ [x] = (setDoor h n0.toNat lst).take (k3 + 1) := by
                rw [List.take_add_one, hp03]
                congr 1
                unfold setDoor
                rw [List.getElem?_set, if_neg (by omega), hx]; rfl
              repeat' first
                | apply AW.seq | apply AW.region | apply AW.ret | apply AW.block | apply AW.skip | apply AW.exit | apply AW.scope | apply AW.label | apply AWL.nil | apply D.nil
                | refine AW.draw (id := 31) cx_mixed [7] [] [] 8 (by decide +kernel) ?_
                | refine W.draw cx_mixed (by decide +kernel) ?_
                | ((first | (apply W.step cx_ok; decide) | (apply D.step cx_ok; decide; decide) | apply W.store cx_ok | (apply W.gS; rfl; decide) | (apply D.gS; rfl; decide; decide) | apply AW.cond); (simp (disch := omega) only [push_cast, simprocAttr, hS3, hZ3, hfz3, hp13, hAr, hP, List.length_cons, List.length_nil, hk3a, hgx, hkn] <;> rfl); all_goals try ((with_reducible intro hI); try first | (cases hI; done) | (simp only [INTS] at hI; try first | (exfalso; omega) | (have hT : True := hI; clear hT hI))))
                | ((first | (apply D.store cx_ok; decide) | (apply D.stept cx_ok; decide; decide) | (apply D.stepm cx_ok; decide; decide)); (simp (disch := omega) only [push_cast, simprocAttr, hS3, hZ3, hfz3, hp13, hAr, hP, List.length_cons, List.length_nil, hk3a, hgx, hkn] <;> rfl); try first | exact .inl rfl | exact .inr (by simp))
                | ((apply D.alloc cx_ok; decide; decide); (simp (disch := omega) only [push_cast, simprocAttr, hS3, hZ3, hfz3, hp13, hAr, hP, List.length_cons, List.length_nil, hk3a, hgx, hkn] <;> rfl); (simp (disch := omega) only [push_cast, simprocAttr, hS3, hZ3, hfz3, hp13, hAr, hP, List.length_cons, List.length_nil, hk3a, hgx, hkn, updH_at, Nat.add_assoc]); (simp (disch := omega) only [push_cast, simprocAttr, hS3, hZ3, hfz3, hp13, hAr, hP, List.length_cons, List.length_nil, hk3a, hgx, hkn] <;> omega))
                | ((apply D.alloct cx_ok; decide; decide); (simp (disch := omega) only [push_cast, simprocAttr, hS3, hZ3, hfz3, hp13, hAr, hP, List.length_cons, List.length_nil, hk3a, hgx, hkn] <;> rfl); first | exact .inl rfl | exact .inr (by simp))
                | (apply D.appendN cx_ok; decide; decide; rfl; rfl; rfl; decide; (iterate 3 (simp (disch := omega) only [push_cast, simprocAttr, hS3, hZ3, hfz3, hp13, hAr, hP, List.length_cons, List.length_nil, hk3a, hgx, hkn] <;> rfl)); simp; ((first | rfl | exact idsLL_map _ (fun _ => rfl) _)); ((try dsimp only); (try simp only [List.length_map, List.length_append, List.length_cons, List.length_nil]); omega); ((try dsimp only); (try simp only [List.length_map, List.length_append, List.length_cons, List.length_nil]); omega); (simp (disch := omega) only [push_cast, simprocAttr, hS3, hZ3, hfz3, hp13, hAr, hP, List.length_cons, List.length_nil, hk3a, hgx, hkn, updH_at, Nat.add_assoc]); (simp (disch := omega) only [push_cast, simprocAttr, hS3, hZ3, hfz3, hp13, hAr, hP, List.length_cons, List.length_nil, hk3a, hgx, hkn] <;> omega))
                | (apply W.appendF cx_ok; decide; rfl; rfl; rfl; decide; (iterate 3 (simp (disch := omega) only [push_cast, simprocAttr, hS3, hZ3, hfz3, hp13, hAr, hP, List.length_cons, List.length_nil, hk3a, hgx, hkn] <;> rfl)); simp; (simp (disch := omega) only [push_cast, simprocAttr, hS3, hZ3, hfz3, hp13, hAr, hP, List.length_cons, List.length_nil, hk3a, hgx, hkn] <;> rfl); (simp; omega); ((try dsimp only); (try simp only [List.length_map, List.length_append, List.length_cons, List.length_nil]); omega); ((try dsimp only); (try simp only [List.length_map, List.length_append, List.length_cons, List.length_nil]); omega))
                | ((first | apply W.retC | apply W.endC'); (iterate 2 (try (simp (disch := omega) only [push_cast, simprocAttr, hS3, hZ3, hfz3, hp13, hAr, hP, List.length_cons, List.length_nil, hk3a, hgx, hkn] <;> rfl))))
              all_goals
                (refine ⟨(h.doors.length - (k3 + 1)), ?_, k3 + 1, R3, W03, B3, D3, od3 ++ [x], fz3, rfl, hdd, (by simp [hp13]), (by omega), (by simp (disch := omega) only [push_cast, simprocAttr, hS3, hZ3, hfz3, hp13, hAr, hP, List.length_cons, List.length_nil]; omega), ?_, ?_, ?_, ?_, ?_, ?_, ?_, ?_, ?_, ?_, ?_, ?_, ?_, ?_⟩; (omega); all_goals first | (simp (disch := omega) only [push_cast, simprocAttr, hS3, hZ3, hfz3, hp13, hk3a, hgx, hkn, hAr, hP, List.length_cons, List.length_nil] <;> first | rfl | omega) | omega)
          · have hk3a : ¬ (k3 : Int) < (h.doors.length : Int) := by omega
            have hko : od3 = setDoor h n0.toNat lst := by rw [hp03, List.take_of_length_le (by omega)]
            repeat' first
              | apply AW.seq | apply AW.region | apply AW.ret | apply AW.block | apply AW.skip | apply AW.exit | apply AW.scope | apply AW.label | apply AWL.nil | apply D.nil
              | refine W.draw cx_mixed (by decide +kernel) ?_
              | ((first | (apply W.step cx_ok; decide) | (apply D.step cx_ok; decide; decide) | apply W.store cx_ok | (apply W.gS; rfl; decide) | (apply D.gS; rfl; decide; decide) | apply AW.cond); (simp (disch := omega) only [push_cast, simprocAttr, hS3, hZ3, hfz3, hp13, hAr, hP, List.length_cons, List.length_nil, hk3a] <;> rfl); all_goals try ((with_reducible intro hI); try first | (cases hI; done) | (simp only [INTS] at hI; try first | (exfalso; omega) | (have hT : True := hI; clear hT hI))))
              | ((first | apply W.retC | apply W.endC'); (iterate 2 (try (simp (disch := omega) only [push_cast, simprocAttr, hS3, hZ3, hfz3, hp13, hAr, hP, List.length_cons, List.length_nil, hk3a] <;> rfl))))
            all_goals (show _ = _; rw [hko])
      · obtain ⟨hk1_, hg1_, hd'1_, hl'1_, hm1_, hx1_⟩ := drop_cons hp01_ eSpan []
        have hxb := hshb x hm1_
        have x1 := hxb.1
        have x2 := hxb.2.1
        have x3 := hxb.2.2
        cases put1_ with
        | true =>
          repeat' first
            | apply AW.seq | apply AW.region | apply AW.ret | apply AW.block | apply AW.skip | apply AW.exit | apply AW.scope | apply AW.label | apply AWL.nil | apply D.nil
            | refine W.draw cx_mixed (by decide +kernel) ?_
            | ((first | (apply W.step cx_ok; decide) | (apply D.step cx_ok; decide; decide) | apply W.store cx_ok | (apply W.gS; rfl; decide) | (apply D.gS; rfl; decide; decide) | apply AW.cond); (simp (disch := omega) only [push_cast, simprocAttr, hS1_, hZ1_, hdn, hdl, hdg, hsh, List.length_cons, List.length_nil, hk1_, hg1_] <;> rfl); all_goals try ((with_reducible intro hI); try first | (cases hI; done) | (simp only [INTS] at hI; try first | (exfalso; omega) | (have hT : True := hI; clear hT hI))))
            | (apply W.append cx_ok; decide; rfl; rfl; rfl; decide; (iterate 3 (simp (disch := omega) only [push_cast, simprocAttr, hS1_, hZ1_, hdn, hdl, hdg, hsh, List.length_cons, List.length_nil, hk1_, hg1_] <;> rfl)); simp; (rfl); ((try dsimp only); (try simp only [List.length_map, List.length_append, List.length_cons, List.length_nil]); omega); ((try dsimp only); (try simp only [List.length_map, List.length_append, List.length_cons, List.length_nil]); omega))
            | ((first | apply W.retC | apply W.endC'); (iterate 2 (try (simp (disch := omega) only [push_cast, simprocAttr, hS1_, hZ1_, hdn, hdl, hdg, hsh, List.length_cons, List.length_nil, hk1_, hg1_] <;> rfl))))
          all_goals first
            | (have hxs : x = s11_ := by cases x; cases s11_; simp_all
               have hq : (out1_ ++ [x]) ++ shutH rest1_ s11_ true = lst := by rw [← hp11_, shutH, if_pos hxs]; simp
               (refine ⟨rest1_.length, ?_, k1_ + 1, out1_ ++ [x], s11_, true, rest1_, rfl, hd'1_, hq, (by first | omega | (simp only [List.length_append, List.length_cons, List.length_nil]; omega)), (by first | omega | (simp only [mergeS]; omega)), ?_, ?_, ?_, ?_, ?_, ?_, ?_, ?_, ?_, ?_, ?_, ?_, ?_, ?_⟩; ((simp only [List.length_cons] at *; omega)); all_goals first | (simp (disch := omega) only [push_cast, simprocAttr, hS1_, hZ1_, hg1_, hk1_, mergeS, List.length_cons, List.length_nil] <;> first | rfl | omega) | omega))
            | (have hxs : ¬ x = s11_ := fun e => by subst e; omega
               have hq : (out1_ ++ [x]) ++ shutH rest1_ s11_ true = lst := by rw [← hp11_, shutH, if_neg hxs, if_pos (by omega)]; simp
               (refine ⟨rest1_.length, ?_, k1_ + 1, out1_ ++ [x], s11_, true, rest1_, rfl, hd'1_, hq, (by first | omega | (simp only [List.length_append, List.length_cons, List.length_nil]; omega)), (by first | omega | (simp only [mergeS]; omega)), ?_, ?_, ?_, ?_, ?_, ?_, ?_, ?_, ?_, ?_, ?_, ?_, ?_, ?_⟩; ((simp only [List.length_cons] at *; omega)); all_goals first | (simp (disch := omega) only [push_cast, simprocAttr, hS1_, hZ1_, hg1_, hk1_, mergeS, List.length_cons, List.length_nil] <;> first | rfl | omega) | omega))
            | (have hxs : ¬ x = s11_ := fun e => by subst e; omega
               have hq : (out1_ ++ [x]) ++ shutH rest1_ s11_ true = lst := by rw [← hp11_, shutH, if_neg hxs, if_neg (by omega), if_pos (by omega), if_pos rfl]; simp
               (refine ⟨rest1_.length, ?_, k1_ + 1, out1_ ++ [x], s11_, true, rest1_, rfl, hd'1_, hq, (by first | omega | (simp only [List.length_append, List.length_cons, List.length_nil]; omega)), (by first | omega | (simp only [mergeS]; omega)), ?_, ?_, ?_, ?_, ?_, ?_, ?_, ?_, ?_, ?_, ?_, ?_, ?_, ?_⟩; ((simp only [List.length_cons] at *; omega)); all_goals first | (simp (disch := omega) only [push_cast, simprocAttr, hS1_, hZ1_, hg1_, hk1_, mergeS, List.length_cons, List.length_nil] <;> first | rfl | omega) | omega))
            | (have hxs : ¬ x = s11_ := fun e => by subst e; simp_all
               have hq : out1_ ++ shutH rest1_ (mergeS s11_ x) true = lst := by rw [← hp11_, shutH, if_neg hxs, if_neg (by omega), if_neg (by omega)]
               (refine ⟨rest1_.length, ?_, k1_ + 1, out1_, mergeS s11_ x, true, rest1_, rfl, hd'1_, hq, (by first | omega | (simp only [List.length_append, List.length_cons, List.length_nil]; omega)), (by first | omega | (simp only [mergeS]; omega)), ?_, ?_, ?_, ?_, ?_, ?_, ?_, ?_, ?_, ?_, ?_, ?_, ?_, ?_⟩; ((simp only [List.length_cons] at *; omega)); all_goals first | (simp (disch := omega) only [push_cast, simprocAttr, hS1_, hZ1_, hg1_, hk1_, mergeS, List.length_cons, List.length_nil] <;> first | rfl | omega) | omega))
        | false =>
          repeat' first
            | apply AW.seq | apply AW.region | apply AW.ret | apply AW.block | apply AW.skip | apply AW.exit | apply AW.scope | apply AW.label | apply AWL.nil | apply D.nil
            | refine W.draw cx_mixed (by decide +kernel) ?_
            | ((first | (apply W.step cx_ok; decide) | (apply D.step cx_ok; decide; decide) | apply W.store cx_ok | (apply W.gS; rfl; decide) | (apply D.gS; rfl; decide; decide) | apply AW.cond); (simp (disch := omega) only [push_cast, simprocAttr, hS1_, hZ1_, hdn, hdl, hdg, hsh, List.length_cons, List.length_nil, hk1_, hg1_] <;> rfl); all_goals try ((with_reducible intro hI); try first | (cases hI; done) | (simp only [INTS] at hI; try first | (exfalso; omega) | (have hT : True := hI; clear hT hI))))
            | (apply W.append cx_ok; decide; rfl; rfl; rfl; decide; (iterate 3 (simp (disch := omega) only [push_cast, simprocAttr, hS1_, hZ1_, hdn, hdl, hdg, hsh, List.length_cons, List.length_nil, hk1_, hg1_] <;> rfl)); simp; (rfl); ((try dsimp only); (try simp only [List.length_map, List.length_append, List.length_cons, List.length_nil]); omega); ((try dsimp only); (try simp only [List.length_map, List.length_append, List.length_cons, List.length_nil]); omega))
            | ((first | apply W.retC | apply W.endC'); (iterate 2 (try (simp (disch := omega) only [push_cast, simprocAttr, hS1_, hZ1_, hdn, hdl, hdg, hsh, List.length_cons, List.length_nil, hk1_, hg1_] <;> rfl))))
          all_goals first
            | (have hxs : x = s11_ := by cases x; cases s11_; simp_all
               have hq : (out1_ ++ [x]) ++ shutH rest1_ s11_ true = lst := by rw [← hp11_, shutH, if_pos hxs]; simp
               (refine ⟨rest1_.length, ?_, k1_ + 1, out1_ ++ [x], s11_, true, rest1_, rfl, hd'1_, hq, (by first | omega | (simp only [List.length_append, List.length_cons, List.length_nil]; omega)), (by first | omega | (simp only [mergeS]; omega)), ?_, ?_, ?_, ?_, ?_, ?_, ?_, ?_, ?_, ?_, ?_, ?_, ?_, ?_⟩; ((simp only [List.length_cons] at *; omega)); all_goals first | (simp (disch := omega) only [push_cast, simprocAttr, hS1_, hZ1_, hg1_, hk1_, mergeS, List.length_cons, List.length_nil] <;> first | rfl | omega) | omega))
            | (have hxs : ¬ x = s11_ := fun e => by subst e; omega
               have hq : (out1_ ++ [x]) ++ shutH rest1_ s11_ false = lst := by rw [← hp11_, shutH, if_neg hxs, if_pos (by omega)]; simp
               (refine ⟨rest1_.length, ?_, k1_ + 1, out1_ ++ [x], s11_, false, rest1_, rfl, hd'1_, hq, (by first | omega | (simp only [List.length_append, List.length_cons, List.length_nil]; omega)), (by first | omega | (simp only [mergeS]; omega)), ?_, ?_, ?_, ?_, ?_, ?_, ?_, ?_, ?_, ?_, ?_, ?_, ?_, ?_⟩; ((simp only [List.length_cons] at *; omega)); all_goals first | (simp (disch := omega) only [push_cast, simprocAttr, hS1_, hZ1_, hg1_, hk1_, mergeS, List.length_cons, List.length_nil] <;> first | rfl | omega) | omega))
            | (have hxs : ¬ x = s11_ := fun e => by subst e; omega
               have hq : (out1_ ++ [s11_, x]) ++ shutH rest1_ s11_ true = lst := by rw [← hp11_, shutH, if_neg hxs, if_neg (by omega), if_pos (by omega), if_neg (by decide)]; simp
               (refine ⟨rest1_.length, ?_, k1_ + 1, out1_ ++ [s11_, x], s11_, true, rest1_, rfl, hd'1_, hq, (by first | omega | (simp only [List.length_append, List.length_cons, List.length_nil]; omega)), (by first | omega | (simp only [mergeS]; omega)), ?_, ?_, ?_, ?_, ?_, ?_, ?_, ?_, ?_, ?_, ?_, ?_, ?_, ?_⟩; ((simp only [List.length_cons] at *; omega)); all_goals first | (simp (disch := omega) only [push_cast, simprocAttr, hS1_, hZ1_, hg1_, hk1_, mergeS, List.length_cons, List.length_nil] <;> first | rfl | omega) | omega))
            | (have hxs : ¬ x = s11_ := fun e => by subst e; simp_all
               have hq : out1_ ++ shutH rest1_ (mergeS s11_ x) false = lst := by rw [← hp11_, shutH, if_neg hxs, if_neg (by omega), if_neg (by omega)]
               (refine ⟨rest1_.length, ?_, k1_ + 1, out1_, mergeS s11_ x, false, rest1_, rfl, hd'1_, hq, (by first | omega | (simp only [List.length_append, List.length_cons, List.length_nil]; omega)), (by first | omega | (simp only [mergeS]; omega)), ?_, ?_, ?_, ?_, ?_, ?_, ?_, ?_, ?_, ?_, ?_, ?_, ?_, ?_⟩; ((simp only [List.length_cons] at *; omega)); all_goals first | (simp (disch := omega) only [push_cast, simprocAttr, hS1_, hZ1_, hg1_, hk1_, mergeS, List.length_cons, List.length_nil] <;> first | rfl | omega) | omega))
  ·
    refine OKat.of_bodyC cx_ok (rs := [.cell 6 26, .tmp 7]) Tryz.func17 rfl (by decide +kernel) rfl (by decide) (by simp [Tryz.ntmps17]) ?_
    simp only [Tryz.ntmps17]
    repeat' first
      | apply AW.seq | apply AW.region | apply AW.ret | apply AW.block | apply AW.skip | apply AW.exit | apply AW.scope | apply AW.label | apply AWL.nil | apply D.nil
      | refine W.draw cx_mixed (by decide +kernel) ?_
      | ((first | (apply W.step cx_ok; decide) | (apply D.step cx_ok; decide; decide) | apply W.store cx_ok | (apply W.gS; rfl; decide) | (apply D.gS; rfl; decide; decide) | apply AW.cond); (simp (disch := omega) only [push_cast, simprocAttr, he] <;> rfl); all_goals try ((with_reducible intro hI); try first | (cases hI; done) | (simp only [INTS] at hI; try first | (exfalso; omega) | (have hT : True := hI; clear hT hI))))
      | ((first | (apply W.callv cx_ok; decide) | (apply D.callv cx_ok; decide; decide)); (iterate 2 (simp (disch := omega) only [push_cast, simprocAttr, he] <;> rfl)); (with_reducible first | exact doorNone_ok _ _ hfit); try first | rfl | (simp (disch := omega) only [push_cast, simprocAttr, he] <;> rfl))
      | ((first | apply W.retC | apply W.endC'); (iterate 2 (try (simp (disch := omega) only [push_cast, simprocAttr, he] <;> rfl))))
    all_goals (show _ = _; unfold shutDoor; rw [if_pos he]; rfl)
end Go.Proofs.Hz
