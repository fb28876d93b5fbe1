/-
  Contracts of functions, proved by going through their code. No conditions.
-/
import Derived.WalkKit
import Derived.Lib.Walk
import Derived.BigCall
import Derived.BigFrame
import Derived.Shelf.RegionOpen
import Derived.Test.YtkdiplkmcilkmaaGreatDoorTaw
import Derived.Test.YtkdiplkmcilkmaaGreatDoorTax
set_option linter.unusedVariables false
set_option linter.unusedSimpArgs false
set_option maxHeartbeats 8000000
set_option maxRecDepth 10000
namespace Go.Proofs.Dz
open Go Go.Pg Go.Proofs Go.Proofs.Ds
theorem cI : constA .nilIface = .v .nilIface := rfl
theorem cP : constA (.pointer none) = .v (.pointer none) := rfl
theorem byteZero : ∀ i, cx.P.info? 5 = some i → i.zero = some (.int .u8 0) := by
  intro i hi
  have h : (Tryz.prog.info? 5).map (·.zero) = some (some (.int .u8 0)) := by kernel_rfl
  have hi' : Tryz.prog.info? 5 = some i := hi
  rw [hi'] at h
  simpa using h
theorem strE_app (a b : ByteArray) : strE a ++ strE b = strE (a ++ b) := by simp [strE]
theorem maxS (a : Nat) : max a (a + 1) = a + 1 := by omega
theorem bsz (a b : ByteArray) : a.size + b.size = (a ++ b).size := by simp
theorem cc_fresh {args : List AV} {H : Nat → Option AO} {nx id : Nat} (ha : args = [.ptr id 0 0 1]) (hr : Pg.rowAt H id = some freshB) :
    OKm cx 74 args H nx (fun r h n => r = .tup [] ∧ h = updH H id (.row { k := 2, es := [[.ptr id 0 0 1, .v (.slice none 0 0)]], ty := 86 }) ∧ n = nx) := by
  subst ha
  refine OKm.of_body cx_ok (rs := []) Tryz.func74 rfl (by decide +kernel) rfl (by simp [Tryz.ntmps74]) ?_
  simp only [Tryz.ntmps74]
  repeat' first
    | apply AW.seq | apply AW.region | apply AW.ret | apply AW.block | apply AW.skip | apply AW.exit | apply AW.scope | apply AW.label | apply AWL.nil
    | ((first | (apply W.step cx_ok; decide) | apply W.store cx_ok | apply AW.cond); (simp (disch := omega) only [push_cast, simprocAttr, hr] <;> rfl); all_goals try ((with_reducible intro hI); try first | (cases hI; done) | (simp only [INTS, not_true_eq_false] at hI; try first | (exfalso; omega) | (have hT : True := hI; clear hT hI))))
    | ((first | apply W.retC | apply W.endC' | apply W.retM | apply W.endM' | apply W.ret1 | apply W.end1 | apply W.ret2 | apply W.end2 | apply W.ret3 | apply W.end3 | apply W.ret0 | apply W.end0); (iterate 2 (try (simp (disch := omega) only [push_cast, simprocAttr, hr] <;> rfl))))
    | ((apply P.eqNil; decide); (simp (disch := omega) only [push_cast, simprocAttr, hr] <;> rfl))
    | ((apply P.eqNil'; decide); (simp (disch := omega) only [push_cast, simprocAttr, hr] <;> rfl))
    | ((first | (apply P.neqSame; decide)); (iterate 3 (simp (disch := omega) only [push_cast, simprocAttr, hr] <;> rfl)); exact Nat.zero_le _; exact Nat.zero_le _)
    | ((first | (apply P.toUnsafe; decide) | (apply P.fromUnsafe; decide)); (iterate 2 (simp (disch := omega) only [push_cast, simprocAttr, hr] <;> rfl)); exact Nat.zero_le _; rfl; rfl)
    | ((apply P.noEscape; decide); (simp (disch := omega) only [push_cast, simprocAttr, hr] <;> rfl))
    | ((apply AWL.appendS cx_ok rfl rfl; decide; rfl; rfl; rfl; rfl; rfl; rfl; rfl; rfl; exact byteZero; (iterate 2 (simp (disch := omega) only [push_cast, simprocAttr, hr] <;> rfl)); omega; ((try dsimp only); (try simp only [strE_length, List.length_nil]); omega)))
    | ((first | apply W.retX | apply W.endX); (simp (disch := omega) only [push_cast, simprocAttr, hr] <;> rfl); (refine ⟨?_, ?_, ?_⟩ <;> (first | rfl | (simp (disch := omega) only [push_cast, simprocAttr, hr] <;> rfl))))
theorem cc_used {args : List AV} {H : Nat → Option AO} {nx id G : Nat} {l : ByteArray} (ha : args = [.ptr id 0 0 1]) (hr : Pg.rowAt H id = some (bRow id G l)) :
    OKm cx 74 args H nx (fun r h n => r = .tup [] ∧ h = H ∧ n = nx) := by
  subst ha
  refine OKm.of_body cx_ok (rs := []) Tryz.func74 rfl (by decide +kernel) rfl (by simp [Tryz.ntmps74]) ?_
  simp only [Tryz.ntmps74]
  repeat' first
    | apply AW.seq | apply AW.region | apply AW.ret | apply AW.block | apply AW.skip | apply AW.exit | apply AW.scope | apply AW.label | apply AWL.nil
    | ((first | (apply W.step cx_ok; decide) | apply W.store cx_ok | apply AW.cond); (simp (disch := omega) only [push_cast, simprocAttr, hr, bRow] <;> rfl); all_goals try ((with_reducible intro hI); try first | (cases hI; done) | (simp only [INTS, not_true_eq_false] at hI; try first | (exfalso; omega) | (have hT : True := hI; clear hT hI))))
    | ((first | apply W.retC | apply W.endC' | apply W.retM | apply W.endM' | apply W.ret1 | apply W.end1 | apply W.ret2 | apply W.end2 | apply W.ret3 | apply W.end3 | apply W.ret0 | apply W.end0); (iterate 2 (try (simp (disch := omega) only [push_cast, simprocAttr, hr, bRow] <;> rfl))))
    | ((apply P.eqNil; decide); (simp (disch := omega) only [push_cast, simprocAttr, hr, bRow] <;> rfl))
    | ((apply P.eqNil'; decide); (simp (disch := omega) only [push_cast, simprocAttr, hr, bRow] <;> rfl))
    | ((first | (apply P.neqSame; decide)); (iterate 3 (simp (disch := omega) only [push_cast, simprocAttr, hr, bRow] <;> rfl)); exact Nat.zero_le _; exact Nat.zero_le _)
    | ((first | (apply P.toUnsafe; decide) | (apply P.fromUnsafe; decide)); (iterate 2 (simp (disch := omega) only [push_cast, simprocAttr, hr, bRow] <;> rfl)); exact Nat.zero_le _; rfl; rfl)
    | ((apply P.noEscape; decide); (simp (disch := omega) only [push_cast, simprocAttr, hr, bRow] <;> rfl))
    | ((apply AWL.appendS cx_ok rfl rfl; decide; rfl; rfl; rfl; rfl; rfl; rfl; rfl; rfl; exact byteZero; (iterate 2 (simp (disch := omega) only [push_cast, simprocAttr, hr, bRow] <;> rfl)); omega; ((try dsimp only); (try simp only [strE_length, List.length_nil]); omega)))
    | ((first | apply W.retX | apply W.endX); (simp (disch := omega) only [push_cast, simprocAttr, hr, bRow] <;> rfl); (refine ⟨?_, ?_, ?_⟩ <;> (first | rfl | (simp (disch := omega) only [push_cast, simprocAttr, hr, bRow] <;> rfl))))
theorem ws_fresh {args : List AV} {H : Nat → Option AO} {nx id : Nat} {b : ByteArray} (ha : args = [.ptr id 0 0 1, at_ b]) (hr : Pg.rowAt H id = some freshB) (hid : id < nx) (hb0 : 0 < b.size) (hb : b.size ≤ 140737488355328) :
    OKm cx 49 args H nx (fun r h n => r = .tup [ai b.size, .v .nilIface] ∧ h = updH (updH H nx (.row (gRow b))) id (.row (bRow id nx b)) ∧ n = nx + 1) := by
  subst ha
  have h1 : id ≠ nx := by omega
  have h2 : nx ≠ id := by omega
  refine OKm.of_body cx_ok (rs := [.tmp 4, .tmp 5]) Tryz.func49 rfl (by decide +kernel) rfl (by simp [Tryz.ntmps49]) ?_
  simp only [Tryz.ntmps49]
  repeat' first
    | apply AW.seq | apply AW.region | apply AW.ret | apply AW.block | apply AW.skip | apply AW.exit | apply AW.scope | apply AW.label | apply AWL.nil
    | ((first | (apply W.step cx_ok; decide) | apply W.store cx_ok | apply AW.cond); (simp (disch := omega) only [push_cast, simprocAttr, hr, h1, h2, cI, cP, bRow, gRow, strE_app, maxS, upd_twice, List.nil_append, strE_length, bsz] <;> rfl); all_goals try ((with_reducible intro hI); try first | (cases hI; done) | (simp only [INTS, not_true_eq_false] at hI; try first | (exfalso; omega) | (have hT : True := hI; clear hT hI))))
    | ((first | apply W.retC | apply W.endC' | apply W.retM | apply W.endM' | apply W.ret1 | apply W.end1 | apply W.ret2 | apply W.end2 | apply W.ret3 | apply W.end3 | apply W.ret0 | apply W.end0); (iterate 2 (try (simp (disch := omega) only [push_cast, simprocAttr, hr, h1, h2, cI, cP, bRow, gRow, strE_app, maxS, upd_twice, List.nil_append, strE_length, bsz] <;> rfl))))
    | ((apply P.eqNil; decide); (simp (disch := omega) only [push_cast, simprocAttr, hr, h1, h2, cI, cP, bRow, gRow, strE_app, maxS, upd_twice, List.nil_append, strE_length, bsz] <;> rfl))
    | ((apply P.eqNil'; decide); (simp (disch := omega) only [push_cast, simprocAttr, hr, h1, h2, cI, cP, bRow, gRow, strE_app, maxS, upd_twice, List.nil_append, strE_length, bsz] <;> rfl))
    | ((first | (apply P.neqSame; decide)); (iterate 3 (simp (disch := omega) only [push_cast, simprocAttr, hr, h1, h2, cI, cP, bRow, gRow, strE_app, maxS, upd_twice, List.nil_append, strE_length, bsz] <;> rfl)); exact Nat.zero_le _; exact Nat.zero_le _)
    | ((first | (apply P.toUnsafe; decide) | (apply P.fromUnsafe; decide)); (iterate 2 (simp (disch := omega) only [push_cast, simprocAttr, hr, h1, h2, cI, cP, bRow, gRow, strE_app, maxS, upd_twice, List.nil_append, strE_length, bsz] <;> rfl)); exact Nat.zero_le _; rfl; rfl)
    | ((apply P.noEscape; decide); (simp (disch := omega) only [push_cast, simprocAttr, hr, h1, h2, cI, cP, bRow, gRow, strE_app, maxS, upd_twice, List.nil_append, strE_length, bsz] <;> rfl))
    | ((apply AWL.appendS cx_ok rfl rfl; decide; rfl; rfl; rfl; rfl; rfl; rfl; rfl; rfl; exact byteZero; (iterate 2 (simp (disch := omega) only [push_cast, simprocAttr, hr, h1, h2, cI, cP, bRow, gRow, strE_app, maxS, upd_twice, List.nil_append, strE_length, bsz] <;> rfl)); omega; ((try dsimp only); (try simp only [strE_length, List.length_nil]); omega)))
    | ((apply W.callm cx_ok; decide); (simp (disch := omega) only [push_cast, simprocAttr, hr, h1, h2, cI, cP, bRow, gRow, strE_app, maxS, upd_twice, List.nil_append, strE_length, bsz] <;> rfl); (refine cc_fresh (id := id) ?_ ?_); (iterate 2 (simp (disch := omega) only [push_cast, simprocAttr, hr, h1, h2, cI, cP, bRow, gRow, strE_app, maxS, upd_twice, List.nil_append, strE_length, bsz] <;> rfl)); (try omega); (try omega); (rintro r H' nx' ⟨rfl, rfl, rfl⟩))
    | ((first | apply W.retX | apply W.endX); (simp (disch := omega) only [push_cast, simprocAttr, hr, h1, h2, cI, cP, bRow, gRow, strE_app, maxS, upd_twice, List.nil_append, strE_length, bsz] <;> rfl); (refine ⟨?_, ?_, ?_⟩ <;> (first | rfl | (simp (disch := omega) only [push_cast, simprocAttr, hr, h1, h2, cI, cP, bRow, gRow, strE_app, maxS, upd_twice, List.nil_append, strE_length, bsz] <;> rfl))))
theorem ws_used {args : List AV} {H : Nat → Option AO} {nx id G : Nat} {l b : ByteArray} (ha : args = [.ptr id 0 0 1, at_ b]) (hr : Pg.rowAt H id = some (bRow id G l)) (hg : Pg.rowAt H G = some (gRow l)) (h1 : G ≠ id) (hb0 : 0 < b.size) (hb : l.size + b.size ≤ 140737488355328) :
    OKm cx 49 args H nx (fun r h n => r = .tup [ai b.size, .v .nilIface] ∧ h = updH (updH H G (.row (gRow (l ++ b)))) id (.row (bRow id G (l ++ b))) ∧ n = nx) := by
  subst ha
  have h2 : id ≠ G := fun e => h1 e.symm
  refine OKm.of_body cx_ok (rs := [.tmp 4, .tmp 5]) Tryz.func49 rfl (by decide +kernel) rfl (by simp [Tryz.ntmps49]) ?_
  simp only [Tryz.ntmps49]
  repeat' first
    | apply AW.seq | apply AW.region | apply AW.ret | apply AW.block | apply AW.skip | apply AW.exit | apply AW.scope | apply AW.label | apply AWL.nil
    | ((first | (apply W.step cx_ok; decide) | apply W.store cx_ok | apply AW.cond); (simp (disch := omega) only [push_cast, simprocAttr, hr, hg, h1, h2, cI, cP, bRow, gRow, strE_app, maxS, upd_twice, List.nil_append, strE_length, bsz] <;> rfl); all_goals try ((with_reducible intro hI); try first | (cases hI; done) | (simp only [INTS, not_true_eq_false] at hI; try first | (exfalso; omega) | (have hT : True := hI; clear hT hI))))
    | ((first | apply W.retC | apply W.endC' | apply W.retM | apply W.endM' | apply W.ret1 | apply W.end1 | apply W.ret2 | apply W.end2 | apply W.ret3 | apply W.end3 | apply W.ret0 | apply W.end0); (iterate 2 (try (simp (disch := omega) only [push_cast, simprocAttr, hr, hg, h1, h2, cI, cP, bRow, gRow, strE_app, maxS, upd_twice, List.nil_append, strE_length, bsz] <;> rfl))))
    | ((apply P.eqNil; decide); (simp (disch := omega) only [push_cast, simprocAttr, hr, hg, h1, h2, cI, cP, bRow, gRow, strE_app, maxS, upd_twice, List.nil_append, strE_length, bsz] <;> rfl))
    | ((apply P.eqNil'; decide); (simp (disch := omega) only [push_cast, simprocAttr, hr, hg, h1, h2, cI, cP, bRow, gRow, strE_app, maxS, upd_twice, List.nil_append, strE_length, bsz] <;> rfl))
    | ((first | (apply P.neqSame; decide)); (iterate 3 (simp (disch := omega) only [push_cast, simprocAttr, hr, hg, h1, h2, cI, cP, bRow, gRow, strE_app, maxS, upd_twice, List.nil_append, strE_length, bsz] <;> rfl)); exact Nat.zero_le _; exact Nat.zero_le _)
    | ((first | (apply P.toUnsafe; decide) | (apply P.fromUnsafe; decide)); (iterate 2 (simp (disch := omega) only [push_cast, simprocAttr, hr, hg, h1, h2, cI, cP, bRow, gRow, strE_app, maxS, upd_twice, List.nil_append, strE_length, bsz] <;> rfl)); exact Nat.zero_le _; rfl; rfl)
    | ((apply P.noEscape; decide); (simp (disch := omega) only [push_cast, simprocAttr, hr, hg, h1, h2, cI, cP, bRow, gRow, strE_app, maxS, upd_twice, List.nil_append, strE_length, bsz] <;> rfl))
    | ((apply AWL.appendS cx_ok rfl rfl; decide; rfl; rfl; rfl; rfl; rfl; rfl; rfl; rfl; exact byteZero; (iterate 2 (simp (disch := omega) only [push_cast, simprocAttr, hr, hg, h1, h2, cI, cP, bRow, gRow, strE_app, maxS, upd_twice, List.nil_append, strE_length, bsz] <;> rfl)); omega; ((try dsimp only); (try simp only [strE_length, List.length_nil]); omega)))
    | ((apply W.callm cx_ok; decide); (simp (disch := omega) only [push_cast, simprocAttr, hr, hg, h1, h2, cI, cP, bRow, gRow, strE_app, maxS, upd_twice, List.nil_append, strE_length, bsz] <;> rfl); (refine cc_used (id := id) (G := G) (l := l) ?_ ?_); (iterate 2 (simp (disch := omega) only [push_cast, simprocAttr, hr, hg, h1, h2, cI, cP, bRow, gRow, strE_app, maxS, upd_twice, List.nil_append, strE_length, bsz] <;> rfl)); (try omega); (try omega); (rintro r H' nx' ⟨rfl, rfl, rfl⟩))
    | ((first | apply W.retX | apply W.endX); (simp (disch := omega) only [push_cast, simprocAttr, hr, hg, h1, h2, cI, cP, bRow, gRow, strE_app, maxS, upd_twice, List.nil_append, strE_length, bsz] <;> rfl); (refine ⟨?_, ?_, ?_⟩ <;> (first | rfl | (simp (disch := omega) only [push_cast, simprocAttr, hr, hg, h1, h2, cI, cP, bRow, gRow, strE_app, maxS, upd_twice, List.nil_append, strE_length, bsz] <;> rfl))))
end Go.Proofs.Dz

namespace Go.Proofs.Dz
open Go Go.Pg Go.Proofs Go.Proofs.Ds
theorem wb_used {args : List AV} {H : Nat → Option AO} {nx id G : Nat} {l : ByteArray} {c : UInt8} (ha : args = [.ptr id 0 0 1, .v (.int .u8 c.toNat)]) (hr : Pg.rowAt H id = some (bRow id G l)) (hg : Pg.rowAt H G = some (gRow l)) (h1 : G ≠ id) (hi : id < nx) (hG : G < nx) (hb : l.size + 1 ≤ 140737488355328) :
    OKm cx 51 args H nx (fun r h n => r = .v .nilIface ∧ h = updH (updH (updH H nx (.row { k := 1, es := [[AV.v (.int .u8 c.toNat)]], ty := 5 })) G (.row (gRow (l ++ ByteArray.mk #[c])))) id (.row (bRow id G (l ++ ByteArray.mk #[c]))) ∧ n = nx + 1) := by
  subst ha
  have h2 : id ≠ G := fun e => h1 e.symm
  have h3 : id ≠ nx := by omega
  have h4 : nx ≠ id := by omega
  have h5 : G ≠ nx := by omega
  have h6 : nx ≠ G := by omega
  have hb2 : l.size + (ByteArray.mk #[c]).size ≤ 140737488355328 := hb
  have hE : strE l ++ [[AV.v (.int .u8 c.toNat)]] = strE (l ++ ByteArray.mk #[c]) := by rw [← strE_app]; rfl
  have hZ : l.size + 1 = (l ++ ByteArray.mk #[c]).size := by rw [ByteArray.size_append]; rfl
  have hM : max l.size (l.size + 1) = l.size + 1 := by omega
  refine OKm.of_body cx_ok (rs := [.tmp 4]) Tryz.func51 rfl (by decide +kernel) rfl (by simp [Tryz.ntmps51]) ?_
  simp only [Tryz.ntmps51]
  repeat' first
    | apply AW.seq | apply AW.region | apply AW.ret | apply AW.block | apply AW.skip | apply AW.exit | apply AW.scope | apply AW.label | apply AWL.nil
    | ((first | (apply W.step cx_ok; decide) | apply W.store cx_ok | apply AW.cond); (simp (disch := omega) only [push_cast, simprocAttr, hr, hg, h1, h2, h3, h4, h5, h6, cI, cP, bRow, gRow, strE_app, maxS, upd_twice, List.nil_append, strE_length, bsz] <;> rfl); all_goals try ((with_reducible intro hI); try first | (cases hI; done) | (simp only [INTS, not_true_eq_false] at hI; try first | (exfalso; omega) | (have hT : True := hI; clear hT hI))))
    | (apply W.append cx_ok; decide; rfl; rfl; rfl; decide; (iterate 3 (simp (disch := omega) only [push_cast, simprocAttr, hr, hg, h1, h2, h3, h4, h5, h6, cI, cP, bRow, gRow, strE_app, maxS, upd_twice, List.nil_append, strE_length, bsz] <;> rfl)); (first | (focus (simp; done)) | (intro c hc; obtain ⟨x, _, rfl⟩ := List.mem_map.1 hc; rfl)); ((first | rfl | simp (disch := omega) only [push_cast])); ((try dsimp only); (try simp only [List.length_map, List.length_append, List.length_cons, List.length_nil, List.length_take, List.length_drop, strE_length]); omega); ((try dsimp only); (try simp only [List.length_map, List.length_append, List.length_cons, List.length_nil, List.length_take, List.length_drop, strE_length]); omega))
    | ((first | apply W.retC | apply W.endC' | apply W.retM | apply W.endM' | apply W.ret1 | apply W.end1 | apply W.ret2 | apply W.end2 | apply W.ret3 | apply W.end3 | apply W.ret0 | apply W.end0); (iterate 2 (try (simp (disch := omega) only [push_cast, simprocAttr, hr, hg, h1, h2, h3, h4, h5, h6, cI, cP, bRow, gRow, strE_app, maxS, upd_twice, List.nil_append, strE_length, bsz] <;> rfl))))
    | ((apply P.eqNil; decide); (simp (disch := omega) only [push_cast, simprocAttr, hr, hg, h1, h2, h3, h4, h5, h6, cI, cP, bRow, gRow, strE_app, maxS, upd_twice, List.nil_append, strE_length, bsz] <;> rfl))
    | ((apply P.eqNil'; decide); (simp (disch := omega) only [push_cast, simprocAttr, hr, hg, h1, h2, h3, h4, h5, h6, cI, cP, bRow, gRow, strE_app, maxS, upd_twice, List.nil_append, strE_length, bsz] <;> rfl))
    | ((first | (apply P.neqSame; decide)); (iterate 3 (simp (disch := omega) only [push_cast, simprocAttr, hr, hg, h1, h2, h3, h4, h5, h6, cI, cP, bRow, gRow, strE_app, maxS, upd_twice, List.nil_append, strE_length, bsz] <;> rfl)); exact Nat.zero_le _; exact Nat.zero_le _)
    | ((first | (apply P.toUnsafe; decide) | (apply P.fromUnsafe; decide)); (iterate 2 (simp (disch := omega) only [push_cast, simprocAttr, hr, hg, h1, h2, h3, h4, h5, h6, cI, cP, bRow, gRow, strE_app, maxS, upd_twice, List.nil_append, strE_length, bsz] <;> rfl)); exact Nat.zero_le _; rfl; rfl)
    | ((apply P.noEscape; decide); (simp (disch := omega) only [push_cast, simprocAttr, hr, hg, h1, h2, h3, h4, h5, h6, cI, cP, bRow, gRow, strE_app, maxS, upd_twice, List.nil_append, strE_length, bsz] <;> rfl))
    | ((apply AWL.appendS cx_ok rfl rfl; decide; rfl; rfl; rfl; rfl; rfl; rfl; rfl; rfl; exact byteZero; (iterate 2 (simp (disch := omega) only [push_cast, simprocAttr, hr, hg, h1, h2, h3, h4, h5, h6, cI, cP, bRow, gRow, strE_app, maxS, upd_twice, List.nil_append, strE_length, bsz] <;> rfl)); omega; ((try dsimp only); (try simp only [strE_length, List.length_nil]); omega)))
    | ((apply W.callm cx_ok; decide); (simp (disch := omega) only [push_cast, simprocAttr, hr, hg, h1, h2, h3, h4, h5, h6, cI, cP, bRow, gRow, strE_app, maxS, upd_twice, List.nil_append, strE_length, bsz] <;> rfl); (refine cc_used (id := id) (G := G) (l := l) ?_ ?_); (iterate 2 (simp (disch := omega) only [push_cast, simprocAttr, hr, hg, h1, h2, h3, h4, h5, h6, cI, cP, bRow, gRow, strE_app, maxS, upd_twice, List.nil_append, strE_length, bsz] <;> rfl)); (try omega); (try omega); (rintro r H' nx' ⟨rfl, rfl, rfl⟩))
  refine W.retX (vs := [.v .nilIface]) ?_ ⟨rfl, ?_, ?_⟩
  · simp (disch := omega) only [push_cast, simprocAttr, hr, hg, h1, h2, h3, h4, h5, h6, cI, cP, bRow, gRow, strE_app, maxS, upd_twice, List.nil_append, strE_length, bsz] <;> rfl
  · simp (disch := omega) only [push_cast, simprocAttr, hr, hg, h1, h2, h3, h4, h5, h6, cI, cP, bRow, gRow, strE_app, maxS, upd_twice, List.nil_append, strE_length, bsz, appRow, hE, List.isEmpty_cons, Bool.false_eq_true, List.length_cons, List.length_nil, Nat.zero_add, hZ]
  · rfl
end Go.Proofs.Dz

set_option maxRecDepth 100000
set_option maxHeartbeats 4000000
namespace Go.Proofs.Dz
open Go Go.Pg Go.Proofs Go.Proofs.Ds Go.RowKit
theorem str_walk (b g cap : Nat) (cur : Array Value) (l : List UInt8) (w : World) (c1' : w.cell? ⟨b, 1, none⟩ = some (.slice (some ⟨g, 0, none⟩) l.length cap)) (hg : w.heap[g]? = some (.cells cur 5 (0, 0))) (hn : l.length ≤ cap) (hcm : cap ≤ maxLen)
    (hcs : cur.size = cap) (hcells : ∀ (j : Nat) x, l[j]? = some x → cur[j]? = some (.int .u8 x.toNat)) (h0 : l ≠ []) :
    Calls Tryz.prog 52 #[.pointer (some ⟨b, 0, none⟩)] w fun e w' => e = .returned (.string ⟨l.toArray⟩) ∧ Below g w w' := by
  have hl0 : l.length ≠ 0 := by simpa using h0
  have c1 : w.drew.cell? ⟨b, 1, none⟩ = some (.slice (some ⟨g, 0, none⟩) l.length cap) := c1'
  have hSD : (Builtin.unsafeSliceData_ #[84] 118 #[.slice (some ⟨g, 0, none⟩) l.length cap]).run Tryz.prog w.drew = .ok (.pointer (some ⟨g, 0, none⟩)) w.drew :=
    Lib.run_unsafeSliceData_row _ _ _ _ _ _ (by omega)
  have hUS : (Builtin.unsafeString_ #[118, 3] 9 #[.pointer (some ⟨g, 0, none⟩), .int .i64 l.length]).run Tryz.prog w.drew = .ok (.string ⟨l.toArray⟩) (w.drew.freeze ⟨g, 0, none⟩ l.length) := by
    have hg' : w.drew.heap[g]? = some (.cells cur 5 (0, 0)) := hg
    refine Lib.run_unsafeString_row w.drew 118 3 9 5 Tryz.underlying118 (by kernel_rfl) g cur.size (by simp [World.shape?, hg']) l h0 (by omega) (by unfold maxLen at hcm; omega) ?_
    intro j x hx
    have := hcells j x hx
    simp [World.cell?, hg', Addr.add_lit, this]
  have mixed : Tryz.prog.follows .mixedOrders = true := rfl
  go_enter Tryz.func52, Tryz.ntmps52
  go_wp2
  go_region_o
  all_goals (go_wp2; go_ret; exact ⟨rfl, Lib.below_freeze (Below.drew (Below.refl g w)) (p := ⟨g, 0, none⟩) (Nat.le_refl _) _⟩)
theorem string_call {H : Nat → Option AO} {id G : Nat} {l : ByteArray} (h1 : Pg.rowAt H id = some (bRow id G l)) (h2 : Pg.rowAt H G = some (gRow l)) (hl : 0 < l.size) {args : List AV} (ha : args = [.ptr id 0 0 1]) :
    ∀ (S0 : Fr) (w0 w : World) (σ : Sg) (vals : Array Value), cx.E w0 → Inv w0.heap.size S0 w H σ → Below w0.heap.size w0 w → vals.size = args.length → RepL σ w args (fun i => vals[i]?) →
      Calls cx.P 52 vals w fun e w' => Below w0.heap.size w0 w' ∧ ∃ v, e = .returned v ∧ Rep (pureSg fun _ => False) w' (at_ l) v := by
  intro S0 w0 w σ vals hE hi hb hs hr
  subst ha
  obtain ⟨u, rfl, hu⟩ := vals1 hs hr
  obtain ⟨b, arr, rfl, hc, hh, harr, _, _⟩ := ptr_block hi h1 (Nat.zero_le _) hu
  have hR := hi.row id _ (rowAt_eq h1)
  have hcon := hR.con b hc 0 (by simp [bRow])
  have e0 : (bRow id G l).es[0]'(by simp [bRow]) = [AV.ptr id 0 0 1, .ref G 0 l.size] := rfl
  rw [e0] at hcon
  simp only [RepL] at hcon
  obtain ⟨_, ⟨v, hv, hrv⟩, _⟩ := hcon
  simp only [Rep] at hrv
  obtain ⟨_, A, cap, rfl, g1, g2, g3, g4⟩ := hrv
  have hG := hi.row G _ (rowAt_eq h2)
  have hlen : σ.len G = l.size := by rw [hG.len]; exact strE_length l
  rcases g4 trivial hlen.symm with ⟨_, hz, _⟩ | ⟨g, hcg, rfl, hcap⟩
  · omega
  · obtain ⟨a1, a2, a3, a4, cur, a5, a6⟩ := hG.cur g hcg
    have hbg := hi.own_lt g G a1
    have hes : (gRow l).es = strE l := rfl
    have hll : l.data.toList.length = l.size := by rw [Array.length_toList]; rfl
    have hz : ((0 * (bRow id G l).k + 0 : Nat)) = 0 := by simp
    rw [hz]
    have hc1 : w.cell? ⟨b, 1, none⟩ = some (.slice (some ⟨g, 0, none⟩) l.data.toList.length cap) := by
      rw [hll, ← hv]
      congr 1
    refine (str_walk b g cap cur l.data.toList w hc1 a5 (by rw [hll]; exact g1) g2 (by rw [a6, hcap]; simp [gRow]) (fun j x hx => ?_) (fun h => by rw [h] at hll; simp at hll; omega)).mono ?_
    · obtain ⟨hj, rfl⟩ := List.getElem?_eq_some_iff.1 hx
      have hjl : j < (gRow l).es.length := by rw [hes, strE_length, ← hll]; exact hj
      have hce := hG.con g hcg j hjl
      have he : (gRow l).es[j] = [AV.v (.int .u8 (l.data.toList[j]).toNat)] := by simp [gRow, strE]
      rw [he] at hce
      simp only [RepL, Rep] at hce
      obtain ⟨⟨u, hu1, rfl⟩, _⟩ := hce
      have : w.cell? ⟨g, j, none⟩ = cur[j]? := cell_of_row w g j cur (gRow l).ty (0, 0) a5
      have hk1 : (gRow l).k = 1 := rfl
      rw [hk1, Nat.mul_one, Nat.add_zero, this] at hu1
      exact hu1
    · rintro e w' ⟨rfl, hb'⟩
      refine ⟨?_, _, rfl, ?_⟩
      · exact hb.trans ⟨hb'.os, hb'.tape, hb'.output, hb'.size, fun k hk => hb'.block k (by omega)⟩
      · have : (⟨l.data.toList.toArray⟩ : ByteArray) = l := by cases l; simp
        simp only [Rep, this]
end Go.Proofs.Dz

namespace Go.Proofs.Dz
open Go Go.Pg Go.Proofs Go.Proofs.Ds
def pinB (m : Mark) (k : Nat) : UInt8 := if m.seen.toNat.testBit k = true then 35 else if m.blank.toNat.testBit k = true then 46 else 63
def pinsB (m : Mark) : Nat → ByteArray
  | 0 => ByteArray.empty
  | k + 1 => pinsB m k ++ ByteArray.mk #[pinB m k]
def headB (m : Mark) : ByteArray := itoaB m.track ++ ByteArray.mk #[32] ++ itoaB m.arc.from_ ++ ByteArray.mk #[32] ++ itoaB m.arc.len ++ ByteArray.mk #[32]
def lineB (m : Mark) : ByteArray := headB m ++ pinsB m 12 ++ ByteArray.mk #[10]
def catB : List ByteArray → ByteArray
  | [] => ByteArray.empty
  | x :: l => x ++ catB l
def textB (l : List Mark) : ByteArray := catB (l.map lineB)
theorem mk1_size (c : UInt8) : (ByteArray.mk #[c]).size = 1 := rfl
theorem pinsB_size (m : Mark) : ∀ k, (pinsB m k).size = k
  | 0 => rfl
  | k + 1 => by rw [pinsB, ByteArray.size_append, pinsB_size m k, mk1_size]
theorem headB_size (m : Mark) (h : markV m = true) : 0 < (headB m).size ∧ (headB m).size ≤ 66 := by
  obtain ⟨m1, m2, m3, m4, _⟩ := markV_iff.1 h
  obtain ⟨v1, v2, v3, v4, v5⟩ := validA_iff.1 m1
  have s1 := itoaB_size m.track (by omega) (by omega)
  have s2 := itoaB_size m.arc.from_ (by omega) (by omega)
  have s3 := itoaB_size m.arc.len (by omega) (by omega)
  unfold headB
  simp only [ByteArray.size_append, mk1_size]
  omega
theorem lineB_size (m : Mark) (h : markV m = true) : 0 < (lineB m).size ∧ (lineB m).size ≤ 79 := by
  have := headB_size m h
  unfold lineB
  simp only [ByteArray.size_append, mk1_size, pinsB_size]
  omega
theorem empty_app (b : ByteArray) : ByteArray.empty ++ b = b := ByteArray.empty_append
theorem app_empty (b : ByteArray) : b ++ ByteArray.empty = b := ByteArray.append_empty
end Go.Proofs.Dz
