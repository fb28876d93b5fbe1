/-
  Contracts of functions, proved by going through their code. No conditions.
-/
import Derived.ProofKit
import Derived.LaidMore
import Derived.OpenShut
import Derived.Carry
import Derived.Stop.Joined
import Derived.Test.YtdlflcambboojaaChecked
import Derived.Test.YtdlflcambboojaaRows
import Derived.ChangeCalls
import Derived.LaidSub
import Derived.MakeChecks
import Derived.Test.YtdlflcambboojaaKa
import Derived.Test.YtdlflcambboojaaKb
set_option maxHeartbeats 8000000
set_option linter.unusedSimpArgs false
set_option linter.unusedVariables false
set_option maxRecDepth 10000
namespace Go.Proofs.Ks
open Go Go.Pg Go.Proofs
def nd0 : List Node := [⟨0, 0⟩, ⟨1, 0⟩, ⟨2, 0⟩]
theorem nd0_len : nd0.length = 3 := rfl
def ndS (k : Nat) : List Node := (List.range k).map fun (i : Nat) => ⟨3, (i : Int)⟩
def ndM (l : List Int) : List Node := l.map fun x => ⟨4, x⟩
def nodesR (r : Rec) (more : List Int) : List Node := nd0 ++ ndS r.strikes.length ++ ndM (marksR r more)
theorem ndS_succ (k : Nat) : ndS (k + 1) = ndS k ++ [⟨3, (k : Int)⟩] := by unfold ndS; rw [List.range_succ, List.map_append]; rfl
theorem ndS_len (k : Nat) : (ndS k).length = k := by simp [ndS]
theorem ndM_len (l : List Int) : (ndM l).length = l.length := by simp [ndM]
theorem ndM_snoc (l : List Int) (x : Int) : ndM (l ++ [x]) = ndM l ++ [⟨4, x⟩] := by simp [ndM]
theorem insS_len : ∀ (l : List Strike) (M : List Int), (insS l M).length ≤ M.length + 2 * l.length
  | [], M => by simp [insS]
  | x :: l, M => by
    have h1 := insS_len l (insI (x.pos.hi + 1) (insI x.pos.lo M))
    have h2 := insI_len (x.pos.hi + 1) (insI x.pos.lo M)
    have h3 := insI_len x.pos.lo M
    simp only [insS, List.length_cons]; omega
theorem insM_len : ∀ (l M : List Int), (insM l M).length ≤ M.length + l.length
  | [], M => by simp [insM]
  | x :: l, M => by
    have h1 := insM_len l (insI x M)
    have h2 := insI_len x M
    simp only [insM, List.length_cons]; omega
theorem marksR_len (r : Rec) (more : List Int) : (marksR r more).length ≤ 4 + 2 * r.strikes.length + more.length := by
  unfold marksR
  have h1 := insM_len more (insS r.strikes (insI (r.s.fin.hi + 1) (insI r.s.fin.lo (insI (r.s.zero.hi + 1) (insI r.s.zero.lo [])))))
  have h2 := insS_len r.strikes (insI (r.s.fin.hi + 1) (insI r.s.fin.lo (insI (r.s.zero.hi + 1) (insI r.s.zero.lo []))))
  have h3 := insI_len (r.s.fin.hi + 1) (insI r.s.fin.lo (insI (r.s.zero.hi + 1) (insI r.s.zero.lo [])))
  have h4 := insI_len r.s.fin.lo (insI (r.s.zero.hi + 1) (insI r.s.zero.lo []))
  have h5 := insI_len (r.s.zero.hi + 1) (insI r.s.zero.lo [])
  have h6 := insI_len r.s.zero.lo []
  simp only [List.length_nil] at h6
  omega
theorem nodes_ok (r0 : Rec) (more : List Int) (hv : r0.V) (hm : more.length ≤ 1048576) : OKv cx 86 [.agg (eRec r0), lInt more] (lNode (nodesR r0 more)) := by
  have hns := hv.nstrikes
  have hml := marksR_len r0 more
  obtain ⟨mk, hmk⟩ : ∃ x, marksR r0 more = x := ⟨_, rfl⟩
  have hres : nodesR r0 more = nd0 ++ ndS r0.strikes.length ++ ndM mk := by unfold nodesR; rw [hmk]
  rw [hmk] at hml
  rw [hres]
  refine OKat.of_body (rs := [4]) Try.func86 rfl (by decide +kernel) rfl (by simp [Try.ntmps86]) ?_
  simp only [Try.ntmps86]
  repeat' first
    | apply AW.seq | apply AW.region | apply AW.ret | apply AW.block | apply AW.skip | apply AW.exit | apply AW.scope | apply AW.label | apply AWL.nil
    | ((first | (apply W.step cx_ok; decide) | apply AW.cond); (simp (disch := (first | omega | (simp only [zE, zF, zD, zC, zA, zB]; omega))) only [push_cast, simprocAttr, takeM, dropM, zK, zA, zB, zN, zQ, zR, zO, zP, zT, zS, zU, leT, zH, pureL, pureA] <;> rfl); all_goals try ((with_reducible intro hI); try first | (cases hI; done) | (simp only [INTS, zL] at hI; try first | (exfalso; omega) | (have hT : True := hI; clear hT hI))))
    | (apply W.append cx_ok; decide; rfl; rfl; rfl; decide; (iterate 3 (simp (disch := (first | omega | (simp only [zE, zF, zD, zC, zA, zB]; omega))) only [push_cast, simprocAttr, takeM, dropM, zK, zA, zB, zN, zQ, zR, zO, zP, zT, zS, zU, leT, zH, pureL, pureA] <;> rfl)); (first | (focus (simp; done)) | (intro c hc; obtain ⟨x, _, rfl⟩ := List.mem_map.1 hc; rfl)); ((first | rfl | simp (disch := omega) only [push_cast])); ((try dsimp only); (try simp only [zF, zE, zD, zC, zA, zB]); omega); ((try dsimp only); (try simp only [zF, zE, zD, zC, zA, zB]); omega))
    | ((first | apply W.ret1 | apply W.end1); (iterate 2 (try (simp (disch := (first | omega | (simp only [zE, zF, zD, zC, zA, zB]; omega))) only [push_cast, simprocAttr, takeM, dropM, zK, zA, zB, zN, zQ, zR, zO, zP, zT, zS, zU, leT, zH, pureL, pureA] <;> rfl))))
  refine AW.loop (fun n s => ∃ (k lw : Nat), n = r0.strikes.length - k ∧ (k ≤ r0.strikes.length) ∧ (lw ≤ 3 + k) ∧ 2 ≤ s.nx ∧ s.tm 1 = lInt more ∧ s.tm 2 = .ptr 0 0 0 1 ∧ s.tm 5 = .ref 1 0 (3 + k) ∧ s.tm 6 = ai k ∧ Pg.rowAt s.H (0) = some ({ k := 14, es := [eRec r0], ty := 30 }) ∧ Pg.rowAt s.H (1) = some ({ k := 2, es := (nd0 ++ ndS k).map eNode, ty := 144, lo := lw })) (r0.strikes.length) ⟨0, 0, rfl, (Nat.zero_le _), (Nat.zero_le _), ?_, ?_, ?_, ?_, ?_, ?_, ?_⟩ ?_
  iterate 7 (first | (simp (disch := omega) only [push_cast, simprocAttr, ndS, List.range_zero, nd0] <;> first | rfl | omega) | omega)
  rintro n s ⟨k, lw, hn, hp0, hp1, hnl, hS⟩
  have hZ : (0 : Nat) ≠ s.nx ∧ s.nx ≠ (0 : Nat) ∧ (1 : Nat) ≠ s.nx ∧ s.nx ≠ (1 : Nat) := by omega
  by_cases hlt : k < r0.strikes.length
  · have hk : (k : Int) < (r0.strikes.length : Int) := by omega
    repeat' first
      | apply AW.seq | apply AW.region | apply AW.ret | apply AW.block | apply AW.skip | apply AW.exit | apply AW.scope | apply AW.label | apply AWL.nil
      | ((first | (apply W.step cx_ok; decide) | apply AW.cond); (simp (disch := (first | omega | (simp only [zE, zF, zD, zC, zA, zB, nd0_len, ndS_len, ndM_len]; omega))) only [push_cast, simprocAttr, takeM, dropM, zK, zA, zB, zN, zQ, zR, zO, zP, zT, zS, zU, leT, zH, pureL, pureA, hS, hZ, hk, nd0_len, ndS_len, ndM_len, ndS_succ] <;> rfl); all_goals try ((with_reducible intro hI); try first | (cases hI; done) | (simp only [INTS, zL] at hI; try first | (exfalso; omega) | (have hT : True := hI; clear hT hI))))
      | (apply W.append cx_ok; decide; rfl; rfl; rfl; decide; (iterate 3 (simp (disch := (first | omega | (simp only [zE, zF, zD, zC, zA, zB, nd0_len, ndS_len, ndM_len]; omega))) only [push_cast, simprocAttr, takeM, dropM, zK, zA, zB, zN, zQ, zR, zO, zP, zT, zS, zU, leT, zH, pureL, pureA, hS, hZ, hk, nd0_len, ndS_len, ndM_len, ndS_succ] <;> rfl)); (first | (focus (simp; done)) | (intro c hc; obtain ⟨x, _, rfl⟩ := List.mem_map.1 hc; rfl)); ((first | rfl | simp (disch := omega) only [push_cast])); ((try dsimp only); (try simp only [zF, zE, zD, zC, zA, zB, nd0_len, ndS_len, ndM_len]); omega); ((try dsimp only); (try simp only [zF, zE, zD, zC, zA, zB, nd0_len, ndS_len, ndM_len]); omega))
      | ((first | apply W.ret1 | apply W.end1); (iterate 2 (try (simp (disch := (first | omega | (simp only [zE, zF, zD, zC, zA, zB, nd0_len, ndS_len, ndM_len]; omega))) only [push_cast, simprocAttr, takeM, dropM, zK, zA, zB, zN, zQ, zR, zO, zP, zT, zS, zU, leT, zH, pureL, pureA, hS, hZ, hk, nd0_len, ndS_len, ndM_len, ndS_succ] <;> rfl))))
    all_goals (refine ⟨r0.strikes.length - (k + 1), ?_, k + 1, 3 + (k + 1), rfl, (by omega), (by omega), ?_, ?_, ?_, ?_, ?_, ?_, ?_⟩; (omega); all_goals first | (simp (disch := omega) only [push_cast, simprocAttr, hS, hZ, hk, nd0_len, ndS_len, ndM_len, ndS_succ] <;> first | rfl | omega) | omega)
  · have hk : ¬ (k : Int) < (r0.strikes.length : Int) := by omega
    have hke : k = r0.strikes.length := by omega
    subst hke
    repeat' first
      | apply AW.seq | apply AW.region | apply AW.ret | apply AW.block | apply AW.skip | apply AW.exit | apply AW.scope | apply AW.label | apply AWL.nil
      | ((first | (apply W.step cx_ok; decide) | apply AW.cond); (simp (disch := (first | omega | (simp only [zE, zF, zD, zC, zA, zB, nd0_len, ndS_len, ndM_len]; omega))) only [push_cast, simprocAttr, takeM, dropM, zK, zA, zB, zN, zQ, zR, zO, zP, zT, zS, zU, leT, zH, pureL, pureA, hS, hZ, hk, hmk, nd0_len, ndS_len, ndM_len, ndS_succ] <;> rfl); all_goals try ((with_reducible intro hI); try first | (cases hI; done) | (simp only [INTS, zL] at hI; try first | (exfalso; omega) | (have hT : True := hI; clear hT hI))))
      | (apply W.append cx_ok; decide; rfl; rfl; rfl; decide; (iterate 3 (simp (disch := (first | omega | (simp only [zE, zF, zD, zC, zA, zB, nd0_len, ndS_len, ndM_len]; omega))) only [push_cast, simprocAttr, takeM, dropM, zK, zA, zB, zN, zQ, zR, zO, zP, zT, zS, zU, leT, zH, pureL, pureA, hS, hZ, hk, hmk, nd0_len, ndS_len, ndM_len, ndS_succ] <;> rfl)); (first | (focus (simp; done)) | (intro c hc; obtain ⟨x, _, rfl⟩ := List.mem_map.1 hc; rfl)); ((first | rfl | simp (disch := omega) only [push_cast])); ((try dsimp only); (try simp only [zF, zE, zD, zC, zA, zB, nd0_len, ndS_len, ndM_len]); omega); ((try dsimp only); (try simp only [zF, zE, zD, zC, zA, zB, nd0_len, ndS_len, ndM_len]); omega))
      | ((apply W.callv cx_ok; decide); (iterate 2 (simp (disch := (first | omega | (simp only [zE, zF, zD, zC, zA, zB, nd0_len, ndS_len, ndM_len]; omega))) only [push_cast, simprocAttr, takeM, dropM, zK, zA, zB, zN, zQ, zR, zO, zP, zT, zS, zU, leT, zH, pureL, pureA, hS, hZ, hk, hmk, nd0_len, ndS_len, ndM_len, ndS_succ] <;> rfl)); (with_reducible first | exact rmarked_ok r0 more hv hm); try first | rfl | (simp (disch := (first | omega | (simp only [zE, zF, zD, zC, zA, zB, nd0_len, ndS_len, ndM_len]; omega))) only [push_cast, simprocAttr, takeM, dropM, zK, zA, zB, zN, zQ, zR, zO, zP, zT, zS, zU, leT, zH, pureL, pureA, hS, hZ, hk, hmk, nd0_len, ndS_len, ndM_len, ndS_succ] <;> rfl))
      | ((first | apply W.ret1 | apply W.end1); (iterate 2 (try (simp (disch := (first | omega | (simp only [zE, zF, zD, zC, zA, zB, nd0_len, ndS_len, ndM_len]; omega))) only [push_cast, simprocAttr, takeM, dropM, zK, zA, zB, zN, zQ, zR, zO, zP, zT, zS, zU, leT, zH, pureL, pureA, hS, hZ, hk, hmk, nd0_len, ndS_len, ndM_len, ndS_succ] <;> rfl))))
    refine AW.loop (fun n s => ∃ (k lw : Nat) (rest : List Int), n = rest.length ∧ (mk.drop k = rest) ∧ (k ≤ mk.length) ∧ (lw ≤ 3 + r0.strikes.length + k) ∧ 2 ≤ s.nx ∧ s.tm 5 = .ref 1 0 (3 + r0.strikes.length + k) ∧ s.tm 7 = lInt mk ∧ s.tm 8 = ai k ∧ Pg.rowAt s.H (1) = some ({ k := 2, es := (nd0 ++ ndS r0.strikes.length ++ ndM (mk.take k)).map eNode, ty := 144, lo := lw })) (mk.length) ⟨0, lw, mk, rfl, rfl, (Nat.zero_le _), (by omega), ?_, ?_, ?_, ?_, ?_⟩ ?_
    iterate 5 (first | (simp (disch := omega) only [push_cast, simprocAttr, hS, hZ, hk, hmk, List.take_zero, ndM, zW, zZ, nd0_len, ndS_len, ndM_len, ndS_succ] <;> first | rfl | omega) | omega)
    rintro n1 s1 ⟨k1, lw1, rest1, hn1, hp01, hp11, hp21, hnl1, hS1⟩
    have hZ1 : (1 : Nat) ≠ s1.nx ∧ s1.nx ≠ (1 : Nat) := by omega
    rcases rest1 with _ | ⟨x, rest1⟩
    · have hk1 := drop_nil hp01
      have hkm : k1 = mk.length := by have := List.drop_eq_nil_iff.1 hp01; omega
      subst hkm
      repeat' first
        | apply AW.seq | apply AW.region | apply AW.ret | apply AW.block | apply AW.skip | apply AW.exit | apply AW.scope | apply AW.label | apply AWL.nil
        | ((first | (apply W.step cx_ok; decide) | apply AW.cond); (simp (disch := (first | omega | (simp only [zE, zF, zD, zC, zA, zB, nd0_len, ndS_len, ndM_len]; omega))) only [push_cast, simprocAttr, takeM, dropM, zK, zA, zB, zN, zQ, zR, zO, zP, zT, zS, zU, leT, zH, pureL, pureA, hS1, hZ1, hk1, nd0_len, ndS_len, ndM_len, ndS_succ] <;> rfl); all_goals try ((with_reducible intro hI); try first | (cases hI; done) | (simp only [INTS, zL] at hI; try first | (exfalso; omega) | (have hT : True := hI; clear hT hI))))
        | (apply W.append cx_ok; decide; rfl; rfl; rfl; decide; (iterate 3 (simp (disch := (first | omega | (simp only [zE, zF, zD, zC, zA, zB, nd0_len, ndS_len, ndM_len]; omega))) only [push_cast, simprocAttr, takeM, dropM, zK, zA, zB, zN, zQ, zR, zO, zP, zT, zS, zU, leT, zH, pureL, pureA, hS1, hZ1, hk1, nd0_len, ndS_len, ndM_len, ndS_succ] <;> rfl)); (first | (focus (simp; done)) | (intro c hc; obtain ⟨x, _, rfl⟩ := List.mem_map.1 hc; rfl)); ((first | rfl | simp (disch := omega) only [push_cast])); ((try dsimp only); (try simp only [zF, zE, zD, zC, zA, zB, nd0_len, ndS_len, ndM_len]); omega); ((try dsimp only); (try simp only [zF, zE, zD, zC, zA, zB, nd0_len, ndS_len, ndM_len]); omega))
        | ((first | apply W.ret1 | apply W.end1); (iterate 2 (try (simp (disch := (first | omega | (simp only [zE, zF, zD, zC, zA, zB, nd0_len, ndS_len, ndM_len]; omega))) only [push_cast, simprocAttr, takeM, dropM, zK, zA, zB, zN, zQ, zR, zO, zP, zT, zS, zU, leT, zH, pureL, pureA, hS1, hZ1, hk1, nd0_len, ndS_len, ndM_len, ndS_succ] <;> rfl))))
      all_goals (show _ = _; simp)
    · obtain ⟨hk1, hg1, hd1, hl1, hm1, hx1⟩ := drop_cons hp01 eInt []
      have hmin : min k1 mk.length = k1 := by omega
      have hmin2 : min (k1 + 1) mk.length = k1 + 1 := by omega
      repeat' first
        | apply AW.seq | apply AW.region | apply AW.ret | apply AW.block | apply AW.skip | apply AW.exit | apply AW.scope | apply AW.label | apply AWL.nil
        | ((first | (apply W.step cx_ok; decide) | apply AW.cond); (simp (disch := (first | omega | (simp only [zE, zF, zD, zC, zA, zB, nd0_len, ndS_len, ndM_len]; omega))) only [push_cast, simprocAttr, takeM, dropM, zK, zA, zB, zN, zQ, zR, zO, zP, zT, zS, zU, leT, zH, pureL, pureA, hS1, hZ1, hk1, hg1, hx1, hmin, nd0_len, ndS_len, ndM_len, ndS_succ] <;> rfl); all_goals try ((with_reducible intro hI); try first | (cases hI; done) | (simp only [INTS, zL] at hI; try first | (exfalso; omega) | (have hT : True := hI; clear hT hI))))
        | (apply W.append cx_ok; decide; rfl; rfl; rfl; decide; (iterate 3 (simp (disch := (first | omega | (simp only [zE, zF, zD, zC, zA, zB, nd0_len, ndS_len, ndM_len]; omega))) only [push_cast, simprocAttr, takeM, dropM, zK, zA, zB, zN, zQ, zR, zO, zP, zT, zS, zU, leT, zH, pureL, pureA, hS1, hZ1, hk1, hg1, hx1, hmin, nd0_len, ndS_len, ndM_len, ndS_succ] <;> rfl)); (first | (focus (simp; done)) | (intro c hc; obtain ⟨x, _, rfl⟩ := List.mem_map.1 hc; rfl)); ((first | rfl | simp (disch := omega) only [push_cast])); ((try dsimp only); (try simp only [zF, zE, zD, zC, zA, zB, nd0_len, ndS_len, ndM_len]); omega); ((try dsimp only); (try simp only [zF, zE, zD, zC, zA, zB, nd0_len, ndS_len, ndM_len]); omega))
        | ((first | apply W.ret1 | apply W.end1); (iterate 2 (try (simp (disch := (first | omega | (simp only [zE, zF, zD, zC, zA, zB, nd0_len, ndS_len, ndM_len]; omega))) only [push_cast, simprocAttr, takeM, dropM, zK, zA, zB, zN, zQ, zR, zO, zP, zT, zS, zU, leT, zH, pureL, pureA, hS1, hZ1, hk1, hg1, hx1, hmin, nd0_len, ndS_len, ndM_len, ndS_succ] <;> rfl))))
      all_goals (refine ⟨rest1.length, ?_, k1 + 1, 3 + r0.strikes.length + (k1 + 1), rest1, rfl, hd1, (by omega), (by omega), ?_, ?_, ?_, ?_, ?_⟩; ((simp only [List.length_cons] at *; omega)); all_goals first | (simp (disch := omega) only [push_cast, simprocAttr, hS1, hZ1, hk1, hg1, hx1, hmin, zA, take_drop_cons hp01, ndM_snoc, nd0_len, ndS_len, ndM_len, ndS_succ] <;> first | rfl | omega) | omega)
end Go.Proofs.Ks

namespace Go.Pg
open Go Go.RowKit
section
variable {C : Cx} {N : Nat} {Q : Exit → St → Prop} {s : St} {ops : Array Oper} {rest : List Oper} {ty : TypeId} {ps : String} {af : Array Edge} {d : Nat}
variable {H0 : Nat → Option AO} {b : Nat} {tg mk av : List Nat} {Fin : St → Prop} {i : Nat}
theorem W.calln (hC : C.OK) (hN : d < N) {fo : Operand} {args : Array Operand} {tys : Array TypeId} {f : FuncId} {vs : List AV} (hf : s.ev fo = .clo f []) (hv : viewL s.H (evsA args.toList s.ev) = some vs) (hids : idsL (evsA args.toList s.ev) = [])
    {row : Row} (hok : OKm C f vs (fun _ => none) 0 (NewRow (· = row))) (k : AWL C N ops Q rest { tm := upd s.tm d (.ref s.nx 0 row.es.length), H := updH s.H s.nx (.row row), nx := s.nx + 1 }) :
    AWL C N ops Q (⟨some d, .call { callee := .value fo, args := args, argTypes := tys }, ty, ps, af, none⟩ :: rest) s :=
  AWL.calln hC rfl rfl hN rfl hf hv hids hok (fun r hr => by subst hr; exact k)
theorem D.calln (hC : C.OK) (hN : d < N) (hi : i ∈ tg) {fo : Operand} {args : Array Operand} {tys : Array TypeId} {f : FuncId} {vs : List AV} (hf : s.ev fo = .clo f []) (hv : viewL s.H (evsA args.toList s.ev) = some vs) (hids : idsL (evsA args.toList s.ev) = [])
    {row : Row} (hok : OKm C f vs (fun _ => none) 0 (NewRow (· = row))) (hav : mk = [] ∨ s.nx ∈ av)
    (k : DW C N ops H0 b tg mk av Fin (i + 1) rest { tm := upd s.tm d (.ref s.nx 0 row.es.length), H := updH s.H s.nx (.row row), nx := s.nx + 1 }) :
    DW C N ops H0 b tg mk av Fin i (⟨some d, .call { callee := .value fo, args := args, argTypes := tys }, ty, ps, af, none⟩ :: rest) s := by
  refine ⟨.ref s.nx 0 row.es.length, { tm := upd s.tm d (.ref s.nx 0 row.es.length), H := updH s.H s.nx (.row row), nx := s.nx + 1 }, rfl, ?_, k⟩
  rw [if_pos hi]
  refine ⟨fun s' h1 h2 hl => ?_, ?_⟩
  · have hev := ev_congr hl
    have e1 : s'.ev fo = .clo f [] := by rw [hev fo (by simp [Op.operands, Call.operands])]; exact hf
    have e2 : evsA args.toList s'.ev = evsA args.toList s.ev := evsA_congr (fun x hx => hev x (by simp only [Op.operands, Call.operands, Array.mem_append]; exact .inr (by simpa using hx)))
    refine one_of_AWL (W.calln (row := row) hC hN e1 (by rw [e2, h1]; exact hv) (by rw [e2]; exact hids) hok (AWL.nil ⟨rfl, ?_⟩))
    rw [h1, h2]; rfl
  · rcases hav with h | h
    · exact .inl h
    · refine .inr fun id' x hid' hx => ?_
      show updH s.H s.nx _ id' = some x
      simp only [updH]
      rw [if_neg (fun e => by rw [e] at hid'; exact hid' h)]; exact hx
theorem newRow_of {i : Nat} {row row0 : Row} {H : Nat → Option AO} {nx : Nat} (h : rowAt H i = some row0) (hr : row0 = row) (hf : row.fro = false) (hfl : flatE row.es) (hne : row.es ≠ []) : NewRow (· = row) (.ref i 0 row.es.length) H nx := by
  subst hr; exact ⟨i, row0, rfl, h, hf, hfl, hne, rfl⟩
end
end Go.Pg

namespace Go.Proofs.Ks
open Go Go.Pg Go.Proofs
def atI (kd nm : Int) : Nat → List Node → Int
  | _, [] => -1
  | k, x :: r => if x.kind = kd ∧ x.num = nm then (k : Int) else atI kd nm (k + 1) r
theorem rat_ok (l : List Node) (kd nm : Int) (hl : l.length ≤ 1099511627776) : OKv cx 85 [lNode l, ai kd, ai nm] (ai (atI kd nm 0 l)) := by
  obtain ⟨RES, hR⟩ : ∃ x, atI kd nm 0 l = x := ⟨_, rfl⟩
  rw [hR]
  refine OKat.of_body (rs := [6]) Try.func85 rfl (by decide +kernel) rfl (by simp [Try.ntmps85]) ?_
  simp only [Try.ntmps85]
  repeat' first
    | apply AW.seq | apply AW.region | apply AW.ret | apply AW.block | apply AW.skip | apply AW.exit | apply AW.scope | apply AW.label | apply AWL.nil
    | ((first | (apply W.step cx_ok; decide) | (apply W.gS; rfl; decide) | apply AW.cond); (simp (disch := omega) only [push_cast, simprocAttr] <;> rfl); all_goals try ((with_reducible intro hI); try first | (cases hI; done) | (simp only [INTS, zL] at hI; try first | (exfalso; omega) | (have hT : True := hI; clear hT hI))))
    | ((first | apply W.ret1 | apply W.end1); (iterate 2 (try (simp (disch := omega) only [push_cast, simprocAttr] <;> rfl))))
  refine AW.loop (fun n s => ∃ (k : Nat) (rest : List Node), n = rest.length ∧ (l.drop k = rest) ∧ (atI kd nm k rest = RES) ∧ s.tm 0 = lNode l ∧ s.tm 1 = ai kd ∧ s.tm 2 = ai nm ∧ s.tm 7 = ai k) (l.length) ⟨0, l, rfl, rfl, hR, ?_, ?_, ?_, ?_⟩ ?_
  iterate 4 (first | (simp (disch := omega) only [push_cast, simprocAttr] <;> first | rfl | omega) | omega)
  rintro n s ⟨k, rest, hn, hp0, hp1, hS⟩
  rcases rest with _ | ⟨x, rest⟩
  · have hk := drop_nil hp0
    repeat' first
      | apply AW.seq | apply AW.region | apply AW.ret | apply AW.block | apply AW.skip | apply AW.exit | apply AW.scope | apply AW.label | apply AWL.nil
      | ((first | (apply W.step cx_ok; decide) | (apply W.gS; rfl; decide) | apply AW.cond); (simp (disch := omega) only [push_cast, simprocAttr, hS, hk] <;> rfl); all_goals try ((with_reducible intro hI); try first | (cases hI; done) | (simp only [INTS, zL] at hI; try first | (exfalso; omega) | (have hT : True := hI; clear hT hI))))
      | ((first | apply W.ret1 | apply W.end1); (iterate 2 (try (simp (disch := omega) only [push_cast, simprocAttr, hS, hk] <;> rfl))))
    all_goals (show _ = _; rw [← hp1]; rfl)
  · obtain ⟨hk, hg, hd', hl', hm, hx⟩ := drop_cons hp0 eNode []
    by_cases h1 : x.kind = kd
    · have h1T : (x.kind = kd) = True := eq_true h1
      by_cases h2 : x.num = nm
      · have h2T : (x.num = nm) = True := eq_true h2
        rw [atI, if_pos ⟨h1, h2⟩] at hp1
        repeat' first
          | apply AW.seq | apply AW.region | apply AW.ret | apply AW.block | apply AW.skip | apply AW.exit | apply AW.scope | apply AW.label | apply AWL.nil
          | ((first | (apply W.step cx_ok; decide) | (apply W.gS; rfl; decide) | apply AW.cond); (simp (disch := omega) only [push_cast, simprocAttr, hS, hk, hg, hx, h1T, h2T] <;> rfl); all_goals try ((with_reducible intro hI); try first | (cases hI; done) | (simp only [INTS, zL] at hI; try first | (exfalso; omega) | (have hT : True := hI; clear hT hI))))
          | ((first | apply W.ret1 | apply W.end1); (iterate 2 (try (simp (disch := omega) only [push_cast, simprocAttr, hS, hk, hg, hx, h1T, h2T] <;> rfl))))
        all_goals (show _ = _; rw [← hp1])
      · have h2F : (x.num = nm) = False := eq_false h2
        rw [atI, if_neg (fun h => h2 h.2)] at hp1
        repeat' first
          | apply AW.seq | apply AW.region | apply AW.ret | apply AW.block | apply AW.skip | apply AW.exit | apply AW.scope | apply AW.label | apply AWL.nil
          | ((first | (apply W.step cx_ok; decide) | (apply W.gS; rfl; decide) | apply AW.cond); (simp (disch := omega) only [push_cast, simprocAttr, hS, hk, hg, hx, h1T, h2F] <;> rfl); all_goals try ((with_reducible intro hI); try first | (cases hI; done) | (simp only [INTS, zL] at hI; try first | (exfalso; omega) | (have hT : True := hI; clear hT hI))))
          | ((first | apply W.ret1 | apply W.end1); (iterate 2 (try (simp (disch := omega) only [push_cast, simprocAttr, hS, hk, hg, hx, h1T, h2F] <;> rfl))))
        all_goals (refine ⟨rest.length, ?_, k + 1, rest, rfl, hd', hp1, ?_, ?_, ?_, ?_⟩; ((simp only [List.length_cons] at *; omega)); all_goals first | (simp (disch := omega) only [push_cast, simprocAttr, hS, hk, hg, hx, h1T, h2F] <;> first | rfl | omega) | omega)
    · have h1F : (x.kind = kd) = False := eq_false h1
      rw [atI, if_neg (fun h => h1 h.1)] at hp1
      repeat' first
        | apply AW.seq | apply AW.region | apply AW.ret | apply AW.block | apply AW.skip | apply AW.exit | apply AW.scope | apply AW.label | apply AWL.nil
        | ((first | (apply W.step cx_ok; decide) | (apply W.gS; rfl; decide) | apply AW.cond); (simp (disch := omega) only [push_cast, simprocAttr, hS, hk, hg, hx, h1F] <;> rfl); all_goals try ((with_reducible intro hI); try first | (cases hI; done) | (simp only [INTS, zL] at hI; try first | (exfalso; omega) | (have hT : True := hI; clear hT hI))))
        | ((first | apply W.ret1 | apply W.end1); (iterate 2 (try (simp (disch := omega) only [push_cast, simprocAttr, hS, hk, hg, hx, h1F] <;> rfl))))
      all_goals (refine ⟨rest.length, ?_, k + 1, rest, rfl, hd', hp1, ?_, ?_, ?_, ?_⟩; ((simp only [List.length_cons] at *; omega)); all_goals first | (simp (disch := omega) only [push_cast, simprocAttr, hS, hk, hg, hx, h1F] <;> first | rfl | omega) | omega)
def addS (x y : Int) : List Stop → Int × Int → Int × Int
  | [], p => p
  | t :: r, p => addS x y r (if x ≤ t.pos ∧ t.pos < y then (p.1 + t.secs.lo, p.2 + t.secs.hi) else p)
def leastR (s : Session) (x y : Int) : Int × Int := addS x y s.stops ((y - x) * 1000000 / s.rate.hi, ((y - x) * 1000000 + s.rate.lo - 1) / s.rate.lo)
structure Session.R (s : Session) : Prop where
  rate : 900000 ≤ s.rate.lo ∧ s.rate.lo ≤ s.rate.hi ∧ s.rate.hi ≤ 1100000
  nstops : s.stops.length ≤ 4
  stops : ∀ x ∈ s.stops, 0 ≤ x.secs.lo ∧ x.secs.lo ≤ x.secs.hi ∧ x.secs.hi ≤ 36000
theorem Rec.V.r {r : Rec} (h : r.V) : r.s.R := ⟨h.rate, h.nstops, fun x hx => (h.stops x hx).2.2⟩
theorem div_bound {n d : Int} (hn : 0 ≤ n) (hm : n ≤ 43200000000 + 1100000) (hd : 900000 ≤ d) : 0 ≤ n / d ∧ n / d ≤ 48002 := by
  refine ⟨Int.ediv_nonneg hn (by omega), ?_⟩
  have h1 : n / d < 48003 := Int.ediv_lt_of_lt_mul (by omega) (by omega)
  omega
theorem least_ok (s0 : Session) (x y : Int) (hv : s0.R) (hx0 : 0 ≤ x) (hxy : x ≤ y) (hy : y ≤ 43200) : OKv cx 116 [.agg (eSession s0), ai x, ai y] (.tup [ai (leastR s0 x y).1, ai (leastR s0 x y).2]) := by
  obtain ⟨r1, r2, r3⟩ := hv.rate
  have hn4 := hv.nstops
  have z1 : (s0.rate.hi = 0) = False := eq_false (by omega)
  have z2 : (s0.rate.lo = 0) = False := eq_false (by omega)
  have d1 := div_bound (n := (y - x) * 1000000) (d := s0.rate.hi) (by omega) (by omega) (by omega)
  have d2 := div_bound (n := (y - x) * 1000000 + s0.rate.lo - 1) (d := s0.rate.lo) (by omega) (by omega) (by omega)
  obtain ⟨RES, hR⟩ : ∃ p, leastR s0 x y = p := ⟨_, rfl⟩
  rw [hR]
  unfold leastR at hR
  obtain ⟨Q1, hQ1⟩ : ∃ q, (y - x) * 1000000 / s0.rate.hi = q := ⟨_, rfl⟩
  obtain ⟨Q2, hQ2⟩ : ∃ q, ((y - x) * 1000000 + s0.rate.lo - 1) / s0.rate.lo = q := ⟨_, rfl⟩
  rw [hQ1] at d1 hR
  rw [hQ2] at d2 hR
  refine OKat.of_body (rs := [6, 7]) Try.func116 rfl (by decide +kernel) rfl (by simp [Try.ntmps116]) ?_
  simp only [Try.ntmps116]
  repeat' first
    | apply AW.seq | apply AW.region | apply AW.ret | apply AW.block | apply AW.skip | apply AW.exit | apply AW.scope | apply AW.label | apply AWL.nil
    | ((first | (apply W.step cx_ok; decide) | (apply W.gS; rfl; decide) | apply AW.cond); (simp (disch := omega) only [push_cast, simprocAttr, z1, z2, hQ1, hQ2] <;> rfl); all_goals try ((with_reducible intro hI); try first | (cases hI; done) | (simp only [INTS, zL] at hI; try first | (exfalso; omega) | (have hT : True := hI; clear hT hI))))
    | ((first | apply W.ret2 | apply W.end2); (iterate 2 (try (simp (disch := omega) only [push_cast, simprocAttr, z1, z2, hQ1, hQ2] <;> rfl))))
  refine AW.loop (fun n s => ∃ (k : Nat) (p : Int × Int) (rest : List Stop), n = rest.length ∧ (s0.stops.drop k = rest) ∧ (addS x y rest p = RES) ∧ (0 ≤ p.1 ∧ p.1 ≤ 48002 + 36000 * k ∧ 0 ≤ p.2 ∧ p.2 ≤ 48002 + 36000 * k) ∧ 1 ≤ s.nx ∧ s.tm 1 = ai x ∧ s.tm 2 = ai y ∧ s.tm 3 = .ptr 0 0 0 1 ∧ s.tm 8 = ai p.1 ∧ s.tm 9 = ai p.2 ∧ s.tm 10 = ai k ∧ Pg.rowAt s.H (0) = some ({ k := 12, es := [eSession s0], ty := 26 })) (s0.stops.length) ⟨0, (Q1, Q2), s0.stops, rfl, rfl, hR, ⟨d1.1, (by omega), d2.1, (by omega)⟩, ?_, ?_, ?_, ?_, ?_, ?_, ?_, ?_⟩ ?_
  iterate 8 (first | (simp (disch := omega) only [push_cast, simprocAttr, z1, z2, hQ1, hQ2] <;> first | rfl | omega) | omega)
  rintro n s ⟨k, p, rest, hn, hp0, hp1, hp2, hnl, hS⟩
  have hZ : (0 : Nat) ≠ s.nx ∧ s.nx ≠ (0 : Nat) := by omega
  obtain ⟨p1, p2, p3, p4⟩ := hp2
  rcases rest with _ | ⟨st, rest⟩
  · have hk := drop_nil hp0
    repeat' first
      | apply AW.seq | apply AW.region | apply AW.ret | apply AW.block | apply AW.skip | apply AW.exit | apply AW.scope | apply AW.label | apply AWL.nil
      | ((first | (apply W.step cx_ok; decide) | (apply W.gS; rfl; decide) | apply AW.cond); (simp (disch := omega) only [push_cast, simprocAttr, hS, hZ, hk] <;> rfl); all_goals try ((with_reducible intro hI); try first | (cases hI; done) | (simp only [INTS, zL] at hI; try first | (exfalso; omega) | (have hT : True := hI; clear hT hI))))
      | ((first | apply W.ret2 | apply W.end2); (iterate 2 (try (simp (disch := omega) only [push_cast, simprocAttr, hS, hZ, hk] <;> rfl))))
    all_goals (show _ = _; rw [← hp1]; rfl)
  · obtain ⟨hk, hg, hd', hl', hm, hx⟩ := drop_cons hp0 eStop []
    obtain ⟨b1, b2, b3⟩ := hv.stops st hm
    by_cases hq : x ≤ st.pos ∧ st.pos < y
    · have q1 := hq.1
      have q2 := hq.2
      rw [addS, if_pos hq] at hp1
      repeat' first
        | apply AW.seq | apply AW.region | apply AW.ret | apply AW.block | apply AW.skip | apply AW.exit | apply AW.scope | apply AW.label | apply AWL.nil
        | ((first | (apply W.step cx_ok; decide) | (apply W.gS; rfl; decide) | apply AW.cond); (simp (disch := omega) only [push_cast, simprocAttr, hS, hZ, hk, hg, hx, q1, q2] <;> rfl); all_goals try ((with_reducible intro hI); try first | (cases hI; done) | (simp only [INTS, zL] at hI; try first | (exfalso; omega) | (have hT : True := hI; clear hT hI))))
        | ((first | apply W.ret2 | apply W.end2); (iterate 2 (try (simp (disch := omega) only [push_cast, simprocAttr, hS, hZ, hk, hg, hx, q1, q2] <;> rfl))))
      all_goals (refine ⟨rest.length, ?_, k + 1, (p.1 + st.secs.lo, p.2 + st.secs.hi), rest, rfl, hd', hp1, ⟨(by dsimp only; omega), (by dsimp only; omega), (by dsimp only; omega), (by dsimp only; omega)⟩, ?_, ?_, ?_, ?_, ?_, ?_, ?_, ?_⟩; ((simp only [List.length_cons] at *; omega)); all_goals first | (simp (disch := omega) only [push_cast, simprocAttr, hS, hZ, hk, hg, hx, q1, q2] <;> first | rfl | omega) | omega)
    · rw [addS, if_neg hq] at hp1
      repeat' first
        | apply AW.seq | apply AW.region | apply AW.ret | apply AW.block | apply AW.skip | apply AW.exit | apply AW.scope | apply AW.label | apply AWL.nil
        | ((first | (apply W.step cx_ok; decide) | (apply W.gS; rfl; decide) | apply AW.cond); (simp (disch := omega) only [push_cast, simprocAttr, hS, hZ, hk, hg, hx] <;> rfl); all_goals try ((with_reducible intro hI); try first | (cases hI; done) | (simp only [INTS, zL] at hI; try first | (exfalso; omega) | (have hT : True := hI; clear hT hI))))
        | ((first | apply W.ret2 | apply W.end2); (iterate 2 (try (simp (disch := omega) only [push_cast, simprocAttr, hS, hZ, hk, hg, hx] <;> rfl))))
      all_goals first
        | (exfalso; omega)
        | (refine ⟨rest.length, ?_, k + 1, p, rest, rfl, hd', hp1, ⟨p1, (by omega), p3, (by omega)⟩, ?_, ?_, ?_, ?_, ?_, ?_, ?_, ?_⟩; ((simp only [List.length_cons] at *; omega)); all_goals first | (simp (disch := omega) only [push_cast, simprocAttr, hS, hZ, hk, hg, hx] <;> first | rfl | omega) | omega)
def bothL (nd : Nat) (x : Span) : List Lk := [⟨0, nd, x.hi⟩, ⟨nd, 0, -x.lo⟩]
theorem both_ok (nd : Int) (x : Span) (hn : 0 ≤ nd) (hb : 0 ≤ x.lo ∧ x.lo ≤ 1099511627776) : OKv cx 103 [ai nd, .agg (eSpan x)] (lLink (bothL nd.toNat x)) := by
  have en := Int.toNat_of_nonneg hn
  have hb1 := hb.1
  have hb2 := hb.2
  refine OKat.of_body (rs := [4]) Try.func103 rfl (by decide +kernel) rfl (by simp [Try.ntmps103]) ?_
  simp only [Try.ntmps103]
  repeat' first
    | apply AW.seq | apply AW.region | apply AW.ret | apply AW.block | apply AW.skip | apply AW.exit | apply AW.scope | apply AW.label | apply AWL.nil
    | ((first | (apply W.step cx_ok; decide) | apply AW.cond); (simp (disch := omega) only [push_cast, simprocAttr] <;> rfl); all_goals try ((with_reducible intro hI); try first | (cases hI; done) | (simp only [INTS, zL] at hI; try first | (exfalso; omega) | (have hT : True := hI; clear hT hI))))
    | ((first | apply W.ret1 | apply W.end1); (iterate 2 (try (simp (disch := omega) only [push_cast, simprocAttr] <;> rfl))))
  all_goals (show _ = _; simp [bothL, en])
theorem bothN_ok (nd : Int) (x : Span) (hn : 0 ≤ nd) (hb : 0 ≤ x.lo ∧ x.lo ≤ 1099511627776) : OKm cx 103 [ai nd, .agg (eSpan x)] (fun _ => none) 0 (NewRow (· = { k := 3, es := (bothL nd.toNat x).map eLink, ty := 66 })) := by
  have en := Int.toNat_of_nonneg hn
  have hb1 := hb.1
  have hb2 := hb.2
  refine OKm.of_body cx_ok (rs := [.tmp 4]) Try.func103 rfl (by decide +kernel) rfl (by simp [Try.ntmps103]) ?_
  simp only [Try.ntmps103]
  repeat' first
    | apply AW.seq | apply AW.region | apply AW.ret | apply AW.block | apply AW.skip | apply AW.exit | apply AW.scope | apply AW.label | apply AWL.nil
    | ((first | (apply W.step cx_ok; decide) | apply AW.cond); (simp (disch := omega) only [push_cast, simprocAttr] <;> rfl); all_goals try ((with_reducible intro hI); try first | (cases hI; done) | (simp only [INTS, zL] at hI; try first | (exfalso; omega) | (have hT : True := hI; clear hT hI))))

  all_goals
    (apply W.retX (vs := [.ref 1 0 2])
     · (simp (disch := omega) only [push_cast, simprocAttr] <;> rfl)
     · exact newRow_of (i := 1) (row := { k := 3, es := (bothL nd.toNat x).map eLink, ty := 66 }) (by simp (disch := omega) only [push_cast, simprocAttr] <;> rfl) (by simp [bothL, en]) rfl (fun e he c hc => by simp [bothL] at he; rcases he with rfl | rfl <;> simp at hc <;> rcases hc with rfl | rfl | rfl <;> exact ⟨_, rfl⟩) (by simp [bothL]))
def needleL (l : List Node) (nd : Nat) (x : Span) : List Lk := [⟨nd, (atI 4 x.lo 0 l).toNat, 0⟩, ⟨(atI 4 (x.hi + 1) 0 l).toNat, nd, 0⟩]
theorem needle_ok (l : List Node) (nd : Int) (x : Span) (hn : 0 ≤ nd) (hl : l.length ≤ 1099511627776) (hb : x.hi ≤ 43199) (h0 : 0 ≤ x.hi) (h1 : 0 ≤ atI 4 x.lo 0 l) (h2 : 0 ≤ atI 4 (x.hi + 1) 0 l) : OKv cx 115 [lNode l, ai nd, .agg (eSpan x)] (lLink (needleL l nd.toNat x)) := by
  have en := Int.toNat_of_nonneg hn
  have e1 : ((atI 4 x.lo 0 l).toNat : Int) = atI 4 x.lo 0 l := Int.toNat_of_nonneg h1
  have e2 : ((atI 4 (x.hi + 1) 0 l).toNat : Int) = atI 4 (x.hi + 1) 0 l := Int.toNat_of_nonneg h2
  refine OKat.of_body (rs := [6]) Try.func115 rfl (by decide +kernel) rfl (by simp [Try.ntmps115]) ?_
  simp only [Try.ntmps115]
  repeat' first
    | apply AW.seq | apply AW.region | apply AW.ret | apply AW.block | apply AW.skip | apply AW.exit | apply AW.scope | apply AW.label | apply AWL.nil | apply D.nil
    | refine AW.draw (id := 1) cx_mixed [] [] [] 15 (by decide +kernel) ?_
    | refine W.draw cx_mixed (by decide +kernel) ?_
    | ((first | (apply W.step cx_ok; decide) | (apply D.step cx_ok; decide; decide) | apply AW.cond); (simp (disch := omega) only [push_cast, simprocAttr, take_mapLen] <;> rfl); all_goals try ((with_reducible intro hI); try first | (cases hI; done) | (simp only [INTS, zL] at hI; try first | (exfalso; omega) | (have hT : True := hI; clear hT hI))))
    | ((first | (apply D.stepm cx_ok; decide; decide)); (simp (disch := omega) only [push_cast, simprocAttr, take_mapLen] <;> rfl))
    | ((apply D.alloc cx_ok; decide; decide); (simp (disch := omega) only [push_cast, simprocAttr, take_mapLen] <;> rfl); (simp (disch := omega) only [push_cast, simprocAttr, take_mapLen, updH_at, zJ]); (simp (disch := omega) only [push_cast, simprocAttr, take_mapLen] <;> omega))
    | ((first | (apply W.callv cx_ok; decide) | (apply D.callv cx_ok; decide; decide)); (iterate 2 (simp (disch := omega) only [push_cast, simprocAttr, take_mapLen] <;> rfl)); (with_reducible first | exact rat_ok _ _ _ hl); try first | rfl | (simp (disch := omega) only [push_cast, simprocAttr, take_mapLen] <;> rfl))
    | ((first | apply W.ret1 | apply W.end1); (iterate 2 (try (simp (disch := omega) only [push_cast, simprocAttr, take_mapLen] <;> rfl))))
  all_goals (show _ = _; simp [needleL, e1, e2, en])
end Go.Proofs.Ks

namespace Go.Proofs.Ks
theorem insI_mem {n a : Int} : ∀ {l : List Int}, a ∈ insI n l ↔ a = n ∨ a ∈ l
  | [] => by simp [insI]
  | x :: r => by
    have ih := @insI_mem n a r
    unfold insI
    split
    · simp only [List.mem_cons, ih]
      constructor
      · rintro (h | h | h) <;> simp [h]
      · rintro (h | h | h) <;> simp [h]
    · split
      · rename_i h; subst h; simp
      · simp
theorem insI_sorted {n : Int} : ∀ {l : List Int}, l.Pairwise (· < ·) → (insI n l).Pairwise (· < ·)
  | [], _ => by simp [insI]
  | x :: r, h => by
    obtain ⟨h1, h2⟩ := List.pairwise_cons.1 h
    unfold insI
    split
    · rename_i hlt
      refine List.pairwise_cons.2 ⟨fun a ha => ?_, insI_sorted h2⟩
      rcases insI_mem.1 ha with rfl | ha
      · exact hlt
      · exact h1 a ha
    · split
      · exact h
      · rename_i h3 h4
        refine List.pairwise_cons.2 ⟨fun a ha => ?_, h⟩
        rcases List.mem_cons.1 ha with rfl | ha
        · omega
        · have := h1 a ha; omega
theorem insS_mem {a : Int} : ∀ {l : List Strike} {M : List Int}, a ∈ insS l M ↔ a ∈ M ∨ ∃ x ∈ l, a = x.pos.lo ∨ a = x.pos.hi + 1
  | [], M => by simp [insS]
  | x :: l, M => by
    unfold insS
    rw [insS_mem, insI_mem, insI_mem]
    simp only [List.mem_cons, exists_eq_or_imp]
    constructor
    · rintro ((h | h | h) | h)
      · exact .inr (.inl (.inr h))
      · exact .inr (.inl (.inl h))
      · exact .inl h
      · exact .inr (.inr h)
    · rintro (h | (h | h) | h)
      · exact .inl (.inr (.inr h))
      · exact .inl (.inr (.inl h))
      · exact .inl (.inl h)
      · exact .inr h
theorem insS_sorted : ∀ {l : List Strike} {M : List Int}, M.Pairwise (· < ·) → (insS l M).Pairwise (· < ·)
  | [], _, h => h
  | _ :: l, _, h => insS_sorted (l := l) (insI_sorted (insI_sorted h))
theorem insM_mem {a : Int} : ∀ {l M : List Int}, a ∈ insM l M ↔ a ∈ M ∨ a ∈ l
  | [], M => by simp [insM]
  | x :: l, M => by
    unfold insM
    rw [insM_mem, insI_mem]
    simp only [List.mem_cons]
    constructor
    · rintro ((h | h) | h) <;> simp [h]
    · rintro (h | h | h) <;> simp [h]
theorem insM_sorted : ∀ {l M : List Int}, M.Pairwise (· < ·) → (insM l M).Pairwise (· < ·)
  | [], _, h => h
  | _ :: l, _, h => insM_sorted (l := l) (insI_sorted h)
theorem marksR_mem {r : Rec} {more : List Int} {a : Int} : a ∈ marksR r more ↔ (a = r.s.zero.lo ∨ a = r.s.zero.hi + 1 ∨ a = r.s.fin.lo ∨ a = r.s.fin.hi + 1) ∨ (∃ x ∈ r.strikes, a = x.pos.lo ∨ a = x.pos.hi + 1) ∨ a ∈ more := by
  unfold marksR
  rw [insM_mem, insS_mem, insI_mem, insI_mem, insI_mem, insI_mem]
  simp only [List.not_mem_nil, or_false]
  constructor
  · rintro ((h | h) | h)
    · exact .inl (by omega)
    · exact .inr (.inl h)
    · exact .inr (.inr h)
  · rintro (h | h | h)
    · exact .inl (.inl (by omega))
    · exact .inl (.inr h)
    · exact .inr h
theorem marksR_sorted (r : Rec) (more : List Int) : (marksR r more).Pairwise (· < ·) := by
  unfold marksR
  exact insM_sorted (insS_sorted (insI_sorted (insI_sorted (insI_sorted (insI_sorted List.Pairwise.nil)))))
theorem marksR_bound {r : Rec} (hv : r.V) {more : List Int} (hm : ∀ a ∈ more, 0 ≤ a ∧ a ≤ 43200) {a : Int} (h : a ∈ marksR r more) : 0 ≤ a ∧ a ≤ 43200 := by
  have := hv.z; have := hv.f; have := hv.zf
  rcases marksR_mem.1 h with h | ⟨x, hx, h⟩ | h
  · omega
  · have := hv.strikes x hx; omega
  · exact hm a h
theorem atI_append (kd nm : Int) : ∀ (l m : List Node) (k : Nat), (∀ x ∈ l, ¬ (x.kind = kd ∧ x.num = nm)) → atI kd nm k (l ++ m) = atI kd nm (k + l.length) m
  | [], m, k, _ => by simp
  | x :: l, m, k, h => by
    have h1 := h x (by simp)
    have h2 := atI_append kd nm l m (k + 1) (fun y hy => h y (by simp [hy]))
    simp only [List.cons_append, atI]
    rw [if_neg h1, h2, show k + 1 + l.length = k + (l.length + 1) by omega]; rfl
theorem atI_case (kd nm : Int) : ∀ (l : List Node) (k : Nat), (atI kd nm k l = -1 ∧ ∀ x ∈ l, ¬ (x.kind = kd ∧ x.num = nm)) ∨ ∃ i, i < l.length ∧ atI kd nm k l = ((k + i : Nat) : Int) ∧ l.getD i default = ⟨kd, nm⟩
  | [], k => .inl ⟨rfl, fun x hx => by simp at hx⟩
  | x :: l, k => by
    unfold atI
    by_cases h : x.kind = kd ∧ x.num = nm
    · rw [if_pos h]
      refine .inr ⟨0, by simp, rfl, ?_⟩
      obtain ⟨h1, h2⟩ := h
      cases x; simp only at h1 h2; subst h1; subst h2; rfl
    · rw [if_neg h]
      rcases atI_case kd nm l (k + 1) with ⟨h1, h2⟩ | ⟨i, h1, h2, h3⟩
      · refine .inl ⟨h1, fun y hy => ?_⟩
        rcases List.mem_cons.1 hy with rfl | hy
        · exact h
        · exact h2 y hy
      · exact .inr ⟨i + 1, by simp; omega, by rw [h2, show k + 1 + i = k + (i + 1) by omega], by simpa using h3⟩
theorem nodesR_len (r : Rec) (more : List Int) : (nodesR r more).length = 3 + r.strikes.length + (marksR r more).length := by
  unfold nodesR; rw [List.length_append, List.length_append, nd0_len, ndS_len, ndM_len]
theorem at_mark {r : Rec} {more : List Int} {p : Int} (h : p ∈ marksR r more) : 0 ≤ atI 4 p 0 (nodesR r more) ∧ atI 4 p 0 (nodesR r more) < ((nodesR r more).length : Int) := by
  rcases atI_case 4 p (nodesR r more) 0 with ⟨_, h2⟩ | ⟨i, h1, h2, _⟩
  · exfalso
    refine h2 ⟨4, p⟩ ?_ ⟨rfl, rfl⟩
    unfold nodesR ndM
    exact List.mem_append_right _ (List.mem_map.2 ⟨p, h, rfl⟩)
  · rw [h2]; omega
theorem node_mark {r : Rec} {more : List Int} {j : Nat} (h : j < (marksR r more).length) : (nodesR r more).getD (3 + r.strikes.length + j) default = ⟨4, (marksR r more).getD j 0⟩ := by
  unfold nodesR
  rw [List.getD_eq_getElem?_getD, List.getElem?_append_right (by rw [List.length_append, nd0_len, ndS_len]; omega)]
  rw [show 3 + r.strikes.length + j - (nd0 ++ ndS r.strikes.length).length = j by rw [List.length_append, nd0_len, ndS_len]; omega]
  unfold ndM
  rw [List.getElem?_map, List.getElem?_eq_getElem h, List.getD_eq_getElem?_getD, List.getElem?_eq_getElem h]; rfl
def sgL (r : Rec) : List Sight → List Lk
  | [] => []
  | x :: l => bothL (3 + strikeI x.strike 0 r.strikes).toNat x.seen ++ sgL r l
def rowK (S i : Nat) : Lk := ⟨if i < S then 3 + i else 2, if 0 < i then 2 + i else 1, 0⟩
def rwL (S : Nat) : Nat → Nat → List Lk
  | 0, _ => []
  | c + 1, i => rowK S i :: rwL S c (i + 1)
def ndL (nd : List Node) : Nat → List Strike → List Lk
  | _, [] => []
  | i, x :: l => needleL nd (3 + i) x.pos ++ ndL nd (i + 1) l
def pairL (s : Session) (i : Nat) (x : Int) : Nat → List Int → List Lk
  | _, [] => []
  | k, y :: l => ⟨i, k, (leastR s x y).2⟩ :: ⟨k, i, -(leastR s x y).1⟩ :: pairL s i x (k + 1) l
def pairsL (s : Session) : Nat → List Int → List Lk
  | _, [] => []
  | i, x :: l => pairL s i x (i + 1) l ++ pairsL s (i + 1) l
def linksR (r : Rec) (more : List Int) : List Lk :=
  bothL 1 r.s.inn ++ (bothL 2 r.s.out ++ (sgL r r.sights ++ (rwL r.strikes.length (r.strikes.length + 1) 0 ++ (needleL (nodesR r more) 1 r.s.zero ++ (ndL (nodesR r more) 0 r.strikes ++ (needleL (nodesR r more) 2 r.s.fin ++ pairsL r.s (3 + r.strikes.length) (marksR r more)))))))
theorem leastR_bound (s : Session) (x y : Int) (hv : s.R) (hx0 : 0 ≤ x) (hxy : x ≤ y) (hy : y ≤ 43200) : 0 ≤ (leastR s x y).1 ∧ (leastR s x y).1 ≤ 192002 ∧ 0 ≤ (leastR s x y).2 ∧ (leastR s x y).2 ≤ 192002 := by
  obtain ⟨r1, r2, r3⟩ := hv.rate
  have d1 := div_bound (n := (y - x) * 1000000) (d := s.rate.hi) (by omega) (by omega) (by omega)
  have d2 := div_bound (n := (y - x) * 1000000 + s.rate.lo - 1) (d := s.rate.lo) (by omega) (by omega) (by omega)
  have go : ∀ (l : List Stop) (p : Int × Int), (∀ t ∈ l, 0 ≤ t.secs.lo ∧ t.secs.lo ≤ t.secs.hi ∧ t.secs.hi ≤ 36000) → 0 ≤ p.1 → 0 ≤ p.2 →
      0 ≤ (addS x y l p).1 ∧ (addS x y l p).1 ≤ p.1 + 36000 * l.length ∧ 0 ≤ (addS x y l p).2 ∧ (addS x y l p).2 ≤ p.2 + 36000 * l.length := by
    intro l
    induction l with
    | nil => intro p _ h1 h2; simp only [addS, List.length_nil]; omega
    | cons t l ih =>
      intro p hl h1 h2
      have ht := hl t (by simp)
      unfold addS
      split
      · have := ih (p.1 + t.secs.lo, p.2 + t.secs.hi) (fun z hz => hl z (by simp [hz])) (by dsimp only; omega) (by dsimp only; omega)
        simp only [List.length_cons] at this ⊢; omega
      · have := ih p (fun z hz => hl z (by simp [hz])) h1 h2
        simp only [List.length_cons] at this ⊢; omega
  have h := go s.stops ((y - x) * 1000000 / s.rate.hi, ((y - x) * 1000000 + s.rate.lo - 1) / s.rate.lo) hv.stops d1.1 d2.1
  have hn := hv.nstops
  unfold leastR
  dsimp only at h
  omega
end Go.Proofs.Ks

namespace Go.Proofs.Ks
open Go Go.Pg Go.Proofs
attribute [push_cast] eLink
theorem bothL_len (n : Nat) (x : Span) : (bothL n x).length = 2 := rfl
theorem needleL_len (l : List Node) (n : Nat) (x : Span) : (needleL l n x).length = 2 := rfl
theorem bothL_ne (n : Nat) (x : Span) : (bothL n x).isEmpty = false := rfl
theorem needleL_ne (l : List Node) (n : Nat) (x : Span) : (needleL l n x).isEmpty = false := rfl
theorem drop_get {l : List Int} {k : Nat} {x : Int} {r : List Int} (h : l.drop k = x :: r) : l.getD k 0 = x ∧ k < l.length ∧ x ∈ l := by
  obtain ⟨h1, h2, h3, h4, h5, h6⟩ := drop_cons h eInt []
  have h7 : l[k]? = some x := by
    have := congrArg (fun m => m[0]?) h
    simpa using this
  exact ⟨by rw [List.getD_eq_getElem?_getD, h7]; rfl, by omega, h5⟩
theorem srt_lt {mk : List Int} (h : mk.Pairwise (· < ·)) {j k : Nat} {x y : Int} {r s : List Int} (hj : mk.drop j = x :: r) (hk : mk.drop k = y :: s) (hjk : j < k) : x < y := by
  obtain ⟨a1, a2, _⟩ := drop_get hj
  obtain ⟨b1, b2, _⟩ := drop_get hk
  have h1 := List.pairwise_iff_getElem.1 h j k a2 b2 hjk
  rw [List.getD_eq_getElem?_getD, List.getElem?_eq_getElem a2] at a1
  rw [List.getD_eq_getElem?_getD, List.getElem?_eq_getElem b2] at b1
  simp only [Option.getD_some] at a1 b1
  rw [← a1, ← b1]; exact h1
theorem rlinks_ok (r0 : Rec) (more : List Int) (hv : r0.V) (hml : more.length ≤ 8) (hmb : ∀ a ∈ more, 0 ≤ a ∧ a ≤ 43200) : OKv cx 97 [.agg (eRec r0), lInt more] (lLink (linksR r0 more)) := by
  have hr := hv.r
  have hns := hv.nstrikes
  have hng := hv.nsights
  obtain ⟨i1, i2, i3⟩ := hv.inn
  obtain ⟨o1, o2, o3⟩ := hv.out
  obtain ⟨z1, z2, z3⟩ := hv.z
  obtain ⟨f1, f2, f3⟩ := hv.f
  have hat := fun p (h : p ∈ marksR r0 more) => (at_mark h).1
  have hmz1 := hat r0.s.zero.lo (marksR_mem.2 (.inl (.inl rfl)))
  have hmz2 := hat (r0.s.zero.hi + 1) (marksR_mem.2 (.inl (.inr (.inl rfl))))
  have hmf1 := hat r0.s.fin.lo (marksR_mem.2 (.inl (.inr (.inr (.inl rfl)))))
  have hmf2 := hat (r0.s.fin.hi + 1) (marksR_mem.2 (.inl (.inr (.inr (.inr rfl)))))
  have hms1 : ∀ x ∈ r0.strikes, 0 ≤ atI 4 x.pos.lo 0 (nodesR r0 more) ∧ 0 ≤ atI 4 (x.pos.hi + 1) 0 (nodesR r0 more) := fun x hx => ⟨hat _ (marksR_mem.2 (.inr (.inl ⟨x, hx, .inl rfl⟩))), hat _ (marksR_mem.2 (.inr (.inl ⟨x, hx, .inr rfl⟩)))⟩
  have hsrt := marksR_sorted r0 more
  have hbnd := fun a (h : a ∈ marksR r0 more) => marksR_bound hv hmb h
  have hmkl := marksR_len r0 more
  have hndl := nodesR_len r0 more
  have hnode := fun j (h : j < (marksR r0 more).length) => node_mark h
  obtain ⟨RES, hRES⟩ : ∃ z, linksR r0 more = z := ⟨_, rfl⟩
  rw [hRES]
  unfold linksR at hRES
  obtain ⟨nd, hnd⟩ : ∃ z, nodesR r0 more = z := ⟨_, rfl⟩
  obtain ⟨mk, hmk⟩ : ∃ z, marksR r0 more = z := ⟨_, rfl⟩
  rw [hnd] at hmz1 hmz2 hmf1 hmf2 hms1 hndl hnode hRES
  rw [hmk] at hsrt hbnd hmkl hndl hnode hRES
  obtain ⟨T3, hT3⟩ : ∃ z, needleL nd 2 r0.s.fin ++ pairsL r0.s (3 + r0.strikes.length) mk = z := ⟨_, rfl⟩
  rw [hT3] at hRES
  obtain ⟨T2, hT2⟩ : ∃ z, needleL nd 1 r0.s.zero ++ (ndL nd 0 r0.strikes ++ T3) = z := ⟨_, rfl⟩
  rw [hT2] at hRES
  obtain ⟨T1, hT1⟩ : ∃ z, rwL r0.strikes.length (r0.strikes.length + 1) 0 ++ T2 = z := ⟨_, rfl⟩
  rw [hT1] at hRES
  refine OKat.of_body (rs := [4]) Try.func97 rfl (by decide +kernel) rfl (by simp [Try.ntmps97]) ?_
  simp only [Try.ntmps97]
  repeat' first
    | ((apply D.calln cx_ok; decide; decide); (iterate 3 (simp (disch := (first | omega | (simp only [zE, zF, zD, zC, zA, zB, bothL_len, needleL_len]; omega))) only [push_cast, simprocAttr, takeM, dropM, zK, zA, zB, zN, zQ, zR, zO, zP, zT, zS, zU, leT, zH, pureL, pureA, hnd, bothL_len] <;> rfl)); (with_reducible exact bothN_ok _ _ (by omega) ⟨by omega, by omega⟩); (first | exact .inl rfl | (refine .inr ?_; simp (disch := (first | omega | (simp only [zE, zF, zD, zC, zA, zB, bothL_len, needleL_len]; omega))) only [push_cast, simprocAttr, takeM, dropM, zK, zA, zB, zN, zQ, zR, zO, zP, zT, zS, zU, leT, zH, pureL, pureA, hnd, bothL_len] <;> simp)))
    | apply AW.seq | apply AW.region | apply AW.ret | apply AW.block | apply AW.skip | apply AW.exit | apply AW.scope | apply AW.label | apply AWL.nil | apply D.nil
    | refine AW.draw (id := 2) cx_mixed [3, 7, 8, 9] [4, 5, 6] [1, 2] 0 (by decide +kernel) ?_
    | refine W.draw cx_mixed (by decide +kernel) ?_
    | ((first | (apply W.step cx_ok; decide) | (apply D.step cx_ok; decide; decide) | apply AW.cond); (simp (disch := (first | omega | (simp only [zE, zF, zD, zC, zA, zB, bothL_len, needleL_len]; omega))) only [push_cast, simprocAttr, takeM, dropM, zK, zA, zB, zN, zQ, zR, zO, zP, zT, zS, zU, leT, zH, pureL, pureA, hnd, bothL_len] <;> rfl); all_goals try ((with_reducible intro hI); try first | (cases hI; done) | (simp only [INTS, zL] at hI; try first | (exfalso; omega) | (have hT : True := hI; clear hT hI))))
    | ((first | (apply D.store cx_ok; decide) | (apply D.stept cx_ok; decide; decide) | (apply D.stepm cx_ok; decide; decide)); (simp (disch := (first | omega | (simp only [zE, zF, zD, zC, zA, zB, bothL_len, needleL_len]; omega))) only [push_cast, simprocAttr, takeM, dropM, zK, zA, zB, zN, zQ, zR, zO, zP, zT, zS, zU, leT, zH, pureL, pureA, hnd, bothL_len] <;> rfl); try first | exact .inl rfl | exact .inr (by simp))
    | ((apply D.alloct cx_ok; decide; decide); (simp (disch := (first | omega | (simp only [zE, zF, zD, zC, zA, zB, bothL_len, needleL_len]; omega))) only [push_cast, simprocAttr, takeM, dropM, zK, zA, zB, zN, zQ, zR, zO, zP, zT, zS, zU, leT, zH, pureL, pureA, hnd, bothL_len] <;> rfl); first | exact .inl rfl | exact .inr (by simp))
    | (apply W.append cx_ok; decide; rfl; rfl; rfl; decide; (iterate 3 (simp (disch := (first | omega | (simp only [zE, zF, zD, zC, zA, zB, bothL_len, needleL_len]; omega))) only [push_cast, simprocAttr, takeM, dropM, zK, zA, zB, zN, zQ, zR, zO, zP, zT, zS, zU, leT, zH, pureL, pureA, hnd, bothL_len] <;> rfl)); (first | (focus (simp; done)) | (intro c hc; obtain ⟨x, _, rfl⟩ := List.mem_map.1 hc; rfl)); ((first | rfl | simp (disch := omega) only [push_cast])); ((try dsimp only); (try simp only [zF, zE, zD, zC, zA, zB, bothL_len, needleL_len]); omega); ((try dsimp only); (try simp only [zF, zE, zD, zC, zA, zB, bothL_len, needleL_len]); omega))
    | (apply D.append cx_ok; decide; decide; rfl; rfl; rfl; decide; (iterate 3 (simp (disch := (first | omega | (simp only [zE, zF, zD, zC, zA, zB, bothL_len, needleL_len]; omega))) only [push_cast, simprocAttr, takeM, dropM, zK, zA, zB, zN, zQ, zR, zO, zP, zT, zS, zU, leT, zH, pureL, pureA, hnd, bothL_len] <;> rfl)); (first | (focus (simp; done)) | (intro c hc; obtain ⟨x, _, rfl⟩ := List.mem_map.1 hc; rfl)); ((first | rfl | (simp (disch := omega) only [push_cast]; done))); ((try dsimp only); (try simp only [zF, zE, zD, zC, zA, zB, bothL_len, needleL_len]); omega); ((try dsimp only); (try simp only [zF, zE, zD, zC, zA, zB, bothL_len, needleL_len]); omega); first | exact .inl rfl | exact .inr (by simp))
    | ((first | (apply W.callv cx_ok; decide) | (apply D.callv cx_ok; decide; decide) | (apply D.callvt cx_ok; decide; decide)); (iterate 2 (simp (disch := (first | omega | (simp only [zE, zF, zD, zC, zA, zB, bothL_len, needleL_len]; omega))) only [push_cast, simprocAttr, takeM, dropM, zK, zA, zB, zN, zQ, zR, zO, zP, zT, zS, zU, leT, zH, pureL, pureA, hnd, bothL_len] <;> rfl)); (with_reducible first | exact nodes_ok r0 more hv (by omega) | exact both_ok _ _ (by omega) ⟨by omega, by omega⟩); try first | rfl | (simp (disch := (first | omega | (simp only [zE, zF, zD, zC, zA, zB, bothL_len, needleL_len]; omega))) only [push_cast, simprocAttr, takeM, dropM, zK, zA, zB, zN, zQ, zR, zO, zP, zT, zS, zU, leT, zH, pureL, pureA, hnd, bothL_len] <;> rfl))
    | ((first | apply W.ret1 | apply W.end1); (iterate 2 (try (simp (disch := (first | omega | (simp only [zE, zF, zD, zC, zA, zB, bothL_len, needleL_len]; omega))) only [push_cast, simprocAttr, takeM, dropM, zK, zA, zB, zN, zQ, zR, zO, zP, zT, zS, zU, leT, zH, pureL, pureA, hnd, bothL_len] <;> rfl))))
  refine AW.loop (fun n s => ∃ (k lw : Nat) (M : List Lk) (rest : List Sight), n = rest.length ∧ (r0.sights.drop k = rest) ∧ (M ++ (sgL r0 rest ++ T1) = RES) ∧ (lw ≤ M.length) ∧ (M.length ≤ 4 + 2 * k) ∧ (k ≤ r0.sights.length) ∧ 2 ≤ s.nx ∧ s.tm 2 = .ptr 0 0 0 1 ∧ s.tm 5 = lNode nd ∧ s.tm 6 = .ref 1 0 M.length ∧ s.tm 7 = ai k ∧ Pg.rowAt s.H (0) = some ({ k := 14, es := [eRec r0], ty := 30 }) ∧ Pg.rowAt s.H (1) = some ({ k := 3, es := M.map eLink, ty := 66, lo := lw })) (r0.sights.length) ⟨0, 4, (bothL 1 r0.s.inn ++ bothL 2 r0.s.out), r0.sights, rfl, rfl, (by rw [List.append_assoc]; exact hRES), (Nat.le_refl _), (Nat.le_refl _), (Nat.zero_le _), ?_, ?_, ?_, ?_, ?_, ?_, ?_⟩ ?_
  iterate 7 (first | (simp (disch := omega) only [push_cast, simprocAttr, hnd, bothL_len] <;> first | rfl | omega) | omega)
  rintro n s ⟨k, lw, M, rest, hn, hp0, hp1, hp2, hp3, hp4, hnl, hS⟩
  have hZ : (0 : Nat) ≠ s.nx ∧ s.nx ≠ (0 : Nat) ∧ (1 : Nat) ≠ s.nx ∧ s.nx ≠ (1 : Nat) := by omega
  rcases rest with _ | ⟨sg, rest⟩
  · have hk := drop_nil hp0
    rw [← hT1] at hp1
    simp only [sgL, List.nil_append] at hp1
    repeat' first
      | apply AW.seq | apply AW.region | apply AW.ret | apply AW.block | apply AW.skip | apply AW.exit | apply AW.scope | apply AW.label | apply AWL.nil | apply D.nil
      | refine W.draw cx_mixed (by decide +kernel) ?_
      | ((first | (apply W.step cx_ok; decide) | (apply D.step cx_ok; decide; decide) | apply AW.cond); (simp (disch := (first | omega | (simp only [zE, zF, zD, zC, zA, zB, bothL_len, needleL_len]; omega))) only [push_cast, simprocAttr, takeM, dropM, zK, zA, zB, zN, zQ, zR, zO, zP, zT, zS, zU, leT, zH, pureL, pureA, hS, hZ, hk] <;> rfl); all_goals try ((with_reducible intro hI); try first | (cases hI; done) | (simp only [INTS, zL] at hI; try first | (exfalso; omega) | (have hT : True := hI; clear hT hI))))
      | (apply W.append cx_ok; decide; rfl; rfl; rfl; decide; (iterate 3 (simp (disch := (first | omega | (simp only [zE, zF, zD, zC, zA, zB, bothL_len, needleL_len]; omega))) only [push_cast, simprocAttr, takeM, dropM, zK, zA, zB, zN, zQ, zR, zO, zP, zT, zS, zU, leT, zH, pureL, pureA, hS, hZ, hk] <;> rfl)); (first | (focus (simp; done)) | (intro c hc; obtain ⟨x, _, rfl⟩ := List.mem_map.1 hc; rfl)); ((first | rfl | simp (disch := omega) only [push_cast])); ((try dsimp only); (try simp only [zF, zE, zD, zC, zA, zB, bothL_len, needleL_len]); omega); ((try dsimp only); (try simp only [zF, zE, zD, zC, zA, zB, bothL_len, needleL_len]); omega))
      | ((first | apply W.ret1 | apply W.end1); (iterate 2 (try (simp (disch := (first | omega | (simp only [zE, zF, zD, zC, zA, zB, bothL_len, needleL_len]; omega))) only [push_cast, simprocAttr, takeM, dropM, zK, zA, zB, zN, zQ, zR, zO, zP, zT, zS, zU, leT, zH, pureL, pureA, hS, hZ, hk] <;> rfl))))
    refine AW.loop (fun n s => ∃ (k lw : Nat) (M : List Lk), n = r0.strikes.length + 1 - k ∧ (k ≤ r0.strikes.length + 1) ∧ (M ++ (rwL r0.strikes.length (r0.strikes.length + 1 - k) k ++ T2) = RES) ∧ (lw ≤ M.length) ∧ (M.length ≤ 28 + k) ∧ 2 ≤ s.nx ∧ s.tm 2 = .ptr 0 0 0 1 ∧ s.tm 5 = lNode nd ∧ s.tm 6 = .ref 1 0 M.length ∧ s.tm 8 = ai k ∧ Pg.rowAt s.H (0) = some ({ k := 14, es := [eRec r0], ty := 30 }) ∧ Pg.rowAt s.H (1) = some ({ k := 3, es := M.map eLink, ty := 66, lo := lw })) (r0.strikes.length + 1) ⟨0, lw, M, rfl, (Nat.zero_le _), hp1, hp2, (by omega), ?_, ?_, ?_, ?_, ?_, ?_, ?_⟩ ?_
    iterate 7 (first | (simp (disch := omega) only [push_cast, simprocAttr, hS, hZ, hk] <;> first | rfl | omega) | omega)
    rintro n1 s1 ⟨k1, lw1, M1, hn1, hp01, hp11, hp21, hp31, hnl1, hS1⟩
    have hZ1 : (0 : Nat) ≠ s1.nx ∧ s1.nx ≠ (0 : Nat) ∧ (1 : Nat) ≠ s1.nx ∧ s1.nx ≠ (1 : Nat) := by omega
    by_cases hle : k1 ≤ r0.strikes.length
    · have hk1 : (k1 : Int) ≤ (r0.strikes.length : Int) := by omega
      rw [show r0.strikes.length + 1 - k1 = r0.strikes.length - k1 + 1 by omega] at hp11
      simp only [rwL, List.cons_append] at hp11
      have hp11' : (M1 ++ [rowK r0.strikes.length k1]) ++ (rwL r0.strikes.length (r0.strikes.length + 1 - (k1 + 1)) (k1 + 1) ++ T2) = RES := by
        rw [show r0.strikes.length + 1 - (k1 + 1) = r0.strikes.length - k1 by omega, List.append_assoc]; exact hp11
      have hm0 : (rowK r0.strikes.length k1).m = 0 := rfl
      by_cases hlt : k1 < r0.strikes.length
      · by_cases h0 : 0 < k1
        ·
          have hlt' : (k1 : Int) < (r0.strikes.length : Int) := by omega
          have ha : (rowK r0.strikes.length k1).a = 3 + k1 := if_pos hlt
          have h0' : (0 : Int) < (k1 : Int) := by omega
          have hb : (rowK r0.strikes.length k1).b = 2 + k1 := if_pos h0
          repeat' first
            | apply AW.seq | apply AW.region | apply AW.ret | apply AW.block | apply AW.skip | apply AW.exit | apply AW.scope | apply AW.label | apply AWL.nil | apply D.nil
            | refine W.draw cx_mixed (by decide +kernel) ?_
            | ((first | (apply W.step cx_ok; decide) | (apply D.step cx_ok; decide; decide) | apply AW.cond); (simp (disch := (first | omega | (simp only [zE, zF, zD, zC, zA, zB, bothL_len, needleL_len]; omega))) only [push_cast, simprocAttr, takeM, dropM, zK, zA, zB, zN, zQ, zR, zO, zP, zT, zS, zU, leT, zH, pureL, pureA, hS1, hZ1, hk1, hlt', h0', ha, hb, hm0, bothL_ne, needleL_ne, bothL_len, needleL_len, zM, zZ, yC, yD, Int.neg_zero] <;> rfl); all_goals try ((with_reducible intro hI); try first | (cases hI; done) | (simp only [INTS, zL] at hI; try first | (exfalso; omega) | (have hT : True := hI; clear hT hI))))
            | (apply W.append cx_ok; decide; rfl; rfl; rfl; decide; (iterate 3 (simp (disch := (first | omega | (simp only [zE, zF, zD, zC, zA, zB, bothL_len, needleL_len]; omega))) only [push_cast, simprocAttr, takeM, dropM, zK, zA, zB, zN, zQ, zR, zO, zP, zT, zS, zU, leT, zH, pureL, pureA, hS1, hZ1, hk1, hlt', h0', ha, hb, hm0, bothL_ne, needleL_ne, bothL_len, needleL_len, zM, zZ, yC, yD, Int.neg_zero] <;> rfl)); (first | (focus (simp; done)) | (intro c hc; obtain ⟨x, _, rfl⟩ := List.mem_map.1 hc; rfl)); ((first | rfl | simp (disch := omega) only [push_cast])); ((try dsimp only); (try simp only [zF, zE, zD, zC, zA, zB, bothL_len, needleL_len]); omega); ((try dsimp only); (try simp only [zF, zE, zD, zC, zA, zB, bothL_len, needleL_len]); omega))
            | ((first | apply W.ret1 | apply W.end1); (iterate 2 (try (simp (disch := (first | omega | (simp only [zE, zF, zD, zC, zA, zB, bothL_len, needleL_len]; omega))) only [push_cast, simprocAttr, takeM, dropM, zK, zA, zB, zN, zQ, zR, zO, zP, zT, zS, zU, leT, zH, pureL, pureA, hS1, hZ1, hk1, hlt', h0', ha, hb, hm0, bothL_ne, needleL_ne, bothL_len, needleL_len, zM, zZ, yC, yD, Int.neg_zero] <;> rfl))))
          all_goals (refine ⟨r0.strikes.length + 1 - (k1 + 1), ?_, k1 + 1, M1.length + 1, (M1 ++ [rowK r0.strikes.length k1]), rfl, (by omega), hp11', (by simp), (by simp; omega), ?_, ?_, ?_, ?_, ?_, ?_, ?_⟩; (omega); all_goals first | (simp (disch := omega) only [push_cast, simprocAttr, hS1, hZ1, hk1, hlt', h0', ha, hb, hm0, bothL_ne, needleL_ne, bothL_len, needleL_len, zM, zZ, yC, yD, Int.neg_zero] <;> first | rfl | omega) | omega)
        ·
          have hlt' : (k1 : Int) < (r0.strikes.length : Int) := by omega
          have ha : (rowK r0.strikes.length k1).a = 3 + k1 := if_pos hlt
          have h0' : ¬ (0 : Int) < (k1 : Int) := by omega
          have hb : (rowK r0.strikes.length k1).b = 1 := if_neg h0
          repeat' first
            | apply AW.seq | apply AW.region | apply AW.ret | apply AW.block | apply AW.skip | apply AW.exit | apply AW.scope | apply AW.label | apply AWL.nil | apply D.nil
            | refine W.draw cx_mixed (by decide +kernel) ?_
            | ((first | (apply W.step cx_ok; decide) | (apply D.step cx_ok; decide; decide) | apply AW.cond); (simp (disch := (first | omega | (simp only [zE, zF, zD, zC, zA, zB, bothL_len, needleL_len]; omega))) only [push_cast, simprocAttr, takeM, dropM, zK, zA, zB, zN, zQ, zR, zO, zP, zT, zS, zU, leT, zH, pureL, pureA, hS1, hZ1, hk1, hlt', h0', ha, hb, hm0, bothL_ne, needleL_ne, bothL_len, needleL_len, zM, zZ, yC, yD, Int.neg_zero] <;> rfl); all_goals try ((with_reducible intro hI); try first | (cases hI; done) | (simp only [INTS, zL] at hI; try first | (exfalso; omega) | (have hT : True := hI; clear hT hI))))
            | (apply W.append cx_ok; decide; rfl; rfl; rfl; decide; (iterate 3 (simp (disch := (first | omega | (simp only [zE, zF, zD, zC, zA, zB, bothL_len, needleL_len]; omega))) only [push_cast, simprocAttr, takeM, dropM, zK, zA, zB, zN, zQ, zR, zO, zP, zT, zS, zU, leT, zH, pureL, pureA, hS1, hZ1, hk1, hlt', h0', ha, hb, hm0, bothL_ne, needleL_ne, bothL_len, needleL_len, zM, zZ, yC, yD, Int.neg_zero] <;> rfl)); (first | (focus (simp; done)) | (intro c hc; obtain ⟨x, _, rfl⟩ := List.mem_map.1 hc; rfl)); ((first | rfl | simp (disch := omega) only [push_cast])); ((try dsimp only); (try simp only [zF, zE, zD, zC, zA, zB, bothL_len, needleL_len]); omega); ((try dsimp only); (try simp only [zF, zE, zD, zC, zA, zB, bothL_len, needleL_len]); omega))
            | ((first | apply W.ret1 | apply W.end1); (iterate 2 (try (simp (disch := (first | omega | (simp only [zE, zF, zD, zC, zA, zB, bothL_len, needleL_len]; omega))) only [push_cast, simprocAttr, takeM, dropM, zK, zA, zB, zN, zQ, zR, zO, zP, zT, zS, zU, leT, zH, pureL, pureA, hS1, hZ1, hk1, hlt', h0', ha, hb, hm0, bothL_ne, needleL_ne, bothL_len, needleL_len, zM, zZ, yC, yD, Int.neg_zero] <;> rfl))))
          all_goals (refine ⟨r0.strikes.length + 1 - (k1 + 1), ?_, k1 + 1, M1.length + 1, (M1 ++ [rowK r0.strikes.length k1]), rfl, (by omega), hp11', (by simp), (by simp; omega), ?_, ?_, ?_, ?_, ?_, ?_, ?_⟩; (omega); all_goals first | (simp (disch := omega) only [push_cast, simprocAttr, hS1, hZ1, hk1, hlt', h0', ha, hb, hm0, bothL_ne, needleL_ne, bothL_len, needleL_len, zM, zZ, yC, yD, Int.neg_zero] <;> first | rfl | omega) | omega)
      · by_cases h0 : 0 < k1
        ·
          have hlt' : ¬ (k1 : Int) < (r0.strikes.length : Int) := by omega
          have ha : (rowK r0.strikes.length k1).a = 2 := if_neg hlt
          have h0' : (0 : Int) < (k1 : Int) := by omega
          have hb : (rowK r0.strikes.length k1).b = 2 + k1 := if_pos h0
          repeat' first
            | apply AW.seq | apply AW.region | apply AW.ret | apply AW.block | apply AW.skip | apply AW.exit | apply AW.scope | apply AW.label | apply AWL.nil | apply D.nil
            | refine W.draw cx_mixed (by decide +kernel) ?_
            | ((first | (apply W.step cx_ok; decide) | (apply D.step cx_ok; decide; decide) | apply AW.cond); (simp (disch := (first | omega | (simp only [zE, zF, zD, zC, zA, zB, bothL_len, needleL_len]; omega))) only [push_cast, simprocAttr, takeM, dropM, zK, zA, zB, zN, zQ, zR, zO, zP, zT, zS, zU, leT, zH, pureL, pureA, hS1, hZ1, hk1, hlt', h0', ha, hb, hm0, bothL_ne, needleL_ne, bothL_len, needleL_len, zM, zZ, yC, yD, Int.neg_zero] <;> rfl); all_goals try ((with_reducible intro hI); try first | (cases hI; done) | (simp only [INTS, zL] at hI; try first | (exfalso; omega) | (have hT : True := hI; clear hT hI))))
            | (apply W.append cx_ok; decide; rfl; rfl; rfl; decide; (iterate 3 (simp (disch := (first | omega | (simp only [zE, zF, zD, zC, zA, zB, bothL_len, needleL_len]; omega))) only [push_cast, simprocAttr, takeM, dropM, zK, zA, zB, zN, zQ, zR, zO, zP, zT, zS, zU, leT, zH, pureL, pureA, hS1, hZ1, hk1, hlt', h0', ha, hb, hm0, bothL_ne, needleL_ne, bothL_len, needleL_len, zM, zZ, yC, yD, Int.neg_zero] <;> rfl)); (first | (focus (simp; done)) | (intro c hc; obtain ⟨x, _, rfl⟩ := List.mem_map.1 hc; rfl)); ((first | rfl | simp (disch := omega) only [push_cast])); ((try dsimp only); (try simp only [zF, zE, zD, zC, zA, zB, bothL_len, needleL_len]); omega); ((try dsimp only); (try simp only [zF, zE, zD, zC, zA, zB, bothL_len, needleL_len]); omega))
            | ((first | apply W.ret1 | apply W.end1); (iterate 2 (try (simp (disch := (first | omega | (simp only [zE, zF, zD, zC, zA, zB, bothL_len, needleL_len]; omega))) only [push_cast, simprocAttr, takeM, dropM, zK, zA, zB, zN, zQ, zR, zO, zP, zT, zS, zU, leT, zH, pureL, pureA, hS1, hZ1, hk1, hlt', h0', ha, hb, hm0, bothL_ne, needleL_ne, bothL_len, needleL_len, zM, zZ, yC, yD, Int.neg_zero] <;> rfl))))
          all_goals (refine ⟨r0.strikes.length + 1 - (k1 + 1), ?_, k1 + 1, M1.length + 1, (M1 ++ [rowK r0.strikes.length k1]), rfl, (by omega), hp11', (by simp), (by simp; omega), ?_, ?_, ?_, ?_, ?_, ?_, ?_⟩; (omega); all_goals first | (simp (disch := omega) only [push_cast, simprocAttr, hS1, hZ1, hk1, hlt', h0', ha, hb, hm0, bothL_ne, needleL_ne, bothL_len, needleL_len, zM, zZ, yC, yD, Int.neg_zero] <;> first | rfl | omega) | omega)
        ·
          have hlt' : ¬ (k1 : Int) < (r0.strikes.length : Int) := by omega
          have ha : (rowK r0.strikes.length k1).a = 2 := if_neg hlt
          have h0' : ¬ (0 : Int) < (k1 : Int) := by omega
          have hb : (rowK r0.strikes.length k1).b = 1 := if_neg h0
          repeat' first
            | apply AW.seq | apply AW.region | apply AW.ret | apply AW.block | apply AW.skip | apply AW.exit | apply AW.scope | apply AW.label | apply AWL.nil | apply D.nil
            | refine W.draw cx_mixed (by decide +kernel) ?_
            | ((first | (apply W.step cx_ok; decide) | (apply D.step cx_ok; decide; decide) | apply AW.cond); (simp (disch := (first | omega | (simp only [zE, zF, zD, zC, zA, zB, bothL_len, needleL_len]; omega))) only [push_cast, simprocAttr, takeM, dropM, zK, zA, zB, zN, zQ, zR, zO, zP, zT, zS, zU, leT, zH, pureL, pureA, hS1, hZ1, hk1, hlt', h0', ha, hb, hm0, bothL_ne, needleL_ne, bothL_len, needleL_len, zM, zZ, yC, yD, Int.neg_zero] <;> rfl); all_goals try ((with_reducible intro hI); try first | (cases hI; done) | (simp only [INTS, zL] at hI; try first | (exfalso; omega) | (have hT : True := hI; clear hT hI))))
            | (apply W.append cx_ok; decide; rfl; rfl; rfl; decide; (iterate 3 (simp (disch := (first | omega | (simp only [zE, zF, zD, zC, zA, zB, bothL_len, needleL_len]; omega))) only [push_cast, simprocAttr, takeM, dropM, zK, zA, zB, zN, zQ, zR, zO, zP, zT, zS, zU, leT, zH, pureL, pureA, hS1, hZ1, hk1, hlt', h0', ha, hb, hm0, bothL_ne, needleL_ne, bothL_len, needleL_len, zM, zZ, yC, yD, Int.neg_zero] <;> rfl)); (first | (focus (simp; done)) | (intro c hc; obtain ⟨x, _, rfl⟩ := List.mem_map.1 hc; rfl)); ((first | rfl | simp (disch := omega) only [push_cast])); ((try dsimp only); (try simp only [zF, zE, zD, zC, zA, zB, bothL_len, needleL_len]); omega); ((try dsimp only); (try simp only [zF, zE, zD, zC, zA, zB, bothL_len, needleL_len]); omega))
            | ((first | apply W.ret1 | apply W.end1); (iterate 2 (try (simp (disch := (first | omega | (simp only [zE, zF, zD, zC, zA, zB, bothL_len, needleL_len]; omega))) only [push_cast, simprocAttr, takeM, dropM, zK, zA, zB, zN, zQ, zR, zO, zP, zT, zS, zU, leT, zH, pureL, pureA, hS1, hZ1, hk1, hlt', h0', ha, hb, hm0, bothL_ne, needleL_ne, bothL_len, needleL_len, zM, zZ, yC, yD, Int.neg_zero] <;> rfl))))
          all_goals (refine ⟨r0.strikes.length + 1 - (k1 + 1), ?_, k1 + 1, M1.length + 1, (M1 ++ [rowK r0.strikes.length k1]), rfl, (by omega), hp11', (by simp), (by simp; omega), ?_, ?_, ?_, ?_, ?_, ?_, ?_⟩; (omega); all_goals first | (simp (disch := omega) only [push_cast, simprocAttr, hS1, hZ1, hk1, hlt', h0', ha, hb, hm0, bothL_ne, needleL_ne, bothL_len, needleL_len, zM, zZ, yC, yD, Int.neg_zero] <;> first | rfl | omega) | omega)
    · have hk1 : ¬ (k1 : Int) ≤ (r0.strikes.length : Int) := by omega
      rw [show r0.strikes.length + 1 - k1 = 0 by omega, ← hT2] at hp11
      simp only [rwL, List.nil_append] at hp11
      repeat' first
        | apply AW.seq | apply AW.region | apply AW.ret | apply AW.block | apply AW.skip | apply AW.exit | apply AW.scope | apply AW.label | apply AWL.nil | apply D.nil
        | refine W.draw cx_mixed (by decide +kernel) ?_
        | ((first | (apply W.step cx_ok; decide) | (apply D.step cx_ok; decide; decide) | apply AW.cond); (simp (disch := (first | omega | (simp only [zE, zF, zD, zC, zA, zB, bothL_len, needleL_len]; omega))) only [push_cast, simprocAttr, takeM, dropM, zK, zA, zB, zN, zQ, zR, zO, zP, zT, zS, zU, leT, zH, pureL, pureA, hS1, hZ1, hk1, bothL_ne, needleL_ne, bothL_len, needleL_len, zM, zZ, yC, yD, Int.neg_zero] <;> rfl); all_goals try ((with_reducible intro hI); try first | (cases hI; done) | (simp only [INTS, zL] at hI; try first | (exfalso; omega) | (have hT : True := hI; clear hT hI))))
        | (apply W.append cx_ok; decide; rfl; rfl; rfl; decide; (iterate 3 (simp (disch := (first | omega | (simp only [zE, zF, zD, zC, zA, zB, bothL_len, needleL_len]; omega))) only [push_cast, simprocAttr, takeM, dropM, zK, zA, zB, zN, zQ, zR, zO, zP, zT, zS, zU, leT, zH, pureL, pureA, hS1, hZ1, hk1, bothL_ne, needleL_ne, bothL_len, needleL_len, zM, zZ, yC, yD, Int.neg_zero] <;> rfl)); (first | (focus (simp; done)) | (intro c hc; obtain ⟨x, _, rfl⟩ := List.mem_map.1 hc; rfl)); ((first | rfl | simp (disch := omega) only [push_cast])); ((try dsimp only); (try simp only [zF, zE, zD, zC, zA, zB, bothL_len, needleL_len]); omega); ((try dsimp only); (try simp only [zF, zE, zD, zC, zA, zB, bothL_len, needleL_len]); omega))
        | ((first | (apply W.callv cx_ok; decide) | (apply D.callv cx_ok; decide; decide)); (iterate 2 (simp (disch := (first | omega | (simp only [zE, zF, zD, zC, zA, zB, bothL_len, needleL_len]; omega))) only [push_cast, simprocAttr, takeM, dropM, zK, zA, zB, zN, zQ, zR, zO, zP, zT, zS, zU, leT, zH, pureL, pureA, hS1, hZ1, hk1, bothL_ne, needleL_ne, bothL_len, needleL_len, zM, zZ, yC, yD, Int.neg_zero] <;> rfl)); (with_reducible first | exact rstrike_ok _ _ (by omega) | exact both_ok _ _ (by omega) ⟨by omega, by omega⟩ | exact needle_ok _ _ _ (by omega) (by omega) (by omega) (by omega) (by omega) (by omega) | exact least_ok _ _ _ hr (by omega) (by omega) (by omega)); try first | rfl | (simp (disch := (first | omega | (simp only [zE, zF, zD, zC, zA, zB, bothL_len, needleL_len]; omega))) only [push_cast, simprocAttr, takeM, dropM, zK, zA, zB, zN, zQ, zR, zO, zP, zT, zS, zU, leT, zH, pureL, pureA, hS1, hZ1, hk1, bothL_ne, needleL_ne, bothL_len, needleL_len, zM, zZ, yC, yD, Int.neg_zero] <;> rfl))
        | ((first | apply W.ret1 | apply W.end1); (iterate 2 (try (simp (disch := (first | omega | (simp only [zE, zF, zD, zC, zA, zB, bothL_len, needleL_len]; omega))) only [push_cast, simprocAttr, takeM, dropM, zK, zA, zB, zN, zQ, zR, zO, zP, zT, zS, zU, leT, zH, pureL, pureA, hS1, hZ1, hk1, bothL_ne, needleL_ne, bothL_len, needleL_len, zM, zZ, yC, yD, Int.neg_zero] <;> rfl))))
      refine AW.loop (fun n s => ∃ (k lw : Nat) (M : List Lk) (rest : List Strike), n = rest.length ∧ (r0.strikes.drop k = rest) ∧ (M ++ (ndL nd k rest ++ T3) = RES) ∧ (lw ≤ M.length) ∧ (M.length ≤ 43 + 2 * k) ∧ (k ≤ r0.strikes.length) ∧ 2 ≤ s.nx ∧ s.tm 2 = .ptr 0 0 0 1 ∧ s.tm 5 = lNode nd ∧ s.tm 6 = .ref 1 0 M.length ∧ s.tm 11 = ai k ∧ Pg.rowAt s.H (0) = some ({ k := 14, es := [eRec r0], ty := 30 }) ∧ Pg.rowAt s.H (1) = some ({ k := 3, es := M.map eLink, ty := 66, lo := lw })) (r0.strikes.length) ⟨0, M1.length + 2, (M1 ++ needleL nd 1 r0.s.zero), r0.strikes, rfl, rfl, (by rw [List.append_assoc]; exact hp11), (by simp [needleL_len]), (by simp [needleL_len]; omega), (Nat.zero_le _), ?_, ?_, ?_, ?_, ?_, ?_, ?_⟩ ?_
      iterate 7 (first | (simp (disch := omega) only [push_cast, simprocAttr, hS1, hZ1, hk1, bothL_ne, needleL_ne, bothL_len, needleL_len, zM, zZ, yC, yD, Int.neg_zero] <;> first | rfl | omega) | omega)
      rintro n2 s2 ⟨k2, lw2, M2, rest2, hn2, hp02, hp12, hp22, hp32, hp42, hnl2, hS2⟩
      have hZ2 : (0 : Nat) ≠ s2.nx ∧ s2.nx ≠ (0 : Nat) ∧ (1 : Nat) ≠ s2.nx ∧ s2.nx ≠ (1 : Nat) := by omega
      rcases rest2 with _ | ⟨st, rest2⟩
      · have hk2 := drop_nil hp02
        rw [← hT3] at hp12
        simp only [ndL, List.nil_append] at hp12
        repeat' first
          | apply AW.seq | apply AW.region | apply AW.ret | apply AW.block | apply AW.skip | apply AW.exit | apply AW.scope | apply AW.label | apply AWL.nil | apply D.nil
          | refine W.draw cx_mixed (by decide +kernel) ?_
          | ((first | (apply W.step cx_ok; decide) | (apply D.step cx_ok; decide; decide) | apply AW.cond); (simp (disch := (first | omega | (simp only [zE, zF, zD, zC, zA, zB, bothL_len, needleL_len]; omega))) only [push_cast, simprocAttr, takeM, dropM, zK, zA, zB, zN, zQ, zR, zO, zP, zT, zS, zU, leT, zH, pureL, pureA, hS2, hZ2, hk2, bothL_ne, needleL_ne, bothL_len, needleL_len, zM, zZ, yC, yD, Int.neg_zero] <;> rfl); all_goals try ((with_reducible intro hI); try first | (cases hI; done) | (simp only [INTS, zL] at hI; try first | (exfalso; omega) | (have hT : True := hI; clear hT hI))))
          | (apply W.append cx_ok; decide; rfl; rfl; rfl; decide; (iterate 3 (simp (disch := (first | omega | (simp only [zE, zF, zD, zC, zA, zB, bothL_len, needleL_len]; omega))) only [push_cast, simprocAttr, takeM, dropM, zK, zA, zB, zN, zQ, zR, zO, zP, zT, zS, zU, leT, zH, pureL, pureA, hS2, hZ2, hk2, bothL_ne, needleL_ne, bothL_len, needleL_len, zM, zZ, yC, yD, Int.neg_zero] <;> rfl)); (first | (focus (simp; done)) | (intro c hc; obtain ⟨x, _, rfl⟩ := List.mem_map.1 hc; rfl)); ((first | rfl | simp (disch := omega) only [push_cast])); ((try dsimp only); (try simp only [zF, zE, zD, zC, zA, zB, bothL_len, needleL_len]); omega); ((try dsimp only); (try simp only [zF, zE, zD, zC, zA, zB, bothL_len, needleL_len]); omega))
          | ((first | (apply W.callv cx_ok; decide) | (apply D.callv cx_ok; decide; decide)); (iterate 2 (simp (disch := (first | omega | (simp only [zE, zF, zD, zC, zA, zB, bothL_len, needleL_len]; omega))) only [push_cast, simprocAttr, takeM, dropM, zK, zA, zB, zN, zQ, zR, zO, zP, zT, zS, zU, leT, zH, pureL, pureA, hS2, hZ2, hk2, bothL_ne, needleL_ne, bothL_len, needleL_len, zM, zZ, yC, yD, Int.neg_zero] <;> rfl)); (with_reducible first | exact rstrike_ok _ _ (by omega) | exact both_ok _ _ (by omega) ⟨by omega, by omega⟩ | exact needle_ok _ _ _ (by omega) (by omega) (by omega) (by omega) (by omega) (by omega) | exact least_ok _ _ _ hr (by omega) (by omega) (by omega)); try first | rfl | (simp (disch := (first | omega | (simp only [zE, zF, zD, zC, zA, zB, bothL_len, needleL_len]; omega))) only [push_cast, simprocAttr, takeM, dropM, zK, zA, zB, zN, zQ, zR, zO, zP, zT, zS, zU, leT, zH, pureL, pureA, hS2, hZ2, hk2, bothL_ne, needleL_ne, bothL_len, needleL_len, zM, zZ, yC, yD, Int.neg_zero] <;> rfl))
          | ((first | apply W.ret1 | apply W.end1); (iterate 2 (try (simp (disch := (first | omega | (simp only [zE, zF, zD, zC, zA, zB, bothL_len, needleL_len]; omega))) only [push_cast, simprocAttr, takeM, dropM, zK, zA, zB, zN, zQ, zR, zO, zP, zT, zS, zU, leT, zH, pureL, pureA, hS2, hZ2, hk2, bothL_ne, needleL_ne, bothL_len, needleL_len, zM, zZ, yC, yD, Int.neg_zero] <;> rfl))))
        refine AW.loop (fun n s => ∃ (j lw : Nat) (M : List Lk) (rest : List Int), n = rest.length ∧ (mk.drop j = rest) ∧ (M ++ pairsL r0.s (3 + r0.strikes.length + j) rest = RES) ∧ (lw ≤ M.length) ∧ (M.length ≤ 100 + 100 * j) ∧ (j ≤ mk.length) ∧ 2 ≤ s.nx ∧ s.tm 2 = .ptr 0 0 0 1 ∧ s.tm 5 = lNode nd ∧ s.tm 6 = .ref 1 0 M.length ∧ s.tm 12 = ai (3 + (r0.strikes.length : Int) + (j : Int)) ∧ Pg.rowAt s.H (0) = some ({ k := 14, es := [eRec r0], ty := 30 }) ∧ Pg.rowAt s.H (1) = some ({ k := 3, es := M.map eLink, ty := 66, lo := lw })) (mk.length) ⟨0, M2.length + 2, (M2 ++ needleL nd 2 r0.s.fin), mk, rfl, rfl, (by rw [List.append_assoc]; exact hp12), (by simp [needleL_len]), (by simp [needleL_len]; omega), (Nat.zero_le _), ?_, ?_, ?_, ?_, ?_, ?_, ?_⟩ ?_
        iterate 7 (first | (simp (disch := omega) only [push_cast, simprocAttr, hS2, hZ2, hk2, Int.add_assoc, Int.natCast_zero, Int.add_zero, bothL_ne, needleL_ne, bothL_len, needleL_len, zM, zZ, yC, yD, Int.neg_zero] <;> first | rfl | omega) | omega)
        rintro n3 s3 ⟨j3, lw3, M3, rest3, hn3, hp03, hp13, hp23, hp33, hp43, hnl3, hS3⟩
        have hZ3 : (0 : Nat) ≠ s3.nx ∧ s3.nx ≠ (0 : Nat) ∧ (1 : Nat) ≠ s3.nx ∧ s3.nx ≠ (1 : Nat) := by omega
        rcases rest3 with _ | ⟨x, rest3⟩
        · have hk3 := drop_nil hp03
          have hc3 : ¬ (3 + (r0.strikes.length : Int) + (j3 : Int) < (nd.length : Int)) := by omega
          simp only [pairsL, List.append_nil] at hp13
          repeat' first
            | apply AW.seq | apply AW.region | apply AW.ret | apply AW.block | apply AW.skip | apply AW.exit | apply AW.scope | apply AW.label | apply AWL.nil | apply D.nil
            | refine W.draw cx_mixed (by decide +kernel) ?_
            | ((first | (apply W.step cx_ok; decide) | (apply D.step cx_ok; decide; decide) | apply AW.cond); (simp (disch := (first | omega | (simp only [zE, zF, zD, zC, zA, zB, bothL_len, needleL_len]; omega))) only [push_cast, simprocAttr, takeM, dropM, zK, zA, zB, zN, zQ, zR, zO, zP, zT, zS, zU, leT, zH, pureL, pureA, hS3, hZ3, hc3, bothL_ne, needleL_ne, bothL_len, needleL_len, zM, zZ, yC, yD, Int.neg_zero] <;> rfl); all_goals try ((with_reducible intro hI); try first | (cases hI; done) | (simp only [INTS, zL] at hI; try first | (exfalso; omega) | (have hT : True := hI; clear hT hI))))
            | (apply W.append cx_ok; decide; rfl; rfl; rfl; decide; (iterate 3 (simp (disch := (first | omega | (simp only [zE, zF, zD, zC, zA, zB, bothL_len, needleL_len]; omega))) only [push_cast, simprocAttr, takeM, dropM, zK, zA, zB, zN, zQ, zR, zO, zP, zT, zS, zU, leT, zH, pureL, pureA, hS3, hZ3, hc3, bothL_ne, needleL_ne, bothL_len, needleL_len, zM, zZ, yC, yD, Int.neg_zero] <;> rfl)); (first | (focus (simp; done)) | (intro c hc; obtain ⟨x, _, rfl⟩ := List.mem_map.1 hc; rfl)); ((first | rfl | simp (disch := omega) only [push_cast])); ((try dsimp only); (try simp only [zF, zE, zD, zC, zA, zB, bothL_len, needleL_len]); omega); ((try dsimp only); (try simp only [zF, zE, zD, zC, zA, zB, bothL_len, needleL_len]); omega))
            | ((first | apply W.ret1 | apply W.end1); (iterate 2 (try (simp (disch := (first | omega | (simp only [zE, zF, zD, zC, zA, zB, bothL_len, needleL_len]; omega))) only [push_cast, simprocAttr, takeM, dropM, zK, zA, zB, zN, zQ, zR, zO, zP, zT, zS, zU, leT, zH, pureL, pureA, hS3, hZ3, hc3, bothL_ne, needleL_ne, bothL_len, needleL_len, zM, zZ, yC, yD, Int.neg_zero] <;> rfl))))
          all_goals (show _ = _; rw [← hp13])
        · obtain ⟨hk3, hg3, hd3, hl3, hm3, hx3⟩ := drop_cons hp03 eInt []
          have hxb := hbnd x hm3
          have hc3 : 3 + (r0.strikes.length : Int) + (j3 : Int) < (nd.length : Int) := by omega
          simp only [pairsL] at hp13
          repeat' first
            | apply AW.seq | apply AW.region | apply AW.ret | apply AW.block | apply AW.skip | apply AW.exit | apply AW.scope | apply AW.label | apply AWL.nil | apply D.nil
            | refine W.draw cx_mixed (by decide +kernel) ?_
            | ((first | (apply W.step cx_ok; decide) | (apply D.step cx_ok; decide; decide) | apply AW.cond); (simp (disch := (first | omega | (simp only [zE, zF, zD, zC, zA, zB, bothL_len, needleL_len]; omega))) only [push_cast, simprocAttr, takeM, dropM, zK, zA, zB, zN, zQ, zR, zO, zP, zT, zS, zU, leT, zH, pureL, pureA, hS3, hZ3, hc3, bothL_ne, needleL_ne, bothL_len, needleL_len, zM, zZ, yC, yD, Int.neg_zero] <;> rfl); all_goals try ((with_reducible intro hI); try first | (cases hI; done) | (simp only [INTS, zL] at hI; try first | (exfalso; omega) | (have hT : True := hI; clear hT hI))))
            | (apply W.append cx_ok; decide; rfl; rfl; rfl; decide; (iterate 3 (simp (disch := (first | omega | (simp only [zE, zF, zD, zC, zA, zB, bothL_len, needleL_len]; omega))) only [push_cast, simprocAttr, takeM, dropM, zK, zA, zB, zN, zQ, zR, zO, zP, zT, zS, zU, leT, zH, pureL, pureA, hS3, hZ3, hc3, bothL_ne, needleL_ne, bothL_len, needleL_len, zM, zZ, yC, yD, Int.neg_zero] <;> rfl)); (first | (focus (simp; done)) | (intro c hc; obtain ⟨x, _, rfl⟩ := List.mem_map.1 hc; rfl)); ((first | rfl | simp (disch := omega) only [push_cast])); ((try dsimp only); (try simp only [zF, zE, zD, zC, zA, zB, bothL_len, needleL_len]); omega); ((try dsimp only); (try simp only [zF, zE, zD, zC, zA, zB, bothL_len, needleL_len]); omega))
            | ((first | apply W.ret1 | apply W.end1); (iterate 2 (try (simp (disch := (first | omega | (simp only [zE, zF, zD, zC, zA, zB, bothL_len, needleL_len]; omega))) only [push_cast, simprocAttr, takeM, dropM, zK, zA, zB, zN, zQ, zR, zO, zP, zT, zS, zU, leT, zH, pureL, pureA, hS3, hZ3, hc3, bothL_ne, needleL_ne, bothL_len, needleL_len, zM, zZ, yC, yD, Int.neg_zero] <;> rfl))))
          refine AW.loop (fun n s => ∃ (k lw : Nat) (M : List Lk) (rest : List Int), n = rest.length ∧ (mk.drop k = rest) ∧ (M ++ (pairL r0.s (3 + r0.strikes.length + j3) x (3 + r0.strikes.length + k) rest ++ pairsL r0.s (3 + r0.strikes.length + j3 + 1) rest3) = RES) ∧ (lw ≤ M.length) ∧ (M.length ≤ 100 + 100 * j3 + 2 * k) ∧ (k ≤ mk.length) ∧ (j3 < k) ∧ 2 ≤ s.nx ∧ s.tm 2 = .ptr 0 0 0 1 ∧ s.tm 5 = lNode nd ∧ s.tm 6 = .ref 1 0 M.length ∧ s.tm 12 = ai (3 + (r0.strikes.length : Int) + (j3 : Int)) ∧ s.tm 13 = ai (3 + (r0.strikes.length : Int) + (k : Int)) ∧ Pg.rowAt s.H (0) = some ({ k := 14, es := [eRec r0], ty := 30 }) ∧ Pg.rowAt s.H (1) = some ({ k := 3, es := M.map eLink, ty := 66, lo := lw })) (rest3.length) ⟨j3 + 1, lw3, M3, rest3, rfl, hd3, (by rw [show 3 + r0.strikes.length + (j3 + 1) = 3 + r0.strikes.length + j3 + 1 by omega]; exact hp13), hp23, (by omega), (by omega), (Nat.lt_succ_self _), ?_, ?_, ?_, ?_, ?_, ?_, ?_, ?_⟩ ?_
          iterate 8 (first | (simp (disch := omega) only [push_cast, simprocAttr, hS3, hZ3, hc3, Int.add_assoc, bothL_ne, needleL_ne, bothL_len, needleL_len, zM, zZ, yC, yD, Int.neg_zero] <;> first | rfl | omega) | omega)
          rintro n4 s4 ⟨k4, lw4, M4, rest4, hn4, hp04, hp14, hp24, hp34, hp44, hp54, hnl4, hS4⟩
          have hZ4 : (0 : Nat) ≠ s4.nx ∧ s4.nx ≠ (0 : Nat) ∧ (1 : Nat) ≠ s4.nx ∧ s4.nx ≠ (1 : Nat) := by omega
          rcases rest4 with _ | ⟨y, rest4⟩
          · have hk4 := drop_nil hp04
            have hc4 : ¬ (3 + (r0.strikes.length : Int) + (k4 : Int) < (nd.length : Int)) := by omega
            simp only [pairL, List.nil_append] at hp14
            have hk4m : k4 = mk.length := by have := List.drop_eq_nil_iff.1 hp04; omega
            repeat' first
              | apply AW.seq | apply AW.region | apply AW.ret | apply AW.block | apply AW.skip | apply AW.exit | apply AW.scope | apply AW.label | apply AWL.nil | apply D.nil
              | refine W.draw cx_mixed (by decide +kernel) ?_
              | ((first | (apply W.step cx_ok; decide) | (apply D.step cx_ok; decide; decide) | apply AW.cond); (simp (disch := (first | omega | (simp only [zE, zF, zD, zC, zA, zB, bothL_len, needleL_len]; omega))) only [push_cast, simprocAttr, takeM, dropM, zK, zA, zB, zN, zQ, zR, zO, zP, zT, zS, zU, leT, zH, pureL, pureA, hS4, hZ4, hc4, bothL_ne, needleL_ne, bothL_len, needleL_len, zM, zZ, yC, yD, Int.neg_zero] <;> rfl); all_goals try ((with_reducible intro hI); try first | (cases hI; done) | (simp only [INTS, zL] at hI; try first | (exfalso; omega) | (have hT : True := hI; clear hT hI))))
              | (apply W.append cx_ok; decide; rfl; rfl; rfl; decide; (iterate 3 (simp (disch := (first | omega | (simp only [zE, zF, zD, zC, zA, zB, bothL_len, needleL_len]; omega))) only [push_cast, simprocAttr, takeM, dropM, zK, zA, zB, zN, zQ, zR, zO, zP, zT, zS, zU, leT, zH, pureL, pureA, hS4, hZ4, hc4, bothL_ne, needleL_ne, bothL_len, needleL_len, zM, zZ, yC, yD, Int.neg_zero] <;> rfl)); (first | (focus (simp; done)) | (intro c hc; obtain ⟨x, _, rfl⟩ := List.mem_map.1 hc; rfl)); ((first | rfl | simp (disch := omega) only [push_cast])); ((try dsimp only); (try simp only [zF, zE, zD, zC, zA, zB, bothL_len, needleL_len]); omega); ((try dsimp only); (try simp only [zF, zE, zD, zC, zA, zB, bothL_len, needleL_len]); omega))
              | ((first | apply W.ret1 | apply W.end1); (iterate 2 (try (simp (disch := (first | omega | (simp only [zE, zF, zD, zC, zA, zB, bothL_len, needleL_len]; omega))) only [push_cast, simprocAttr, takeM, dropM, zK, zA, zB, zN, zQ, zR, zO, zP, zT, zS, zU, leT, zH, pureL, pureA, hS4, hZ4, hc4, bothL_ne, needleL_ne, bothL_len, needleL_len, zM, zZ, yC, yD, Int.neg_zero] <;> rfl))))
            all_goals (refine ⟨rest3.length, ?_, j3 + 1, lw4, M4, rest3, rfl, hd3, (by rw [show 3 + r0.strikes.length + (j3 + 1) = 3 + r0.strikes.length + j3 + 1 by omega]; exact hp14), hp24, (by omega), (by omega), ?_, ?_, ?_, ?_, ?_, ?_, ?_⟩; ((simp only [List.length_cons] at *; omega)); all_goals first | (simp (disch := omega) only [push_cast, simprocAttr, hS4, hZ4, hc4, Int.add_assoc, bothL_ne, needleL_ne, bothL_len, needleL_len, zM, zZ, yC, yD, Int.neg_zero] <;> first | rfl | omega) | omega)
          · obtain ⟨hk4, hg4, hd4, hl4, hm4, hx4⟩ := drop_cons hp04 eInt []
            have hyb := hbnd y hm4
            have hxy := srt_lt hsrt hp03 hp04 hp54
            have hc4 : 3 + (r0.strikes.length : Int) + (k4 : Int) < (nd.length : Int) := by omega
            have p3 : (0 : Int) ≤ 3 + (r0.strikes.length : Int) + (j3 : Int) := by omega
            have p4 : (0 : Int) ≤ 3 + (r0.strikes.length : Int) + (k4 : Int) := by omega
            have t3 : (3 + (r0.strikes.length : Int) + (j3 : Int)).toNat = 3 + r0.strikes.length + j3 := by omega
            have t4 : (3 + (r0.strikes.length : Int) + (k4 : Int)).toNat = 3 + r0.strikes.length + k4 := by omega
            have e3 : (nd.map eNode).getD (3 + (r0.strikes.length + j3)) [] = [ai 4, ai x] := by
              rw [← Nat.add_assoc, getD_map eNode nd _ [] default (by omega), hnode j3 (by omega), (drop_get hp03).1]
            have e4 : (nd.map eNode).getD (3 + (r0.strikes.length + k4)) [] = [ai 4, ai y] := by
              rw [← Nat.add_assoc, getD_map eNode nd _ [] default (by omega), hnode k4 (by omega), (drop_get hp04).1]
            have g3 : (nd.map eNode)[3 + (r0.strikes.length + j3)]? = some [ai 4, ai x] := by
              rw [← Nat.add_assoc, get_map eNode nd _ default (by omega), hnode j3 (by omega), (drop_get hp03).1]
            have g4 : (nd.map eNode)[3 + (r0.strikes.length + k4)]? = some [ai 4, ai y] := by
              rw [← Nat.add_assoc, get_map eNode nd _ default (by omega), hnode k4 (by omega), (drop_get hp04).1]
            obtain ⟨b1, b2, b3, b4⟩ := leastR_bound r0.s x y hr (by omega) (by omega) (by omega)
            simp only [pairL, List.cons_append] at hp14
            have hq14 : (M4 ++ [⟨3 + r0.strikes.length + j3, 3 + r0.strikes.length + k4, (leastR r0.s x y).2⟩, ⟨3 + r0.strikes.length + k4, 3 + r0.strikes.length + j3, -(leastR r0.s x y).1⟩]) ++ (pairL r0.s (3 + r0.strikes.length + j3) x (3 + r0.strikes.length + (k4 + 1)) rest4 ++ pairsL r0.s (3 + r0.strikes.length + j3 + 1) rest3) = RES := by
              rw [show 3 + r0.strikes.length + (k4 + 1) = 3 + r0.strikes.length + k4 + 1 by omega, List.append_assoc]; exact hp14
            obtain ⟨q, hq⟩ : ∃ z, leastR r0.s x y = z := ⟨_, rfl⟩
            rw [hq] at b1 b2 b3 b4 hq14
            repeat' first
              | apply AW.seq | apply AW.region | apply AW.ret | apply AW.block | apply AW.skip | apply AW.exit | apply AW.scope | apply AW.label | apply AWL.nil | apply D.nil
              | refine W.draw cx_mixed (by decide +kernel) ?_
              | ((first | (apply W.step cx_ok; decide) | (apply D.step cx_ok; decide; decide) | apply AW.cond); (simp (disch := (first | omega | (simp only [zE, zF, zD, zC, zA, zB, bothL_len, needleL_len]; omega))) only [push_cast, simprocAttr, takeM, dropM, zK, zA, zB, zN, zQ, zR, zO, zP, zT, zS, zU, leT, zH, pureL, pureA, hS4, hZ4, hc3, hc4, p3, p4, t3, t4, e3, e4, g3, g4, hq, bothL_ne, needleL_ne, bothL_len, needleL_len, zM, zZ, yC, yD, Int.neg_zero] <;> rfl); all_goals try ((with_reducible intro hI); try first | (cases hI; done) | (simp only [INTS, zL] at hI; try first | (exfalso; omega) | (have hT : True := hI; clear hT hI))))
              | (apply W.append cx_ok; decide; rfl; rfl; rfl; decide; (iterate 3 (simp (disch := (first | omega | (simp only [zE, zF, zD, zC, zA, zB, bothL_len, needleL_len]; omega))) only [push_cast, simprocAttr, takeM, dropM, zK, zA, zB, zN, zQ, zR, zO, zP, zT, zS, zU, leT, zH, pureL, pureA, hS4, hZ4, hc3, hc4, p3, p4, t3, t4, e3, e4, g3, g4, hq, bothL_ne, needleL_ne, bothL_len, needleL_len, zM, zZ, yC, yD, Int.neg_zero] <;> rfl)); (first | (focus (simp; done)) | (intro c hc; obtain ⟨x, _, rfl⟩ := List.mem_map.1 hc; rfl)); ((first | rfl | simp (disch := omega) only [push_cast])); ((try dsimp only); (try simp only [zF, zE, zD, zC, zA, zB, bothL_len, needleL_len]); omega); ((try dsimp only); (try simp only [zF, zE, zD, zC, zA, zB, bothL_len, needleL_len]); omega))
              | ((first | (apply W.callv cx_ok; decide) | (apply D.callv cx_ok; decide; decide)); (iterate 2 (simp (disch := (first | omega | (simp only [zE, zF, zD, zC, zA, zB, bothL_len, needleL_len]; omega))) only [push_cast, simprocAttr, takeM, dropM, zK, zA, zB, zN, zQ, zR, zO, zP, zT, zS, zU, leT, zH, pureL, pureA, hS4, hZ4, hc3, hc4, p3, p4, t3, t4, e3, e4, g3, g4, hq, bothL_ne, needleL_ne, bothL_len, needleL_len, zM, zZ, yC, yD, Int.neg_zero] <;> rfl)); (with_reducible first | exact rstrike_ok _ _ (by omega) | exact both_ok _ _ (by omega) ⟨by omega, by omega⟩ | exact needle_ok _ _ _ (by omega) (by omega) (by omega) (by omega) (by omega) (by omega) | exact least_ok _ _ _ hr (by omega) (by omega) (by omega)); try first | rfl | (simp (disch := (first | omega | (simp only [zE, zF, zD, zC, zA, zB, bothL_len, needleL_len]; omega))) only [push_cast, simprocAttr, takeM, dropM, zK, zA, zB, zN, zQ, zR, zO, zP, zT, zS, zU, leT, zH, pureL, pureA, hS4, hZ4, hc3, hc4, p3, p4, t3, t4, e3, e4, g3, g4, hq, bothL_ne, needleL_ne, bothL_len, needleL_len, zM, zZ, yC, yD, Int.neg_zero] <;> rfl))
              | ((first | apply W.ret1 | apply W.end1); (iterate 2 (try (simp (disch := (first | omega | (simp only [zE, zF, zD, zC, zA, zB, bothL_len, needleL_len]; omega))) only [push_cast, simprocAttr, takeM, dropM, zK, zA, zB, zN, zQ, zR, zO, zP, zT, zS, zU, leT, zH, pureL, pureA, hS4, hZ4, hc3, hc4, p3, p4, t3, t4, e3, e4, g3, g4, hq, bothL_ne, needleL_ne, bothL_len, needleL_len, zM, zZ, yC, yD, Int.neg_zero] <;> rfl))))
            all_goals (refine ⟨rest4.length, ?_, k4 + 1, M4.length + 2, (M4 ++ [⟨3 + r0.strikes.length + j3, 3 + r0.strikes.length + k4, q.2⟩, ⟨3 + r0.strikes.length + k4, 3 + r0.strikes.length + j3, -q.1⟩]), rest4, rfl, hd4, hq14, (by simp), (by simp; omega), (by omega), (by omega), ?_, ?_, ?_, ?_, ?_, ?_, ?_, ?_⟩; ((simp only [List.length_cons] at *; omega)); all_goals first | (simp (disch := omega) only [push_cast, simprocAttr, hS4, hZ4, Int.add_assoc, bothL_ne, needleL_ne, bothL_len, needleL_len, zM, zZ, yC, yD, Int.neg_zero] <;> first | rfl | omega) | omega)
      · obtain ⟨hk2, hg2, hd2, hl2, hm2, hx2⟩ := drop_cons hp02 eStrike []
        have hsb := hv.strikes st hm2
        obtain ⟨hs1, hs2⟩ := hms1 st hm2
        have e3 : (3 + (k2 : Int)).toNat = 3 + k2 := by omega
        simp only [ndL, List.append_assoc] at hp12
        rw [← List.append_assoc] at hp12
        repeat' first
          | apply AW.seq | apply AW.region | apply AW.ret | apply AW.block | apply AW.skip | apply AW.exit | apply AW.scope | apply AW.label | apply AWL.nil | apply D.nil
          | refine W.draw cx_mixed (by decide +kernel) ?_
          | ((first | (apply W.step cx_ok; decide) | (apply D.step cx_ok; decide; decide) | apply AW.cond); (simp (disch := (first | omega | (simp only [zE, zF, zD, zC, zA, zB, bothL_len, needleL_len]; omega))) only [push_cast, simprocAttr, takeM, dropM, zK, zA, zB, zN, zQ, zR, zO, zP, zT, zS, zU, leT, zH, pureL, pureA, hS2, hZ2, hk2, hg2, hx2, e3, bothL_ne, needleL_ne, bothL_len, needleL_len, zM, zZ, yC, yD, Int.neg_zero] <;> rfl); all_goals try ((with_reducible intro hI); try first | (cases hI; done) | (simp only [INTS, zL] at hI; try first | (exfalso; omega) | (have hT : True := hI; clear hT hI))))
          | (apply W.append cx_ok; decide; rfl; rfl; rfl; decide; (iterate 3 (simp (disch := (first | omega | (simp only [zE, zF, zD, zC, zA, zB, bothL_len, needleL_len]; omega))) only [push_cast, simprocAttr, takeM, dropM, zK, zA, zB, zN, zQ, zR, zO, zP, zT, zS, zU, leT, zH, pureL, pureA, hS2, hZ2, hk2, hg2, hx2, e3, bothL_ne, needleL_ne, bothL_len, needleL_len, zM, zZ, yC, yD, Int.neg_zero] <;> rfl)); (first | (focus (simp; done)) | (intro c hc; obtain ⟨x, _, rfl⟩ := List.mem_map.1 hc; rfl)); ((first | rfl | simp (disch := omega) only [push_cast])); ((try dsimp only); (try simp only [zF, zE, zD, zC, zA, zB, bothL_len, needleL_len]); omega); ((try dsimp only); (try simp only [zF, zE, zD, zC, zA, zB, bothL_len, needleL_len]); omega))
          | ((first | (apply W.callv cx_ok; decide) | (apply D.callv cx_ok; decide; decide)); (iterate 2 (simp (disch := (first | omega | (simp only [zE, zF, zD, zC, zA, zB, bothL_len, needleL_len]; omega))) only [push_cast, simprocAttr, takeM, dropM, zK, zA, zB, zN, zQ, zR, zO, zP, zT, zS, zU, leT, zH, pureL, pureA, hS2, hZ2, hk2, hg2, hx2, e3, bothL_ne, needleL_ne, bothL_len, needleL_len, zM, zZ, yC, yD, Int.neg_zero] <;> rfl)); (with_reducible first | exact rstrike_ok _ _ (by omega) | exact both_ok _ _ (by omega) ⟨by omega, by omega⟩ | exact needle_ok _ _ _ (by omega) (by omega) (by omega) (by omega) (by omega) (by omega) | exact least_ok _ _ _ hr (by omega) (by omega) (by omega)); try first | rfl | (simp (disch := (first | omega | (simp only [zE, zF, zD, zC, zA, zB, bothL_len, needleL_len]; omega))) only [push_cast, simprocAttr, takeM, dropM, zK, zA, zB, zN, zQ, zR, zO, zP, zT, zS, zU, leT, zH, pureL, pureA, hS2, hZ2, hk2, hg2, hx2, e3, bothL_ne, needleL_ne, bothL_len, needleL_len, zM, zZ, yC, yD, Int.neg_zero] <;> rfl))
          | ((first | apply W.ret1 | apply W.end1); (iterate 2 (try (simp (disch := (first | omega | (simp only [zE, zF, zD, zC, zA, zB, bothL_len, needleL_len]; omega))) only [push_cast, simprocAttr, takeM, dropM, zK, zA, zB, zN, zQ, zR, zO, zP, zT, zS, zU, leT, zH, pureL, pureA, hS2, hZ2, hk2, hg2, hx2, e3, bothL_ne, needleL_ne, bothL_len, needleL_len, zM, zZ, yC, yD, Int.neg_zero] <;> rfl))))
        all_goals (refine ⟨rest2.length, ?_, k2 + 1, M2.length + 2, (M2 ++ needleL nd (3 + k2) st.pos), rest2, rfl, hd2, hp12, (by simp [needleL_len]), (by simp [needleL_len]; omega), (by omega), ?_, ?_, ?_, ?_, ?_, ?_, ?_⟩; ((simp only [List.length_cons] at *; omega)); all_goals first | (simp (disch := omega) only [push_cast, simprocAttr, hS2, hZ2, hk2, hg2, hx2, e3, bothL_ne, needleL_ne, bothL_len, needleL_len, zM, zZ, yC, yD, Int.neg_zero] <;> first | rfl | omega) | omega)
  · obtain ⟨hk, hg, hd', hl', hm, hx⟩ := drop_cons hp0 eSight []
    have hsg := hv.sights sg hm
    have hI0 := strikeI_lt (n := sg.strike) (l := r0.strikes) (k := r0.strikes.length) (by rw [List.take_length]; exact hsg.2.2.2)
    obtain ⟨I0, hI⟩ : ∃ z, strikeI sg.strike 0 r0.strikes = z := ⟨_, rfl⟩
    simp only [sgL, List.append_assoc] at hp1
    rw [← List.append_assoc, hI] at hp1
    rw [hI] at hI0
    repeat' first
      | apply AW.seq | apply AW.region | apply AW.ret | apply AW.block | apply AW.skip | apply AW.exit | apply AW.scope | apply AW.label | apply AWL.nil | apply D.nil
      | refine AW.draw (id := 6) cx_mixed [18, 19] [] [] 0 (by decide +kernel) ?_
      | refine W.draw cx_mixed (by decide +kernel) ?_
      | ((first | (apply W.step cx_ok; decide) | (apply D.step cx_ok; decide; decide) | apply AW.cond); (simp (disch := (first | omega | (simp only [zE, zF, zD, zC, zA, zB, bothL_len, needleL_len]; omega))) only [push_cast, simprocAttr, takeM, dropM, zK, zA, zB, zN, zQ, zR, zO, zP, zT, zS, zU, leT, zH, pureL, pureA, hS, hZ, hk, hg, hx, hI, bothL_ne, needleL_ne, bothL_len, needleL_len, zM, zZ, yC, yD, Int.neg_zero] <;> rfl); all_goals try ((with_reducible intro hI); try first | (cases hI; done) | (simp only [INTS, zL] at hI; try first | (exfalso; omega) | (have hT : True := hI; clear hT hI))))
      | ((first | (apply D.store cx_ok; decide) | (apply D.stept cx_ok; decide; decide) | (apply D.stepm cx_ok; decide; decide)); (simp (disch := (first | omega | (simp only [zE, zF, zD, zC, zA, zB, bothL_len, needleL_len]; omega))) only [push_cast, simprocAttr, takeM, dropM, zK, zA, zB, zN, zQ, zR, zO, zP, zT, zS, zU, leT, zH, pureL, pureA, hS, hZ, hk, hg, hx, hI, bothL_ne, needleL_ne, bothL_len, needleL_len, zM, zZ, yC, yD, Int.neg_zero] <;> rfl); try first | exact .inl rfl | exact .inr (by simp))
      | ((apply D.alloct cx_ok; decide; decide); (simp (disch := (first | omega | (simp only [zE, zF, zD, zC, zA, zB, bothL_len, needleL_len]; omega))) only [push_cast, simprocAttr, takeM, dropM, zK, zA, zB, zN, zQ, zR, zO, zP, zT, zS, zU, leT, zH, pureL, pureA, hS, hZ, hk, hg, hx, hI, bothL_ne, needleL_ne, bothL_len, needleL_len, zM, zZ, yC, yD, Int.neg_zero] <;> rfl); first | exact .inl rfl | exact .inr (by simp))
      | (apply W.append cx_ok; decide; rfl; rfl; rfl; decide; (iterate 3 (simp (disch := (first | omega | (simp only [zE, zF, zD, zC, zA, zB, bothL_len, needleL_len]; omega))) only [push_cast, simprocAttr, takeM, dropM, zK, zA, zB, zN, zQ, zR, zO, zP, zT, zS, zU, leT, zH, pureL, pureA, hS, hZ, hk, hg, hx, hI, bothL_ne, needleL_ne, bothL_len, needleL_len, zM, zZ, yC, yD, Int.neg_zero] <;> rfl)); (first | (focus (simp; done)) | (intro c hc; obtain ⟨x, _, rfl⟩ := List.mem_map.1 hc; rfl)); ((first | rfl | simp (disch := omega) only [push_cast])); ((try dsimp only); (try simp only [zF, zE, zD, zC, zA, zB, bothL_len, needleL_len]); omega); ((try dsimp only); (try simp only [zF, zE, zD, zC, zA, zB, bothL_len, needleL_len]); omega))
      | (apply D.append cx_ok; decide; decide; rfl; rfl; rfl; decide; (iterate 3 (simp (disch := (first | omega | (simp only [zE, zF, zD, zC, zA, zB, bothL_len, needleL_len]; omega))) only [push_cast, simprocAttr, takeM, dropM, zK, zA, zB, zN, zQ, zR, zO, zP, zT, zS, zU, leT, zH, pureL, pureA, hS, hZ, hk, hg, hx, hI, bothL_ne, needleL_ne, bothL_len, needleL_len, zM, zZ, yC, yD, Int.neg_zero] <;> rfl)); (first | (focus (simp; done)) | (intro c hc; obtain ⟨x, _, rfl⟩ := List.mem_map.1 hc; rfl)); ((first | rfl | (simp (disch := omega) only [push_cast]; done))); ((try dsimp only); (try simp only [zF, zE, zD, zC, zA, zB, bothL_len, needleL_len]); omega); ((try dsimp only); (try simp only [zF, zE, zD, zC, zA, zB, bothL_len, needleL_len]); omega); first | exact .inl rfl | exact .inr (by simp))
      | ((first | (apply W.callv cx_ok; decide) | (apply D.callv cx_ok; decide; decide) | (apply D.callvt cx_ok; decide; decide)); (iterate 2 (simp (disch := (first | omega | (simp only [zE, zF, zD, zC, zA, zB, bothL_len, needleL_len]; omega))) only [push_cast, simprocAttr, takeM, dropM, zK, zA, zB, zN, zQ, zR, zO, zP, zT, zS, zU, leT, zH, pureL, pureA, hS, hZ, hk, hg, hx, hI, bothL_ne, needleL_ne, bothL_len, needleL_len, zM, zZ, yC, yD, Int.neg_zero] <;> rfl)); (with_reducible first | exact rstrike_ok _ _ (by omega) | exact both_ok _ _ (by omega) ⟨by omega, by omega⟩ | exact needle_ok _ _ _ (by omega) (by omega) (by omega) (by omega) (by omega) (by omega) | exact least_ok _ _ _ hr (by omega) (by omega) (by omega)); try first | rfl | (simp (disch := (first | omega | (simp only [zE, zF, zD, zC, zA, zB, bothL_len, needleL_len]; omega))) only [push_cast, simprocAttr, takeM, dropM, zK, zA, zB, zN, zQ, zR, zO, zP, zT, zS, zU, leT, zH, pureL, pureA, hS, hZ, hk, hg, hx, hI, bothL_ne, needleL_ne, bothL_len, needleL_len, zM, zZ, yC, yD, Int.neg_zero] <;> rfl))
      | ((first | apply W.ret1 | apply W.end1); (iterate 2 (try (simp (disch := (first | omega | (simp only [zE, zF, zD, zC, zA, zB, bothL_len, needleL_len]; omega))) only [push_cast, simprocAttr, takeM, dropM, zK, zA, zB, zN, zQ, zR, zO, zP, zT, zS, zU, leT, zH, pureL, pureA, hS, hZ, hk, hg, hx, hI, bothL_ne, needleL_ne, bothL_len, needleL_len, zM, zZ, yC, yD, Int.neg_zero] <;> rfl))))
    all_goals (refine ⟨rest.length, ?_, k + 1, M.length + 2, (M ++ bothL (3 + I0).toNat sg.seen), rest, rfl, hd', hp1, (by simp [bothL_len]), (by simp [bothL_len]; omega), (by omega), ?_, ?_, ?_, ?_, ?_, ?_, ?_⟩; ((simp only [List.length_cons] at *; omega)); all_goals first | (simp (disch := omega) only [push_cast, simprocAttr, hS, hZ, hk, hg, hx, hI, bothL_ne, needleL_ne, bothL_len, needleL_len, zM, zZ, yC, yD, Int.neg_zero] <;> first | rfl | omega) | omega)
end Go.Proofs.Ks

set_option maxRecDepth 100000
namespace Go.Proofs.Ks
open Go Go.Pg Go.Proofs Go.ChangeShapes Go.WideShapes Go.RowKit
section
variable {H : Type} {enc : TypeId × Value → H} {W : World} {spare : Nat → Bool} {held : Bool}
abbrev Old (W : World) : Nat → Prop := fun b => b < W.heap.size
def Reads (enc : TypeId × Value → H) (W : World) (spare : Nat → Bool) (held : Bool) (t : TypeId) {α : Type} (e : α → List AV) (good : α → Prop) : Prop :=
  ∀ fuel cs x, DataW.trod enc Try.prog W 0 spare held fuel t cs = some x → ∃ a, good a ∧ cs.length = (e a).length ∧ (∀ c ∈ e a, c.cell = true) ∧ RepL (pureSg (Old W)) W (e a) (fun i => cs[i]?)
theorem Reads.int {t : TypeId} {k : IntKind} (ht : Try.prog.underlying t = some (.int k)) : Reads enc W spare held t (fun n : Int => [AV.v (.int k n)]) (fun n => (Lit.int k n).wf = true) := by
  intro fuel cs x h
  obtain ⟨n, rfl, _, hw⟩ := DataW.trod_int ht h
  exact ⟨n, hw, rfl, by simp [AV.cell, Value.oneCell'], by simp [RepL, Rep]⟩
theorem Reads.bool {t : TypeId} (ht : Try.prog.underlying t = some .bool) : Reads enc W spare held t (fun b : Bool => [AV.v (.bool b)]) (fun _ => True) := by
  intro fuel cs x h
  obtain ⟨n, rfl, _⟩ := DataW.trod_bool ht h
  exact ⟨n, trivial, rfl, by simp [AV.cell, Value.oneCell'], by simp [RepL, Rep]⟩
theorem Reads.str {t : TypeId} (ht : Try.prog.underlying t = some .string) : Reads enc W spare held t (fun s : ByteArray => [AV.v (.string s)]) (fun s => s.size ≤ 9223372036854775807) := by
  intro fuel cs x h
  obtain ⟨n, rfl, _, hn⟩ := DataW.trod_string ht h
  exact ⟨n, by simpa [maxLen] using hn, rfl, by simp [AV.cell, Value.oneCell'], by simp [RepL, Rep]⟩
theorem Reads.slice {t e : TypeId} {α : Type} {f : α → List AV} {good : α → Prop} {k : Nat} (ht : Try.prog.underlying t = some (.slice e)) (hc : Try.prog.cellsOf e = k) (hk : 0 < k) (hlen : ∀ a, (f a).length = k)
    (hR : Reads enc W spare held e f good) : Reads enc W spare held t (fun l : List α => [AV.lst (l.map f)]) (fun l => (∀ a ∈ l, good a) ∧ l.length ≤ 9223372036854775807) := by
  intro fuel cs x h
  rcases DataW.trod_slice ht h with ⟨rfl, _⟩ | ⟨a, len, cap, elems, rest, n, _, rfl, _, _, hle, hcap, hlen', hel, _, _⟩
  · refine ⟨[], by simp, rfl, by simp [AV.cell], ?_⟩
    simp only [RepL, List.map_nil]
    refine ⟨⟨_, rfl, ?_⟩, trivial⟩
    simp only [Rep]
    exact ⟨none, 0, 0, rfl, by simp, by simp [maxLen], by simp, by simp⟩
  · rw [hc] at hel
    have key : ∀ i, i < len → ∃ b, good b ∧ (∀ c ∈ f b, c.cell = true) ∧ (∀ j, j < k → ∃ u, W.cell? ((a.add (i * k)).add j) = some u) ∧ RepL (pureSg (Old W)) W (f b) (fun j => W.cell? ((a.add (i * k)).add j)) := by
      intro i hi
      have := hel i hi
      obtain ⟨y, hy⟩ : ∃ y, elems[i]? = some y := ⟨_, List.getElem?_eq_getElem (by omega)⟩
      rw [hy] at this
      simp only [Option.bind_eq_some_iff] at this
      obtain ⟨cs', h1, h2⟩ := this
      obtain ⟨_, g2, g3⟩ := World.cells?_some h1
      obtain ⟨b, b1, b2, b3, b4⟩ := hR n cs' y h2
      refine ⟨b, b1, b3, fun j hj => ⟨cs'[j]'(by omega), by rw [g3 j hj, List.getElem?_eq_getElem (by omega)]⟩, RepL.congr (fun j hj => ?_) b4⟩
      rw [hlen] at hj
      exact (g3 j hj).symm
    let g : Fin len → α := fun i => Classical.choose (key i.1 i.2)
    have hg : ∀ i : Fin len, good (g i) ∧ (∀ c ∈ f (g i), c.cell = true) ∧ (∀ j, j < k → ∃ u, W.cell? ((a.add (i.1 * k)).add j) = some u) ∧ RepL (pureSg (Old W)) W (f (g i)) (fun j => W.cell? ((a.add (i.1 * k)).add j)) := fun i => Classical.choose_spec (key i.1 i.2)
    have hll : (List.ofFn g).length = len := by simp
    have hlm : ((List.ofFn g).map f).length = len := by simp
    refine ⟨List.ofFn g, ⟨fun b hb => ?_, by rw [hll]; simp only [maxLen] at hcap; omega⟩, rfl, by simp [AV.cell], ?_⟩
    · obtain ⟨i, hi⟩ := (List.mem_ofFn).1 hb
      rw [← hi]; exact (hg i).1
    · simp only [RepL]
      refine ⟨⟨_, rfl, ?_⟩, trivial⟩
      simp only [Rep]
      refine ⟨some a, cap, k, by rw [hlm], by rw [hlm]; exact hle, hcap, fun e he => ?_, fun hne => ?_⟩
      · obtain ⟨b, hb, rfl⟩ := List.mem_map.1 he
        obtain ⟨i, hi⟩ := (List.mem_ofFn).1 hb
        rw [← hi]; exact ⟨hlen _, (hg i).2.1⟩
      · have hpos : 0 < len := by
          rcases Nat.eq_zero_or_pos len with h0 | h0
          · exact absurd (List.eq_nil_of_length_eq_zero (by rw [hlm, h0])) hne
          · exact h0
        obtain ⟨u, hu⟩ := (hg ⟨0, hpos⟩).2.2.1 0 hk
        obtain ⟨b, o, spot⟩ := a
        have hspot : spot = none := by simpa [Addr.add] using World.cell?_spot hu
        subst hspot
        refine ⟨b, o, rfl, ?_, ?_⟩
        · show b < W.heap.size
          rcases Nat.lt_or_ge b W.heap.size with hb | hb
          · exact hb
          · have : W.heap[b]? = none := Array.getElem?_eq_none hb
            simp [World.cell?, Addr.add, this] at hu
        · rw [repLL_iff]
          intro i hi
          rw [hlm] at hi
          have he : ((List.ofFn g).map f)[i]'(by rw [hlm]; exact hi) = f (g ⟨i, hi⟩) := by simp
          rw [he]
          refine RepL.congr (fun j _ => ?_) (hg ⟨i, hi⟩).2.2.2
          rw [Addr.add_lit, Addr.add_lit]
theorem Reads.field {ft : TypeId} {α : Type} {e : α → AV} {good : α → Prop} {n off i : Nat} {cs : List Value} {xs : List (DataW H × List MemPlace)}
    (hR : Reads enc W spare held ft (fun a => [e a]) good) (h : DataW.trod enc Try.prog W 0 spare held n ft ((cs.drop off).take (Try.prog.cellsOf ft)) = xs[i]?) (hi : i < xs.length) :
    ∃ a, good a ∧ (e a).cell = true ∧ ∃ u, cs[off]? = some u ∧ Rep (pureSg (Old W)) W (e a) u := by
  rw [List.getElem?_eq_getElem hi] at h
  obtain ⟨a, h1, h2, h3, h4⟩ := hR _ _ _ h
  refine ⟨a, h1, h3 _ (by simp), ?_⟩
  simp only [RepL] at h4
  obtain ⟨⟨u, hu, hr⟩, _⟩ := h4
  refine ⟨u, ?_, hr⟩
  rw [List.getElem?_take] at hu
  split at hu
  · simpa using hu
  · cases hu
theorem i3 : Reads enc W spare held 3 eInt (fun n => (Lit.int .i64 n).wf = true) := Reads.int Try.underlying3
theorem Reads.fieldM {ft : TypeId} {α : Type} {e : α → List AV} {good : α → Prop} {n off i : Nat} {cs : List Value} {xs : List (DataW H × List MemPlace)}
    (hR : Reads enc W spare held ft e good) (h : DataW.trod enc Try.prog W 0 spare held n ft ((cs.drop off).take (Try.prog.cellsOf ft)) = xs[i]?) (hi : i < xs.length) :
    ∃ a, good a ∧ (∀ c ∈ e a, c.cell = true) ∧ RepL (pureSg (Old W)) W (e a) (fun j => cs[off + j]?) := by
  rw [List.getElem?_eq_getElem hi] at h
  obtain ⟨a, h1, h2, h3, h4⟩ := hR _ _ _ h
  refine ⟨a, h1, h3, ?_⟩
  rw [repL_iff] at h4 ⊢
  intro j hj
  obtain ⟨u, hu, hr⟩ := h4 j hj
  refine ⟨u, ?_, hr⟩
  rw [List.getElem?_take] at hu
  split at hu
  · simpa using hu
  · cases hu
theorem span_reads : Reads enc W spare held 23 eSpan (fun _ => True) := by
  intro fuel cs x h
  obtain ⟨xs, n, _, _, hl, hn, hf⟩ := DataW.trod_struct Try.underlying23 h
  have hn' : xs.length = 2 := hn
  obtain ⟨a, _, c1, u1, h1, r1⟩ := Reads.field (e := fun n : Int => ai n) i3 (hf 0 _ rfl) (by omega)
  obtain ⟨b, _, c2, u2, h2, r2⟩ := Reads.field (e := fun n : Int => ai n) i3 (hf 1 _ rfl) (by omega)
  refine ⟨⟨a, b⟩, trivial, hl.trans (by kernel_rfl), by simp [c1, c2], ?_⟩
  simp only [RepL]
  exact ⟨⟨u1, h1, r1⟩, ⟨u2, h2, r2⟩, trivial⟩
theorem stop_reads : Reads enc W spare held 68 eStop (fun _ => True) := by
  intro fuel cs x h
  obtain ⟨xs, n, _, _, hl, hn, hf⟩ := DataW.trod_struct Try.underlying68 h
  have hn' : xs.length = 2 := hn
  obtain ⟨a, _, c1, u1, h1, r1⟩ := Reads.field (e := fun n : Int => ai n) i3 (hf 0 _ rfl) (by omega)
  obtain ⟨b, _, c2, r2⟩ := Reads.fieldM (e := eSpan) span_reads (hf 1 _ rfl) (by omega)
  refine ⟨⟨a, b⟩, trivial, hl.trans (by kernel_rfl), by simp [AV.cell, Value.oneCell'], ?_⟩
  simp only [RepL] at r2 ⊢
  obtain ⟨⟨u2, h2, r2⟩, ⟨u3, h3, r3⟩, _⟩ := r2
  exact ⟨⟨u1, h1, r1⟩, ⟨u2, h2, r2⟩, ⟨u3, h3, r3⟩, trivial⟩
theorem strike_reads : Reads enc W spare held 60 eStrike (fun _ => True) := by
  intro fuel cs x h
  obtain ⟨xs, n, _, _, hl, hn, hf⟩ := DataW.trod_struct Try.underlying60 h
  have hn' : xs.length = 2 := hn
  obtain ⟨a, _, c1, u1, h1, r1⟩ := Reads.field (e := fun n : Int => ai n) i3 (hf 0 _ rfl) (by omega)
  obtain ⟨b, _, c2, r2⟩ := Reads.fieldM (e := eSpan) span_reads (hf 1 _ rfl) (by omega)
  refine ⟨⟨a, b⟩, trivial, hl.trans (by kernel_rfl), by simp [AV.cell, Value.oneCell'], ?_⟩
  simp only [RepL] at r2 ⊢
  obtain ⟨⟨u2, h2, r2⟩, ⟨u3, h3, r3⟩, _⟩ := r2
  exact ⟨⟨u1, h1, r1⟩, ⟨u2, h2, r2⟩, ⟨u3, h3, r3⟩, trivial⟩
theorem sight_reads : Reads enc W spare held 53 eSight (fun _ => True) := by
  intro fuel cs x h
  obtain ⟨xs, n, _, _, hl, hn, hf⟩ := DataW.trod_struct Try.underlying53 h
  have hn' : xs.length = 2 := hn
  obtain ⟨a, _, c1, u1, h1, r1⟩ := Reads.field (e := fun n : Int => ai n) i3 (hf 0 _ rfl) (by omega)
  obtain ⟨b, _, c2, r2⟩ := Reads.fieldM (e := eSpan) span_reads (hf 1 _ rfl) (by omega)
  refine ⟨⟨a, b⟩, trivial, hl.trans (by kernel_rfl), by simp [AV.cell, Value.oneCell'], ?_⟩
  simp only [RepL] at r2 ⊢
  obtain ⟨⟨u2, h2, r2⟩, ⟨u3, h3, r3⟩, _⟩ := r2
  exact ⟨⟨u1, h1, r1⟩, ⟨u2, h2, r2⟩, ⟨u3, h3, r3⟩, trivial⟩
theorem stops_reads : Reads enc W spare held 24 (fun l : List Stop => [.lst (l.map eStop)]) (fun l => (∀ a ∈ l, True) ∧ l.length ≤ 9223372036854775807) :=
  Reads.slice Try.underlying24 (k := 3) (by kernel_rfl) (by decide) (fun _ => rfl) stop_reads
theorem strikes_reads : Reads enc W spare held 27 (fun l : List Strike => [.lst (l.map eStrike)]) (fun l => (∀ a ∈ l, True) ∧ l.length ≤ 9223372036854775807) :=
  Reads.slice Try.underlying27 (k := 3) (by kernel_rfl) (by decide) (fun _ => rfl) strike_reads
theorem sights_reads : Reads enc W spare held 28 (fun l : List Sight => [.lst (l.map eSight)]) (fun l => (∀ a ∈ l, True) ∧ l.length ≤ 9223372036854775807) :=
  Reads.slice Try.underlying28 (k := 3) (by kernel_rfl) (by decide) (fun _ => rfl) sight_reads
theorem session_reads : Reads enc W spare held 26 eSession (fun s => s.stops.length ≤ 9223372036854775807) := by
  intro fuel cs x h
  obtain ⟨xs, n, _, _, hl, hn, hf⟩ := DataW.trod_struct Try.underlying26 h
  have hn' : xs.length = 7 := hn
  obtain ⟨a0, _, c0, u0, h0, r0⟩ := Reads.field (e := fun n : Int => ai n) i3 (hf 0 _ rfl) (by omega)
  obtain ⟨a1, _, _, r1⟩ := Reads.fieldM (e := eSpan) span_reads (hf 1 _ rfl) (by omega)
  obtain ⟨a2, _, _, r2⟩ := Reads.fieldM (e := eSpan) span_reads (hf 2 _ rfl) (by omega)
  obtain ⟨a3, _, _, r3⟩ := Reads.fieldM (e := eSpan) span_reads (hf 3 _ rfl) (by omega)
  obtain ⟨a4, _, _, r4⟩ := Reads.fieldM (e := eSpan) span_reads (hf 4 _ rfl) (by omega)
  obtain ⟨a5, _, _, r5⟩ := Reads.fieldM (e := eSpan) span_reads (hf 5 _ rfl) (by omega)
  obtain ⟨a6, g6, c6, u6, h6, r6⟩ := Reads.field (e := fun l : List Stop => .lst (l.map eStop)) stops_reads (hf 6 _ rfl) (by omega)
  refine ⟨⟨a0, a1, a2, a3, a4, a5, a6⟩, g6.2, hl.trans (by kernel_rfl), by simp [AV.cell, Value.oneCell'], ?_⟩
  simp only [RepL] at r1 r2 r3 r4 r5 ⊢
  obtain ⟨⟨v1, k1, p1⟩, ⟨w1, m1, q1⟩, _⟩ := r1
  obtain ⟨⟨v2, k2, p2⟩, ⟨w2, m2, q2⟩, _⟩ := r2
  obtain ⟨⟨v3, k3, p3⟩, ⟨w3, m3, q3⟩, _⟩ := r3
  obtain ⟨⟨v4, k4, p4⟩, ⟨w4, m4, q4⟩, _⟩ := r4
  obtain ⟨⟨v5, k5, p5⟩, ⟨w5, m5, q5⟩, _⟩ := r5
  exact ⟨⟨u0, h0, r0⟩, ⟨v1, k1, p1⟩, ⟨w1, m1, q1⟩, ⟨v2, k2, p2⟩, ⟨w2, m2, q2⟩, ⟨v3, k3, p3⟩, ⟨w3, m3, q3⟩, ⟨v4, k4, p4⟩, ⟨w4, m4, q4⟩, ⟨v5, k5, p5⟩, ⟨w5, m5, q5⟩, ⟨u6, h6, r6⟩, trivial⟩
theorem rec_reads : Reads enc W spare held 30 eRec (fun r => r.strikes.length ≤ 9223372036854775807 ∧ r.sights.length ≤ 9223372036854775807) := by
  intro fuel cs x h
  obtain ⟨xs, n, _, _, hl, hn, hf⟩ := DataW.trod_struct Try.underlying30 h
  have hn' : xs.length = 3 := hn
  obtain ⟨s, _, c0, r0⟩ := Reads.fieldM (e := eSession) session_reads (hf 0 _ rfl) (by omega)
  obtain ⟨a1, g1, c1, u1, h1, r1⟩ := Reads.field (e := fun l : List Strike => .lst (l.map eStrike)) strikes_reads (hf 1 _ rfl) (by omega)
  obtain ⟨a2, g2, c2, u2, h2, r2⟩ := Reads.field (e := fun l : List Sight => .lst (l.map eSight)) sights_reads (hf 2 _ rfl) (by omega)
  refine ⟨⟨s, a1, a2⟩, ⟨g1.2, g2.2⟩, hl.trans (by kernel_rfl), by simp [AV.cell, Value.oneCell'], ?_⟩
  simp only [RepL] at r0 ⊢
  obtain ⟨x0, x1, x2, x3, x4, x5, x6, x7, x8, x9, x10, x11, _⟩ := r0
  exact ⟨x0, x1, x2, x3, x4, x5, x6, x7, x8, x9, x10, x11, ⟨u1, h1, r1⟩, ⟨u2, h2, r2⟩, trivial⟩
variable {r : Reach} {base : Nat} {v : Value} {d : DataW H} {ps : List MemPlace}
theorem arg_rec (hv : Value.okWide Try.prog W r base 30 v) (h : DataW.Trod enc Try.prog W 0 spare held 30 v d ps) : ∃ a : Rec, (a.strikes.length ≤ 9223372036854775807 ∧ a.sights.length ≤ 9223372036854775807) ∧ Rep (pureSg (Old W)) W (.agg (eRec a)) v := by
  obtain ⟨arr, rfl, _⟩ := okWide_struct Try.underlying30 hv
  obtain ⟨fuel, hf⟩ := h
  obtain ⟨a, g, g1, g2, g3⟩ := rec_reads _ _ _ hf
  refine ⟨a, g, ?_⟩
  simp only [Rep]
  exact ⟨arr, rfl, by simpa [Value.cells] using g1, g2, by simpa [Value.cells] using g3⟩
theorem arg_one {t : TypeId} {α : Type} {e : α → AV} {good : α → Prop} (hR : Reads enc W spare held t (fun a => [e a]) good) (hv : v.cells = #[v]) (h : DataW.Trod enc Try.prog W 0 spare held t v d ps) : ∃ a, good a ∧ Rep (pureSg (Old W)) W (e a) v := by
  obtain ⟨fuel, hf⟩ := h
  rw [hv] at hf
  obtain ⟨a, g, g1, g2, g3⟩ := hR _ _ _ hf
  refine ⟨a, g, ?_⟩
  simp only [RepL] at g3
  obtain ⟨⟨u, hu, hr⟩, _⟩ := g3
  simp at hu
  subst hu; exact hr
theorem arg_int (hv : Value.okWide Try.prog W r base 3 v) (h : DataW.Trod enc Try.prog W 0 spare held 3 v d ps) : ∃ n : Int, (Lit.int .i64 n).wf = true ∧ Rep (pureSg (Old W)) W (ai n) v := by
  obtain ⟨n, rfl⟩ := okWide_int Try.underlying3 hv
  exact arg_one (e := fun n : Int => ai n) i3 rfl h
theorem arg_ints (hv : Value.okWide Try.prog W r base 41 v) (h : DataW.Trod enc Try.prog W 0 spare held 41 v d ps) : ∃ l : List Int, l.length ≤ 9223372036854775807 ∧ (∀ n ∈ l, (Lit.int .i64 n).wf = true) ∧ Rep (pureSg (Old W)) W (lInt l) v := by
  obtain ⟨a, len, cap, rfl⟩ := okWide_slice Try.underlying41 hv
  obtain ⟨l, g, h⟩ := arg_one (e := fun l : List Int => lInt l) (Reads.slice Try.underlying41 (k := 1) (by kernel_rfl) (by decide) (fun _ => rfl) i3) rfl h
  exact ⟨l, g.2, g.1, h⟩
theorem arg_u8 (hv : Value.okWide Try.prog W r base 5 v) (h : DataW.Trod enc Try.prog W 0 spare held 5 v d ps) : ∃ n : Nat, n < 256 ∧ Rep (pureSg (Old W)) W (.v (.int .u8 (n : Int))) v := by
  obtain ⟨n, rfl⟩ := okWide_int Try.underlying5 hv
  obtain ⟨a, g, h⟩ := arg_one (e := fun n : Int => AV.v (.int .u8 n)) (Reads.int Try.underlying5) rfl h
  have hb : 0 ≤ a ∧ a < 256 := by
    simp [Lit.wf, IntKind.min, IntKind.max, IntKind.signed, IntKind.bits] at g
    omega
  obtain ⟨m, rfl⟩ := Int.eq_ofNat_of_zero_le hb.1
  exact ⟨m, by omega, h⟩
end
end Go.Proofs.Ks

namespace Go.Proofs.Ks
open Go Go.Pg Go.Proofs Go.ChangeShapes Go.WideShapes Go.ChangeAt Go.RowKit
section
variable {H : Type} {enc : TypeId × Value → H} {P : Program}
theorem post_below {f : Func} {s : ChangeSpec} {apart fresh handsOn again : Bool} {W W' : World} {args : Array Value} {v : Value} {ds gs : List (DataW H)} {before pa pv : List MemPlace}
    (hW : DataW.Whole enc P f.params.toList s.vars apart W args.toList ds gs before)
    (hres : ∀ (b : Nat) (sp : Nat → Bool) (hd : Bool), DataW.TrodAll enc P W' b sp hd f.resultTypes.toList (v.resultList f.resultTypes.size) (s.fn H (ds ++ gs)).results [])
    (hargs : ∀ sp : Nat → Bool, (∀ p ∈ before, sp p.block = true) → DataW.TrodAll enc P W' 0 sp true f.params.toList args.toList (s.fn H (ds ++ gs)).args pa)
    (hvars : ∀ sp : Nat → Bool, (∀ p ∈ before, sp p.block = true) → DataW.TrodVars enc P W' sp s.vars (s.fn H (ds ++ gs)).vars pv)
    (hps : before = pa ++ pv) (hb : Below W.heap.size W W')
    (hok : ∀ (j : Nat) (t : TypeId) (r : Value), f.resultTypes[j]? = some t → (v.resultList f.resultTypes.size)[j]? = some r → Value.okWide P W' .any 0 t r) :
    s.post enc P f apart fresh handsOn again W args v W' := by
  have hlt := hW.lt
  have hold : ∀ p ∈ before, (fun b => decide (b < W.heap.size)) p.block = true := fun p hp => by simpa using hlt p hp
  refine ⟨ds, gs, before, [], pa, pv, hW, hres _ _ _, hargs _ hold, hvars _ hold, World.keptBut_mono (fun p hp => ⟨hp, ?_⟩) (hb.frame (· ∈ before)), fun _ => ?_⟩
  · rw [hps, List.mem_append] at hp
    exact Or.inr hp
  · obtain ⟨_, _, _, _, _, hz, hn⟩ := hW
    refine ⟨hok, _, _, ([] ++ pa) ++ pv, ⟨[] ++ pa, pv, trodAll_append (hargs _ (fun _ _ => rfl)) (hres _ _ _), hvars _ (fun _ _ => rfl), rfl, ?_, ?_⟩, ?_⟩
    · intro b off hp
      have hp' : MemPlace.cell b off ∈ before := by rw [hps]; simpa using hp
      rw [hb.frozen (p := ⟨b, off, none⟩) (hlt _ hp')]
      exact hz b off hp'
    · intro ha
      have := hn ha
      rw [hps] at this
      simpa using this
    · intro p hp _
      rw [hps]
      simpa using hp
theorem laid_out : laidOutB Try.prog = true := by kernel_rfl
theorem stays_all {W W' : World} (hb : Below W.heap.size W W') (sp : Nat → Bool) : ∀ (ts : List TypeId) (vs : List Value) (ds : List (DataW H)) (ps : List MemPlace),
    (∀ t ∈ ts, Try.prog.readableRec t = true ∧ t < Try.prog.types.size) → DataW.TrodAll enc Try.prog W 0 (fun _ => true) true ts vs ds ps → (∀ x ∈ ps, x.block < W.heap.size) → (∀ x ∈ ps, sp x.block = true) →
    DataW.TrodAll enc Try.prog W' 0 sp true ts vs ds ps
  | [], [], [], ps, _, h, _, _ => h
  | t :: ts, v :: vs, d :: ds, ps, ht, ⟨p, q, h1, h2, e⟩, hlt, hsp => by
    subst e
    refine ⟨p, q, ?_, ?_, rfl⟩
    · exact WideElems.Trod_stays laid_out (ht t (by simp)).1 (ht t (by simp)).2 h1 (fun x hx => hb.same (hlt x (by simp [hx]))) (fun x hx => hsp x (by simp [hx]))
    · exact stays_all hb sp ts vs ds q (fun u hu => ht u (by simp [hu])) h2 (fun x hx => hlt x (by simp [hx])) (fun x hx => hsp x (by simp [hx]))
  | [], _ :: _, _, _, _, h, _, _ => h.elim
  | [], [], _ :: _, _, _, h, _, _ => h.elim
  | _ :: _, [], _, _, _, h, _, _ => h.elim
  | _ :: _, _ :: _, [], _, _, h, _, _ => h.elim
theorem law_post {fn : Func} {s : ChangeSpec} (hvars : s.vars = []) (hres : fn.resultTypes = #[4]) (hparams : (fn.params.toList.all fun t => Try.prog.readableRec t && decide (t < Try.prog.types.size)) = true)
    (hfn : ∀ ds : List (DataW H), ds.length = fn.params.toList.length → s.fn H ds = { results := [.lit (.bool true)], args := ds })
    {W W' : World} {args : Array Value} {ds gs : List (DataW H)} {before : List MemPlace} (hW : DataW.Whole enc Try.prog fn.params.toList s.vars false W args.toList ds gs before) (hb : Below W.heap.size W W') :
    s.post enc Try.prog fn false true false false W args (.bool true) W' := by
  have hlt := hW.lt
  have hW0 := hW
  obtain ⟨p, q, hA0, hV0, e, hfz, hnd⟩ := hW
  have hA : DataW.TrodAll enc Try.prog W 0 (fun _ => true) true fn.params.toList args.toList ds p := hA0
  have hV : DataW.TrodVars enc Try.prog W (fun _ => true) s.vars gs q := hV0
  rw [hvars] at hV
  obtain ⟨rfl, rfl⟩ := trodVars_none hV
  rw [List.append_nil] at e
  subst e
  have hs : s.fn H (ds ++ []) = { results := [.lit (.bool true)], args := ds } := by rw [List.append_nil]; exact hfn ds (Go.trodAll_length hA).2
  refine post_below (pa := before) (pv := []) hW0 (fun b sp hd => ?_) (fun sp hsp => ?_) (fun sp _ => ?_) (by simp) hb (ok_one hres rfl (okWide_bool_mk Try.underlying4 _))
  · rw [hs, hres]; exact trodAll_mk1 (shut_bool Try.underlying4 true)
  · rw [hs]
    refine stays_all hb sp _ _ _ _ (fun t ht => ?_) hA hlt hsp
    have := List.all_eq_true.1 hparams t ht
    simpa using this
  · rw [hs, hvars]; rfl
theorem run_true {f : FuncId} {avs : List AV} {W : World} {args : Array Value} (hok : OKv cx f avs (ab true)) (hE : cx.E W) (hs : args.size = avs.length) (hr : RepL (pureSg (Old W)) W avs (fun i => args[i]?)) :
    Calls Try.prog f args W fun e W' => e = .returned (.bool true) ∧ Below W.heap.size W W' := by
  refine (hok.2 W (Old W) args hE (fun b h => h) hs hr).mono ?_
  rintro e W' ⟨hb, v, r, he, hr, hv⟩
  subst hr
  simp only [Rep] at hv
  subst hv
  exact ⟨he, hb⟩
end
open Go.Proofs.Ytdlflcambboojaa
theorem own_knob : ownKnob Try.prog.godebug = none := by kernel_rfl
abbrev laid0 : List (String × DataW Unit) := Rows.clockBetweenRow.laid
theorem laid0_met (w : World) : laidMetH Try.prog laid0 w := by
  show laidMet Try.prog [] _
  exact ⟨[], rfl, List.nodup_nil, fun b off h => by cases h⟩
theorem door_met (os : Os) (args : Array Value) : laidMetH Try.prog laid0 ((World.doorLaid Try.prog 400 os).forCall (fun _ _ => 0) ⟨#[], args, []⟩).memory := by
  show laidMet Try.prog [] _
  exact ⟨[], rfl, List.nodup_nil, fun b off h => by cases h⟩
section
variable {H : Type} {enc : TypeId × Value → H} {P : Program} {W : World} {b : Nat} {sp : Nat → Bool} {held : Bool}
theorem trodAll_pop {t : TypeId} {ts : List TypeId} {vs : List Value} {ds : List (DataW H)} {ps : List MemPlace} (h : DataW.TrodAll enc P W b sp held (t :: ts) vs ds ps) :
    ∃ v vs' d ds' p q, vs = v :: vs' ∧ ds = d :: ds' ∧ DataW.Trod enc P W b sp held t v d p ∧ DataW.TrodAll enc P W b sp held ts vs' ds' q := by
  match vs, ds, h with
  | v :: vs, d :: ds, ⟨p, q, h1, h2, _⟩ => exact ⟨v, vs, d, ds, p, q, rfl, rfl, h1, h2⟩
theorem trodAll_end {vs : List Value} {ds : List (DataW H)} {ps : List MemPlace} (h : DataW.TrodAll enc P W b sp held [] vs ds ps) : vs = [] := by
  match vs, ds, h with
  | [], [], _ => rfl
end
end Go.Proofs.Ks

namespace Go.Pg
open Go Go.RowKit
section
variable {B0 : Nat} {S0 : Fr} {w : World} {H : Nat → Option AO} {σ : Sg}
theorem Inv.frzM (hi : Inv B0 S0 w H σ) {id : Nat} {sh : KSh} {et : TypeId} {es : List (Key × AV)} (hH : H id = some (.mp (.map sh) et es)) : Inv B0 S0 w (updH H id (.mp (.fmap sh) et es)) (σ.frz [id]) := by
  have hle := hi.le_frz [id]
  have hownS : ∀ b, (σ.frz [id]).S b ↔ σ.S b ∨ σ.own b = some id := fun b => by simp [Sg.frz]
  refine ⟨fun i => ?_, fun i hn => ?_, fun b h => ?_, hi.own_lt, fun i r h => ?_, fun i kt et2 es2 h => ?_, S0.mono _ _ _ _ hle hi.fr⟩
  · rw [show (σ.frz [id]).al i ↔ σ.al i from Iff.rfl, hi.al]
    unfold updH
    split
    · rename_i e; subst e; simp [hH]
    · rfl
  · refine hi.fresh i ?_
    unfold updH at hn
    split at hn
    · cases hn
    · exact hn
  · rcases (hownS b).1 h with h | h
    · exact hi.S_lt b h
    · have := hi.own_lt b id h; exact ⟨this.2, .inr this.1⟩
  · unfold updH at h
    split at h
    · cases h
    · rename_i hne
      have hr := hi.row i r h
      refine ⟨hr.len, hr.k, hr.each, hr.lo, hr.cur, hr.empty, fun b ho => ⟨(hr.own b ho).1, (hr.own b ho).2.1, fun h => .inl ((hr.own b ho).2.2.1 h), fun h => ?_⟩, fun b hc j h1 => RepL.mono hle _ _ _ (fun _ _ h => h) (hr.con b hc j h1)⟩
      intro hs
      have ho2 : σ.own b = some i := ho
      rcases (hownS b).1 hs with h' | h'
      · exact (hr.own b ho).2.2.2 h h'
      · rw [ho2] at h'; injection h' with h'; exact hne h'
  · unfold updH at h
    split at h
    · rename_i e; subst e
      injection h with h; injection h with h1 h2 h3; subst h1; subst h2; subst h3
      have hm := hi.mp i _ _ _ hH
      obtain ⟨b, clock, xs, a1, a2, a3, a4, a5, a6⟩ := hm.cur
      exact ⟨hm.len, ⟨b, clock, xs, a1, a2, ⟨fun h => (by cases h), fun _ => (hownS b).2 (.inr a2)⟩, a4, a5, RepL.mono hle _ _ _ (fun _ _ h => h) a6⟩, hm.one⟩
    · rename_i hne
      have hm := hi.mp i kt et2 es2 h
      obtain ⟨b, clock, xs, a1, a2, a3, a4, a5, a6⟩ := hm.cur
      refine ⟨hm.len, ⟨b, clock, xs, a1, a2, ⟨fun hl => ?_, fun hl => .inl (a3.2 hl)⟩, a4, a5, RepL.mono hle _ _ _ (fun _ _ h => h) a6⟩, hm.one⟩
      intro hs
      rcases (hownS b).1 hs with h' | h'
      · exact a3.1 hl h'
      · rw [a2] at h'; injection h' with h'; exact hne h'
theorem Inv.fmap_rep (hi : Inv B0 S0 w H σ) {id : Nat} {sh : KSh} {et : TypeId} {es : List (Key × AV)} (hH : H id = some (.mp (.fmap sh) et es)) (hp : pureL (es.map (·.2)) = true) {u : Value} (hr : Rep σ w (.map id) u) :
    Rep σ w (.lmap sh (es.map (·.1)) (es.map (·.2))) u := by
  simp only [Rep] at hr ⊢
  obtain ⟨b, rfl, hown⟩ := hr
  have hm := hi.mp id _ _ _ hH
  obtain ⟨b', clock, xs, a1, a2, a3, a4, ⟨a5, a5'⟩, a6⟩ := hm.cur
  have := (hm.one b hown).1
  rw [a1] at this; injection this with this; subst this
  exact ⟨b', clock, xs, rfl, a3.2 rfl, a4, by rw [a5, List.map_map]; rfl, a5', by simp, RepL.pure_ _ _ hp a6⟩
end
section
variable {C : Cx} {N : Nat} {Q : Exit → St → Prop} {s : St}
theorem AW.frzM {c : Code} (id : Nat) {sh : KSh} {et : TypeId} {es : List (Key × AV)} (hH : s.H id = some (.mp (.map sh) et es)) (h : AW C N c Q { s with H := updH s.H id (.mp (.fmap sh) et es) }) : AW C N c Q s := by
  rintro S0 w0 a w hE ⟨σ, hσ⟩
  have hle := hσ.inv.le_frz [id]
  refine h S0 w0 a w hE ⟨σ.frz [id], hσ.inv.frzM hH, fun i hi => ?_, fun u => Rep.mono hle _ _ (hσ.tm u), hσ.N, hσ.d, hσ.below⟩
  have h0 := hσ.nx i hi
  show updH s.H id _ i = none
  simp only [updH]
  rw [if_neg (fun e => by subst e; rw [hH] at h0; cases h0)]; exact h0
inductive Told (H : Nat → Option AO) : AV → AV → Prop where
  | view {c d : AV} (h : viewA H c = some d) : Told H c d
  | map {id : Nat} {sh : KSh} {et : TypeId} {es : List (Key × AV)} (h : H id = some (.mp (.fmap sh) et es)) (hp : pureL (es.map (·.2)) = true) : Told H (.map id) (.lmap sh (es.map (·.1)) (es.map (·.2)))
theorem view_cell {H : Nat → Option AO} {c d : AV} (h : viewA H c = some d) (hc : c.cell = true) : d.cell = true := by
  cases c <;> simp only [AV.cell] at hc <;> try contradiction
  all_goals (unfold viewA at h)
  · split at h <;> try contradiction
    · injection h with h; subst h; rfl
    · injection h with h; subst h; exact hc
  · injection h with h; subst h; rfl
  · injection h with h; subst h; rfl
  · split at h
    · split at h
      · injection h with h; subst h; rfl
      · cases h
    · cases h
  · split at h
    · split at h
      · injection h with h; subst h; rfl
      · cases h
    · cases h
  · simp only [Option.map_eq_some_iff] at h
    obtain ⟨_, _, rfl⟩ := h; rfl
  · injection h with h; subst h; rfl
theorem AW.settle {c : Code} (id : Nat) (ids : List Nat) {r : Row} {es' : List (List AV)} (hr : rowAt s.H id = some r) (hrows : ∀ i ∈ ids, ∃ r, rowAt s.H i = some r) (hid : id ∉ ids) (hl : es'.length = r.es.length)
    (htold : ∀ (i : Nat) (e e' : List AV), r.es[i]? = some e → es'[i]? = some e' → e'.length = e.length ∧ ∀ (j : Nat) (a b : AV), e[j]? = some a → e'[j]? = some b → Told s.H a b ∧ ∀ x ∈ idsA a, x ∈ ids)
    (h : AW C N c Q { s with H := updH (frz s.H ids) id (.row { r with es := es' }) }) : AW C N c Q s := by
  rintro S0 w0 a w hE ⟨σ, hσ⟩
  have hH := rowAt_eq hr
  have hle := hσ.inv.le_frz ids
  have hinv := hσ.inv.frz hrows
  have hH' : frz s.H ids id = some (.row r) := by unfold frz; rw [if_neg hid]; exact hH
  have hR := hinv.row id r hH'
  have hR0 := hσ.inv.row id r hH
  have hinv2 := hinv.retell (es' := es') hH' hl (fun e' he' => by
    obtain ⟨i, hi, rfl⟩ := List.getElem_of_mem he'
    have hi2 : i < r.es.length := by omega
    obtain ⟨g1, g2⟩ := htold i r.es[i] es'[i] (List.getElem?_eq_getElem hi2) (List.getElem?_eq_getElem hi)
    obtain ⟨e1, e2⟩ := hR.each _ (List.getElem_mem hi2)
    refine ⟨g1.trans e1, fun d hd => ?_⟩
    obtain ⟨j, hj, rfl⟩ := List.getElem_of_mem hd
    have hj2 : j < r.es[i].length := by omega
    obtain ⟨t1, _⟩ := g2 j _ _ (List.getElem?_eq_getElem hj2) (List.getElem?_eq_getElem hj)
    have hcc := e2 _ (List.getElem_mem hj2)
    generalize es'[i][j] = d at t1
    generalize r.es[i][j] = c0 at t1 hcc
    cases t1 with
    | view hv => exact view_cell hv hcc
    | map hv hp => rfl) (fun b hb i hi => by
    have hi2 : i < r.es.length := by omega
    obtain ⟨g1, g2⟩ := htold i r.es[i] es'[i] (List.getElem?_eq_getElem hi2) (List.getElem?_eq_getElem hi)
    have hcon := hR0.con b hb i hi2
    rw [repL_iff] at hcon ⊢
    intro j hj
    have hj2 : j < r.es[i].length := by omega
    obtain ⟨u, hu, hru⟩ := hcon j hj2
    obtain ⟨t1, t2⟩ := g2 j _ _ (List.getElem?_eq_getElem hj2) (List.getElem?_eq_getElem hj)
    refine ⟨u, hu, ?_⟩
    generalize es'[i][j] = d at t1
    generalize r.es[i][j] = c0 at t1 t2 hru
    cases t1 with
    | view hv => exact Rep.lift (viewA_sound hσ.inv (S' := (σ.frz ids).S) (fun b h => .inl h) _ _ _ hv (fun x hx b hb => .inr ⟨x, t2 x hx, hb⟩) hru)
    | map hv hp => exact Rep.mono hle _ _ (hσ.inv.fmap_rep hv hp hru))
  refine h S0 w0 a w hE ⟨σ.frz ids, hinv2, fun i hi => ?_, fun u => Rep.mono hle _ _ (hσ.tm u), hσ.N, hσ.d, hσ.below⟩
  have h0 := hσ.nx i hi
  show updH (frz s.H ids) id _ i = none
  simp only [updH]
  rw [if_neg (fun e => by subst e; rw [hH] at h0; cases h0)]
  unfold frz
  split
  · rw [h0]
  · exact h0
end
end Go.Pg

namespace Go.Proofs.Ks
open Go Go.Pg Go.Proofs
attribute [push_cast] eLink
def keyN (n : Node) : Key := .pair n.kind n.num
def idxV (k n : Nat) : List AV := (List.range' k n).map fun (i : Nat) => ai i
abbrev gSys (nd : List Node) (L : List Lk) : AV := .iptr [lNode nd, .lmap .pair (nd.map keyN) (idxV 0 nd.length), lLink L] 0
def atP (kd nm : Int) (nd : List Node) : Int := if atI kd nm 0 nd < 0 then 0 else atI kd nm 0 nd
theorem find_node (kd nm : Int) : ∀ (nd : List Node) (k : Nat), findM (.pair kd nm) ((nd.map keyN).zip (idxV k nd.length)) = if atI kd nm k nd < 0 then none else some (ai (atI kd nm k nd))
  | [], k => rfl
  | x :: nd, k => by
    have ih := find_node kd nm nd (k + 1)
    have e : idxV k (x :: nd).length = ai k :: idxV (k + 1) nd.length := by simp [idxV, List.range'_succ]
    rw [e]
    simp only [List.map_cons, List.zip_cons_cons, findM, keyN, Key.same, atI]
    by_cases h : x.kind = kd ∧ x.num = nm
    · obtain ⟨h1, h2⟩ := h
      subst h1; subst h2
      simp
    · have h' : (kd == x.kind && nm == x.num) = false := by
        cases hq : (kd == x.kind && nm == x.num) with
        | false => rfl
        | true => simp only [Bool.and_eq_true, beq_iff_eq] at hq; exact absurd ⟨hq.1.symm, hq.2.symm⟩ h
      simp only [h', Bool.false_eq_true, if_false, if_neg h]
      exact ih
theorem node_look (kd nm : Int) (nd : List Node) : pickM (.v (.int .i64 0)) false (findM (.pair kd nm) ((nd.map keyN).zip (idxV 0 nd.length))) = ai (atP kd nm nd) := by
  rw [find_node]
  unfold atP
  split <;> simp [pickM]
theorem at_ok (nd : List Node) (L : List Lk) (kd nm : Int) : OKv cx 83 [gSys nd L, ai kd, ai nm] (ai (atP kd nm nd)) := by
  refine OKat.of_body (rs := [6]) Try.func83 rfl (by decide +kernel) rfl (by simp [Try.ntmps83]) ?_
  simp only [Try.ntmps83]
  repeat' first
    | apply AW.seq | apply AW.region | apply AW.ret | apply AW.block | apply AW.skip | apply AW.exit | apply AW.scope | apply AW.label | apply AWL.nil
    | ((first | (apply W.step cx_ok; decide) | apply AW.cond | apply W.mapUpdate cx_ok); (simp (disch := omega) only [push_cast, simprocAttr, node_look, zM, TyD.isAgg] <;> rfl); all_goals try ((with_reducible intro hI); try first | (cases hI; done) | (simp only [INTS, zL] at hI; try first | (exfalso; omega) | (have hT : True := hI; clear hT hI))))
    | (refine W.makeMap cx_ok (by simp only [push_cast, simprocAttr] <;> rfl) (by decide) ?_)
    | ((first | apply W.ret1 | apply W.end1); (iterate 2 (try (simp (disch := omega) only [push_cast, simprocAttr, node_look, zM, TyD.isAgg] <;> rfl))))
  all_goals (show _ = _; rfl)
theorem ceiling_ok (a b : Int) (ha : 0 ≤ a ∧ a ≤ 1099511627776) (hb : 1 ≤ b ∧ b ≤ 1099511627776) : OKv cx 124 [ai a, ai b] (ai ((a + b - 1) / b)) := by
  have hb0 : (b = 0) = False := eq_false (by omega)
  have h1 : 0 ≤ (a + b - 1) / b := Int.ediv_nonneg (by omega) (by omega)
  have h2 : (a + b - 1) / b ≤ a + b - 1 := Int.ediv_le_self _ (by omega)
  obtain ⟨q, hq⟩ : ∃ q, (a + b - 1) / b = q := ⟨_, rfl⟩
  rw [hq] at h1 h2 ⊢
  refine OKat.of_body (rs := [4]) Try.func124 rfl (by decide +kernel) rfl (by simp [Try.ntmps124]) ?_
  simp only [Try.ntmps124]
  repeat' first
    | apply AW.seq | apply AW.region | apply AW.ret | apply AW.block | apply AW.skip | apply AW.exit | apply AW.scope | apply AW.label | apply AWL.nil
    | ((first | (apply W.step cx_ok; decide) | apply AW.cond); (simp (disch := omega) only [push_cast, simprocAttr, hb0, hq] <;> rfl); all_goals try ((with_reducible intro hI); try first | (cases hI; done) | (simp only [INTS, zL] at hI; try first | (exfalso; omega) | (have hT : True := hI; clear hT hI))))
    | ((first | apply W.ret1 | apply W.end1); (iterate 2 (try (simp (disch := omega) only [push_cast, simprocAttr, hb0, hq] <;> rfl))))
  all_goals (show _ = _; rfl)
end Go.Proofs.Ks

namespace Go.Proofs.Ks
open Go Go.Pg Go.Proofs
attribute [push_cast] rowAt_mask
def initP (n : Nat) (f : Int) (k : Nat) : List Int := (initF n f).take k ++ List.replicate (n - k) 0
def byP (n k : Nat) : List Int := List.replicate k (-1) ++ List.replicate (n - k) 0
theorem set_mid {A B : List Int} {k : Nat} {x y : Int} (h : A.length = k) : (A ++ y :: B).set k x = A ++ x :: B := by
  subst h
  rw [List.set_append_right _ _ (Nat.le_refl _), Nat.sub_self]; rfl
theorem initF_len (n : Nat) (f : Int) : (initF n f).length = n := by simp [initF]
theorem initP_zero (n : Nat) (f : Int) : initP n f 0 = List.replicate n 0 := by simp [initP]
theorem initP_all (n : Nat) (f : Int) : initP n f n = initF n f := by unfold initP; rw [List.take_of_length_le (by rw [initF_len]; exact Nat.le_refl _), Nat.sub_self]; simp
theorem initP_len (n : Nat) (f : Int) {k : Nat} (h : k ≤ n) : (initP n f k).length = n := by unfold initP; rw [List.length_append, List.length_take, initF_len, List.length_replicate]; omega
theorem initF_at (n : Nat) (f : Int) {k : Nat} (h : k < n) : (initF n f)[k]? = some (if 0 ≤ f ∧ (k : Int) ≠ f then far else 0) := by
  unfold initF; rw [List.getElem?_map, List.getElem?_range h]; rfl
theorem initP_succ (n : Nat) (f : Int) {k : Nat} (h : k < n) : initP n f (k + 1) = (initP n f k).set k (if 0 ≤ f ∧ (k : Int) ≠ f then far else 0) := by
  unfold initP
  rw [show n - k = (n - (k + 1)) + 1 by omega, List.replicate_succ, set_mid (by rw [List.length_take, initF_len]; omega), List.take_add_one, initF_at n f h]
  simp
theorem initP_same (n : Nat) (f : Int) {k : Nat} (h : k < n) (hq : ¬ (0 ≤ f ∧ (k : Int) ≠ f)) : initP n f (k + 1) = initP n f k := by
  unfold initP
  rw [show n - k = (n - (k + 1)) + 1 by omega, List.replicate_succ, List.take_add_one, initF_at n f h, if_neg hq]
  simp
theorem byP_succ {n k : Nat} (h : k < n) : byP n (k + 1) = (byP n k).set k (-1) := by
  unfold byP
  have e : List.replicate (n - k) (0 : Int) = 0 :: List.replicate (n - (k + 1)) 0 := by
    rw [show n - k = (n - (k + 1)) + 1 by omega, List.replicate_succ]
  rw [e, set_mid (by simp), List.replicate_succ']
  simp
theorem byP_all (n : Nat) : byP n n = List.replicate n (-1) := by simp [byP]
theorem byP_zero (n : Nat) : byP n 0 = List.replicate n 0 := by simp [byP]
theorem byP_len {n k : Nat} (h : k ≤ n) : (byP n k).length = n := by simp [byP]; omega
theorem pure_set (b : List Int) (i : Nat) (v : Int) : ((b.map eInt).set i [.v (.int .i64 v)]).all pureL = true := by
  rw [show (b.map eInt).set i [.v (.int .i64 v)] = (b.set i v).map eInt by rw [List.map_set]]; exact pure_ints _
theorem take_set (b : List Int) (i n : Nat) (x : List AV) (h : n = b.length) : ((b.map eInt).set i x).take n = (b.map eInt).set i x := by rw [List.take_of_length_le (by simp [h])]
def BdD (d : List Int) (n S : Nat) : Prop := d.length = n ∧ ∀ k, k < n → -(1073741823 * (S : Int)) ≤ d.getD k 0 ∧ d.getD k 0 ≤ far
theorem BdD.mono {d : List Int} {n S S' : Nat} (h : BdD d n S) (hs : S ≤ S') : BdD d n S' := ⟨h.1, fun k hk => by have := h.2 k hk; omega⟩
theorem BdD.init (n : Nat) (f : Int) : BdD (initF n f) n 0 := ⟨initF_len n f, fun k hk => by rw [init_get n f hk]; split <;> decide⟩
theorem BdD.relax {d : List Int} {n S : Nat} (h : BdD d n S) {a b : Nat} {m : Int} (ha : a < n) (hb : b < n) (hm : -1073741823 ≤ m ∧ m ≤ 1073741823) (hlt : d.getD a 0 + m < d.getD b 0) : BdD (d.set b (d.getD a 0 + m)) n (S + 1) := by
  refine ⟨by simp [h.1], fun k hk => ?_⟩
  rw [getD_set (by rw [h.1]; exact hb)]
  have h1 := h.2 a ha
  have h2 := h.2 b hb
  have h3 := h.2 k hk
  split
  · omega
  · omega
theorem lengths_ok (nd : List Node) (L : List Lk) (f : Int) (hn : nd.length ≤ 100) (hll : L.length ≤ 10000) (hL : ∀ l ∈ L, l.a < nd.length ∧ l.b < nd.length) (hm : ∀ l ∈ L, -1073741823 ≤ l.m ∧ l.m ≤ 1073741823) :
    OKv cx 88 [gSys nd L, ai f] (.tup [lInt (lengthsF nd.length L f).1, lInt (lengthsF nd.length L f).2.1, ai (lengthsF nd.length L f).2.2]) := by
  obtain ⟨RES, hRES⟩ : ∃ z, lengthsF nd.length L f = z := ⟨_, rfl⟩
  rw [hRES]
  unfold lengthsF at hRES
  have k1 : ((nd.length : Int) * 8 ≤ 281474976710656) = True := eq_true (by omega)
  have k2 : ((nd.length : Int) ≤ 281474976710656) = True := eq_true (by omega)
  have hnL : nd.length * L.length ≤ 1000000 := Nat.le_trans (Nat.mul_le_mul hn hll) (by decide)
  refine OKat.of_body (rs := [4, 5, 6]) Try.func88 rfl (by decide +kernel) rfl (by simp [Try.ntmps88]) ?_
  simp only [Try.ntmps88]
  repeat' first
    | apply AW.seq | apply AW.region | apply AW.ret | apply AW.block | apply AW.skip | apply AW.exit | apply AW.scope | apply AW.label | apply AWL.nil | apply D.nil
    | refine W.draw cx_mixed (by decide +kernel) ?_
    | ((first | (apply W.step cx_ok; decide) | (apply D.step cx_ok; decide; decide) | apply W.store cx_ok | (apply W.gS; rfl; decide) | (apply D.gS; rfl; decide; decide) | apply AW.cond); (simp (disch := omega) only [push_cast, simprocAttr, List.map_replicate, k1, k2, zT, zS, zU] <;> rfl); all_goals try ((with_reducible intro hI); try first | (cases hI; done) | (simp only [INTS, zL] at hI; try first | (exfalso; omega) | (have hT : True := hI; clear hT hI))))
    | ((first | apply W.ret3 | apply W.end3); (iterate 2 (try (simp (disch := omega) only [push_cast, simprocAttr, List.map_replicate, k1, k2, zT, zS, zU] <;> rfl))))
  refine AW.loop (fun n s => ∃ (k : Nat) (d b : List Int), n = nd.length - k ∧ (k ≤ nd.length) ∧ (d = initP nd.length f k) ∧ (b = byP nd.length k) ∧ 2 ≤ s.nx ∧ s.tm 0 = gSys nd L ∧ s.tm 1 = ai f ∧ s.tm 7 = .ref 0 0 nd.length ∧ s.tm 8 = .ref 1 0 nd.length ∧ s.tm 28 = ai nd.length ∧ s.tm 29 = ai k ∧ Pg.rowAt s.H (0) = some ({ k := 1, es := d.map eInt, ty := 3 }) ∧ Pg.rowAt s.H (1) = some ({ k := 1, es := b.map eInt, ty := 3 })) (nd.length) ⟨0, _, _, rfl, (Nat.zero_le _), rfl, rfl, ?_, ?_, ?_, ?_, ?_, ?_, ?_, ?_, ?_⟩ ?_
  iterate 9 (first | (simp (disch := omega) only [push_cast, simprocAttr, initP_zero, byP_zero, List.map_replicate] <;> first | rfl | omega) | omega)
  rintro n s ⟨k, d, b, hn, hp0, hp1, hp2, hnl, hS⟩
  have hZ : (0 : Nat) ≠ s.nx ∧ s.nx ≠ (0 : Nat) ∧ (1 : Nat) ≠ s.nx ∧ s.nx ≠ (1 : Nat) := by omega
  subst hp1
  subst hp2
  have hdl := initP_len nd.length f hp0
  have hbl := byP_len hp0
  by_cases hlt : k < nd.length
  · have hk : (k : Int) < (nd.length : Int) := by omega
    have hs1 := initP_succ nd.length f hlt
    have hs2 := byP_succ hlt
    by_cases hq : 0 ≤ f ∧ (k : Int) ≠ f
    · have hq1 := hq.1
      have hq2 : ((k : Int) = f) = False := eq_false hq.2
      rw [if_pos hq] at hs1
      repeat' first
        | apply AW.seq | apply AW.region | apply AW.ret | apply AW.block | apply AW.skip | apply AW.exit | apply AW.scope | apply AW.label | apply AWL.nil | apply D.nil
        | refine W.draw cx_mixed (by decide +kernel) ?_
        | ((first | (apply W.step cx_ok; decide) | (apply D.step cx_ok; decide; decide) | apply W.store cx_ok | (apply W.gS; rfl; decide) | (apply D.gS; rfl; decide; decide) | apply AW.cond); (simp (disch := omega) only [push_cast, simprocAttr, hS, hZ, hk, hlt, hdl, hbl, hq1, hq2] <;> rfl); all_goals try ((with_reducible intro hI); try first | (cases hI; done) | (simp only [INTS, zL] at hI; try first | (exfalso; omega) | (have hT : True := hI; clear hT hI))))
        | ((first | apply W.ret3 | apply W.end3); (iterate 2 (try (simp (disch := omega) only [push_cast, simprocAttr, hS, hZ, hk, hlt, hdl, hbl, hq1, hq2] <;> rfl))))
      all_goals (refine ⟨nd.length - (k + 1), ?_, k + 1, _, _, rfl, (by omega), rfl, rfl, ?_, ?_, ?_, ?_, ?_, ?_, ?_, ?_, ?_⟩; (omega); all_goals first | (simp (disch := omega) only [push_cast, simprocAttr, hS, hZ, hk, hdl, hbl, hq1, hq2, hs1, hs2, far] <;> first | rfl | omega) | omega)
    · have hs3 := initP_same nd.length f hlt hq
      repeat' first
        | apply AW.seq | apply AW.region | apply AW.ret | apply AW.block | apply AW.skip | apply AW.exit | apply AW.scope | apply AW.label | apply AWL.nil | apply D.nil
        | refine W.draw cx_mixed (by decide +kernel) ?_
        | ((first | (apply W.step cx_ok; decide) | (apply D.step cx_ok; decide; decide) | apply W.store cx_ok | (apply W.gS; rfl; decide) | (apply D.gS; rfl; decide; decide) | apply AW.cond); (simp (disch := omega) only [push_cast, simprocAttr, hS, hZ, hk, hlt, hdl, hbl] <;> rfl); all_goals try ((with_reducible intro hI); try first | (cases hI; done) | (simp only [INTS, zL] at hI; try first | (exfalso; omega) | (have hT : True := hI; clear hT hI))))
        | ((first | apply W.ret3 | apply W.end3); (iterate 2 (try (simp (disch := omega) only [push_cast, simprocAttr, hS, hZ, hk, hlt, hdl, hbl] <;> rfl))))
      all_goals first
        | (exfalso; exact hq ⟨by omega, by omega⟩)
        | (refine ⟨nd.length - (k + 1), ?_, k + 1, _, _, rfl, (by omega), rfl, rfl, ?_, ?_, ?_, ?_, ?_, ?_, ?_, ?_, ?_⟩; (omega); all_goals first | (simp (disch := omega) only [push_cast, simprocAttr, hS, hZ, hk, hdl, hbl, hs3, hs2] <;> first | rfl | omega) | omega)
  · have hk : ¬ (k : Int) < (nd.length : Int) := by omega
    have hke : k = nd.length := by omega
    subst hke
    rw [initP_all] at hS
    rw [byP_all] at hS
    repeat' first
      | apply AW.seq | apply AW.region | apply AW.ret | apply AW.block | apply AW.skip | apply AW.exit | apply AW.scope | apply AW.label | apply AWL.nil | apply D.nil
      | refine W.draw cx_mixed (by decide +kernel) ?_
      | ((first | (apply W.step cx_ok; decide) | (apply D.step cx_ok; decide; decide) | apply W.store cx_ok | (apply W.gS; rfl; decide) | (apply D.gS; rfl; decide; decide) | apply AW.cond); (simp (disch := omega) only [push_cast, simprocAttr, hS, hZ, hk] <;> rfl); all_goals try ((with_reducible intro hI); try first | (cases hI; done) | (simp only [INTS, zL] at hI; try first | (exfalso; omega) | (have hT : True := hI; clear hT hI))))
      | ((first | apply W.ret3 | apply W.end3); (iterate 2 (try (simp (disch := omega) only [push_cast, simprocAttr, hS, hZ, hk] <;> rfl))))
    refine AW.loop (fun n s => ∃ (j S : Nat) (d b : List Int), n = nd.length - j ∧ (j ≤ nd.length) ∧ (loopF L (nd.length - j) d b = RES) ∧ (b.length = nd.length) ∧ (BdD d nd.length S) ∧ (S + (nd.length - j) * L.length ≤ 1000000) ∧ 2 ≤ s.nx ∧ s.tm 0 = gSys nd L ∧ s.tm 1 = ai f ∧ s.tm 7 = .ref 0 0 nd.length ∧ s.tm 8 = .ref 1 0 nd.length ∧ s.tm 50 = ai nd.length ∧ s.tm 51 = ai j ∧ Pg.rowAt s.H (0) = some ({ k := 1, es := d.map eInt, ty := 3 }) ∧ Pg.rowAt s.H (1) = some ({ k := 1, es := b.map eInt, ty := 3 })) (nd.length) ⟨0, 0, (initF nd.length f), (List.replicate nd.length (-1)), rfl, (Nat.zero_le _), hRES, (by simp), (BdD.init _ _), (by rw [Nat.sub_zero]; omega), ?_, ?_, ?_, ?_, ?_, ?_, ?_, ?_, ?_⟩ ?_
    iterate 9 (first | (simp (disch := omega) only [push_cast, simprocAttr, hS, hZ, hk] <;> first | rfl | omega) | omega)
    rintro n1 s1 ⟨j1, S1, d1, b1, hn1, hp01, hp11, hp21, hp31, hp41, hnl1, hS1⟩
    have hZ1 : (0 : Nat) ≠ s1.nx ∧ s1.nx ≠ (0 : Nat) ∧ (1 : Nat) ≠ s1.nx ∧ s1.nx ≠ (1 : Nat) := by omega
    have hdl1 := hp31.1
    have hb1 := hp31.2
    by_cases hlt1 : j1 < nd.length
    · have hk1 : (j1 : Int) < (nd.length : Int) := by omega
      obtain ⟨c1, hc1⟩ : ∃ c, nd.length - j1 = c + 1 := ⟨nd.length - j1 - 1, by omega⟩
      rw [hc1] at hp11 hp41
      rw [Nat.succ_mul] at hp41
      obtain ⟨R1, hR1⟩ : ∃ z, roundF L 0 (d1, b1, -1) = z := ⟨_, rfl⟩
      rw [loopF, hR1] at hp11
      repeat' first
        | apply AW.seq | apply AW.region | apply AW.ret | apply AW.block | apply AW.skip | apply AW.exit | apply AW.scope | apply AW.label | apply AWL.nil | apply D.nil
        | refine W.draw cx_mixed (by decide +kernel) ?_
        | ((first | (apply W.step cx_ok; decide) | (apply D.step cx_ok; decide; decide) | apply W.store cx_ok | (apply W.gS; rfl; decide) | (apply D.gS; rfl; decide; decide) | apply AW.cond); (simp (disch := omega) only [push_cast, simprocAttr, hS1, hZ1, hk1] <;> rfl); all_goals try ((with_reducible intro hI); try first | (cases hI; done) | (simp only [INTS, zL] at hI; try first | (exfalso; omega) | (have hT : True := hI; clear hT hI))))
        | ((first | apply W.ret3 | apply W.end3); (iterate 2 (try (simp (disch := omega) only [push_cast, simprocAttr, hS1, hZ1, hk1] <;> rfl))))
      refine AW.loop (fun n s => ∃ (k S : Nat) (d b : List Int) (c : Int) (rest : List Lk), n = rest.length ∧ (L.drop k = rest) ∧ (roundF rest k (d, b, c) = R1) ∧ (b.length = nd.length) ∧ (BdD d nd.length S) ∧ (S + (rest.length + c1 * L.length) ≤ 1000000) ∧ (d.length = nd.length) ∧ 2 ≤ s.nx ∧ s.tm 0 = gSys nd L ∧ s.tm 1 = ai f ∧ s.tm 7 = .ref 0 0 nd.length ∧ s.tm 8 = .ref 1 0 nd.length ∧ s.tm 10 = ai c ∧ s.tm 50 = ai nd.length ∧ s.tm 51 = ai j1 ∧ s.tm 56 = lLink L ∧ s.tm 57 = ai L.length ∧ s.tm 58 = ai k ∧ Pg.rowAt s.H (0) = some ({ k := 1, es := d.map eInt, ty := 3 }) ∧ Pg.rowAt s.H (1) = some ({ k := 1, es := b.map eInt, ty := 3 })) (L.length) ⟨0, S1, d1, b1, (-1), L, rfl, rfl, hR1, hp21, hp31, (by omega), hdl1, ?_, ?_, ?_, ?_, ?_, ?_, ?_, ?_, ?_, ?_, ?_, ?_, ?_⟩ ?_
      iterate 13 (first | (simp (disch := omega) only [push_cast, simprocAttr, hS1, hZ1, hk1] <;> first | rfl | omega) | omega)
      rintro n2 s2 ⟨k2, S2, d2, b2, c2, rest2, hn2, hp02, hp12, hp22, hp32, hp42, hp52, hnl2, hS2⟩
      have hZ2 : (0 : Nat) ≠ s2.nx ∧ s2.nx ≠ (0 : Nat) ∧ (1 : Nat) ≠ s2.nx ∧ s2.nx ≠ (1 : Nat) := by omega
      have hb2 := hp32.2
      rcases rest2 with _ | ⟨l, rest2⟩
      · have hk2 := drop_nil hp02
        rw [roundF] at hp12
        subst hp12
        dsimp only at hp11
        by_cases hc : c2 < 0
        · rw [if_pos hc] at hp11
          subst hp11
          repeat' first
            | apply AW.seq | apply AW.region | apply AW.ret | apply AW.block | apply AW.skip | apply AW.exit | apply AW.scope | apply AW.label | apply AWL.nil | apply D.nil
            | refine W.draw cx_mixed (by decide +kernel) ?_
            | ((first | (apply W.step cx_ok; decide) | (apply D.step cx_ok; decide; decide) | apply W.store cx_ok | (apply W.gS; rfl; decide) | (apply D.gS; rfl; decide; decide) | apply AW.cond); (simp (disch := omega) only [push_cast, simprocAttr, hS2, hZ2, hk2, hc, pure_set, take_set, take_mapLen, leT, zS, zT, zU] <;> rfl); all_goals try ((with_reducible intro hI); try first | (cases hI; done) | (simp only [INTS, zL] at hI; try first | (exfalso; omega) | (have hT : True := hI; clear hT hI))))
            | ((first | apply W.ret3 | apply W.end3); (iterate 2 (try (simp (disch := omega) only [push_cast, simprocAttr, hS2, hZ2, hk2, hc, pure_set, take_set, take_mapLen, leT, zS, zT, zU] <;> rfl))))
          all_goals (show _ = _; rfl)
        · rw [if_neg hc] at hp11
          repeat' first
            | apply AW.seq | apply AW.region | apply AW.ret | apply AW.block | apply AW.skip | apply AW.exit | apply AW.scope | apply AW.label | apply AWL.nil | apply D.nil
            | refine W.draw cx_mixed (by decide +kernel) ?_
            | ((first | (apply W.step cx_ok; decide) | (apply D.step cx_ok; decide; decide) | apply W.store cx_ok | (apply W.gS; rfl; decide) | (apply D.gS; rfl; decide; decide) | apply AW.cond); (simp (disch := omega) only [push_cast, simprocAttr, hS2, hZ2, hk2, hc] <;> rfl); all_goals try ((with_reducible intro hI); try first | (cases hI; done) | (simp only [INTS, zL] at hI; try first | (exfalso; omega) | (have hT : True := hI; clear hT hI))))
            | ((first | apply W.ret3 | apply W.end3); (iterate 2 (try (simp (disch := omega) only [push_cast, simprocAttr, hS2, hZ2, hk2, hc] <;> rfl))))
          all_goals (refine ⟨nd.length - (j1 + 1), ?_, j1 + 1, S2, d2, b2, rfl, (by omega), (by rw [show nd.length - (j1 + 1) = c1 by omega]; exact hp11), hp22, hp32, (by rw [show nd.length - (j1 + 1) = c1 by omega]; simp at hp42; omega), ?_, ?_, ?_, ?_, ?_, ?_, ?_, ?_, ?_⟩; (omega); all_goals first | (simp (disch := omega) only [push_cast, simprocAttr, hS2, hZ2, hk2, hc] <;> first | rfl | omega) | omega)
      · obtain ⟨hk2, hg2, hd2, hl2, hm2, hx2⟩ := drop_cons hp02 eLink []
        obtain ⟨ha, hb⟩ := hL l hm2
        obtain ⟨m1, m2⟩ := hm l hm2
        have ha' : (l.a : Int) < (nd.length : Int) := by omega
        have hb' : (l.b : Int) < (nd.length : Int) := by omega
        have hba := hb2 l.a ha
        have hbb := hb2 l.b hb
        unfold far at hba hbb
        rw [roundF, relax] at hp12
        have hle : S2 ≤ 1000000 := by omega
        by_cases hi : Imp d2 l
        · rw [if_pos hi] at hp12
          have hi2 := hi.2
          have hi1 : d2.getD l.a 0 < 1125899906842624 := hi.1
          have hnew := hp32.relax ha hb ⟨m1, m2⟩ hi2
          repeat' first
            | apply AW.seq | apply AW.region | apply AW.ret | apply AW.block | apply AW.skip | apply AW.exit | apply AW.scope | apply AW.label | apply AWL.nil | apply D.nil
            | refine AW.draw (id := 17) cx_mixed [18, 19, 20, 21] [3, 4, 5, 14, 15, 16] [0, 1] 0 (by decide +kernel) ?_
            | refine W.draw cx_mixed (by decide +kernel) ?_
            | ((first | (apply W.step cx_ok; decide) | (apply D.step cx_ok; decide; decide) | apply W.store cx_ok | (apply W.gS; rfl; decide) | (apply D.gS; rfl; decide; decide) | apply AW.cond); (simp (disch := omega) only [push_cast, simprocAttr, hS2, hZ2, hk2, hg2, hx2, ha', hb', ha, hb, hp52, hp22, hi1, hi2] <;> rfl); all_goals try ((with_reducible intro hI); try first | (cases hI; done) | (simp only [INTS, zL] at hI; try first | (exfalso; omega) | (have hT : True := hI; clear hT hI))))
            | ((first | (apply D.store cx_ok; decide) | (apply D.stept cx_ok; decide; decide) | (apply D.stepm cx_ok; decide; decide)); (simp (disch := omega) only [push_cast, simprocAttr, hS2, hZ2, hk2, hg2, hx2, ha', hb', ha, hb, hp52, hp22, hi1, hi2] <;> rfl); try first | exact .inl rfl | exact .inr (by simp))
            | ((apply D.alloct cx_ok; decide; decide); (simp (disch := omega) only [push_cast, simprocAttr, hS2, hZ2, hk2, hg2, hx2, ha', hb', ha, hb, hp52, hp22, hi1, hi2] <;> rfl); first | exact .inl rfl | exact .inr (by simp))
            | ((first | apply W.ret3 | apply W.end3); (iterate 2 (try (simp (disch := omega) only [push_cast, simprocAttr, hS2, hZ2, hk2, hg2, hx2, ha', hb', ha, hb, hp52, hp22, hi1, hi2] <;> rfl))))
          all_goals (refine ⟨rest2.length, ?_, k2 + 1, S2 + 1, _, _, _, rest2, rfl, hd2, hp12, (by simp [hp22]), hnew, (by simp at hp42; omega), (by simp [hp52]), ?_, ?_, ?_, ?_, ?_, ?_, ?_, ?_, ?_, ?_, ?_, ?_, ?_⟩; ((simp only [List.length_cons] at *; omega)); all_goals first | (simp (disch := omega) only [push_cast, simprocAttr, hS2, hZ2, hk2, hg2, hx2, ha', hb', ha, hb, hp52, hp22, hi1, hi2] <;> first | rfl | omega) | omega)
        · rw [if_neg hi] at hp12
          repeat' first
            | apply AW.seq | apply AW.region | apply AW.ret | apply AW.block | apply AW.skip | apply AW.exit | apply AW.scope | apply AW.label | apply AWL.nil | apply D.nil
            | refine AW.draw (id := 17) cx_mixed [18, 19, 20, 21] [3, 4, 5, 14, 15, 16] [0, 1] 0 (by decide +kernel) ?_
            | refine W.draw cx_mixed (by decide +kernel) ?_
            | ((first | (apply W.step cx_ok; decide) | (apply D.step cx_ok; decide; decide) | apply W.store cx_ok | (apply W.gS; rfl; decide) | (apply D.gS; rfl; decide; decide) | apply AW.cond); (simp (disch := omega) only [push_cast, simprocAttr, hS2, hZ2, hk2, hg2, hx2, ha', hb', ha, hb, hp52, hp22] <;> rfl); all_goals try ((with_reducible intro hI); try first | (cases hI; done) | (simp only [INTS, zL] at hI; try first | (exfalso; omega) | (have hT : True := hI; clear hT hI))))
            | ((first | (apply D.store cx_ok; decide) | (apply D.stept cx_ok; decide; decide) | (apply D.stepm cx_ok; decide; decide)); (simp (disch := omega) only [push_cast, simprocAttr, hS2, hZ2, hk2, hg2, hx2, ha', hb', ha, hb, hp52, hp22] <;> rfl); try first | exact .inl rfl | exact .inr (by simp))
            | ((apply D.alloct cx_ok; decide; decide); (simp (disch := omega) only [push_cast, simprocAttr, hS2, hZ2, hk2, hg2, hx2, ha', hb', ha, hb, hp52, hp22] <;> rfl); first | exact .inl rfl | exact .inr (by simp))
            | ((first | apply W.ret3 | apply W.end3); (iterate 2 (try (simp (disch := omega) only [push_cast, simprocAttr, hS2, hZ2, hk2, hg2, hx2, ha', hb', ha, hb, hp52, hp22] <;> rfl))))
          all_goals first
            | (exfalso; exact hi ⟨by assumption, by assumption⟩)
            | (refine ⟨rest2.length, ?_, k2 + 1, S2, d2, b2, c2, rest2, rfl, hd2, hp12, hp22, hp32, (by simp at hp42; omega), hp52, ?_, ?_, ?_, ?_, ?_, ?_, ?_, ?_, ?_, ?_, ?_, ?_, ?_⟩; ((simp only [List.length_cons] at *; omega)); all_goals first | (simp (disch := omega) only [push_cast, simprocAttr, hS2, hZ2, hk2, hg2, hx2, ha', hb', ha, hb, hp52, hp22] <;> first | rfl | omega) | omega)
    · have hk1 : ¬ (j1 : Int) < (nd.length : Int) := by omega
      rw [show nd.length - j1 = 0 by omega, loopF] at hp11
      repeat' first
        | apply AW.seq | apply AW.region | apply AW.ret | apply AW.block | apply AW.skip | apply AW.exit | apply AW.scope | apply AW.label | apply AWL.nil | apply D.nil
        | refine W.draw cx_mixed (by decide +kernel) ?_
        | ((first | (apply W.step cx_ok; decide) | (apply D.step cx_ok; decide; decide) | apply W.store cx_ok | (apply W.gS; rfl; decide) | (apply D.gS; rfl; decide; decide) | apply AW.cond); (simp (disch := omega) only [push_cast, simprocAttr, hS1, hZ1, hk1] <;> rfl); all_goals try ((with_reducible intro hI); try first | (cases hI; done) | (simp only [INTS, zL] at hI; try first | (exfalso; omega) | (have hT : True := hI; clear hT hI))))
        | ((first | apply W.ret3 | apply W.end3); (iterate 2 (try (simp (disch := omega) only [push_cast, simprocAttr, hS1, hZ1, hk1] <;> rfl))))
      refine AW.loop (fun n s => ∃ (k : Nat) (rest : List Lk), n = rest.length ∧ (L.drop k = rest) ∧ (lastF rest k d1 b1 = RES) ∧ 2 ≤ s.nx ∧ s.tm 0 = gSys nd L ∧ s.tm 1 = ai f ∧ s.tm 7 = .ref 0 0 nd.length ∧ s.tm 8 = .ref 1 0 nd.length ∧ s.tm 113 = lLink L ∧ s.tm 114 = ai L.length ∧ s.tm 115 = ai k ∧ Pg.rowAt s.H (0) = some ({ k := 1, es := d1.map eInt, ty := 3 }) ∧ Pg.rowAt s.H (1) = some ({ k := 1, es := b1.map eInt, ty := 3 })) (L.length) ⟨0, L, rfl, rfl, hp11, ?_, ?_, ?_, ?_, ?_, ?_, ?_, ?_, ?_, ?_⟩ ?_
      iterate 10 (first | (simp (disch := omega) only [push_cast, simprocAttr, hS1, hZ1, hk1] <;> first | rfl | omega) | omega)
      rintro n2 s2 ⟨k2, rest2, hn2, hp02, hp12, hnl2, hS2⟩
      have hZ2 : (0 : Nat) ≠ s2.nx ∧ s2.nx ≠ (0 : Nat) ∧ (1 : Nat) ≠ s2.nx ∧ s2.nx ≠ (1 : Nat) := by omega
      rcases rest2 with _ | ⟨l, rest2⟩
      · have hk2 := drop_nil hp02
        rw [lastF] at hp12
        subst hp12
        repeat' first
          | apply AW.seq | apply AW.region | apply AW.ret | apply AW.block | apply AW.skip | apply AW.exit | apply AW.scope | apply AW.label | apply AWL.nil | apply D.nil
          | refine W.draw cx_mixed (by decide +kernel) ?_
          | ((first | (apply W.step cx_ok; decide) | (apply D.step cx_ok; decide; decide) | apply W.store cx_ok | (apply W.gS; rfl; decide) | (apply D.gS; rfl; decide; decide) | apply AW.cond); (simp (disch := omega) only [push_cast, simprocAttr, hS2, hZ2, hk2, hdl1, hp21, pure_set, take_set, take_mapLen, leT, zS, zT, zU] <;> rfl); all_goals try ((with_reducible intro hI); try first | (cases hI; done) | (simp only [INTS, zL] at hI; try first | (exfalso; omega) | (have hT : True := hI; clear hT hI))))
          | ((first | apply W.ret3 | apply W.end3); (iterate 2 (try (simp (disch := omega) only [push_cast, simprocAttr, hS2, hZ2, hk2, hdl1, hp21, pure_set, take_set, take_mapLen, leT, zS, zT, zU] <;> rfl))))
        all_goals (show _ = _; rfl)
      · obtain ⟨hk2, hg2, hd2, hl2, hm2, hx2⟩ := drop_cons hp02 eLink []
        obtain ⟨ha, hb⟩ := hL l hm2
        obtain ⟨m1, m2⟩ := hm l hm2
        have ha' : (l.a : Int) < (nd.length : Int) := by omega
        have hb' : (l.b : Int) < (nd.length : Int) := by omega
        have hba := hb1 l.a ha
        have hbb := hb1 l.b hb
        unfold far at hba hbb
        have hle : S1 ≤ 1000000 := by omega
        rw [lastF] at hp12
        by_cases hi : Imp d1 l
        · rw [if_pos hi] at hp12
          subst hp12
          have hi2 := hi.2
          have hi1 : d1.getD l.a 0 < 1125899906842624 := hi.1
          repeat' first
            | apply AW.seq | apply AW.region | apply AW.ret | apply AW.block | apply AW.skip | apply AW.exit | apply AW.scope | apply AW.label | apply AWL.nil | apply D.nil
            | refine W.draw cx_mixed (by decide +kernel) ?_
            | ((first | (apply W.step cx_ok; decide) | (apply D.step cx_ok; decide; decide) | apply W.store cx_ok | (apply W.gS; rfl; decide) | (apply D.gS; rfl; decide; decide) | apply AW.cond); (simp (disch := omega) only [push_cast, simprocAttr, hS2, hZ2, hk2, hg2, hx2, ha', hb', ha, hb, hdl1, hp21, hi1, hi2, pure_set, take_set, take_mapLen, leT, zS, zT, zU] <;> rfl); all_goals try ((with_reducible intro hI); try first | (cases hI; done) | (simp only [INTS, zL] at hI; try first | (exfalso; omega) | (have hT : True := hI; clear hT hI))))
            | ((first | apply W.ret3 | apply W.end3); (iterate 2 (try (simp (disch := omega) only [push_cast, simprocAttr, hS2, hZ2, hk2, hg2, hx2, ha', hb', ha, hb, hdl1, hp21, hi1, hi2, pure_set, take_set, take_mapLen, leT, zS, zT, zU] <;> rfl))))
          all_goals (show _ = _; simp [List.map_set])
        · rw [if_neg hi] at hp12
          repeat' first
            | apply AW.seq | apply AW.region | apply AW.ret | apply AW.block | apply AW.skip | apply AW.exit | apply AW.scope | apply AW.label | apply AWL.nil | apply D.nil
            | refine W.draw cx_mixed (by decide +kernel) ?_
            | ((first | (apply W.step cx_ok; decide) | (apply D.step cx_ok; decide; decide) | apply W.store cx_ok | (apply W.gS; rfl; decide) | (apply D.gS; rfl; decide; decide) | apply AW.cond); (simp (disch := omega) only [push_cast, simprocAttr, hS2, hZ2, hk2, hg2, hx2, ha', hb', ha, hb, hdl1, hp21, pure_set, take_set, take_mapLen, leT, zS, zT, zU] <;> rfl); all_goals try ((with_reducible intro hI); try first | (cases hI; done) | (simp only [INTS, zL] at hI; try first | (exfalso; omega) | (have hT : True := hI; clear hT hI))))
            | ((first | apply W.ret3 | apply W.end3); (iterate 2 (try (simp (disch := omega) only [push_cast, simprocAttr, hS2, hZ2, hk2, hg2, hx2, ha', hb', ha, hb, hdl1, hp21, pure_set, take_set, take_mapLen, leT, zS, zT, zU] <;> rfl))))
          all_goals first
            | (exfalso; exact hi ⟨by assumption, by assumption⟩)
            | (refine ⟨rest2.length, ?_, k2 + 1, rest2, rfl, hd2, hp12, ?_, ?_, ?_, ?_, ?_, ?_, ?_, ?_, ?_, ?_⟩; ((simp only [List.length_cons] at *; omega)); all_goals first | (simp (disch := omega) only [push_cast, simprocAttr, hS2, hZ2, hk2, hg2, hx2, ha', hb', ha, hb, hdl1, hp21] <;> first | rfl | omega) | omega)
end Go.Proofs.Ks

namespace Go.Proofs.Ks
def NodesIn (p : List Lk) (m : Nat) : Prop := ∀ x ∈ p.dropLast.map (·.b), x < m
theorem dropLast_cons_mem {l : Lk} {q : List Lk} {x : Nat} (h : x ∈ (l :: q).dropLast.map (·.b)) : (q ≠ [] ∧ x = l.b) ∨ x ∈ q.dropLast.map (·.b) := by
  cases q with
  | nil => simp at h
  | cons y q =>
    rw [List.dropLast_cons_of_ne_nil (by simp)] at h
    simp only [List.map_cons, List.mem_cons] at h
    rcases h with h | h
    · exact .inl ⟨by simp, h⟩
    · exact .inr h
theorem dropLast_left {u r : List Lk} {x : Nat} (h : x ∈ u.dropLast.map (·.b)) : x ∈ (u ++ r).dropLast.map (·.b) := by
  by_cases hr : r = []
  · subst hr; simpa using h
  · rw [List.dropLast_append_of_ne_nil hr, List.map_append]
    obtain ⟨y, hy, e⟩ := List.mem_map.1 h
    exact List.mem_append_left _ (List.mem_map.2 ⟨y, (List.dropLast_sublist _).subset hy, e⟩)
theorem dropLast_right {u r : List Lk} {x : Nat} (h : x ∈ r.dropLast.map (·.b)) : x ∈ (u ++ r).dropLast.map (·.b) := by
  by_cases hr : r = []
  · subst hr; simp at h
  · rw [List.dropLast_append_of_ne_nil hr, List.map_append]
    exact List.mem_append_right _ h
theorem short_in {L : List Lk} {m : Nat} (hs : ∀ i p, Wk L i p i → Semi i p → NodesIn p m → 0 ≤ lenW p) : ∀ (p : List Lk) (i k : Nat), Wk L i p k → NodesIn p m → ∃ q, Wk L i q k ∧ lenW q ≤ lenW p ∧ Simple i q ∧ NodesIn q m ∧ (p = [] → q = [])
  | [], i, k, h, hn => ⟨[], h, Int.le_refl _, by simp [Simple], hn, fun _ => rfl⟩
  | l :: p, i, k, h, hn => by
    have hnp : NodesIn p m := fun x hx => hn x (by
      cases p with
      | nil => simp at hx
      | cons y p => rw [List.dropLast_cons_of_ne_nil (by simp)]; exact List.mem_cons_of_mem _ hx)
    obtain ⟨q, h1, h2, h3, h4, h5⟩ := short_in hs p l.b k h.2.2 hnp
    have hlq : NodesIn (l :: q) m := fun x hx => by
      rcases dropLast_cons_mem hx with ⟨hq, e⟩ | hx
      · have hp : p ≠ [] := fun e => hq (h5 e)
        subst e
        exact hn l.b (by rw [List.dropLast_cons_of_ne_nil hp]; simp)
      · exact h4 x hx
    by_cases hi : i ∈ l.b :: q.map (·.b)
    · have hw : Wk L i (l :: q) k := ⟨h.1, h.2.1, h1⟩
      obtain ⟨u, r, e1, e2, e3, e4, e5⟩ := hw.split1 (j := i) hi
      have hse : Semi i u := by
        refine List.nodup_cons.2 ⟨e5, ?_⟩
        have h6 : (u.map (·.b) ++ r.map (·.b)).Nodup := by rw [← List.map_append, ← e1]; exact h3
        rw [List.map_dropLast]
        exact (List.nodup_append.1 h6).1.sublist (List.dropLast_sublist _)
      have h4' := hs i u e3 hse (fun x hx => hlq x (by rw [e1]; exact dropLast_left hx))
      have h5' : lenW (l :: q) = lenW u + lenW r := by rw [e1, lenW_append]
      refine ⟨r, e4, ?_, ?_, fun x hx => hlq x (by rw [e1]; exact dropLast_right hx), fun hc => by cases hc⟩
      · simp only [lenW] at h5' ⊢; omega
      · cases u with
        | nil => exact absurd rfl e2
        | cons x u =>
          simp only [List.cons_append, List.cons.injEq] at e1
          obtain ⟨rfl, e1⟩ := e1
          by_cases hu : u = []
          · subst hu
            have := e3.2.2
            simp only [Wk] at this
            rw [List.nil_append] at e1
            rw [← this, ← e1]; exact h3
          · exact h3.suffix e1 hu e3.2.2
    · exact ⟨l :: q, ⟨h.1, h.2.1, h1⟩, by simp only [lenW]; omega, by unfold Simple; exact List.nodup_cons.2 ⟨hi, h3⟩, hlq, fun hc => by cases hc⟩
def FR (L : List Lk) (n : Nat) (o : Mx) (m : Nat) : Prop := ∀ i k, i < n → k < n → mget o i k < far → ∃ p, Wk L i p k ∧ lenW p = mget o i k ∧ NodesIn p m
def Dim (o : Mx) (n : Nat) : Prop := o.length = n ∧ ∀ i, i < n → (o.getD i []).length = n
theorem Dim.set {o : Mx} {n i k : Nat} {v : Int} (h : Dim o n) (hi : i < n) : Dim (mset o i k v) n := ⟨by simp [mset, h.1], fun j hj => mset_row h.1 h.2 hi hj⟩
theorem Dim.cell {o : Mx} {n m i k : Nat} (h : Dim o n) (hi : i < n) : Dim (fwCell m i k o) n := by
  unfold fwCell; split
  · exact h.set hi
  · exact h
theorem NodesIn.mono {p : List Lk} {m m' : Nat} (h : NodesIn p m) (hm : m ≤ m') : NodesIn p m' := fun x hx => Nat.lt_of_lt_of_le (h x hx) hm
theorem all_in {L : List Lk} {p : List Lk} {i k m : Nat} (hw : Wk L i p k) (hn : NodesIn p m) (hk : k < m) : ∀ x ∈ p.map (·.b), x < m := by
  intro x hx
  by_cases hp : p = []
  · subst hp; simp at hx
  · obtain ⟨u, l, rfl⟩ : ∃ u l, p = u ++ [l] := ⟨p.dropLast, p.getLast hp, (List.dropLast_concat_getLast _).symm⟩
    obtain ⟨_, _, e⟩ := hw.unsnoc
    unfold NodesIn at hn
    rw [List.dropLast_concat] at hn
    simp only [List.map_append, List.map_cons, List.map_nil, List.mem_append, List.mem_singleton] at hx
    rcases hx with hx | hx
    · exact hn x hx
    · omega
section
variable {L : List Lk} {n : Nat} {B : Int}
theorem FR.cell {o : Mx} {m i k : Nat} (hd : Dim o n) (h : FR L n o (m + 1)) (hm : m < n) (hi : i < n) (hk : k < n) : FR L n (fwCell m i k o) (m + 1) := by
  unfold fwCell
  split
  · rename_i hc
    intro a b ha hb hf
    rw [mget_mset hd.1 hd.2 hi hk] at hf ⊢
    split
    · rename_i e; obtain ⟨rfl, rfl⟩ := e
      rw [if_pos ⟨rfl, rfl⟩] at hf
      by_cases hle : mget o i k ≤ mget o i m + mget o m k
      · rw [show min (mget o i k) (mget o i m + mget o m k) = mget o i k by omega] at hf ⊢
        exact h i k hi hk hf
      · rw [show min (mget o i k) (mget o i m + mget o m k) = mget o i m + mget o m k by omega]
        obtain ⟨p, p1, p2, p3⟩ := h i m hi hm hc.1
        obtain ⟨q, q1, q2, q3⟩ := h m k hm hk hc.2
        refine ⟨p ++ q, p1.append q1, by rw [lenW_append, p2, q2], fun x hx => ?_⟩
        by_cases hq : q = []
        · subst hq; exact p3 x (by simpa using hx)
        · rw [List.dropLast_append_of_ne_nil hq, List.map_append] at hx
          rcases List.mem_append.1 hx with hx | hx
          · exact all_in p1 p3 (Nat.lt_succ_self _) x hx
          · exact q3 x hx
    · rename_i e
      rw [if_neg e] at hf
      exact h a b ha hb hf
  · exact h
structure FS (L : List Lk) (n : Nat) (o : Mx) (m : Nat) : Prop where
  fw : FW L n o m
  fr : FR L n o m
  diag : ∀ i, i < n → 0 ≤ mget o i i
theorem FS.low (hL : ∀ l ∈ L, l.a < n ∧ l.b < n) (hB0 : 0 ≤ B) (hB : ∀ l ∈ L, -B ≤ l.m ∧ l.m ≤ B) {o : Mx} {m : Nat} (h : FS L n o m) {i k : Nat} (hi : i < n) (hk : k < n) : -(B * (n : Int)) ≤ mget o i k := by
  by_cases hf : mget o i k < far
  · obtain ⟨p, p1, p2, p3⟩ := h.fr i k hi hk hf
    obtain ⟨q, q1, q2, q3, _⟩ := short_in (m := m) (fun j w hw hse hn => by
      by_cases hj : j < n
      · have := h.fw.low j j w hj hj hw hse hn
        have := h.diag j hj
        omega
      · cases w with
        | nil => simp [lenW]
        | cons l w => have := hL l hw.1; have := hw.2.1; omega) p i k p1 p3
    have h1 := q3.len q1 hL hi
    have h2 := (lenW_bound q (fun x hx => hB x (q1.mem x hx))).1
    have h3 : B * (q.length : Int) ≤ B * (n : Int) := Int.mul_le_mul_of_nonneg_left (by omega) hB0
    omega
  · have h1 : (0 : Int) ≤ far := by decide
    have h2 : 0 ≤ B * (n : Int) := Int.mul_nonneg hB0 (by omega)
    omega
structure Mid (n m : Nat) (o0 o : Mx) : Prop where
  dim : Dim o n
  each : ∀ x y, x < n → y < n → mget o x y = mget o0 x y ∨ (mget o x y = mget o0 x m + mget o0 m y ∧ mget o0 x m < far ∧ mget o0 m y < far)
  col : ∀ x, x < n → mget o x m = mget o0 x m
  row : ∀ y, y < n → mget o m y = mget o0 m y
theorem Mid.refl {o : Mx} {m : Nat} (h : Dim o n) : Mid n m o o := ⟨h, fun _ _ _ _ => .inl rfl, fun _ _ => rfl, fun _ _ => rfl⟩
theorem Mid.cell {o0 o : Mx} {m i k : Nat} (h : Mid n m o0 o) (h0 : 0 ≤ mget o0 m m) (hm : m < n) (hi : i < n) (hk : k < n) : Mid n m o0 (fwCell m i k o) := by
  have h1 := h.col i hi
  have h2 := h.row k hk
  have h3 := h.col m hm
  refine ⟨h.dim.cell hi, fun x y hx hy => ?_, fun x hx => ?_, fun y hy => ?_⟩
  all_goals (unfold fwCell; split)
  · rename_i hc
    rw [mget_mset h.dim.1 h.dim.2 hi hk]
    split
    · rename_i e; obtain ⟨rfl, rfl⟩ := e
      by_cases hle : mget o i k ≤ mget o i m + mget o m k
      · rw [show min (mget o i k) (mget o i m + mget o m k) = mget o i k by omega]
        exact h.each i k hi hk
      · rw [show min (mget o i k) (mget o i m + mget o m k) = mget o i m + mget o m k by omega]
        exact .inr ⟨by rw [h1, h2], by omega, by omega⟩
    · exact h.each x y hx hy
  · exact h.each x y hx hy
  · rename_i hc
    rw [mget_mset h.dim.1 h.dim.2 hi hk]
    split
    · rename_i e; obtain ⟨rfl, rfl⟩ := e
      omega
    · exact h.col x hx
  · exact h.col x hx
  · rename_i hc
    rw [mget_mset h.dim.1 h.dim.2 hi hk]
    split
    · rename_i e; obtain ⟨rfl, rfl⟩ := e
      omega
    · exact h.row y hy
  · exact h.row y hy
theorem FR.row {m : Nat} (hm : m < n) {i : Nat} (hi : i < n) : ∀ (c k : Nat) (o : Mx), k + c = n → Dim o n → FR L n o (m + 1) → FR L n (fwRow m i c k o) (m + 1) ∧ Dim (fwRow m i c k o) n
  | 0, k, o, _, hd, h => ⟨h, hd⟩
  | c + 1, k, o, hc, hd, h => FR.row hm hi c (k + 1) _ (by omega) (hd.cell hi) (h.cell hd hm hi (by omega))
theorem FR.step {m : Nat} (hm : m < n) : ∀ (c i : Nat) (o : Mx), i + c = n → Dim o n → FR L n o (m + 1) → FR L n (fwStep m n c i o) (m + 1) ∧ Dim (fwStep m n c i o) n
  | 0, i, o, _, hd, h => ⟨h, hd⟩
  | c + 1, i, o, hc, hd, h => by
    obtain ⟨h1, h2⟩ := FR.row hm (i := i) (by omega) n 0 o (by omega) hd h
    exact FR.step hm c (i + 1) _ (by omega) h2 h1
theorem FS.next (hL : ∀ l ∈ L, l.a < n ∧ l.b < n) (hB0 : 0 ≤ B) (hB : ∀ l ∈ L, -B ≤ l.m ∧ l.m ≤ B) (hfar : B * (n : Int) < far) {o : Mx} {m : Nat} (h : FS L n o m) (hm : m < n) (hg : negD (fwStep m n n 0 o) n 0 = false) : FS L n (fwStep m n n 0 o) (m + 1) := by
  obtain ⟨a1, _, a3⟩ := step_fw hL hB0 hB hfar hm n 0 o (by omega) h.fw
  have hr := FR.step (L := L) hm n 0 o (by omega) ⟨h.fw.len, h.fw.row⟩ (fun i k hi hk hf => by
    obtain ⟨p, p1, p2, p3⟩ := h.fr i k hi hk hf
    exact ⟨p, p1, p2, p3.mono (Nat.le_succ _)⟩)
  exact ⟨⟨a1.len, a1.row, a1.le, a1.real, fun i k p hi hk hw hs hp => a3 i (Nat.zero_le _) hi k hk p hw hs hp⟩, hr.1, fun i hi => negD_false _ _ _ hg i (Nat.zero_le _) (by omega)⟩
structure FL (L : List Lk) (n : Nat) (o : Mx) : Prop where
  dim : Dim o n
  each : ∀ i k, i < n → k < n → (mget o i k = far ∧ i ≠ k) ∨ (mget o i k = 0 ∧ i = k) ∨ ∃ l ∈ L, l.a = i ∧ l.b = k ∧ mget o i k = l.m ∧ i ≠ k
theorem FL.init : FL L n (fwInit n) := ⟨⟨by simp [fwInit], fun i hi => fwInit_row hi⟩, fun i k hi hk => by
  rw [fwInit_get hi hk]
  by_cases h : i = k
  · exact .inr (.inl ⟨by rw [if_neg (by simp [h])], h⟩)
  · exact .inl ⟨by rw [if_pos h], h⟩⟩
theorem FL.link (hL : ∀ l ∈ L, l.a < n ∧ l.b < n) (hs : ∀ l ∈ L, l.a ≠ l.b) {o : Mx} (h : FL L n o) {x : Lk} (hx : x ∈ L) : FL L n (fwLink o x) := by
  obtain ⟨ha, hb⟩ := hL x hx
  refine ⟨h.dim.set ha, fun i k hi hk => ?_⟩
  unfold fwLink
  rw [mget_mset h.dim.1 h.dim.2 ha hb]
  split
  · rename_i e; obtain ⟨rfl, rfl⟩ := e
    by_cases hle : mget o x.a x.b ≤ x.m
    · rw [show min (mget o x.a x.b) x.m = mget o x.a x.b by omega]
      exact h.each _ _ hi hk
    · rw [show min (mget o x.a x.b) x.m = x.m by omega]
      exact .inr (.inr ⟨x, hx, rfl, rfl, rfl, hs x hx⟩)
  · exact h.each i k hi hk
theorem FL.links (hL : ∀ l ∈ L, l.a < n ∧ l.b < n) (hs : ∀ l ∈ L, l.a ≠ l.b) : ∀ (R : List Lk) (o : Mx), (∀ l ∈ R, l ∈ L) → FL L n o → FL L n (fwLinks R o)
  | [], _, _, h => h
  | x :: R, _, hR, h => FL.links hL hs R _ (fun l hl => hR l (by simp [hl])) (h.link hL hs (hR x (by simp)))
theorem FS.start (hL : ∀ l ∈ L, l.a < n ∧ l.b < n) (hs : ∀ l ∈ L, l.a ≠ l.b) : FS L n (fwLinks L (fwInit n)) 0 := by
  have h := FL.links hL hs L _ (fun _ h => h) FL.init
  refine ⟨start_fw hL, fun i k hi hk hf => ?_, fun i hi => ?_⟩
  · rcases h.each i k hi hk with ⟨e, _⟩ | ⟨e, rfl⟩ | ⟨l, hl, rfl, rfl, e, _⟩
    · rw [e] at hf; exact absurd hf (by decide)
    · exact ⟨[], rfl, by rw [e]; rfl, fun x hx => by simp at hx⟩
    · exact ⟨[l], ⟨hl, rfl, rfl⟩, by rw [e]; simp [lenW], fun x hx => by simp at hx⟩
  · rcases h.each i i hi hi with ⟨_, e⟩ | ⟨e, _⟩ | ⟨l, _, _, _, _, e⟩
    · exact absurd rfl e
    · rw [e]; exact Int.le_refl _
    · exact absurd rfl e
end
end Go.Proofs.Ks

namespace Go.Proofs.Ks
open Go Go.Pg Go.Proofs
theorem relax_bd {d b : List Int} {c : Int} {n S k : Nat} {l : Lk} (h : BdD d n S) (ha : l.a < n) (hb : l.b < n) (hm : -1073741823 ≤ l.m ∧ l.m ≤ 1073741823) : BdD (relax (d, b, c) k l).1 n (S + 1) := by
  unfold relax
  split
  · rename_i hi; exact h.relax ha hb hm hi.2
  · exact h.mono (Nat.le_succ _)
theorem round_bd {n : Nat} : ∀ (R : List Lk) (k S : Nat) (p : BS), (∀ l ∈ R, l.a < n ∧ l.b < n) → (∀ l ∈ R, -1073741823 ≤ l.m ∧ l.m ≤ 1073741823) → BdD p.1 n S → BdD (roundF R k p).1 n (S + R.length)
  | [], _, _, _, _, _, h => h
  | l :: R, k, S, p, hL, hm, h => by
    obtain ⟨d, b, c⟩ := p
    have h1 := relax_bd (b := b) (c := c) (k := k) h (hL l (by simp)).1 (hL l (by simp)).2 (hm l (by simp))
    have := round_bd R (k + 1) (S + 1) _ (fun x hx => hL x (by simp [hx])) (fun x hx => hm x (by simp [hx])) h1
    rw [List.length_cons, show S + (R.length + 1) = S + 1 + R.length by omega]
    exact this
theorem loop_bd {n : Nat} {L : List Lk} (hL : ∀ l ∈ L, l.a < n ∧ l.b < n) (hm : ∀ l ∈ L, -1073741823 ≤ l.m ∧ l.m ≤ 1073741823) : ∀ (c S : Nat) (d b : List Int), BdD d n S → BdD (loopF L c d b).1 n (S + c * L.length)
  | 0, S, d, b, h => by
    unfold loopF
    rcases last_case L 0 d b with ⟨e, _⟩ | ⟨_, _, _, _, e⟩ <;> rw [e] <;> exact h.mono (by omega)
  | c + 1, S, d, b, h => by
    have h1 := round_bd L 0 S (d, b, -1) hL hm h
    unfold loopF
    rw [Nat.succ_mul]
    split
    · exact h1.mono (by omega)
    · exact (loop_bd hL hm c (S + L.length) _ _ h1).mono (by omega)
theorem lengths_bd {nd : List Node} {L : List Lk} (f : Int) (hn : nd.length ≤ 100) (hll : L.length ≤ 10000) (hL : ∀ l ∈ L, l.a < nd.length ∧ l.b < nd.length) (hm : ∀ l ∈ L, -1073741823 ≤ l.m ∧ l.m ≤ 1073741823) : BdD (lengthsF nd.length L f).1 nd.length 1000000 := by
  refine (loop_bd hL hm nd.length 0 _ _ (BdD.init nd.length f)).mono ?_
  have := Nat.mul_le_mul hn hll
  omega
theorem consistent_ok (nd : List Node) (L : List Lk) (hn : nd.length ≤ 100) (hll : L.length ≤ 10000) (hL : ∀ l ∈ L, l.a < nd.length ∧ l.b < nd.length) (hm : ∀ l ∈ L, -1073741823 ≤ l.m ∧ l.m ≤ 1073741823) :
    OKv cx 98 [gSys nd L] (ab (decide ((lengthsF nd.length L (-1)).2.2 < 0))) := by
  refine OKat.of_body (rs := [2]) Try.func98 rfl (by decide +kernel) rfl (by simp [Try.ntmps98]) ?_
  simp only [Try.ntmps98]
  repeat' first
    | apply AW.seq | apply AW.region | apply AW.ret | apply AW.block | apply AW.skip | apply AW.exit | apply AW.scope | apply AW.label | apply AWL.nil
    | ((first | (apply W.step cx_ok; decide) | apply AW.cond); (simp (disch := omega) only [push_cast, simprocAttr] <;> rfl); all_goals try ((with_reducible intro hI); try first | (cases hI; done) | (simp only [INTS, zL] at hI; try first | (exfalso; omega) | (have hT : True := hI; clear hT hI))))
    | ((apply W.callv cx_ok; decide); (iterate 2 (simp (disch := omega) only [push_cast, simprocAttr] <;> rfl)); (with_reducible first | exact lengths_ok nd L _ hn hll hL hm); try first | rfl | (simp (disch := omega) only [push_cast, simprocAttr] <;> rfl))
    | ((first | apply W.ret1 | apply W.end1); (iterate 2 (try (simp (disch := omega) only [push_cast, simprocAttr] <;> rfl))))
  all_goals (show _ = _; rfl)
def spanF (nd : List Node) (L : List Lk) (f t : Nat) : Span := ⟨-((lengthsF nd.length L (t : Int)).1.getD f 0), (lengthsF nd.length L (f : Int)).1.getD t 0⟩
theorem span_ok (nd : List Node) (L : List Lk) (f t : Nat) (hn : nd.length ≤ 100) (hll : L.length ≤ 10000) (hL : ∀ l ∈ L, l.a < nd.length ∧ l.b < nd.length) (hm : ∀ l ∈ L, -1073741823 ≤ l.m ∧ l.m ≤ 1073741823) (hf : f < nd.length) (ht : t < nd.length) :
    OKv cx 82 [gSys nd L, ai f, ai t] (.agg (eSpan (spanF nd L f t))) := by
  obtain ⟨l1, b1⟩ := lengths_bd (nd := nd) (f : Int) hn hll hL hm
  obtain ⟨l2, b2⟩ := lengths_bd (nd := nd) (t : Int) hn hll hL hm
  have c1 := b1 t ht
  have c2 := b2 f hf
  unfold far at c1 c2
  have e : spanF nd L f t = ⟨-((lengthsF nd.length L (t : Int)).1.getD f 0), (lengthsF nd.length L (f : Int)).1.getD t 0⟩ := rfl
  rw [e]
  obtain ⟨P, hP⟩ : ∃ z, lengthsF nd.length L (f : Int) = z := ⟨_, rfl⟩
  obtain ⟨Q, hQ⟩ : ∃ z, lengthsF nd.length L (t : Int) = z := ⟨_, rfl⟩
  rw [hP] at l1 c1 ⊢
  rw [hQ] at l2 c2 ⊢
  have hf' : (f : Int) < (nd.length : Int) := by omega
  have ht' : (t : Int) < (nd.length : Int) := by omega
  refine OKat.of_bodyM cx_ok (rs := [.cell 6 23]) Try.func82 rfl (by decide +kernel) rfl (by simp [Try.ntmps82]) ?_
  simp only [Try.ntmps82]
  repeat' first
    | apply AW.seq | apply AW.region | apply AW.ret | apply AW.block | apply AW.skip | apply AW.exit | apply AW.scope | apply AW.label | apply AWL.nil | apply D.nil
    | refine AW.draw (id := 3) cx_mixed [10] [] [] 0 (by decide +kernel) ?_
    | refine W.draw cx_mixed (by decide +kernel) ?_
    | ((first | (apply W.step cx_ok; decide) | (apply D.step cx_ok; decide; decide) | apply W.store cx_ok | apply AW.cond); (simp (disch := omega) only [push_cast, simprocAttr, hP, hQ, l1, l2, hf, ht, hf', ht', yD] <;> rfl); all_goals try ((with_reducible intro hI); try first | (cases hI; done) | (simp only [INTS, zL] at hI; try first | (exfalso; omega) | (have hT : True := hI; clear hT hI))))
    | ((first | (apply D.store cx_ok; decide) | (apply D.stept cx_ok; decide; decide) | (apply D.stepm cx_ok; decide; decide)); (simp (disch := omega) only [push_cast, simprocAttr, hP, hQ, l1, l2, hf, ht, hf', ht', yD] <;> rfl); try first | exact .inl rfl | exact .inr (by simp))
    | ((apply D.alloct cx_ok; decide; decide); (simp (disch := omega) only [push_cast, simprocAttr, hP, hQ, l1, l2, hf, ht, hf', ht', yD] <;> rfl); first | exact .inl rfl | exact .inr (by simp))
    | ((first | (apply W.callv cx_ok; decide) | (apply D.callv cx_ok; decide; decide) | (apply D.callvt cx_ok; decide; decide)); (iterate 2 (simp (disch := omega) only [push_cast, simprocAttr, hP, hQ, l1, l2, hf, ht, hf', ht', yD] <;> rfl)); (with_reducible first | exact lengths_ok nd L _ hn hll hL hm); try first | rfl | (simp (disch := omega) only [push_cast, simprocAttr, hP, hQ, l1, l2, hf, ht, hf', ht', yD] <;> rfl))
    | ((first | apply W.retM | apply W.endM'); (iterate 2 (try (simp (disch := omega) only [push_cast, simprocAttr, hP, hQ, l1, l2, hf, ht, hf', ht', yD] <;> rfl))))
  all_goals (show _ = _; rfl)
abbrev encM (o : Mx) : AV := .lst (o.map fun row => [lInt row])
theorem between_ok (o : Mx) (n f t : Nat) (hd' : Dim o n) (hn : n ≤ 100) (hf : f < n) (ht : t < n) (hb : -1000000000000000 ≤ mget o t f ∧ mget o t f ≤ 1125899906842624) : OKv cx 84 [encM o, ai f, ai t] (.agg (eSpan ⟨-(mget o t f), mget o f t⟩)) := by
  have hlen := hd'.1
  have hrf := hd'.2 f hf
  have hrt := hd'.2 t ht
  have hf' : (f : Int) < (o.length : Int) := by omega
  have ht' : (t : Int) < (o.length : Int) := by omega
  have hfn : (f : Int) < (n : Int) := by omega
  have htn : (t : Int) < (n : Int) := by omega
  have hf2 : (f : Int) < ((o.getD t []).length : Int) := by omega
  have ht2 : (t : Int) < ((o.getD f []).length : Int) := by omega
  have g1 : (o.map fun row => [lInt row]).getD f [] = [lInt (o.getD f [])] := getD_map (fun row => [lInt row]) o f [] [] (by omega)
  have g2 : (o.map fun row => [lInt row]).getD t [] = [lInt (o.getD t [])] := getD_map (fun row => [lInt row]) o t [] [] (by omega)
  unfold mget at hb ⊢
  obtain ⟨rf, hrf'⟩ : ∃ z, o.getD f [] = z := ⟨_, rfl⟩
  obtain ⟨rt, hrt'⟩ : ∃ z, o.getD t [] = z := ⟨_, rfl⟩
  rw [hrf'] at hrf ht2 g1 ⊢
  rw [hrt'] at hrt hf2 g2 hb ⊢
  refine OKat.of_bodyM cx_ok (rs := [.cell 6 23]) Try.func84 rfl (by decide +kernel) rfl (by simp [Try.ntmps84]) ?_
  simp only [Try.ntmps84]
  repeat' first
    | apply AW.seq | apply AW.region | apply AW.ret | apply AW.block | apply AW.skip | apply AW.exit | apply AW.scope | apply AW.label | apply AWL.nil | apply D.nil
    | refine AW.draw (id := 1) cx_mixed [16] [] [] 0 (by decide +kernel) ?_
    | refine W.draw cx_mixed (by decide +kernel) ?_
    | ((first | (apply W.step cx_ok; decide) | (apply D.step cx_ok; decide; decide) | apply W.store cx_ok | apply AW.cond); (simp (disch := omega) only [push_cast, simprocAttr, hlen, hrf, hrt, hf, ht, hf', ht', hf2, ht2, hfn, htn, g1, g2, yD] <;> rfl); all_goals try ((with_reducible intro hI); try first | (cases hI; done) | (simp only [INTS, zL] at hI; try first | (exfalso; omega) | (have hT : True := hI; clear hT hI))))
    | ((first | (apply D.store cx_ok; decide) | (apply D.stept cx_ok; decide; decide) | (apply D.stepm cx_ok; decide; decide)); (simp (disch := omega) only [push_cast, simprocAttr, hlen, hrf, hrt, hf, ht, hf', ht', hf2, ht2, hfn, htn, g1, g2, yD] <;> rfl); try first | exact .inl rfl | exact .inr (by simp))
    | ((apply D.alloct cx_ok; decide; decide); (simp (disch := omega) only [push_cast, simprocAttr, hlen, hrf, hrt, hf, ht, hf', ht', hf2, ht2, hfn, htn, g1, g2, yD] <;> rfl); first | exact .inl rfl | exact .inr (by simp))
    | ((first | apply W.retM | apply W.endM'); (iterate 2 (try (simp (disch := omega) only [push_cast, simprocAttr, hlen, hrf, hrt, hf, ht, hf', ht', hf2, ht2, hfn, htn, g1, g2, yD] <;> rfl))))
  all_goals (show _ = _; rfl)
end Go.Proofs.Ks

namespace Go.Proofs.Ks
open Go Go.Pg Go.Proofs
attribute [push_cast] rowAt_mask
def Rows (H : Nat → Option AO) (n : Nat) (o : Mx) : Prop := ∀ x, x < n → Pg.rowAt H (1 + x) = some { k := 1, es := (o.getD x []).map eInt, ty := 3 }
theorem Rows.upd {H : Nat → Option AO} {n : Nat} {o : Mx} {id : Nat} {a : AO} (h : Rows H n o) (hid : id = 0 ∨ n < id) : Rows (updH H id a) n o := fun x hx => by
  have := h x hx
  unfold Pg.rowAt updH
  rw [if_neg (by omega)]; exact this
theorem Rows.set {H : Nat → Option AO} {n i k : Nat} {o : Mx} {v : Int} (h : Rows H n o) (hi : i < o.length) : Rows (updH H (1 + i) (.row { k := 1, es := ((o.getD i []).map eInt).set k [ai v], ty := 3 })) n (mset o i k v) := fun x hx => by
  by_cases e : x = i
  · subst e
    have e1 : (mset o x k v).getD x [] = (o.getD x []).set k v := by
      unfold mset; rw [List.getD_eq_getElem?_getD, List.getElem?_set]; simp [hi]
    rw [e1, List.map_set]
    unfold Pg.rowAt updH; simp
  · have e1 : (mset o i k v).getD x [] = o.getD x [] := by
      unfold mset; rw [List.getD_eq_getElem?_getD, List.getElem?_set, if_neg (fun h => e h.symm), ← List.getD_eq_getElem?_getD]
    rw [e1]
    have := h x hx
    unfold Pg.rowAt updH
    rw [if_neg (by omega)]; exact this
theorem Rows.succ {H : Nat → Option AO} {k : Nat} {o : Mx} (h : Rows H k o) (hk : Pg.rowAt H (1 + k) = some { k := 1, es := (o.getD k []).map eInt, ty := 3 }) : Rows H (k + 1) o := fun x hx => by
  by_cases e : x = k
  · subst e; exact hk
  · exact h x (by omega)
def outP (n k : Nat) : List (List AV) := (List.range k).map (fun i => [AV.ref (1 + i) 0 n]) ++ List.replicate (n - k) [AV.v (.slice none 0 0)]
theorem outP_len {n k : Nat} (h : k ≤ n) : (outP n k).length = n := by simp [outP]; omega
theorem outP_zero (n : Nat) : outP n 0 = List.replicate n [AV.v (.slice none 0 0)] := by simp [outP]
theorem outP_succ {n k : Nat} (h : k < n) : outP n (k + 1) = (outP n k).set k [AV.ref (1 + k) 0 n] := by
  unfold outP
  have e : List.replicate (n - k) [AV.v (.slice none 0 0)] = [AV.v (.slice none 0 0)] :: List.replicate (n - (k + 1)) [AV.v (.slice none 0 0)] := by
    rw [show n - k = (n - (k + 1)) + 1 by omega, List.replicate_succ]
  rw [e, List.set_append_right _ _ (by simp), List.range_succ, List.map_append]
  simp
theorem outP_next {n k : Nat} (h : k < n) : List.drop 1 ((outP n k).getD k []) = [] := by
  unfold outP
  have e : List.replicate (n - k) [AV.v (.slice none 0 0)] = [AV.v (.slice none 0 0)] :: List.replicate (n - (k + 1)) [AV.v (.slice none 0 0)] := by
    rw [show n - k = (n - (k + 1)) + 1 by omega, List.replicate_succ]
  rw [e, List.getD_eq_getElem?_getD, List.getElem?_append_right (by simp)]
  simp
theorem outP_get {n k i : Nat} (hi : i < k) : (outP n k).getD i [] = [AV.ref (1 + i) 0 n] ∧ (outP n k)[i]? = some [AV.ref (1 + i) 0 n] := by
  have e : (outP n k)[i]? = some [AV.ref (1 + i) 0 n] := by
    unfold outP
    rw [List.getElem?_append_left (by simpa using hi), List.getElem?_map, List.getElem?_range hi]; rfl
  exact ⟨by rw [List.getD_eq_getElem?_getD, e]; rfl, e⟩
def rowI (n k j : Nat) : List Int := (List.range j).map (fun c => if k ≠ c then far else 0) ++ List.replicate (n - j) 0
theorem rowI_len {n k j : Nat} (h : j ≤ n) : (rowI n k j).length = n := by simp [rowI]; omega
theorem rowI_zero (n k : Nat) : rowI n k 0 = List.replicate n 0 := by simp [rowI]
theorem rowI_all {n k : Nat} (h : k < n) : rowI n k n = (fwInit n).getD k [] := by
  unfold rowI fwInit
  rw [List.getD_eq_getElem?_getD, List.getElem?_map, List.getElem?_range h, Nat.sub_self]
  simp
theorem rowI_succ {n k j : Nat} (h : j < n) : rowI n k (j + 1) = (rowI n k j).set j (if k ≠ j then far else 0) := by
  unfold rowI
  have e : List.replicate (n - j) (0 : Int) = 0 :: List.replicate (n - (j + 1)) 0 := by
    rw [show n - j = (n - (j + 1)) + 1 by omega, List.replicate_succ]
  rw [e, set_mid (by simp), List.range_succ, List.map_append]
  simp
theorem rowI_same {n j : Nat} (h : j < n) : rowI n j (j + 1) = rowI n j j := by
  unfold rowI
  have e : List.replicate (n - j) (0 : Int) = 0 :: List.replicate (n - (j + 1)) 0 := by
    rw [show n - j = (n - (j + 1)) + 1 by omega, List.replicate_succ]
  rw [e, List.range_succ, List.map_append]
  simp
theorem pure_encM (o : Mx) : (o.map fun row => [lInt row]).all pureL = true := pure_map (fun _ => rfl) o
theorem take_encM (o : Mx) (n : Nat) (h : o.length = n) : (o.map fun row => [lInt row]).take n = o.map fun row => [lInt row] := by rw [List.take_of_length_le (by simp [h])]
theorem told_rows {H : Nat → Option AO} {n : Nat} {o : Mx} (hr : Rows H n o) (hd : Dim o n) : ∀ (i : Nat) (e e' : List AV), (outP n n)[i]? = some e → (o.map fun row => [lInt row])[i]? = some e' →
    e'.length = e.length ∧ ∀ (j : Nat) (a b : AV), e[j]? = some a → e'[j]? = some b → Pg.Told H a b ∧ ∀ x ∈ idsA a, x ∈ (List.range n).map (1 + ·) := fun i e e' h1 h2 => by
  have hi : i < n := by
    obtain ⟨h, _⟩ := List.getElem?_eq_some_iff.1 h2
    rw [List.length_map, hd.1] at h; exact h
  rw [(outP_get hi).2] at h1
  injection h1 with h1
  have e2 : (o.map fun row => [lInt row])[i]? = some [lInt (o.getD i [])] := get_map (fun row => [lInt row]) o i [] (by rw [hd.1]; exact hi)
  rw [e2] at h2
  injection h2 with h2
  subst h1; subst h2
  refine ⟨rfl, fun j a b ha hb => ?_⟩
  cases j with
  | succ j => simp at ha
  | zero =>
    simp only [List.getElem?_cons_zero, Option.some.injEq] at ha hb
    subst ha; subst hb
    refine ⟨.view ?_, fun x hx => ?_⟩
    · have hl := hd.2 i hi
      unfold viewA
      rw [hr i hi]
      dsimp only
      generalize o.getD i [] = row at hl ⊢
      rw [if_pos ⟨Nat.zero_le _, by rw [List.length_map, hl]; omega, pure_ints _⟩, List.drop_zero, List.take_of_length_le (by rw [List.length_map, hl]; exact Nat.le_refl _)]
    · simp only [idsA, List.mem_singleton] at hx
      subst hx
      exact List.mem_map.2 ⟨i, List.mem_range.2 hi, rfl⟩
theorem rowAt_frzM (H : Nat → Option AO) (ids : List Nat) (id : Nat) (a : AO) (r : Row) (h : a = .row r) : Pg.rowAt (updH (frz H ids) id a) id = some r := by
  subst h; unfold Pg.rowAt updH; simp
theorem closure_ok (n0 : Nat) (L : List Lk) (hn : n0 ≤ 100) (hll : L.length ≤ 10000) (hL : ∀ l ∈ L, l.a < n0 ∧ l.b < n0) (hm : ∀ l ∈ L, -1073741823 ≤ l.m ∧ l.m ≤ 1073741823) (hse : ∀ l ∈ L, l.a ≠ l.b) :
    OKv cx 104 [ai n0, lLink L] (match closureF n0 L with | some o => .tup [encM o, ab true] | none => .tup [.lst [], ab false]) := by
  obtain ⟨RES, hRES⟩ : ∃ z, closureF n0 L = z := ⟨_, rfl⟩
  rw [hRES]
  unfold closureF at hRES
  have k1 : ((n0 : Int) * 24 ≤ 281474976710656) = True := eq_true (by omega)
  have k2 : ((n0 : Int) * 8 ≤ 281474976710656) = True := eq_true (by omega)
  have k3 : ((n0 : Int) ≤ 281474976710656) = True := eq_true (by omega)
  refine OKat.of_body (rs := [4, 5]) Try.func104 rfl (by decide +kernel) rfl (by simp [Try.ntmps104]) ?_
  simp only [Try.ntmps104]
  repeat' first
    | apply AW.seq | apply AW.region | apply AW.ret | apply AW.block | apply AW.skip | apply AW.exit | apply AW.scope | apply AW.label | apply AWL.nil | apply D.nil
    | refine W.draw cx_mixed (by decide +kernel) ?_
    | ((first | (apply W.step cx_ok; decide) | (apply D.step cx_ok; decide; decide) | apply W.store cx_ok | (apply W.gS; rfl; decide) | (apply D.gS; rfl; decide; decide) | apply AW.cond); (simp (disch := omega) only [push_cast, simprocAttr, k1, k2, k3, zT, zS, zU, List.map_replicate] <;> rfl); all_goals try ((with_reducible intro hI); try first | (cases hI; done) | (simp only [INTS, zL] at hI; try first | (exfalso; omega) | (have hT : True := hI; clear hT hI))))
    | ((first | apply W.ret2 | apply W.end2); (iterate 2 (try (simp (disch := omega) only [push_cast, simprocAttr, k1, k2, k3, zT, zS, zU, List.map_replicate] <;> rfl))))
  refine AW.loop (fun n s => ∃ (k : Nat), n = n0 - k ∧ (k ≤ n0) ∧ (Rows s.H k (fwInit n0)) ∧ s.tm 0 = ai n0 ∧ s.tm 1 = lLink L ∧ s.tm 6 = .ref 0 0 n0 ∧ s.tm 7 = ai k ∧ Pg.rowAt s.H (0) = some ({ k := 1, es := outP n0 k, ty := 41 }) ∧ s.nx = 1 + k) (n0) ⟨0, rfl, (Nat.zero_le _), (fun x hx => absurd hx (Nat.not_lt_zero _)), ?_, ?_, ?_, ?_, ?_, ?_⟩ ?_
  iterate 6 (first | (simp (disch := omega) only [push_cast, simprocAttr, k1, k2, k3, zT, zS, zU, List.map_replicate, outP_zero] <;> first | rfl | omega) | omega)
  rintro n s ⟨k, hn, hp0, hp1, hS⟩
  by_cases hlt : k < n0
  · have hk : (k : Int) < (n0 : Int) := by omega
    have hol := outP_len hp0
    have hos := outP_succ hlt
    have hdz := outP_next hlt
    have z0 : ((0 : Nat) = 1 + k) = False := eq_false (by omega)
    have z1 : (1 + k = 0) = False := eq_false (by omega)
    repeat' first
      | apply AW.seq | apply AW.region | apply AW.ret | apply AW.block | apply AW.skip | apply AW.exit | apply AW.scope | apply AW.label | apply AWL.nil | apply D.nil
      | refine W.draw cx_mixed (by decide +kernel) ?_
      | ((first | (apply W.step cx_ok; decide) | (apply D.step cx_ok; decide; decide) | apply W.store cx_ok | (apply W.gS; rfl; decide) | (apply D.gS; rfl; decide; decide) | apply AW.cond); (simp (disch := omega) only [push_cast, simprocAttr, hS, k1, k2, k3, zT, zS, zU, List.map_replicate, hk, hlt, hol, z0, z1] <;> rfl); all_goals try ((with_reducible intro hI); try first | (cases hI; done) | (simp only [INTS, zL] at hI; try first | (exfalso; omega) | (have hT : True := hI; clear hT hI))))
      | ((first | apply W.ret2 | apply W.end2); (iterate 2 (try (simp (disch := omega) only [push_cast, simprocAttr, hS, k1, k2, k3, zT, zS, zU, List.map_replicate, hk, hlt, hol, z0, z1] <;> rfl))))
    refine AW.loop (fun n s => ∃ (j : Nat), n = n0 - j ∧ (j ≤ n0) ∧ (Rows s.H k (fwInit n0)) ∧ s.tm 0 = ai n0 ∧ s.tm 1 = lLink L ∧ s.tm 6 = .ref 0 0 n0 ∧ s.tm 7 = ai k ∧ s.tm 8 = ai j ∧ Pg.rowAt s.H (0) = some ({ k := 1, es := outP n0 (k + 1), ty := 41 }) ∧ Pg.rowAt s.H (1 + k) = some ({ k := 1, es := (rowI n0 k j).map eInt, ty := 3 }) ∧ s.nx = 1 + (k + 1)) (n0) ⟨0, rfl, (Nat.zero_le _), (by (try simp (disch := omega) only [push_cast, simprocAttr, hS, z0, z1]); (repeat (refine Rows.upd ?_ (by omega))); exact hp1), ?_, ?_, ?_, ?_, ?_, ?_, ?_, ?_⟩ ?_
    iterate 8 (first | (simp (disch := omega) only [push_cast, simprocAttr, hS, k1, k2, k3, zT, zS, zU, List.map_replicate, hk, hlt, hol, hos, hdz, z0, z1, rowI_zero] <;> first | rfl | omega) | omega)
    rintro n1 s1 ⟨j1, hn1, hp01, hp11, hS1⟩
    by_cases hlt1 : j1 < n0
    · have hk1 : (j1 : Int) < (n0 : Int) := by omega
      have hrl := rowI_len (k := k) hp01
      have hol1 := outP_len (n := n0) (k := k + 1) (by omega)
      have hog := outP_get (n := n0) (k := k + 1) (i := k) (by omega)
      have og1 := hog.1
      have og2 := hog.2
      have hrs := rowI_succ (k := k) hlt1
      by_cases he : k = j1
      · have heT : ((k : Int) = (j1 : Int)) = True := eq_true (by omega)
        have hrw : rowI n0 k (j1 + 1) = rowI n0 k j1 := by rw [← he]; exact rowI_same hlt
        repeat' first
          | apply AW.seq | apply AW.region | apply AW.ret | apply AW.block | apply AW.skip | apply AW.exit | apply AW.scope | apply AW.label | apply AWL.nil | apply D.nil
          | refine W.draw cx_mixed (by decide +kernel) ?_
          | ((first | (apply W.step cx_ok; decide) | (apply D.step cx_ok; decide; decide) | apply W.store cx_ok | (apply W.gS; rfl; decide) | (apply D.gS; rfl; decide; decide) | apply AW.cond); (simp (disch := omega) only [push_cast, simprocAttr, hS1, hk1, heT, z0, z1] <;> rfl); all_goals try ((with_reducible intro hI); try first | (cases hI; done) | (simp only [INTS, zL] at hI; try first | (exfalso; omega) | (have hT : True := hI; clear hT hI))))
          | ((first | apply W.ret2 | apply W.end2); (iterate 2 (try (simp (disch := omega) only [push_cast, simprocAttr, hS1, hk1, heT, z0, z1] <;> rfl))))
        all_goals (refine ⟨n0 - (j1 + 1), ?_, j1 + 1, rfl, (by omega), (by (try simp (disch := omega) only [push_cast, simprocAttr, hS1, z0, z1]); (repeat (refine Rows.upd ?_ (by omega))); exact hp11), ?_, ?_, ?_, ?_, ?_, ?_, ?_, ?_⟩; (omega); all_goals first | (simp (disch := omega) only [push_cast, simprocAttr, hS1, hk1, hrw, z0, z1] <;> first | rfl | omega) | omega)
      · have heF : ((k : Int) = (j1 : Int)) = False := eq_false (by omega)
        rw [if_pos he] at hrs
        repeat' first
          | apply AW.seq | apply AW.region | apply AW.ret | apply AW.block | apply AW.skip | apply AW.exit | apply AW.scope | apply AW.label | apply AWL.nil | apply D.nil
          | refine W.draw cx_mixed (by decide +kernel) ?_
          | ((first | (apply W.step cx_ok; decide) | (apply D.step cx_ok; decide; decide) | apply W.store cx_ok | (apply W.gS; rfl; decide) | (apply D.gS; rfl; decide; decide) | apply AW.cond); (simp (disch := omega) only [push_cast, simprocAttr, hS1, hk1, heF, hk, hlt, hlt1, hrl, hol1, og1, og2, z0, z1] <;> rfl); all_goals try ((with_reducible intro hI); try first | (cases hI; done) | (simp only [INTS, zL] at hI; try first | (exfalso; omega) | (have hT : True := hI; clear hT hI))))
          | ((first | apply W.ret2 | apply W.end2); (iterate 2 (try (simp (disch := omega) only [push_cast, simprocAttr, hS1, hk1, heF, hk, hlt, hlt1, hrl, hol1, og1, og2, z0, z1] <;> rfl))))
        all_goals (refine ⟨n0 - (j1 + 1), ?_, j1 + 1, rfl, (by omega), (by (try simp (disch := omega) only [push_cast, simprocAttr, hS1, z0, z1]); (repeat (refine Rows.upd ?_ (by omega))); exact hp11), ?_, ?_, ?_, ?_, ?_, ?_, ?_, ?_⟩; (omega); all_goals first | (simp (disch := omega) only [push_cast, simprocAttr, hS1, hk1, hrs, far, z0, z1] <;> first | rfl | omega) | omega)
    · have hk1 : ¬ (j1 : Int) < (n0 : Int) := by omega
      have hje : j1 = n0 := by omega
      subst hje
      have hrow : Pg.rowAt s1.H (1 + k) = some { k := 1, es := ((fwInit j1).getD k []).map eInt, ty := 3 } := by rw [← rowI_all hlt]; simp only [hS1]
      repeat' first
        | apply AW.seq | apply AW.region | apply AW.ret | apply AW.block | apply AW.skip | apply AW.exit | apply AW.scope | apply AW.label | apply AWL.nil | apply D.nil
        | refine W.draw cx_mixed (by decide +kernel) ?_
        | ((first | (apply W.step cx_ok; decide) | (apply D.step cx_ok; decide; decide) | apply W.store cx_ok | (apply W.gS; rfl; decide) | (apply D.gS; rfl; decide; decide) | apply AW.cond); (simp (disch := omega) only [push_cast, simprocAttr, hS1, hk1, z0, z1] <;> rfl); all_goals try ((with_reducible intro hI); try first | (cases hI; done) | (simp only [INTS, zL] at hI; try first | (exfalso; omega) | (have hT : True := hI; clear hT hI))))
        | ((first | apply W.ret2 | apply W.end2); (iterate 2 (try (simp (disch := omega) only [push_cast, simprocAttr, hS1, hk1, z0, z1] <;> rfl))))
      all_goals (refine ⟨j1 - (k + 1), ?_, k + 1, rfl, (by omega), (Rows.succ (by (try simp (disch := omega) only [push_cast, simprocAttr, hS1, z0, z1]); (repeat (refine Rows.upd ?_ (by omega))); exact hp11) (by (try simp (disch := omega) only [push_cast, simprocAttr, hS1]); first | exact hrow | rw [rowI_all hlt])), ?_, ?_, ?_, ?_, ?_, ?_⟩; (omega); all_goals first | (simp (disch := omega) only [push_cast, simprocAttr, hS1, hk1, z0, z1] <;> first | rfl | omega) | omega)
  · have hk : ¬ (k : Int) < (n0 : Int) := by omega
    have hke : n0 = k := by omega
    subst hke
    have og := fun i (h : i < n0) => outP_get (n := n0) (k := n0) h
    have hol := outP_len (n := n0) (k := n0) (Nat.le_refl _)
    repeat' first
      | apply AW.seq | apply AW.region | apply AW.ret | apply AW.block | apply AW.skip | apply AW.exit | apply AW.scope | apply AW.label | apply AWL.nil | apply D.nil
      | refine W.draw cx_mixed (by decide +kernel) ?_
      | ((first | (apply W.step cx_ok; decide) | (apply D.step cx_ok; decide; decide) | apply W.store cx_ok | (apply W.gS; rfl; decide) | (apply D.gS; rfl; decide; decide) | apply AW.cond); (simp (disch := omega) only [push_cast, simprocAttr, hS, hk] <;> rfl); all_goals try ((with_reducible intro hI); try first | (cases hI; done) | (simp only [INTS, zL] at hI; try first | (exfalso; omega) | (have hT : True := hI; clear hT hI))))
      | ((first | apply W.ret2 | apply W.end2); (iterate 2 (try (simp (disch := omega) only [push_cast, simprocAttr, hS, hk] <;> rfl))))
    refine AW.loop (fun n s => ∃ (k : Nat) (o : Mx) (rest : List Lk), n = rest.length ∧ (L.drop k = rest) ∧ (fwLinks rest o = fwLinks L (fwInit n0)) ∧ (FL L n0 o) ∧ (Rows s.H n0 o) ∧ 1 ≤ s.nx ∧ s.tm 0 = ai n0 ∧ s.tm 1 = lLink L ∧ s.tm 6 = .ref 0 0 n0 ∧ s.tm 9 = ai k ∧ Pg.rowAt s.H (0) = some ({ k := 1, es := outP n0 n0, ty := 41 })) (L.length) ⟨0, (fwInit n0), L, rfl, rfl, rfl, FL.init, (by (try simp (disch := omega) only [push_cast, simprocAttr, hS]); (repeat (refine Rows.upd ?_ (by omega))); exact hp1), ?_, ?_, ?_, ?_, ?_, ?_⟩ ?_
    iterate 6 (first | (simp (disch := omega) only [push_cast, simprocAttr, hS, hk] <;> first | rfl | omega) | omega)
    rintro n1 s1 ⟨k1, o1, rest1, hn1, hp01, hp11, hp21, hp31, hnl1, hS1⟩
    have hZ1 : (0 : Nat) ≠ s1.nx ∧ s1.nx ≠ (0 : Nat) := by omega
    have ho1 := hp21.dim
    rcases rest1 with _ | ⟨l, rest1⟩
    · have hk1 := drop_nil hp01
      rw [fwLinks] at hp11
      have hO : o1 = fwLinks L (fwInit n0) := hp11
      have hfs := FS.start (n := n0) hL hse
      rw [← hO] at hfs hRES
      repeat' first
        | apply AW.seq | apply AW.region | apply AW.ret | apply AW.block | apply AW.skip | apply AW.exit | apply AW.scope | apply AW.label | apply AWL.nil | apply D.nil
        | refine W.draw cx_mixed (by decide +kernel) ?_
        | ((first | (apply W.step cx_ok; decide) | (apply D.step cx_ok; decide; decide) | apply W.store cx_ok | (apply W.gS; rfl; decide) | (apply D.gS; rfl; decide; decide) | apply AW.cond); (simp (disch := omega) only [push_cast, simprocAttr, hS1, hZ1, hk1] <;> rfl); all_goals try ((with_reducible intro hI); try first | (cases hI; done) | (simp only [INTS, zL] at hI; try first | (exfalso; omega) | (have hT : True := hI; clear hT hI))))
        | ((first | apply W.ret2 | apply W.end2); (iterate 2 (try (simp (disch := omega) only [push_cast, simprocAttr, hS1, hZ1, hk1] <;> rfl))))
      refine AW.loop (fun n s => ∃ (m : Nat) (o : Mx), n = n0 - m ∧ (m ≤ n0) ∧ (fwLoop n0 (n0 - m) m o = RES) ∧ (FS L n0 o m) ∧ (Rows s.H n0 o) ∧ 1 ≤ s.nx ∧ s.tm 0 = ai n0 ∧ s.tm 1 = lLink L ∧ s.tm 6 = .ref 0 0 n0 ∧ s.tm 10 = ai m ∧ Pg.rowAt s.H (0) = some ({ k := 1, es := outP n0 n0, ty := 41 })) (n0) ⟨0, o1, rfl, (Nat.zero_le _), hRES, hfs, (by (try simp (disch := omega) only [push_cast, simprocAttr, hS1, hZ1]); (repeat (refine Rows.upd ?_ (by omega))); exact hp31), ?_, ?_, ?_, ?_, ?_, ?_⟩ ?_
      iterate 6 (first | (simp (disch := omega) only [push_cast, simprocAttr, hS1, hZ1, hk1] <;> first | rfl | omega) | omega)
      rintro n2 s2 ⟨m2, o2, hn2, hp02, hp12, hp22, hp32, hnl2, hS2⟩
      have hZ2 : (0 : Nat) ≠ s2.nx ∧ s2.nx ≠ (0 : Nat) := by omega
      have hdm : Dim o2 n0 := ⟨hp22.fw.len, hp22.fw.row⟩
      by_cases hlt2 : m2 < n0
      · have hk2 : (m2 : Int) < (n0 : Int) := by omega
        obtain ⟨c2, hc2⟩ : ∃ c, n0 - m2 = c + 1 := ⟨n0 - m2 - 1, by omega⟩
        rw [hc2, fwLoop] at hp12
        obtain ⟨R1, hR1⟩ : ∃ z, fwStep m2 n0 n0 0 o2 = z := ⟨_, rfl⟩
        rw [hR1] at hp12
        have hlow := fun x y (hx : x < n0) (hy : y < n0) => hp22.low (B := 1073741823) hL (by decide) (fun l hl => by have := hm l hl; omega) hx hy
        have hle := fun x y (hx : x < n0) (hy : y < n0) => hp22.fw.le x y hx hy
        have hmm := hp22.diag m2 hlt2
        repeat' first
          | apply AW.seq | apply AW.region | apply AW.ret | apply AW.block | apply AW.skip | apply AW.exit | apply AW.scope | apply AW.label | apply AWL.nil | apply D.nil
          | refine W.draw cx_mixed (by decide +kernel) ?_
          | ((first | (apply W.step cx_ok; decide) | (apply D.step cx_ok; decide; decide) | apply W.store cx_ok | (apply W.gS; rfl; decide) | (apply D.gS; rfl; decide; decide) | apply AW.cond); (simp (disch := omega) only [push_cast, simprocAttr, hS2, hZ2, hk2] <;> rfl); all_goals try ((with_reducible intro hI); try first | (cases hI; done) | (simp only [INTS, zL] at hI; try first | (exfalso; omega) | (have hT : True := hI; clear hT hI))))
          | ((first | apply W.ret2 | apply W.end2); (iterate 2 (try (simp (disch := omega) only [push_cast, simprocAttr, hS2, hZ2, hk2] <;> rfl))))
        refine AW.loop (fun n s => ∃ (i : Nat) (o : Mx), n = n0 - i ∧ (i ≤ n0) ∧ (fwStep m2 n0 (n0 - i) i o = R1) ∧ (Mid n0 m2 o2 o) ∧ (Rows s.H n0 o) ∧ 1 ≤ s.nx ∧ s.tm 0 = ai n0 ∧ s.tm 1 = lLink L ∧ s.tm 6 = .ref 0 0 n0 ∧ s.tm 10 = ai m2 ∧ s.tm 11 = ai i ∧ Pg.rowAt s.H (0) = some ({ k := 1, es := outP n0 n0, ty := 41 })) (n0) ⟨0, o2, rfl, (Nat.zero_le _), hR1, (Mid.refl hdm), (by (try simp (disch := omega) only [push_cast, simprocAttr, hS2, hZ2]); (repeat (refine Rows.upd ?_ (by omega))); exact hp32), ?_, ?_, ?_, ?_, ?_, ?_, ?_⟩ ?_
        iterate 7 (first | (simp (disch := omega) only [push_cast, simprocAttr, hS2, hZ2, hk2] <;> first | rfl | omega) | omega)
        rintro n3 s3 ⟨i3, o3, hn3, hp03, hp13, hp23, hp33, hnl3, hS3⟩
        have hZ3 : (0 : Nat) ≠ s3.nx ∧ s3.nx ≠ (0 : Nat) := by omega
        by_cases hlt3 : i3 < n0
        · have hk3 : (i3 : Int) < (n0 : Int) := by omega
          obtain ⟨c3, hc3⟩ : ∃ c, n0 - i3 = c + 1 := ⟨n0 - i3 - 1, by omega⟩
          rw [hc3, fwStep] at hp13
          obtain ⟨R2, hR2⟩ : ∃ z, fwRow m2 i3 n0 0 o3 = z := ⟨_, rfl⟩
          rw [hR2] at hp13
          repeat' first
            | apply AW.seq | apply AW.region | apply AW.ret | apply AW.block | apply AW.skip | apply AW.exit | apply AW.scope | apply AW.label | apply AWL.nil | apply D.nil
            | refine W.draw cx_mixed (by decide +kernel) ?_
            | ((first | (apply W.step cx_ok; decide) | (apply D.step cx_ok; decide; decide) | apply W.store cx_ok | (apply W.gS; rfl; decide) | (apply D.gS; rfl; decide; decide) | apply AW.cond); (simp (disch := omega) only [push_cast, simprocAttr, hS3, hZ3, hk3] <;> rfl); all_goals try ((with_reducible intro hI); try first | (cases hI; done) | (simp only [INTS, zL] at hI; try first | (exfalso; omega) | (have hT : True := hI; clear hT hI))))
            | ((first | apply W.ret2 | apply W.end2); (iterate 2 (try (simp (disch := omega) only [push_cast, simprocAttr, hS3, hZ3, hk3] <;> rfl))))
          refine AW.loop (fun n s => ∃ (j : Nat) (o : Mx), n = n0 - j ∧ (j ≤ n0) ∧ (fwRow m2 i3 (n0 - j) j o = R2) ∧ (Mid n0 m2 o2 o) ∧ (Rows s.H n0 o) ∧ 1 ≤ s.nx ∧ s.tm 0 = ai n0 ∧ s.tm 1 = lLink L ∧ s.tm 6 = .ref 0 0 n0 ∧ s.tm 10 = ai m2 ∧ s.tm 11 = ai i3 ∧ s.tm 12 = ai j ∧ Pg.rowAt s.H (0) = some ({ k := 1, es := outP n0 n0, ty := 41 })) (n0) ⟨0, o3, rfl, (Nat.zero_le _), hR2, hp23, (by (try simp (disch := omega) only [push_cast, simprocAttr, hS3, hZ3]); (repeat (refine Rows.upd ?_ (by omega))); exact hp33), ?_, ?_, ?_, ?_, ?_, ?_, ?_, ?_⟩ ?_
          iterate 8 (first | (simp (disch := omega) only [push_cast, simprocAttr, hS3, hZ3, hk3] <;> first | rfl | omega) | omega)
          rintro n4 s4 ⟨j4, o4, hn4, hp04, hp14, hp24, hp34, hnl4, hS4⟩
          have hZ4 : (0 : Nat) ≠ s4.nx ∧ s4.nx ≠ (0 : Nat) := by omega
          by_cases hlt4 : j4 < n0
          · have hk4 : (j4 : Int) < (n0 : Int) := by omega
            obtain ⟨c4, hc4⟩ : ∃ c, n0 - j4 = c + 1 := ⟨n0 - j4 - 1, by omega⟩
            rw [hc4, fwRow] at hp14
            obtain ⟨oi1, oi2⟩ := og i3 hlt3
            obtain ⟨om1, om2⟩ := og m2 hlt2
            have hRi := hp34 i3 hlt3
            have hRm := hp34 m2 hlt2
            have hdd := hp24.dim
            have hli := hdd.2 i3 hlt3
            have hlm := hdd.2 m2 hlt2
            have hil : i3 < o4.length := by rw [hdd.1]; exact hlt3
            have z0 : ((0 : Nat) = 1 + i3) = False := eq_false (by omega)
            have z1 : (1 + i3 = 0) = False := eq_false (by omega)
            have z2 : ((0 : Nat) = 1 + m2) = False := eq_false (by omega)
            have z3 : (1 + m2 = 0) = False := eq_false (by omega)
            have e1 : mget o4 i3 m2 = (o4.getD i3 []).getD m2 0 := rfl
            have e2 : mget o4 m2 j4 = (o4.getD m2 []).getD j4 0 := rfl
            have e3 : mget o4 i3 j4 = (o4.getD i3 []).getD j4 0 := rfl
            have q1 := hp24.col i3 hlt3
            have q2 := hp24.row j4 hlt4
            have w1 := hlow i3 m2 hlt3 hlt2
            have w2 := hlow m2 j4 hlt2 hlt4
            have w3 := hle i3 m2 hlt3 hlt2
            have w4 := hle m2 j4 hlt2 hlt4
            unfold far at w3 w4
            have hmid := hp24.cell hmm hlt2 hlt3 hlt4
            by_cases hc : mget o4 i3 m2 < far ∧ mget o4 m2 j4 < far
            · have hcell : fwCell m2 i3 j4 o4 = mset o4 i3 j4 (min (mget o4 i3 j4) (mget o4 i3 m2 + mget o4 m2 j4)) := if_pos hc
              obtain ⟨a1, a2⟩ := hc
              unfold far at a1 a2
              rw [e1] at q1 a1
              rw [e2] at q2 a2
              rw [e1, e2, e3] at hcell
              repeat' first
                | apply AW.seq | apply AW.region | apply AW.ret | apply AW.block | apply AW.skip | apply AW.exit | apply AW.scope | apply AW.label | apply AWL.nil | apply D.nil
                | refine AW.draw (id := 25) cx_mixed [29] [] [] 0 (by decide +kernel) ?_
                | refine W.draw cx_mixed (by decide +kernel) ?_
                | ((first | (apply W.step cx_ok; decide) | (apply D.step cx_ok; decide; decide) | apply W.store cx_ok | (apply W.gS; rfl; decide) | (apply D.gS; rfl; decide; decide) | apply AW.cond); (simp (disch := omega) only [push_cast, simprocAttr, hS4, hZ4, hk4, hk2, hk3, hlt2, hlt3, hlt4, oi1, oi2, om1, om2, hRi, hRm, hli, hlm, hol, a1, a2, z0, z1, z2, z3] <;> rfl); all_goals try ((with_reducible intro hI); try first | (cases hI; done) | (simp only [INTS, zL] at hI; try first | (exfalso; omega) | (have hT : True := hI; clear hT hI))))
                | ((first | (apply D.store cx_ok; decide) | (apply D.stept cx_ok; decide; decide) | (apply D.stepm cx_ok; decide; decide)); (simp (disch := omega) only [push_cast, simprocAttr, hS4, hZ4, hk4, hk2, hk3, hlt2, hlt3, hlt4, oi1, oi2, om1, om2, hRi, hRm, hli, hlm, hol, a1, a2, z0, z1, z2, z3] <;> rfl); try first | exact .inl rfl | exact .inr (by simp))
                | ((apply D.alloct cx_ok; decide; decide); (simp (disch := omega) only [push_cast, simprocAttr, hS4, hZ4, hk4, hk2, hk3, hlt2, hlt3, hlt4, oi1, oi2, om1, om2, hRi, hRm, hli, hlm, hol, a1, a2, z0, z1, z2, z3] <;> rfl); first | exact .inl rfl | exact .inr (by simp))
                | ((first | apply W.ret2 | apply W.end2); (iterate 2 (try (simp (disch := omega) only [push_cast, simprocAttr, hS4, hZ4, hk4, hk2, hk3, hlt2, hlt3, hlt4, oi1, oi2, om1, om2, hRi, hRm, hli, hlm, hol, a1, a2, z0, z1, z2, z3] <;> rfl))))
              all_goals (refine ⟨n0 - (j4 + 1), ?_, j4 + 1, (fwCell m2 i3 j4 o4), rfl, (by omega), (by rw [show n0 - (j4 + 1) = c4 by omega]; exact hp14), hmid, (by rw [hcell]; (try simp (disch := omega) only [push_cast, simprocAttr, hS4, hZ4, hRi, hRm, oi1, oi2, om1, om2]); (repeat (refine Rows.upd ?_ (by omega))); exact (Rows.set hp34 hil)), ?_, ?_, ?_, ?_, ?_, ?_, ?_, ?_⟩; (omega); all_goals first | (simp (disch := omega) only [push_cast, simprocAttr, hS4, hZ4, hk4, z0, z1, oi1, oi2] <;> first | rfl | omega) | omega)
            · have hcell : fwCell m2 i3 j4 o4 = o4 := if_neg hc
              rw [hcell] at hp14 hmid
              unfold far at hc
              rw [e1, e2] at hc
              repeat' first
                | apply AW.seq | apply AW.region | apply AW.ret | apply AW.block | apply AW.skip | apply AW.exit | apply AW.scope | apply AW.label | apply AWL.nil | apply D.nil
                | refine AW.draw (id := 25) cx_mixed [29] [] [] 0 (by decide +kernel) ?_
                | refine W.draw cx_mixed (by decide +kernel) ?_
                | ((first | (apply W.step cx_ok; decide) | (apply D.step cx_ok; decide; decide) | apply W.store cx_ok | (apply W.gS; rfl; decide) | (apply D.gS; rfl; decide; decide) | apply AW.cond); (simp (disch := omega) only [push_cast, simprocAttr, hS4, hZ4, hk4, hk2, hk3, hlt2, hlt3, hlt4, oi1, oi2, om1, om2, hRi, hRm, hli, hlm, hol, z0, z1, z2, z3] <;> rfl); all_goals try ((with_reducible intro hI); try first | (cases hI; done) | (simp only [INTS, zL] at hI; try first | (exfalso; omega) | (have hT : True := hI; clear hT hI))))
                | ((first | (apply D.store cx_ok; decide) | (apply D.stept cx_ok; decide; decide) | (apply D.stepm cx_ok; decide; decide)); (simp (disch := omega) only [push_cast, simprocAttr, hS4, hZ4, hk4, hk2, hk3, hlt2, hlt3, hlt4, oi1, oi2, om1, om2, hRi, hRm, hli, hlm, hol, z0, z1, z2, z3] <;> rfl); try first | exact .inl rfl | exact .inr (by simp))
                | ((apply D.alloct cx_ok; decide; decide); (simp (disch := omega) only [push_cast, simprocAttr, hS4, hZ4, hk4, hk2, hk3, hlt2, hlt3, hlt4, oi1, oi2, om1, om2, hRi, hRm, hli, hlm, hol, z0, z1, z2, z3] <;> rfl); first | exact .inl rfl | exact .inr (by simp))
                | ((first | apply W.ret2 | apply W.end2); (iterate 2 (try (simp (disch := omega) only [push_cast, simprocAttr, hS4, hZ4, hk4, hk2, hk3, hlt2, hlt3, hlt4, oi1, oi2, om1, om2, hRi, hRm, hli, hlm, hol, z0, z1, z2, z3] <;> rfl))))
              all_goals first
                | (exfalso; exact hc ⟨by assumption, by assumption⟩)
                | (refine ⟨n0 - (j4 + 1), ?_, j4 + 1, o4, rfl, (by omega), (by rw [show n0 - (j4 + 1) = c4 by omega]; exact hp14), hmid, (by (try simp (disch := omega) only [push_cast, simprocAttr, hS4, hZ4]); (repeat (refine Rows.upd ?_ (by omega))); exact hp34), ?_, ?_, ?_, ?_, ?_, ?_, ?_, ?_⟩; (omega); all_goals first | (simp (disch := omega) only [push_cast, simprocAttr, hS4, hZ4, hk4, z0, z1, oi1, oi2] <;> first | rfl | omega) | omega)
          · have hk4 : ¬ (j4 : Int) < (n0 : Int) := by omega
            rw [show n0 - j4 = 0 by omega, fwRow] at hp14
            subst hp14
            repeat' first
              | apply AW.seq | apply AW.region | apply AW.ret | apply AW.block | apply AW.skip | apply AW.exit | apply AW.scope | apply AW.label | apply AWL.nil | apply D.nil
              | refine W.draw cx_mixed (by decide +kernel) ?_
              | ((first | (apply W.step cx_ok; decide) | (apply D.step cx_ok; decide; decide) | apply W.store cx_ok | (apply W.gS; rfl; decide) | (apply D.gS; rfl; decide; decide) | apply AW.cond); (simp (disch := omega) only [push_cast, simprocAttr, hS4, hZ4, hk4] <;> rfl); all_goals try ((with_reducible intro hI); try first | (cases hI; done) | (simp only [INTS, zL] at hI; try first | (exfalso; omega) | (have hT : True := hI; clear hT hI))))
              | ((first | apply W.ret2 | apply W.end2); (iterate 2 (try (simp (disch := omega) only [push_cast, simprocAttr, hS4, hZ4, hk4] <;> rfl))))
            all_goals (refine ⟨n0 - (i3 + 1), ?_, i3 + 1, o4, rfl, (by omega), (by rw [show n0 - (i3 + 1) = c3 by omega]; exact hp13), hp24, (by (try simp (disch := omega) only [push_cast, simprocAttr, hS4, hZ4]); (repeat (refine Rows.upd ?_ (by omega))); exact hp34), ?_, ?_, ?_, ?_, ?_, ?_, ?_⟩; (omega); all_goals first | (simp (disch := omega) only [push_cast, simprocAttr, hS4, hZ4, hk4] <;> first | rfl | omega) | omega)
        · have hk3 : ¬ (i3 : Int) < (n0 : Int) := by omega
          rw [show n0 - i3 = 0 by omega, fwStep] at hp13
          subst hp13
          have hdm3 := hp23.dim
          obtain ⟨DG, hDG⟩ : ∃ z, negD o3 n0 0 = z := ⟨_, rfl⟩
          rw [hDG] at hp12
          repeat' first
            | apply AW.seq | apply AW.region | apply AW.ret | apply AW.block | apply AW.skip | apply AW.exit | apply AW.scope | apply AW.label | apply AWL.nil | apply D.nil
            | refine W.draw cx_mixed (by decide +kernel) ?_
            | ((first | (apply W.step cx_ok; decide) | (apply D.step cx_ok; decide; decide) | apply W.store cx_ok | (apply W.gS; rfl; decide) | (apply D.gS; rfl; decide; decide) | apply AW.cond); (simp (disch := omega) only [push_cast, simprocAttr, hS3, hZ3, hk3] <;> rfl); all_goals try ((with_reducible intro hI); try first | (cases hI; done) | (simp only [INTS, zL] at hI; try first | (exfalso; omega) | (have hT : True := hI; clear hT hI))))
            | ((first | apply W.ret2 | apply W.end2); (iterate 2 (try (simp (disch := omega) only [push_cast, simprocAttr, hS3, hZ3, hk3] <;> rfl))))
          refine AW.loop (fun n s => ∃ (i : Nat), n = n0 - i ∧ (i ≤ n0) ∧ (negD o3 (n0 - i) i = DG) ∧ (Rows s.H n0 o3) ∧ 1 ≤ s.nx ∧ s.tm 0 = ai n0 ∧ s.tm 1 = lLink L ∧ s.tm 6 = .ref 0 0 n0 ∧ s.tm 10 = ai m2 ∧ s.tm 13 = ai i ∧ Pg.rowAt s.H (0) = some ({ k := 1, es := outP n0 n0, ty := 41 })) (n0) ⟨0, rfl, (Nat.zero_le _), hDG, (by (try simp (disch := omega) only [push_cast, simprocAttr, hS3, hZ3]); (repeat (refine Rows.upd ?_ (by omega))); exact hp33), ?_, ?_, ?_, ?_, ?_, ?_, ?_⟩ ?_
          iterate 7 (first | (simp (disch := omega) only [push_cast, simprocAttr, hS3, hZ3, hk3] <;> first | rfl | omega) | omega)
          rintro n4 s4 ⟨i4, hn4, hp04, hp14, hp24, hnl4, hS4⟩
          have hZ4 : (0 : Nat) ≠ s4.nx ∧ s4.nx ≠ (0 : Nat) := by omega
          by_cases hlt4 : i4 < n0
          · have hk4 : (i4 : Int) < (n0 : Int) := by omega
            obtain ⟨c4, hc4⟩ : ∃ c, n0 - i4 = c + 1 := ⟨n0 - i4 - 1, by omega⟩
            rw [hc4, negD] at hp14
            obtain ⟨oi1, oi2⟩ := og i4 hlt4
            have hRi := hp24 i4 hlt4
            have hli := hdm3.2 i4 hlt4
            have e1 : mget o3 i4 i4 = (o3.getD i4 []).getD i4 0 := rfl
            rw [e1] at hp14
            by_cases hneg : (o3.getD i4 []).getD i4 0 < 0
            · have hD : DG = true := by rw [← hp14, decide_eq_true hneg, Bool.true_or]
              rw [hD, if_pos rfl] at hp12
              subst hp12
              repeat' first
                | apply AW.seq | apply AW.region | apply AW.ret | apply AW.block | apply AW.skip | apply AW.exit | apply AW.scope | apply AW.label | apply AWL.nil | apply D.nil
                | refine W.draw cx_mixed (by decide +kernel) ?_
                | ((first | (apply W.step cx_ok; decide) | (apply D.step cx_ok; decide; decide) | apply W.store cx_ok | (apply W.gS; rfl; decide) | (apply D.gS; rfl; decide; decide) | apply AW.cond); (simp (disch := omega) only [push_cast, simprocAttr, hS4, hZ4, hk4, hlt4, oi1, oi2, hRi, hli, hol, hneg] <;> rfl); all_goals try ((with_reducible intro hI); try first | (cases hI; done) | (simp only [INTS, zL] at hI; try first | (exfalso; omega) | (have hT : True := hI; clear hT hI))))
                | ((first | apply W.ret2 | apply W.end2); (iterate 2 (try (simp (disch := omega) only [push_cast, simprocAttr, hS4, hZ4, hk4, hlt4, oi1, oi2, hRi, hli, hol, hneg] <;> rfl))))
              all_goals (show _ = _; rfl)
            · have hnext : negD o3 (n0 - (i4 + 1)) (i4 + 1) = DG := by
                rw [show n0 - (i4 + 1) = c4 by omega, ← hp14, decide_eq_false hneg, Bool.false_or]
              repeat' first
                | apply AW.seq | apply AW.region | apply AW.ret | apply AW.block | apply AW.skip | apply AW.exit | apply AW.scope | apply AW.label | apply AWL.nil | apply D.nil
                | refine W.draw cx_mixed (by decide +kernel) ?_
                | ((first | (apply W.step cx_ok; decide) | (apply D.step cx_ok; decide; decide) | apply W.store cx_ok | (apply W.gS; rfl; decide) | (apply D.gS; rfl; decide; decide) | apply AW.cond); (simp (disch := omega) only [push_cast, simprocAttr, hS4, hZ4, hk4, hlt4, oi1, oi2, hRi, hli, hol, hneg] <;> rfl); all_goals try ((with_reducible intro hI); try first | (cases hI; done) | (simp only [INTS, zL] at hI; try first | (exfalso; omega) | (have hT : True := hI; clear hT hI))))
                | ((first | apply W.ret2 | apply W.end2); (iterate 2 (try (simp (disch := omega) only [push_cast, simprocAttr, hS4, hZ4, hk4, hlt4, oi1, oi2, hRi, hli, hol, hneg] <;> rfl))))
              all_goals (refine ⟨n0 - (i4 + 1), ?_, i4 + 1, rfl, (by omega), hnext, (by (try simp (disch := omega) only [push_cast, simprocAttr, hS4, hZ4]); (repeat (refine Rows.upd ?_ (by omega))); exact hp24), ?_, ?_, ?_, ?_, ?_, ?_, ?_⟩; (omega); all_goals first | (simp (disch := omega) only [push_cast, simprocAttr, hS4, hZ4, hk4] <;> first | rfl | omega) | omega)
          · have hk4 : ¬ (i4 : Int) < (n0 : Int) := by omega
            rw [show n0 - i4 = 0 by omega, negD] at hp14
            have hng : negD (fwStep m2 n0 n0 0 o2) n0 0 = false := by rw [hR1, hDG, ← hp14]
            have hfn := hp22.next (B := 1073741823) hL (by decide) (fun l hl => by have := hm l hl; omega) (by unfold far; omega) hlt2 hng
            rw [hR1] at hfn
            rw [← hp14, if_neg (by decide)] at hp12
            repeat' first
              | apply AW.seq | apply AW.region | apply AW.ret | apply AW.block | apply AW.skip | apply AW.exit | apply AW.scope | apply AW.label | apply AWL.nil | apply D.nil
              | refine W.draw cx_mixed (by decide +kernel) ?_
              | ((first | (apply W.step cx_ok; decide) | (apply D.step cx_ok; decide; decide) | apply W.store cx_ok | (apply W.gS; rfl; decide) | (apply D.gS; rfl; decide; decide) | apply AW.cond); (simp (disch := omega) only [push_cast, simprocAttr, hS4, hZ4, hk4] <;> rfl); all_goals try ((with_reducible intro hI); try first | (cases hI; done) | (simp only [INTS, zL] at hI; try first | (exfalso; omega) | (have hT : True := hI; clear hT hI))))
              | ((first | apply W.ret2 | apply W.end2); (iterate 2 (try (simp (disch := omega) only [push_cast, simprocAttr, hS4, hZ4, hk4] <;> rfl))))
            all_goals (refine ⟨n0 - (m2 + 1), ?_, m2 + 1, o3, rfl, (by omega), (by rw [show n0 - (m2 + 1) = c2 by omega]; exact hp12), hfn, (by (try simp (disch := omega) only [push_cast, simprocAttr, hS4, hZ4]); (repeat (refine Rows.upd ?_ (by omega))); exact hp24), ?_, ?_, ?_, ?_, ?_, ?_⟩; (omega); all_goals first | (simp (disch := omega) only [push_cast, simprocAttr, hS4, hZ4, hk4] <;> first | rfl | omega) | omega)
      · have hk2 : ¬ (m2 : Int) < (n0 : Int) := by omega
        rw [show n0 - m2 = 0 by omega, fwLoop] at hp12
        subst hp12
        have hr0 : Pg.rowAt s2.H 0 = some { k := 1, es := outP n0 n0, ty := 41 } := by simp only [hS2]
        refine AW.settle 0 ((List.range n0).map (1 + ·)) (es' := o2.map fun row => [lInt row]) hr0 (fun i hi => ?_) (fun hi => ?_) ?_ (told_rows hp32 hdm) ?_
        · obtain ⟨x, hx, rfl⟩ := List.mem_map.1 hi
          exact ⟨_, hp32 x (List.mem_range.1 hx)⟩
        · obtain ⟨x, hx, e⟩ := List.mem_map.1 hi
          omega
        · rw [List.length_map, hdm.1, hol]
        have hml := hdm.1
        repeat' first
          | apply AW.seq | apply AW.region | apply AW.ret | apply AW.block | apply AW.skip | apply AW.exit | apply AW.scope | apply AW.label | apply AWL.nil | apply D.nil
          | refine W.draw cx_mixed (by decide +kernel) ?_
          | ((first | (apply W.step cx_ok; decide) | (apply D.step cx_ok; decide; decide) | apply W.store cx_ok | (apply W.gS; rfl; decide) | (apply D.gS; rfl; decide; decide) | apply AW.cond); (simp (disch := omega) only [push_cast, simprocAttr, hS2, hZ2, hk2, pure_encM, hml, leT, take_encM, zS, zT, rowAt_frzM] <;> rfl); all_goals try ((with_reducible intro hI); try first | (cases hI; done) | (simp only [INTS, zL] at hI; try first | (exfalso; omega) | (have hT : True := hI; clear hT hI))))
          | ((first | apply W.ret2 | apply W.end2); (iterate 2 (try (simp (disch := omega) only [push_cast, simprocAttr, hS2, hZ2, hk2, pure_encM, hml, leT, take_encM, zS, zT, rowAt_frzM] <;> rfl))))
        all_goals (show _ = _; rfl)
    · obtain ⟨hk1, hg1, hd1, hl1, hm1, hx1⟩ := drop_cons hp01 eLink []
      obtain ⟨ha, hb⟩ := hL l hm1
      obtain ⟨m1, m2⟩ := hm l hm1
      have ha' : (l.a : Int) < (n0 : Int) := by omega
      have hb' : (l.b : Int) < (n0 : Int) := by omega
      obtain ⟨og1, og2⟩ := og l.a ha
      have hRa := hp31 l.a ha
      have hla := ho1.2 l.a ha
      have z0 : ((0 : Nat) = 1 + l.a) = False := eq_false (by omega)
      have z1 : (1 + l.a = 0) = False := eq_false (by omega)
      have hal : l.a < o1.length := by rw [ho1.1]; exact ha
      obtain ⟨hnx, hS'⟩ : True ∧ True := ⟨trivial, trivial⟩
      repeat' first
        | apply AW.seq | apply AW.region | apply AW.ret | apply AW.block | apply AW.skip | apply AW.exit | apply AW.scope | apply AW.label | apply AWL.nil | apply D.nil
        | refine AW.draw (id := 14) cx_mixed [35] [] [] 0 (by decide +kernel) ?_
        | refine W.draw cx_mixed (by decide +kernel) ?_
        | ((first | (apply W.step cx_ok; decide) | (apply D.step cx_ok; decide; decide) | apply W.store cx_ok | (apply W.gS; rfl; decide) | (apply D.gS; rfl; decide; decide) | apply AW.cond); (simp (disch := omega) only [push_cast, simprocAttr, hS1, hZ1, hk1, hg1, hx1, ha', hb', ha, hb, og1, og2, hRa, hla, hol, z0, z1] <;> rfl); all_goals try ((with_reducible intro hI); try first | (cases hI; done) | (simp only [INTS, zL] at hI; try first | (exfalso; omega) | (have hT : True := hI; clear hT hI))))
        | ((first | (apply D.store cx_ok; decide) | (apply D.stept cx_ok; decide; decide) | (apply D.stepm cx_ok; decide; decide)); (simp (disch := omega) only [push_cast, simprocAttr, hS1, hZ1, hk1, hg1, hx1, ha', hb', ha, hb, og1, og2, hRa, hla, hol, z0, z1] <;> rfl); try first | exact .inl rfl | exact .inr (by simp))
        | ((apply D.alloct cx_ok; decide; decide); (simp (disch := omega) only [push_cast, simprocAttr, hS1, hZ1, hk1, hg1, hx1, ha', hb', ha, hb, og1, og2, hRa, hla, hol, z0, z1] <;> rfl); first | exact .inl rfl | exact .inr (by simp))
        | ((first | apply W.ret2 | apply W.end2); (iterate 2 (try (simp (disch := omega) only [push_cast, simprocAttr, hS1, hZ1, hk1, hg1, hx1, ha', hb', ha, hb, og1, og2, hRa, hla, hol, z0, z1] <;> rfl))))
      all_goals (refine ⟨rest1.length, ?_, k1 + 1, (fwLink o1 l), rest1, rfl, hd1, hp11, (hp21.link hL hse hm1), (by (try simp (disch := omega) only [push_cast, simprocAttr, hS1, hZ1, hRa, og1, og2]); (repeat (refine Rows.upd ?_ (by omega))); exact (Rows.set hp31 hal)), ?_, ?_, ?_, ?_, ?_, ?_⟩; ((simp only [List.length_cons] at *; omega)); all_goals first | (simp (disch := omega) only [push_cast, simprocAttr, hS1, hZ1, hk1, hg1, hx1, og1, og2, hRa, z0, z1] <;> first | rfl | omega) | omega)
end Go.Proofs.Ks

namespace Go.Proofs.Ks
structure LkOK (n : Nat) (l : Lk) : Prop where
  a : l.a < n
  b : l.b < n
  m : -1073741823 ≤ l.m ∧ l.m ≤ 1073741823
  ne : l.a ≠ l.b
theorem at_mark_ge {r : Rec} {more : List Int} {p : Int} (h : p ∈ marksR r more) : (3 + r.strikes.length : Int) ≤ atI 4 p 0 (nodesR r more) ∧ atI 4 p 0 (nodesR r more) < ((nodesR r more).length : Int) := by
  obtain ⟨h1, h2⟩ := at_mark h
  refine ⟨?_, h2⟩
  have e : atI 4 p 0 (nodesR r more) = atI 4 p (0 + (nd0 ++ ndS r.strikes.length).length) (ndM (marksR r more)) := by
    unfold nodesR
    refine atI_append 4 p _ _ 0 fun x hx => ?_
    rintro ⟨h3, _⟩
    rcases List.mem_append.1 hx with hx | hx
    · unfold nd0 at hx
      simp only [List.mem_cons, List.not_mem_nil, or_false] at hx
      rcases hx with rfl | rfl | rfl <;> simp at h3
    · unfold ndS at hx
      obtain ⟨i, _, rfl⟩ := List.mem_map.1 hx
      simp at h3
  rw [e] at h1 ⊢
  rcases atI_case 4 p (ndM (marksR r more)) (0 + (nd0 ++ ndS r.strikes.length).length) with ⟨h3, _⟩ | ⟨i, _, h3, _⟩
  · rw [h3] at h1; exact absurd h1 (by decide)
  · rw [h3, List.length_append, nd0_len, ndS_len]; omega
theorem bothL_ok {n k : Nat} {x : Span} (h0 : 0 < k) (hk : k < n) (hx : 0 ≤ x.lo ∧ x.lo ≤ x.hi ∧ x.hi ≤ 1073741823) : ∀ l ∈ bothL k x, LkOK n l := by
  intro l hl
  unfold bothL at hl
  simp only [List.mem_cons, List.not_mem_nil, or_false] at hl
  rcases hl with rfl | rfl
  · exact ⟨by dsimp only; omega, hk, by dsimp only; omega, by dsimp only; omega⟩
  · exact ⟨hk, by dsimp only; omega, by dsimp only; omega, by dsimp only; omega⟩
theorem needleL_ok {r : Rec} {more : List Int} {k : Nat} {x : Span} (hk : k < 3 + r.strikes.length) (h1 : x.lo ∈ marksR r more) (h2 : x.hi + 1 ∈ marksR r more) : ∀ l ∈ needleL (nodesR r more) k x, LkOK (nodesR r more).length l := by
  intro l hl
  obtain ⟨a1, a2⟩ := at_mark_ge h1
  obtain ⟨b1, b2⟩ := at_mark_ge h2
  unfold needleL at hl
  simp only [List.mem_cons, List.not_mem_nil, or_false] at hl
  rcases hl with rfl | rfl
  · exact ⟨by dsimp only; omega, by dsimp only; omega, by dsimp only; omega, by dsimp only; omega⟩
  · exact ⟨by dsimp only; omega, by dsimp only; omega, by dsimp only; omega, by dsimp only; omega⟩
theorem pairL_ok {s : Session} (hs : s.R) {n i : Nat} {x : Int} (hx : 0 ≤ x) : ∀ (l : List Int) (k : Nat), i < k → k + l.length ≤ n → (∀ y ∈ l, x ≤ y ∧ y ≤ 43200) → (∀ z ∈ pairL s i x k l, LkOK n z) ∧ (pairL s i x k l).length = 2 * l.length
  | [], k, _, _, _ => ⟨fun z hz => by simp [pairL] at hz, rfl⟩
  | y :: l, k, hik, hkn, hy => by
    obtain ⟨y1, y2⟩ := hy y (by simp)
    obtain ⟨b1, b2, b3, b4⟩ := leastR_bound s x y hs hx y1 y2
    simp only [List.length_cons] at hkn
    obtain ⟨h1, h2⟩ := pairL_ok hs (n := n) (i := i) hx l (k + 1) (by omega) (by omega) (fun z hz => hy z (by simp [hz]))
    refine ⟨fun z hz => ?_, by simp only [pairL, List.length_cons, h2]; omega⟩
    simp only [pairL, List.mem_cons] at hz
    rcases hz with rfl | rfl | hz
    · exact ⟨by dsimp only; omega, by dsimp only; omega, by dsimp only; omega, by dsimp only; omega⟩
    · exact ⟨by dsimp only; omega, by dsimp only; omega, by dsimp only; omega, by dsimp only; omega⟩
    · exact h1 z hz
theorem pairsL_ok {s : Session} (hs : s.R) {n : Nat} : ∀ (l : List Int) (i : Nat), i + l.length ≤ n → l.Pairwise (· < ·) → (∀ y ∈ l, 0 ≤ y ∧ y ≤ 43200) → (∀ z ∈ pairsL s i l, LkOK n z) ∧ (pairsL s i l).length ≤ 2 * l.length * l.length
  | [], i, _, _, _ => ⟨fun z hz => by simp [pairsL] at hz, by simp [pairsL]⟩
  | x :: l, i, hin, hp, hy => by
    obtain ⟨p1, p2⟩ := List.pairwise_cons.1 hp
    obtain ⟨x1, x2⟩ := hy x (by simp)
    simp only [List.length_cons] at hin
    obtain ⟨h1, h2⟩ := pairL_ok hs (n := n) (i := i) x1 l (i + 1) (by omega) (by omega) (fun y h => ⟨Int.le_of_lt (p1 y h), (hy y (by simp [h])).2⟩)
    obtain ⟨g1, g2⟩ := pairsL_ok hs (n := n) l (i + 1) (by omega) p2 (fun y h => hy y (by simp [h]))
    refine ⟨fun z hz => ?_, ?_⟩
    · simp only [pairsL, List.mem_append] at hz
      rcases hz with hz | hz
      · exact h1 z hz
      · exact g1 z hz
    · simp only [pairsL, List.length_append, List.length_cons, h2]
      have : 2 * (l.length + 1) * (l.length + 1) = 2 * l.length * l.length + 4 * l.length + 2 := by
        simp only [Nat.mul_add, Nat.add_mul]; omega
      omega
theorem sgL_ok {r : Rec} (hv : r.V) {n : Nat} (hn : 3 + r.strikes.length ≤ n) : ∀ l : List Sight, (∀ x ∈ l, x ∈ r.sights) → (∀ z ∈ sgL r l, LkOK n z) ∧ (sgL r l).length = 2 * l.length
  | [], _ => ⟨fun z hz => by simp [sgL] at hz, rfl⟩
  | x :: l, h => by
    obtain ⟨h1, h2⟩ := sgL_ok hv hn l (fun y hy => h y (by simp [hy]))
    have hx := hv.sights x (h x (by simp))
    obtain ⟨i1, i2⟩ := strikeI_lt (n := x.strike) (l := r.strikes) (k := r.strikes.length) (by rw [List.take_length]; exact hx.2.2.2)
    have hb := bothL_ok (n := n) (k := (3 + strikeI x.strike 0 r.strikes).toNat) (x := x.seen) (by omega) (by omega) ⟨hx.1, hx.2.1, hx.2.2.1⟩
    refine ⟨fun z hz => ?_, by simp only [sgL, List.length_append, bothL_len, h2, List.length_cons]; omega⟩
    simp only [sgL, List.mem_append] at hz
    rcases hz with hz | hz
    · exact hb z hz
    · exact h1 z hz
theorem rwL_ok {S n : Nat} (hn : 3 + S ≤ n) : ∀ (c i : Nat), i + c = S + 1 → (∀ z ∈ rwL S c i, LkOK n z) ∧ (rwL S c i).length = c
  | 0, i, _ => ⟨fun z hz => by simp [rwL] at hz, rfl⟩
  | c + 1, i, h => by
    obtain ⟨h1, h2⟩ := rwL_ok hn c (i + 1) (by omega)
    refine ⟨fun z hz => ?_, by simp [rwL, h2]⟩
    simp only [rwL, List.mem_cons] at hz
    rcases hz with rfl | hz
    · unfold rowK
      refine ⟨?_, ?_, by dsimp only; omega, ?_⟩ <;> dsimp only <;> (try split) <;> (try split) <;> omega
    · exact h1 z hz
theorem ndL_ok {r : Rec} {more : List Int} : ∀ (l : List Strike) (i : Nat), i + l.length ≤ r.strikes.length → (∀ x ∈ l, x ∈ r.strikes) → (∀ z ∈ ndL (nodesR r more) i l, LkOK (nodesR r more).length z) ∧ (ndL (nodesR r more) i l).length = 2 * l.length
  | [], _, _, _ => ⟨fun z hz => by simp [ndL] at hz, rfl⟩
  | x :: l, i, hi, h => by
    simp only [List.length_cons] at hi
    obtain ⟨h1, h2⟩ := ndL_ok (more := more) l (i + 1) (by omega) (fun y hy => h y (by simp [hy]))
    have hx := h x (by simp)
    have hb := needleL_ok (r := r) (more := more) (k := 3 + i) (x := x.pos) (by omega) (marksR_mem.2 (.inr (.inl ⟨x, hx, .inl rfl⟩))) (marksR_mem.2 (.inr (.inl ⟨x, hx, .inr rfl⟩)))
    refine ⟨fun z hz => ?_, by simp only [ndL, List.length_append, needleL_len, h2, List.length_cons]; omega⟩
    simp only [ndL, List.mem_append] at hz
    rcases hz with hz | hz
    · exact hb z hz
    · exact h1 z hz
theorem linksR_ok {r : Rec} (hv : r.V) {more : List Int} (hml : more.length ≤ 8) (hmb : ∀ a ∈ more, 0 ≤ a ∧ a ≤ 43200) : (∀ l ∈ linksR r more, LkOK (nodesR r more).length l) ∧ (linksR r more).length ≤ 10000 ∧ (nodesR r more).length ≤ 100 := by
  have hnl := nodesR_len r more
  have hmk := marksR_len r more
  have hns := hv.nstrikes
  have hng := hv.nsights
  have h3 : 3 + r.strikes.length ≤ (nodesR r more).length := by omega
  have hm := fun p => marksR_mem (r := r) (more := more) (a := p)
  have b1 := bothL_ok (n := (nodesR r more).length) (k := 1) (x := r.s.inn) (by omega) (by omega) hv.inn
  have b2 := bothL_ok (n := (nodesR r more).length) (k := 2) (x := r.s.out) (by omega) (by omega) hv.out
  obtain ⟨s1, s2⟩ := sgL_ok hv h3 r.sights (fun _ h => h)
  obtain ⟨w1, w2⟩ := rwL_ok h3 (r.strikes.length + 1) 0 (by omega)
  have d1 := needleL_ok (r := r) (more := more) (k := 1) (x := r.s.zero) (by omega) ((hm _).2 (.inl (.inl rfl))) ((hm _).2 (.inl (.inr (.inl rfl))))
  have d2 := needleL_ok (r := r) (more := more) (k := 2) (x := r.s.fin) (by omega) ((hm _).2 (.inl (.inr (.inr (.inl rfl))))) ((hm _).2 (.inl (.inr (.inr (.inr rfl)))))
  obtain ⟨n1, n2⟩ := ndL_ok (r := r) (more := more) r.strikes 0 (by omega) (fun _ h => h)
  obtain ⟨p1, p2⟩ := pairsL_ok hv.r (n := (nodesR r more).length) (marksR r more) (3 + r.strikes.length) (by omega) (marksR_sorted r more) (fun y h => marksR_bound hv hmb h)
  have hp : 2 * (marksR r more).length * (marksR r more).length ≤ 2 * 36 * 36 := Nat.mul_le_mul (by omega) (by omega)
  refine ⟨fun l hl => ?_, ?_, by omega⟩
  · unfold linksR at hl
    simp only [List.mem_append] at hl
    rcases hl with h | h | h | h | h | h | h | h
    · exact b1 l h
    · exact b2 l h
    · exact s1 l h
    · exact w1 l h
    · exact d1 l h
    · exact n1 l h
    · exact d2 l h
    · exact p1 l h
  · unfold linksR
    simp only [List.length_append, bothL_len, needleL_len, s2, w2, n2]
    omega
end Go.Proofs.Ks

namespace Go.Proofs.Ks
open Go Go.Pg Go.Proofs
theorem links_facts {r : Rec} (hv : r.V) {more : List Int} (hml : more.length ≤ 8) (hmb : ∀ a ∈ more, 0 ≤ a ∧ a ≤ 43200) : (nodesR r more).length ≤ 100 ∧ (linksR r more).length ≤ 10000 ∧ (∀ l ∈ linksR r more, l.a < (nodesR r more).length ∧ l.b < (nodesR r more).length) ∧ (∀ l ∈ linksR r more, -1073741823 ≤ l.m ∧ l.m ≤ 1073741823) ∧ ∀ l ∈ linksR r more, l.a ≠ l.b := by
  obtain ⟨h1, h2, h3⟩ := linksR_ok hv hml hmb
  exact ⟨h3, h2, fun l hl => ⟨(h1 l hl).a, (h1 l hl).b⟩, fun l hl => (h1 l hl).m, fun l hl => (h1 l hl).ne⟩
def tightR (r : Rec) (more : List Int) : Option Mx := closureF (nodesR r more).length (linksR r more)
theorem closure_bd {n : Nat} {L : List Lk} {o : Mx} (hn : n ≤ 100) (hL : ∀ l ∈ L, l.a < n ∧ l.b < n) (hm : ∀ l ∈ L, -1073741823 ≤ l.m ∧ l.m ≤ 1073741823) (h : closureF n L = some o) : Dim o n ∧ NoNeg L ∧ ∀ i k, i < n → k < n → -1000000000000000 ≤ mget o i k ∧ mget o i k ≤ 1125899906842624 := by
  have hB : ∀ l ∈ L, -(1073741823 : Int) ≤ l.m ∧ l.m ≤ 1073741823 := hm
  have hfar : (1073741823 : Int) * (n : Int) < far := by unfold far; omega
  rcases closure_case hL (by decide) hB hfar with ⟨o', h1, h2, h3, h4, h5⟩ | ⟨h1, _⟩
  · rw [h] at h1; injection h1 with h1; subst h1
    refine ⟨⟨h3, h4⟩, h2, fun i k hi hk => ⟨?_, (h5 i hi).le k hk⟩⟩
    by_cases hf : mget o i k < far
    · obtain ⟨s, p, hs, p1, p2⟩ := (h5 i hi).real k hk hf
      obtain ⟨q, q1, q2, q3⟩ := h2.short p1
      have q4 := q3.len q1 hL hs.1
      have q5 := (lenW_bound q (fun x hx => hB x (q1.mem x hx))).1
      omega
    · have : (0 : Int) ≤ far := by decide
      omega
  · rw [h] at h1; cases h1
theorem Tight_some (r0 : Rec) (more : List Int) (hv : r0.V) (hml : more.length ≤ 8) (hmb : ∀ a ∈ more, 0 ≤ a ∧ a ≤ 43200) {o : Mx} (ho : tightR r0 more = some o) : OKv cx 62 [.agg (eRec r0), lInt more] (.tup [encM o, ab true]) := by
  obtain ⟨h1, h2, h3, h4, h5⟩ := links_facts hv hml hmb
  have hcl := closure_ok (nodesR r0 more).length (linksR r0 more) h1 h2 h3 h4 h5
  unfold tightR at ho
  rw [ho] at hcl
  obtain ⟨nd, hnd⟩ : ∃ z, nodesR r0 more = z := ⟨_, rfl⟩
  obtain ⟨L, hLk⟩ : ∃ z, linksR r0 more = z := ⟨_, rfl⟩
  have c1 := nodes_ok r0 more hv (by omega)
  have c2 := rlinks_ok r0 more hv hml hmb
  rw [hnd] at hcl c1
  rw [hLk] at hcl c2
  dsimp only at hcl
  refine OKat.of_body (rs := [4, 5]) Try.func62 rfl (by decide +kernel) rfl (by simp [Try.ntmps62]) ?_
  simp only [Try.ntmps62]
  repeat' first
    | apply AW.seq | apply AW.region | apply AW.ret | apply AW.block | apply AW.skip | apply AW.exit | apply AW.scope | apply AW.label | apply AWL.nil | apply D.nil
    | refine W.draw cx_mixed (by decide +kernel) ?_
    | ((first | (apply W.step cx_ok; decide) | (apply D.step cx_ok; decide; decide) | apply AW.cond); (simp (disch := omega) only [push_cast, simprocAttr] <;> rfl); all_goals try ((with_reducible intro hI); try first | (cases hI; done) | (simp only [INTS, zL] at hI; try first | (exfalso; omega) | (have hT : True := hI; clear hT hI))))
    | ((first | (apply W.callv cx_ok; decide) | (apply D.callv cx_ok; decide; decide)); (iterate 2 (simp (disch := omega) only [push_cast, simprocAttr] <;> rfl)); (with_reducible first | exact c1 | exact c2 | exact hcl); try first | rfl | (simp (disch := omega) only [push_cast, simprocAttr] <;> rfl))
    | ((first | apply W.ret2 | apply W.end2); (iterate 2 (try (simp (disch := omega) only [push_cast, simprocAttr] <;> rfl))))
  all_goals (show _ = _; rfl)
theorem Tight_none (r0 : Rec) (more : List Int) (hv : r0.V) (hml : more.length ≤ 8) (hmb : ∀ a ∈ more, 0 ≤ a ∧ a ≤ 43200) (ho : tightR r0 more = none) : OKv cx 62 [.agg (eRec r0), lInt more] (.tup [.lst [], ab false]) := by
  obtain ⟨h1, h2, h3, h4, h5⟩ := links_facts hv hml hmb
  have hcl := closure_ok (nodesR r0 more).length (linksR r0 more) h1 h2 h3 h4 h5
  unfold tightR at ho
  rw [ho] at hcl
  obtain ⟨nd, hnd⟩ : ∃ z, nodesR r0 more = z := ⟨_, rfl⟩
  obtain ⟨L, hLk⟩ : ∃ z, linksR r0 more = z := ⟨_, rfl⟩
  have c1 := nodes_ok r0 more hv (by omega)
  have c2 := rlinks_ok r0 more hv hml hmb
  rw [hnd] at hcl c1
  rw [hLk] at hcl c2
  dsimp only at hcl
  refine OKat.of_body (rs := [4, 5]) Try.func62 rfl (by decide +kernel) rfl (by simp [Try.ntmps62]) ?_
  simp only [Try.ntmps62]
  repeat' first
    | apply AW.seq | apply AW.region | apply AW.ret | apply AW.block | apply AW.skip | apply AW.exit | apply AW.scope | apply AW.label | apply AWL.nil | apply D.nil
    | refine W.draw cx_mixed (by decide +kernel) ?_
    | ((first | (apply W.step cx_ok; decide) | (apply D.step cx_ok; decide; decide) | apply AW.cond); (simp (disch := omega) only [push_cast, simprocAttr] <;> rfl); all_goals try ((with_reducible intro hI); try first | (cases hI; done) | (simp only [INTS, zL] at hI; try first | (exfalso; omega) | (have hT : True := hI; clear hT hI))))
    | ((first | (apply W.callv cx_ok; decide) | (apply D.callv cx_ok; decide; decide)); (iterate 2 (simp (disch := omega) only [push_cast, simprocAttr] <;> rfl)); (with_reducible first | exact c1 | exact c2 | exact hcl); try first | rfl | (simp (disch := omega) only [push_cast, simprocAttr] <;> rfl))
    | ((first | apply W.ret2 | apply W.end2); (iterate 2 (try (simp (disch := omega) only [push_cast, simprocAttr] <;> rfl))))
  all_goals (show _ = _; rfl)
theorem Consistent_ok (r0 : Rec) (hv : r0.V) : OKv cx 30 [.agg (eRec r0)] (ab (tightR r0 []).isSome) := by
  cases ho : tightR r0 [] with
  | some o =>
    have h0 : OKv cx 62 [.agg (eRec r0), .lst []] (.tup [encM o, ab true]) := Tight_some r0 [] hv (by decide) (fun a h => by cases h) ho
    refine OKat.of_body (rs := [2]) Try.func30 rfl (by decide +kernel) rfl (by simp [Try.ntmps30]) ?_
    simp only [Try.ntmps30]
    repeat' first
      | apply AW.seq | apply AW.region | apply AW.ret | apply AW.block | apply AW.skip | apply AW.exit | apply AW.scope | apply AW.label | apply AWL.nil
      | ((first | (apply W.step cx_ok; decide) | apply AW.cond); (simp (disch := omega) only [push_cast, simprocAttr] <;> rfl); all_goals try ((with_reducible intro hI); try first | (cases hI; done) | (simp only [INTS, zL] at hI; try first | (exfalso; omega) | (have hT : True := hI; clear hT hI))))
      | ((apply W.callv cx_ok; decide); (iterate 2 (simp (disch := omega) only [push_cast, simprocAttr] <;> rfl)); (with_reducible first | exact h0); try first | rfl | (simp (disch := omega) only [push_cast, simprocAttr] <;> rfl))
      | ((first | apply W.ret1 | apply W.end1); (iterate 2 (try (simp (disch := omega) only [push_cast, simprocAttr] <;> rfl))))
    all_goals (show _ = _; rfl)
  | none =>
    have h0 : OKv cx 62 [.agg (eRec r0), .lst []] (.tup [.lst [], ab false]) := Tight_none r0 [] hv (by decide) (fun a h => by cases h) ho
    refine OKat.of_body (rs := [2]) Try.func30 rfl (by decide +kernel) rfl (by simp [Try.ntmps30]) ?_
    simp only [Try.ntmps30]
    repeat' first
      | apply AW.seq | apply AW.region | apply AW.ret | apply AW.block | apply AW.skip | apply AW.exit | apply AW.scope | apply AW.label | apply AWL.nil
      | ((first | (apply W.step cx_ok; decide) | apply AW.cond); (simp (disch := omega) only [push_cast, simprocAttr] <;> rfl); all_goals try ((with_reducible intro hI); try first | (cases hI; done) | (simp only [INTS, zL] at hI; try first | (exfalso; omega) | (have hT : True := hI; clear hT hI))))
      | ((apply W.callv cx_ok; decide); (iterate 2 (simp (disch := omega) only [push_cast, simprocAttr] <;> rfl)); (with_reducible first | exact h0); try first | rfl | (simp (disch := omega) only [push_cast, simprocAttr] <;> rfl))
      | ((first | apply W.ret1 | apply W.end1); (iterate 2 (try (simp (disch := omega) only [push_cast, simprocAttr] <;> rfl))))
    all_goals (show _ = _; rfl)
theorem RBetween_ok (r0 : Rec) (a b : Nat) (hv : r0.V) {o : Mx} (ho : tightR r0 [] = some o) (ha : a < r0.strikes.length) (hb : b < r0.strikes.length) : OKv cx 25 [.agg (eRec r0), ai a, ai b] (.agg (eSpan ⟨-(mget o (3 + b) (3 + a)), mget o (3 + a) (3 + b)⟩)) := by
  have h0 : OKv cx 62 [.agg (eRec r0), .lst []] (.tup [encM o, ab true]) := Tight_some r0 [] hv (by decide) (fun a h => by cases h) ho
  obtain ⟨h1, h2, h3, h4, h5⟩ := links_facts (more := []) hv (by decide) (fun a h => by cases h)
  obtain ⟨g1, g2, g3⟩ := closure_bd h1 h3 h4 ho
  have hns := hv.nstrikes
  have hl := nodesR_len r0 []
  have c1 : OKv cx 84 [encM o, ai (3 + (a : Int)), ai (3 + (b : Int))] (.agg (eSpan ⟨-(mget o (3 + b) (3 + a)), mget o (3 + a) (3 + b)⟩)) := by
    have := between_ok o _ (3 + a) (3 + b) g1 h1 (by omega) (by omega) (g3 _ _ (by omega) (by omega))
    simpa using this
  refine OKat.of_bodyM cx_ok (rs := [.cell 6 23]) Try.func25 rfl (by decide +kernel) rfl (by simp [Try.ntmps25]) ?_
  simp only [Try.ntmps25]
  repeat' first
    | apply AW.seq | apply AW.region | apply AW.ret | apply AW.block | apply AW.skip | apply AW.exit | apply AW.scope | apply AW.label | apply AWL.nil
    | ((first | (apply W.step cx_ok; decide) | apply W.store cx_ok | apply AW.cond); (simp (disch := omega) only [push_cast, simprocAttr] <;> rfl); all_goals try ((with_reducible intro hI); try first | (cases hI; done) | (simp only [INTS, zL] at hI; try first | (exfalso; omega) | (have hT : True := hI; clear hT hI))))
    | ((apply W.callv cx_ok; decide); (iterate 2 (simp (disch := omega) only [push_cast, simprocAttr] <;> rfl)); (with_reducible first | exact h0 | exact c1); try first | rfl | (simp (disch := omega) only [push_cast, simprocAttr] <;> rfl))
    | ((first | apply W.retM | apply W.endM'); (iterate 2 (try (simp (disch := omega) only [push_cast, simprocAttr] <;> rfl))))
  all_goals (show _ = _; rfl)
theorem RWhen_ok (r0 : Rec) (p : Int) (hv : r0.V) (hp : 0 ≤ p ∧ p ≤ 43200) {o : Mx} (ho : tightR r0 [p] = some o) :
    OKv cx 26 [.agg (eRec r0), ai p] (.agg (eSpan ⟨-(mget o (atI 4 p 0 (nodesR r0 [p])).toNat 0), mget o 0 (atI 4 p 0 (nodesR r0 [p])).toNat⟩)) := by
  have hmb : ∀ a ∈ [p], 0 ≤ a ∧ a ≤ 43200 := fun a h => by rw [List.mem_singleton.1 h]; exact hp
  have h0 : OKv cx 62 [.agg (eRec r0), .lst [[ai p]]] (.tup [encM o, ab true]) := Tight_some r0 [p] hv (by simp) hmb ho
  obtain ⟨h1, h2, h3, h4, h5⟩ := links_facts (more := [p]) hv (by simp) hmb
  obtain ⟨g1, g2, g3⟩ := closure_bd h1 h3 h4 ho
  obtain ⟨m1, m2⟩ := at_mark (r := r0) (more := [p]) (p := p) (marksR_mem.2 (.inr (.inr (by simp))))
  have c0 : OKv cx 86 [.agg (eRec r0), .lst [[ai p]]] (lNode (nodesR r0 [p])) := nodes_ok r0 [p] hv (by simp)
  have c2 := rat_ok (nodesR r0 [p]) 4 p (by omega)
  obtain ⟨nd, hnd⟩ : ∃ z, nodesR r0 [p] = z := ⟨_, rfl⟩
  rw [hnd] at m1 m2 c0 c2 h1 g1 g3 ⊢
  obtain ⟨I, hI⟩ : ∃ z, atI 4 p 0 nd = z := ⟨_, rfl⟩
  rw [hI] at m1 m2 c2 ⊢
  have c1 : OKv cx 84 [encM o, ai 0, ai I] (.agg (eSpan ⟨-(mget o I.toNat 0), mget o 0 I.toNat⟩)) := by
    have := between_ok o _ 0 I.toNat g1 h1 (by omega) (by omega) (g3 _ _ (by omega) (by omega))
    rw [Int.toNat_of_nonneg m1] at this
    exact this
  refine OKat.of_bodyM cx_ok (rs := [.cell 4 23]) Try.func26 rfl (by decide +kernel) rfl (by simp [Try.ntmps26]) ?_
  simp only [Try.ntmps26]
  repeat' first
    | apply AW.seq | apply AW.region | apply AW.ret | apply AW.block | apply AW.skip | apply AW.exit | apply AW.scope | apply AW.label | apply AWL.nil
    | ((first | (apply W.step cx_ok; decide) | apply W.store cx_ok | apply AW.cond); (simp (disch := omega) only [push_cast, simprocAttr] <;> rfl); all_goals try ((with_reducible intro hI); try first | (cases hI; done) | (simp only [INTS, zL] at hI; try first | (exfalso; omega) | (have hT : True := hI; clear hT hI))))
    | ((apply W.callv cx_ok; decide); (iterate 2 (simp (disch := omega) only [push_cast, simprocAttr] <;> rfl)); (with_reducible first | exact h0 | exact c0 | exact c1 | exact c2); try first | rfl | (simp (disch := omega) only [push_cast, simprocAttr] <;> rfl))
    | ((first | apply W.retM | apply W.endM'); (iterate 2 (try (simp (disch := omega) only [push_cast, simprocAttr] <;> rfl))))
  all_goals (show _ = _; rfl)
def stateE (r : Rec) : Int := if checkE r = 0 then (if (tightR r []).isSome = true then 0 else 9) else checkE r
theorem state_ok (r0 : Rec) : OKv cx 22 [.agg (eRec r0)] (ai (stateE r0)) := by
  unfold stateE
  by_cases hc : checkE r0 = 0
  · rw [if_pos hc]
    have hv := checkE_V hc
    cases hT : (tightR r0 []).isSome with
    | true =>
      rw [if_pos rfl]
      refine OKat.of_body (rs := [2]) Try.func22 rfl (by decide +kernel) rfl (by simp [Try.ntmps22]) ?_
      simp only [Try.ntmps22]
      repeat' first
        | apply AW.seq | apply AW.region | apply AW.ret | apply AW.block | apply AW.skip | apply AW.exit | apply AW.scope | apply AW.label | apply AWL.nil
        | ((first | (apply W.step cx_ok; decide) | (apply W.gS; rfl; decide) | apply AW.cond); (simp (disch := omega) only [push_cast, simprocAttr, hc, hT] <;> rfl); all_goals try ((with_reducible intro hI); try first | (cases hI; done) | (simp only [INTS, zL] at hI; try first | (exfalso; omega) | (have hT : True := hI; clear hT hI))))
        | ((apply W.callv cx_ok; decide); (iterate 2 (simp (disch := omega) only [push_cast, simprocAttr, hc, hT] <;> rfl)); (with_reducible first | exact RCheck_ok _ | exact Consistent_ok r0 hv); try first | rfl | (simp (disch := omega) only [push_cast, simprocAttr, hc, hT] <;> rfl))
        | ((first | apply W.ret1 | apply W.end1); (iterate 2 (try (simp (disch := omega) only [push_cast, simprocAttr, hc, hT] <;> rfl))))
      all_goals (show _ = _; rfl)
    | false =>
      rw [if_neg (by decide)]
      refine OKat.of_body (rs := [2]) Try.func22 rfl (by decide +kernel) rfl (by simp [Try.ntmps22]) ?_
      simp only [Try.ntmps22]
      repeat' first
        | apply AW.seq | apply AW.region | apply AW.ret | apply AW.block | apply AW.skip | apply AW.exit | apply AW.scope | apply AW.label | apply AWL.nil
        | ((first | (apply W.step cx_ok; decide) | (apply W.gS; rfl; decide) | apply AW.cond); (simp (disch := omega) only [push_cast, simprocAttr, hc, hT] <;> rfl); all_goals try ((with_reducible intro hI); try first | (cases hI; done) | (simp only [INTS, zL] at hI; try first | (exfalso; omega) | (have hT : True := hI; clear hT hI))))
        | ((apply W.callv cx_ok; decide); (iterate 2 (simp (disch := omega) only [push_cast, simprocAttr, hc, hT] <;> rfl)); (with_reducible first | exact RCheck_ok _ | exact Consistent_ok r0 hv); try first | rfl | (simp (disch := omega) only [push_cast, simprocAttr, hc, hT] <;> rfl))
        | ((first | apply W.ret1 | apply W.end1); (iterate 2 (try (simp (disch := omega) only [push_cast, simprocAttr, hc, hT] <;> rfl))))
      all_goals (show _ = _; rfl)
  · rw [if_neg hc]
    have hcF : (checkE r0 = 0) = False := eq_false hc
    refine OKat.of_body (rs := [2]) Try.func22 rfl (by decide +kernel) rfl (by simp [Try.ntmps22]) ?_
    simp only [Try.ntmps22]
    repeat' first
      | apply AW.seq | apply AW.region | apply AW.ret | apply AW.block | apply AW.skip | apply AW.exit | apply AW.scope | apply AW.label | apply AWL.nil
      | ((first | (apply W.step cx_ok; decide) | (apply W.gS; rfl; decide) | apply AW.cond); (simp (disch := omega) only [push_cast, simprocAttr, hcF] <;> rfl); all_goals try ((with_reducible intro hI); try first | (cases hI; done) | (simp only [INTS, zL] at hI; try first | (exfalso; omega) | (have hT : True := hI; clear hT hI))))
      | ((apply W.callv cx_ok; decide); (iterate 2 (simp (disch := omega) only [push_cast, simprocAttr, hcF] <;> rfl)); (with_reducible first | exact RCheck_ok _); try first | rfl | (simp (disch := omega) only [push_cast, simprocAttr, hcF] <;> rfl))
      | ((first | apply W.ret1 | apply W.end1); (iterate 2 (try (simp (disch := omega) only [push_cast, simprocAttr, hcF] <;> rfl))))
    all_goals (show _ = _; rfl)
end Go.Proofs.Ks

namespace Go.Pg
open Go Go.RowKit
section
variable {C : Cx} {N : Nat} {Q : Exit → St → Prop} {s : St} {ops : Array Oper} {rest : List Oper} {ty : TypeId} {ps : String} {af : Array Edge} {d : Nat}
variable {H0 : Nat → Option AO} {b : Nat} {tg mk av : List Nat} {Fin : St → Prop} {i : Nat}
def OKr (C : Cx) (f : FuncId) (args : List AV) (H0 : Nat → Option AO) (R : AV) : Prop :=
  ∀ (H : Nat → Option AO) (nx : Nat), (∀ id x, H0 id = some x → H id = some x) → OKm C f args H nx (fun r h n => r = R ∧ h = H ∧ n = nx)
theorem W.callr (hC : C.OK) (hN : d < N) {fo : Operand} {args : Array Operand} {tys : Array TypeId} {f : FuncId} {caps vs : List AV} {R : AV} (hf : s.ev fo = .clo f caps) (ha : evsA args.toList s.ev ++ caps = vs) (hok : OKr C f vs s.H R)
    (k : AWL C N ops Q rest (s.put d R none)) : AWL C N ops Q (⟨some d, .call { callee := .value fo, args := args, argTypes := tys }, ty, ps, af, none⟩ :: rest) s := by
  subst ha
  refine W.callm hC hN hf (hok _ _ fun _ _ h => h) ?_
  rintro r h n ⟨rfl, rfl, rfl⟩
  exact k
theorem D.callr (hC : C.OK) (hN : d < N) (hi : i ∉ tg ∧ i ∉ mk) {fo : Operand} {args : Array Operand} {tys : Array TypeId} {f : FuncId} {caps vs : List AV} {R : AV} (hf : s.ev fo = .clo f caps) (ha : evsA args.toList s.ev ++ caps = vs) (hok : OKr C f vs H0 R)
    (k : DW C N ops H0 b tg mk av Fin (i + 1) rest (s.put d R none)) :
    DW C N ops H0 b tg mk av Fin i (⟨some d, .call { callee := .value fo, args := args, argTypes := tys }, ty, ps, af, none⟩ :: rest) s := by
  subst ha
  refine ⟨R, s.put d R none, rfl, ?_, k⟩
  rw [if_neg hi.1, if_neg hi.2]
  refine ⟨none, rfl, rfl, .inl rfl, fun s' hx _ ht => ?_⟩
  have hev := ev_congr ht
  have e1 : s'.ev fo = .clo f caps := by rw [hev fo (by simp [Op.operands, Call.operands])]; exact hf
  have e2 : evsA args.toList s'.ev = evsA args.toList s.ev := evsA_congr (fun x hx => hev x (by simp only [Op.operands, Call.operands, Array.mem_append]; exact .inr (by simpa using hx)))
  refine one_of_AWL (W.callm hC hN e1 (Qr := fun r h n => r = R ∧ h = s'.H ∧ n = s'.nx) (by rw [e2]; exact hok _ _ hx) ?_)
  rintro r h n ⟨rfl, rfl, rfl⟩
  exact AWL.nil ⟨rfl, rfl⟩
theorem natNe {a b : Nat} (h : a ≠ b) : (a = b) = False := eq_false h
end
end Go.Pg

namespace Go.Proofs.Ks
open Go Go.Pg Go.Proofs
theorem rowAt_ext {H0 H : Nat → Option AO} (h : ∀ id x, H0 id = some x → H id = some x) {i : Nat} {r : Pg.Row} (hr : Pg.rowAt H0 i = some r) : Pg.rowAt H i = some r := by
  have h1 := h i _ (Pg.rowAt_eq hr)
  unfold Pg.rowAt; rw [h1]
def ixM (N : List Node) : List (Key × AV) := (N.map keyN).zip (idxV 0 N.length)
theorem at_r (N : List Node) (kd nm : Int) {g m : Nat} {a b : AV} {H0 : Nat → Option AO} (hg : Pg.rowAt H0 g = some { k := 3, es := [[a, .map m, b]], ty := 135 }) (hm : H0 m = some (.mp (.map .pair) 0 (ixM N))) :
    OKr cx 83 [.ptr g 0 0 1, ai kd, ai nm] H0 (ai (atP kd nm N)) := by
  intro H nx hx
  have hg1 := rowAt_ext hx hg
  have hm1 := hx _ _ hm
  unfold ixM at hm1
  refine OKm.of_body cx_ok (rs := [.tmp 6]) Try.func83 rfl (by decide +kernel) rfl (by simp [Try.ntmps83]) ?_
  simp only [Try.ntmps83]
  repeat' first
    | apply AW.seq | apply AW.region | apply AW.ret | apply AW.block | apply AW.skip | apply AW.exit | apply AW.scope | apply AW.label | apply AWL.nil
    | ((first | (apply W.step cx_ok; decide) | apply AW.cond | apply W.mapUpdate cx_ok); (simp (disch := omega) only [push_cast, simprocAttr, node_look, zM, TyD.isAgg, hg1, hm1] <;> rfl); all_goals try ((with_reducible intro hI); try first | (cases hI; done) | (simp only [INTS, zL] at hI; try first | (exfalso; omega) | (have hT : True := hI; clear hT hI))))
    | (refine W.makeMap cx_ok (by simp only [push_cast, simprocAttr] <;> rfl) (by decide) ?_)

  all_goals
    ((first | apply W.retX | apply W.endX); (simp (disch := omega) only [push_cast, simprocAttr, hg1, hm1] <;> rfl); (refine ⟨?_, ?_, ?_⟩ <;> (first | rfl | (simp (disch := omega) only [push_cast, simprocAttr, hg1, hm1] <;> rfl))))
theorem between0_m (nd : Int) (x : Span) (hn : 0 ≤ nd) (hb : 0 ≤ x.lo ∧ x.lo ≤ 1099511627776) {lb : Nat} {H : Nat → Option AO} {nx : Nat} (hlb : lb < nx) {args : List AV} (ha : args = [ai nd, .agg (eSpan x), .ptr lb 0 0 1])
    (h1 : Pg.rowAt H lb = some { k := 1, es := [[.v (.slice none 0 0)]], ty := 62 }) :
    OKm cx 122 args H nx (fun r H' nx' => r = .tup [] ∧ H' = updH (updH (updH (updH H nx (.row { k := 2, es := [eSpan x], ty := 23 })) (nx + 1) (.row { k := 3, es := (bothL nd.toNat x).map eLink, ty := 66 })) (nx + 2) (.row { k := 3, es := (bothL nd.toNat x).map eLink, ty := 66, lo := 2 })) lb (.row { k := 1, es := [[.ref (nx + 2) 0 2]], ty := 62 }) ∧ nx' = nx + 3) := by
  subst ha
  have en : ((nd.toNat : Nat) : Int) = nd := Int.toNat_of_nonneg hn
  refine OKm.of_body cx_ok (rs := []) Try.func122 rfl (by decide +kernel) rfl (by simp [Try.ntmps122]) ?_
  simp only [Try.ntmps122]
  repeat' first
    | apply AW.seq | apply AW.region | apply AW.ret | apply AW.block | apply AW.skip | apply AW.exit | apply AW.scope | apply AW.label | apply AWL.nil
    | ((first | (apply W.step cx_ok; decide) | apply W.store cx_ok | apply AW.cond); (simp (disch := (first | omega | (simp only [zE, zF, zD, zC, zA, zB]; omega))) only [push_cast, simprocAttr, takeM, dropM, zK, zA, zB, zN, zQ, zR, zO, zP, zT, zS, zU, leT, zH, pureL, pureA, natNe, h1, zJ] <;> rfl); all_goals try ((with_reducible intro hI); try first | (cases hI; done) | (simp only [INTS, zL] at hI; try first | (exfalso; omega) | (have hT : True := hI; clear hT hI))))
    | (apply W.append cx_ok; decide; rfl; rfl; rfl; decide; (iterate 3 (simp (disch := (first | omega | (simp only [zE, zF, zD, zC, zA, zB]; omega))) only [push_cast, simprocAttr, takeM, dropM, zK, zA, zB, zN, zQ, zR, zO, zP, zT, zS, zU, leT, zH, pureL, pureA, natNe, h1, zJ] <;> rfl)); (first | (focus (simp; done)) | (intro c hc; obtain ⟨x, _, rfl⟩ := List.mem_map.1 hc; rfl)); ((first | rfl | simp (disch := omega) only [push_cast])); ((try dsimp only); (try simp only [zF, zE, zD, zC, zA, zB]); omega); ((try dsimp only); (try simp only [zF, zE, zD, zC, zA, zB]); omega))

  all_goals
    ((first | apply W.retX | apply W.endX); (simp (disch := omega) only [push_cast, simprocAttr] <;> rfl); (refine ⟨rfl, ?_, ?_⟩ <;> (simp (disch := omega) only [push_cast, simprocAttr, natNe, h1, bothL, zX, zW, zD, zC, yD, en, zV, zJ, St.put, putH, maxNx, yA, updO, upd_twice] <;> rfl)))
theorem between_m (nd : Int) (x : Span) (hn : 0 ≤ nd) (hb : 0 ≤ x.lo ∧ x.lo ≤ 1099511627776) (L : List Lk) {lw : Nat} (hl : L.length ≤ 1000000) {lb lo : Nat} {H : Nat → Option AO} {nx : Nat} (hne : lb ≠ lo) (hlb : lb < nx) (hlo : lo < nx) {args : List AV} (ha : args = [ai nd, .agg (eSpan x), .ptr lb 0 0 1])
    (h1 : Pg.rowAt H lb = some { k := 1, es := [[.ref lo 0 L.length]], ty := 62 }) (h2 : Pg.rowAt H lo = some { k := 3, es := L.map eLink, ty := 66, lo := lw }) (hlw : lw ≤ L.length) :
    OKm cx 122 args H nx (fun r H' nx' => r = .tup [] ∧ H' = updH (updH (updH (updH H nx (.row { k := 2, es := [eSpan x], ty := 23 })) (nx + 1) (.row { k := 3, es := (bothL nd.toNat x).map eLink, ty := 66 })) lo (.row { k := 3, es := (L ++ bothL nd.toNat x).map eLink, ty := 66, lo := L.length + 2 })) lb (.row { k := 1, es := [[.ref lo 0 (L.length + 2)]], ty := 62 }) ∧ nx' = nx + 2) := by
  subst ha
  have en : ((nd.toNat : Nat) : Int) = nd := Int.toNat_of_nonneg hn
  refine OKm.of_body cx_ok (rs := []) Try.func122 rfl (by decide +kernel) rfl (by simp [Try.ntmps122]) ?_
  simp only [Try.ntmps122]
  repeat' first
    | apply AW.seq | apply AW.region | apply AW.ret | apply AW.block | apply AW.skip | apply AW.exit | apply AW.scope | apply AW.label | apply AWL.nil
    | ((first | (apply W.step cx_ok; decide) | apply W.store cx_ok | apply AW.cond); (simp (disch := (first | omega | (simp only [zE, zF, zD, zC, zA, zB]; omega))) only [push_cast, simprocAttr, takeM, dropM, zK, zA, zB, zN, zQ, zR, zO, zP, zT, zS, zU, leT, zH, pureL, pureA, natNe, h1, h2, hlw] <;> rfl); all_goals try ((with_reducible intro hI); try first | (cases hI; done) | (simp only [INTS, zL] at hI; try first | (exfalso; omega) | (have hT : True := hI; clear hT hI))))
    | (apply W.append cx_ok; decide; rfl; rfl; rfl; decide; (iterate 3 (simp (disch := (first | omega | (simp only [zE, zF, zD, zC, zA, zB]; omega))) only [push_cast, simprocAttr, takeM, dropM, zK, zA, zB, zN, zQ, zR, zO, zP, zT, zS, zU, leT, zH, pureL, pureA, natNe, h1, h2, hlw] <;> rfl)); (first | (focus (simp; done)) | (intro c hc; obtain ⟨x, _, rfl⟩ := List.mem_map.1 hc; rfl)); ((first | rfl | simp (disch := omega) only [push_cast])); ((try dsimp only); (try simp only [zF, zE, zD, zC, zA, zB]); omega); ((try dsimp only); (try simp only [zF, zE, zD, zC, zA, zB]); omega))

  all_goals
    ((first | apply W.retX | apply W.endX); (simp (disch := omega) only [push_cast, simprocAttr] <;> rfl); (refine ⟨rfl, ?_, ?_⟩ <;> (simp (disch := omega) only [push_cast, simprocAttr, natNe, h1, h2, bothL, zY, zX, zW, zE, zD, zC, yD, en, zV, zJ, St.put, putH, updO] <;> rfl)))
theorem ixM_snoc (N : List Node) (n : Node) : ixM (N ++ [n]) = ixM N ++ [(keyN n, ai N.length)] := by
  unfold ixM idxV
  rw [List.map_append, List.length_append, List.length_singleton, List.range'_concat, List.map_append, List.zip_append (by simp)]
  simp
theorem putM_new (v : AV) (kd nm : Int) : ∀ (l : List (Key × AV)), (∀ x ∈ l, x.1 ≠ .pair kd nm) → (∀ x ∈ l, ∃ a b, x.1 = .pair a b) → putM (.pair kd nm) v l = l ++ [(.pair kd nm, v)]
  | [], _, _ => rfl
  | (k, u) :: l, h, h2 => by
    obtain ⟨a, b, hk⟩ := h2 (k, u) (by simp)
    simp only at hk
    subst hk
    have h1 := h (.pair a b, u) (by simp)
    have ih := putM_new v kd nm l (fun x hx => h x (by simp [hx])) (fun x hx => h2 x (by simp [hx]))
    have hs : Key.same (.pair kd nm) (.pair a b) = false := by
      simp only [Key.same]
      cases hq : (kd == a && nm == b) with
      | false => rfl
      | true => simp only [Bool.and_eq_true, beq_iff_eq] at hq; exact absurd (by rw [hq.1, hq.2]) h1
    simp only [putM, hs, Bool.false_eq_true, if_false, ih, List.cons_append]
theorem putM_ix {N : List Node} {n : Node} (h : n ∉ N) : putM (.pair n.kind n.num) (ai N.length) (ixM N) = ixM (N ++ [n]) := by
  rw [ixM_snoc]
  refine putM_new _ _ _ _ (fun x hx => ?_) (fun x hx => ?_)
  all_goals
    obtain ⟨y, hy, hxy⟩ := List.mem_map.1 (List.of_mem_zip hx).1
  · rw [← hxy]; intro e
    simp only [keyN, Key.pair.injEq] at e
    have : y = n := by cases y; cases n; simp_all
    exact h (this ▸ hy)
  · exact ⟨y.kind, y.num, hxy.symm⟩
structure SysB (H : Nat → Option AO) (c g nd m : Nat) (N : List Node) (b : AV) : Prop where
  c : Pg.rowAt H c = some { k := 1, es := [[.ptr g 0 0 1]], ty := 122 }
  g : Pg.rowAt H g = some { k := 3, es := [[.ref nd 0 N.length, .map m, b]], ty := 135 }
  nd : Pg.rowAt H nd = some { k := 2, es := N.map eNode, ty := 144, lo := N.length }
  m : H m = some (.mp (.map .pair) 0 (ixM N))
theorem add_m (N : List Node) (n : Node) (hl : N.length ≤ 1000000) (hnew : n ∉ N) {b : AV} {c g nd m : Nat} {H : Nat → Option AO} {nx : Nat} (hS : SysB H c g nd m N b) (hd1 : c ≠ g ∧ c ≠ nd ∧ c ≠ m) (hd2 : g ≠ nd ∧ g ≠ m ∧ nd ≠ m) (hc : c < nx) (hg : g < nx) (hnd : nd < nx) (hm : m < nx) :
    OKm cx 111 [.agg (eNode n), .ptr c 0 0 1] H nx (fun r H' nx' => SysB H' c g nd m (N ++ [n]) b ∧ nx ≤ nx' ∧ ∀ j, j < nx → j ≠ g → j ≠ nd → j ≠ m → H' j = H j) := by
  have h1 := hS.c
  have h2 := hS.g
  have h3 := hS.nd
  have h4 := hS.m
  have hput := putM_ix hnew
  obtain ⟨d1, d2, d3⟩ := hd1
  obtain ⟨d4, d5, d6⟩ := hd2
  refine OKm.of_body cx_ok (rs := []) Try.func111 rfl (by decide +kernel) rfl (by simp [Try.ntmps111]) ?_
  simp only [Try.ntmps111]
  refine AW.fresh fun hfr0 => ?_
  have hfr : ∀ id, nx ≤ id → H id = none := hfr0
  repeat' first
    | apply AW.seq | apply AW.region | apply AW.ret | apply AW.block | apply AW.skip | apply AW.exit | apply AW.scope | apply AW.label | apply AWL.nil | apply D.nil
    | refine AW.draw (id := 1) cx_mixed [10] [] [] 0 (by decide +kernel) ?_
    | refine AW.draw (id := 2) cx_mixed [7, 10] [0, 8, 9] [nd, g] 11 (by decide +kernel) ?_
    | refine W.draw cx_mixed (by decide +kernel) ?_
    | ((first | (apply W.step cx_ok; decide) | (apply D.step cx_ok; decide; decide) | apply W.store cx_ok | apply AW.cond | apply W.mapUpdate cx_ok); (simp (disch := (first | omega | (simp only [zE, zF, zD, zC, zA, zB]; omega))) only [push_cast, simprocAttr, takeM, dropM, zK, zA, zB, zN, zQ, zR, zO, zP, zT, zS, zU, leT, zH, pureL, pureA, natNe, hfr, h1, h2, h3, h4, hput, zI, zG, TyD.isAgg] <;> rfl); all_goals try ((with_reducible intro hI); try first | (cases hI; done) | (simp only [INTS, zL] at hI; try first | (exfalso; omega) | (have hT : True := hI; clear hT hI))))
    | ((first | (apply D.store cx_ok; decide) | (apply D.stept cx_ok; decide; decide) | (apply D.mapUpdate cx_ok; decide) | (apply D.stepm cx_ok; decide; decide)); (simp (disch := (first | omega | (simp only [zE, zF, zD, zC, zA, zB]; omega))) only [push_cast, simprocAttr, takeM, dropM, zK, zA, zB, zN, zQ, zR, zO, zP, zT, zS, zU, leT, zH, pureL, pureA, natNe, hfr, h1, h2, h3, h4, hput, zI, zG, TyD.isAgg] <;> rfl); try first | exact .inl rfl | exact .inr (by simp))
    | (refine W.makeMap cx_ok (by simp only [push_cast, simprocAttr] <;> rfl) (by decide) ?_)
    | ((apply D.alloc cx_ok; decide; decide); (simp (disch := (first | omega | (simp only [zE, zF, zD, zC, zA, zB]; omega))) only [push_cast, simprocAttr, takeM, dropM, zK, zA, zB, zN, zQ, zR, zO, zP, zT, zS, zU, leT, zH, pureL, pureA, natNe, hfr, h1, h2, h3, h4, hput, zI, zG, TyD.isAgg] <;> rfl); (simp (disch := (first | omega | (simp only [zE, zF, zD, zC, zA, zB]; omega))) only [push_cast, simprocAttr, takeM, dropM, zK, zA, zB, zN, zQ, zR, zO, zP, zT, zS, zU, leT, zH, pureL, pureA, natNe, hfr, h1, h2, h3, h4, hput, zI, zG, TyD.isAgg, updH_at, zJ]); (simp (disch := (first | omega | (simp only [zE, zF, zD, zC, zA, zB]; omega))) only [push_cast, simprocAttr, takeM, dropM, zK, zA, zB, zN, zQ, zR, zO, zP, zT, zS, zU, leT, zH, pureL, pureA, natNe, hfr, h1, h2, h3, h4, hput, zI, zG, TyD.isAgg] <;> omega))
    | ((apply D.alloct cx_ok; decide; decide); (simp (disch := (first | omega | (simp only [zE, zF, zD, zC, zA, zB]; omega))) only [push_cast, simprocAttr, takeM, dropM, zK, zA, zB, zN, zQ, zR, zO, zP, zT, zS, zU, leT, zH, pureL, pureA, natNe, hfr, h1, h2, h3, h4, hput, zI, zG, TyD.isAgg] <;> rfl); first | exact .inl rfl | exact .inr (by simp))
    | (apply W.append cx_ok; decide; rfl; rfl; rfl; decide; (iterate 3 (simp (disch := (first | omega | (simp only [zE, zF, zD, zC, zA, zB]; omega))) only [push_cast, simprocAttr, takeM, dropM, zK, zA, zB, zN, zQ, zR, zO, zP, zT, zS, zU, leT, zH, pureL, pureA, natNe, hfr, h1, h2, h3, h4, hput, zI, zG, TyD.isAgg] <;> rfl)); (first | (focus (simp; done)) | (intro c hc; obtain ⟨x, _, rfl⟩ := List.mem_map.1 hc; rfl)); ((first | rfl | simp (disch := omega) only [push_cast])); ((try dsimp only); (try simp only [zF, zE, zD, zC, zA, zB]); omega); ((try dsimp only); (try simp only [zF, zE, zD, zC, zA, zB]); omega))
    | (apply D.append cx_ok; decide; decide; rfl; rfl; rfl; decide; (iterate 3 (simp (disch := (first | omega | (simp only [zE, zF, zD, zC, zA, zB]; omega))) only [push_cast, simprocAttr, takeM, dropM, zK, zA, zB, zN, zQ, zR, zO, zP, zT, zS, zU, leT, zH, pureL, pureA, natNe, hfr, h1, h2, h3, h4, hput, zI, zG, TyD.isAgg] <;> rfl)); (first | (focus (simp; done)) | (intro c hc; obtain ⟨x, _, rfl⟩ := List.mem_map.1 hc; rfl)); ((first | rfl | (simp (disch := omega) only [push_cast]; done))); ((try dsimp only); (try simp only [zF, zE, zD, zC, zA, zB]); omega); ((try dsimp only); (try simp only [zF, zE, zD, zC, zA, zB]); omega); first | exact .inl rfl | exact .inr (by simp))

  all_goals
    ((first | apply W.retX | apply W.endX); (simp (disch := omega) only [push_cast, simprocAttr, natNe, hfr, h1, h2, h3, h4, hput, zI, zG, TyD.isAgg] <;> rfl); (refine ⟨⟨?_, ?_, ?_, ?_⟩, ?_, fun j hj hj1 hj2 hj3 => ?_⟩ <;> (first | rfl | (simp (disch := omega) only [push_cast, simprocAttr, natNe, hfr, h1, h2, h3, h4, hput, zI, zG, TyD.isAgg, zJ, zY, zX, zW, zE, zD, zC, isEmpty_map, lo_len, zV] <;> first | rfl | omega) | omega)))
structure SysY (H : Nat → Option AO) (rb gb pb g m : Nat) (r : Rec) (pl : List Int) (N : List Node) : Prop where
  r : Pg.rowAt H rb = some { k := 14, es := [eRec r], ty := 30 }
  gb : Pg.rowAt H gb = some { k := 1, es := [[.ptr g 0 0 1]], ty := 122 }
  pb : Pg.rowAt H pb = some { k := 1, es := [[lInt pl]], ty := 41 }
  g : ∃ a b, Pg.rowAt H g = some { k := 3, es := [[a, .map m, b]], ty := 135 }
  m : H m = some (.mp (.map .pair) 0 (ixM N))
theorem all_m (r : Rec) (pl : List Int) {g : Nat} {H : Nat → Option AO} {nx : Nat} :
    OKm cx 113 [.ptr g 0 0 1, .agg (eRec r), lInt pl] H nx (fun v H' nx' => v = .clo 121 [.ptr (nx + 1) 0 0 1, .ptr nx 0 0 1, .ptr (nx + 2) 0 0 1] ∧ Pg.rowAt H' nx = some { k := 1, es := [[.ptr g 0 0 1]], ty := 122 } ∧
      Pg.rowAt H' (nx + 1) = some { k := 14, es := [eRec r], ty := 30 } ∧ Pg.rowAt H' (nx + 2) = some { k := 1, es := [[lInt pl]], ty := 41 } ∧ nx' = nx + 3 ∧ ∀ j, j < nx → H' j = H j) := by
  refine OKm.of_body cx_ok (rs := [.tmp 6]) Try.func113 rfl (by decide +kernel) rfl (by simp [Try.ntmps113]) ?_
  simp only [Try.ntmps113]
  repeat' first
    | apply AW.seq | apply AW.region | apply AW.ret | apply AW.block | apply AW.skip | apply AW.exit | apply AW.scope | apply AW.label | apply AWL.nil
    | ((first | (apply W.step cx_ok; decide) | apply AW.cond); (simp (disch := omega) only [push_cast, simprocAttr, natNe] <;> rfl); all_goals try ((with_reducible intro hI); try first | (cases hI; done) | (simp only [INTS, zL] at hI; try first | (exfalso; omega) | (have hT : True := hI; clear hT hI))))

  all_goals
    ((first | apply W.retX | apply W.endX); (simp (disch := omega) only [push_cast, simprocAttr, natNe] <;> rfl); (refine ⟨?_, ?_, ?_, ?_, ?_, fun j hj => ?_⟩ <;> (first | rfl | (simp (disch := omega) only [push_cast, simprocAttr, natNe, zJ] <;> first | rfl | omega) | omega)))
theorem inside_ok (p : Stop) (x y : Int) : OKv cx 123 [.agg (eStop p), .iptr [ai x] 0, .iptr [ai y] 0] (ab (decide (x ≤ p.pos) && decide (p.pos < y))) := by
  refine OKat.of_body (rs := [4]) Try.func123 rfl (by decide +kernel) rfl (by simp [Try.ntmps123]) ?_
  simp only [Try.ntmps123]
  repeat' first
    | apply AW.seq | apply AW.region | apply AW.ret | apply AW.block | apply AW.skip | apply AW.exit | apply AW.scope | apply AW.label | apply AWL.nil
    | ((first | (apply W.step cx_ok; decide) | (apply W.gS; rfl; decide) | apply AW.cond); (simp (disch := omega) only [push_cast, simprocAttr] <;> rfl); all_goals try ((with_reducible intro hI); try first | (cases hI; done) | (simp only [INTS, zL] at hI; try first | (exfalso; omega) | (have hT : True := hI; clear hT hI))))
    | ((first | apply W.ret1 | apply W.end1); (iterate 2 (try (simp (disch := omega) only [push_cast, simprocAttr] <;> rfl))))
  all_goals (show _ = _; first | rfl | (simp [*]; done) | (simp; omega) | (simp_all; omega))
theorem secsHi_ok (p : Stop) : OKv cx 126 [.agg (eStop p)] (ai p.secs.hi) := by
  refine OKat.of_body (rs := [2]) Try.func126 rfl (by decide +kernel) rfl (by simp [Try.ntmps126]) ?_
  simp only [Try.ntmps126]
  repeat' first
    | apply AW.seq | apply AW.region | apply AW.ret | apply AW.block | apply AW.skip | apply AW.exit | apply AW.scope | apply AW.label | apply AWL.nil
    | ((first | (apply W.step cx_ok; decide) | apply AW.cond); (simp (disch := omega) only [push_cast, simprocAttr] <;> rfl); all_goals try ((with_reducible intro hI); try first | (cases hI; done) | (simp only [INTS, zL] at hI; try first | (exfalso; omega) | (have hT : True := hI; clear hT hI))))
    | ((first | apply W.ret1 | apply W.end1); (iterate 2 (try (simp (disch := omega) only [push_cast, simprocAttr] <;> rfl))))
  all_goals (show _ = _; rfl)
theorem secsLo_ok (p : Stop) : OKv cx 127 [.agg (eStop p)] (ai p.secs.lo) := by
  refine OKat.of_body (rs := [2]) Try.func127 rfl (by decide +kernel) rfl (by simp [Try.ntmps127]) ?_
  simp only [Try.ntmps127]
  repeat' first
    | apply AW.seq | apply AW.region | apply AW.ret | apply AW.block | apply AW.skip | apply AW.exit | apply AW.scope | apply AW.label | apply AWL.nil
    | ((first | (apply W.step cx_ok; decide) | apply AW.cond); (simp (disch := omega) only [push_cast, simprocAttr] <;> rfl); all_goals try ((with_reducible intro hI); try first | (cases hI; done) | (simp only [INTS, zL] at hI; try first | (exfalso; omega) | (have hT : True := hI; clear hT hI))))
    | ((first | apply W.ret1 | apply W.end1); (iterate 2 (try (simp (disch := omega) only [push_cast, simprocAttr] <;> rfl))))
  all_goals (show _ = _; rfl)
def sumS (f : Stop → Int) (x y : Int) : List Stop → Int → Int
  | [], n => n
  | t :: l, n => sumS f x y l (if x ≤ t.pos ∧ t.pos < y then n + f t else n)
theorem addS_sum (x y : Int) : ∀ (l : List Stop) (p : Int × Int), addS x y l p = (p.1 + sumS (·.secs.lo) x y l 0, p.2 + sumS (·.secs.hi) x y l 0)
  | [], p => by simp [addS, sumS]
  | t :: l, p => by
    have go : ∀ (f : Stop → Int) (l : List Stop) (n : Int), sumS f x y l n = n + sumS f x y l 0 := by
      intro f l
      induction l with
      | nil => intro n; simp [sumS]
      | cons t l ih =>
        intro n; unfold sumS
        by_cases hc : x ≤ t.pos ∧ t.pos < y
        · simp only [if_pos hc]; rw [ih (n + f t), ih (0 + f t)]; omega
        · simp only [if_neg hc]; exact ih n
    rw [addS, addS_sum x y l, sumS, sumS]
    by_cases hc : x ≤ t.pos ∧ t.pos < y
    · simp only [if_pos hc]; rw [go (fun t => t.secs.lo) l (0 + t.secs.lo), go (fun t => t.secs.hi) l (0 + t.secs.hi)]; ext <;> dsimp only <;> omega
    · simp only [if_neg hc]
theorem sumHi_ok (l : List Stop) (x y : Int) (hl : l.length ≤ 4) (hb : ∀ t ∈ l, 0 ≤ t.secs.lo ∧ t.secs.lo ≤ t.secs.hi ∧ t.secs.hi ≤ 36000) : OKv cx 125 [lStop l, .clo 123 [.iptr [ai x] 0, .iptr [ai y] 0], .clo 126 []] (ai (sumS (·.secs.hi) x y l 0)) := by
  obtain ⟨RES, hRES⟩ : ∃ z, sumS (·.secs.hi) x y l 0 = z := ⟨_, rfl⟩
  rw [hRES]
  refine OKat.of_body (rs := [6]) Try.func125 rfl (by decide +kernel) rfl (by simp [Try.ntmps125]) ?_
  simp only [Try.ntmps125]
  repeat' first
    | apply AW.seq | apply AW.region | apply AW.ret | apply AW.block | apply AW.skip | apply AW.exit | apply AW.scope | apply AW.label | apply AWL.nil
    | ((first | (apply W.step cx_ok; decide) | apply W.store cx_ok | apply AW.cond); (simp (disch := omega) only [push_cast, simprocAttr] <;> rfl); all_goals try ((with_reducible intro hI); try first | (cases hI; done) | (simp only [INTS, zL] at hI; try first | (exfalso; omega) | (have hT : True := hI; clear hT hI))))
    | ((first | apply W.ret1 | apply W.end1); (iterate 2 (try (simp (disch := omega) only [push_cast, simprocAttr] <;> rfl))))
  refine AW.loop (fun n s => ∃ (k : Nat) (m : Int) (rest : List Stop), n = rest.length ∧ (l.drop k = rest) ∧ (sumS (·.secs.hi) x y rest m = RES) ∧ (0 ≤ m ∧ m + 36000 * rest.length ≤ 144000) ∧ 0 ≤ s.nx ∧ s.tm 1 = .clo 123 [.iptr [ai x] 0, .iptr [ai y] 0] ∧ s.tm 2 = .clo 126 [] ∧ s.tm 7 = ai m ∧ s.tm 10 = lStop l ∧ s.tm 11 = ai l.length ∧ s.tm 12 = ai k) (l.length) ⟨0, 0, l, rfl, rfl, hRES, (by omega), ?_, ?_, ?_, ?_, ?_, ?_, ?_⟩ ?_
  iterate 7 (first | (simp (disch := omega) only [push_cast, simprocAttr] <;> first | rfl | omega) | omega)
  rintro n s ⟨k, m, rest, hn, hp0, hp1, hp2, hnl, hS⟩
  rcases rest with _ | ⟨t, rest⟩
  · have hk := drop_nil hp0
    rw [sumS] at hp1
    subst hp1
    repeat' first
      | apply AW.seq | apply AW.region | apply AW.ret | apply AW.block | apply AW.skip | apply AW.exit | apply AW.scope | apply AW.label | apply AWL.nil
      | ((first | (apply W.step cx_ok; decide) | apply W.store cx_ok | apply AW.cond); (simp (disch := omega) only [push_cast, simprocAttr, hS, hk] <;> rfl); all_goals try ((with_reducible intro hI); try first | (cases hI; done) | (simp only [INTS, zL] at hI; try first | (exfalso; omega) | (have hT : True := hI; clear hT hI))))
      | ((first | apply W.ret1 | apply W.end1); (iterate 2 (try (simp (disch := omega) only [push_cast, simprocAttr, hS, hk] <;> rfl))))
    all_goals (show _ = _; rfl)
  · obtain ⟨hk, hg, hd', hl', hm, hx⟩ := drop_cons hp0 eStop []
    have ht := hb t hm
    simp only [List.length_cons] at hp2
    rw [sumS] at hp1
    by_cases hc : x ≤ t.pos ∧ t.pos < y
    · have hc1 := hc.1
      have hc2 := hc.2
      rw [if_pos hc] at hp1
      repeat' first
        | apply AW.seq | apply AW.region | apply AW.ret | apply AW.block | apply AW.skip | apply AW.exit | apply AW.scope | apply AW.label | apply AWL.nil
        | ((first | (apply W.step cx_ok; decide) | apply W.store cx_ok | apply AW.cond); (simp (disch := omega) only [push_cast, simprocAttr, hS, hk, hg, hx, hc1, hc2, zP] <;> rfl); all_goals try ((with_reducible intro hI); try first | (cases hI; done) | (simp only [INTS, zL] at hI; try first | (exfalso; omega) | (have hT : True := hI; clear hT hI))))
        | ((apply W.callv cx_ok; decide); (iterate 2 (simp (disch := omega) only [push_cast, simprocAttr, hS, hk, hg, hx, hc1, hc2, zP] <;> rfl)); (with_reducible first | exact inside_ok t x y | exact secsHi_ok t); try first | rfl | (simp (disch := omega) only [push_cast, simprocAttr, hS, hk, hg, hx, hc1, hc2, zP] <;> rfl))
        | ((first | apply W.ret1 | apply W.end1); (iterate 2 (try (simp (disch := omega) only [push_cast, simprocAttr, hS, hk, hg, hx, hc1, hc2, zP] <;> rfl))))
      all_goals (refine ⟨rest.length, ?_, k + 1, m + t.secs.hi, rest, rfl, hd', hp1, (by omega), ?_, ?_, ?_, ?_, ?_, ?_, ?_⟩; ((simp only [List.length_cons] at *; omega)); all_goals first | (simp (disch := omega) only [push_cast, simprocAttr, hS, hk, hg, hx] <;> first | rfl | omega) | omega)
    · have hcF : (decide (x ≤ t.pos) && decide (t.pos < y)) = false := by
        cases hq : (decide (x ≤ t.pos) && decide (t.pos < y)) with
        | false => rfl
        | true => simp only [Bool.and_eq_true, decide_eq_true_eq] at hq; exact absurd hq hc
      rw [if_neg hc] at hp1
      repeat' first
        | apply AW.seq | apply AW.region | apply AW.ret | apply AW.block | apply AW.skip | apply AW.exit | apply AW.scope | apply AW.label | apply AWL.nil
        | ((first | (apply W.step cx_ok; decide) | apply W.store cx_ok | apply AW.cond); (simp (disch := omega) only [push_cast, simprocAttr, hS, hk, hg, hx, hcF] <;> rfl); all_goals try ((with_reducible intro hI); try first | (cases hI; done) | (simp only [INTS, zL] at hI; try first | (exfalso; omega) | (have hT : True := hI; clear hT hI))))
        | ((apply W.callv cx_ok; decide); (iterate 2 (simp (disch := omega) only [push_cast, simprocAttr, hS, hk, hg, hx, hcF] <;> rfl)); (with_reducible first | exact (hcF ▸ inside_ok t x y) | exact secsHi_ok t); try first | rfl | (simp (disch := omega) only [push_cast, simprocAttr, hS, hk, hg, hx, hcF] <;> rfl))
        | ((first | apply W.ret1 | apply W.end1); (iterate 2 (try (simp (disch := omega) only [push_cast, simprocAttr, hS, hk, hg, hx, hcF] <;> rfl))))
      all_goals (refine ⟨rest.length, ?_, k + 1, m, rest, rfl, hd', hp1, (by omega), ?_, ?_, ?_, ?_, ?_, ?_, ?_⟩; ((simp only [List.length_cons] at *; omega)); all_goals first | (simp (disch := omega) only [push_cast, simprocAttr, hS, hk, hg, hx] <;> first | rfl | omega) | omega)
theorem sumLo_ok (l : List Stop) (x y : Int) (hl : l.length ≤ 4) (hb : ∀ t ∈ l, 0 ≤ t.secs.lo ∧ t.secs.lo ≤ t.secs.hi ∧ t.secs.hi ≤ 36000) : OKv cx 125 [lStop l, .clo 123 [.iptr [ai x] 0, .iptr [ai y] 0], .clo 127 []] (ai (sumS (·.secs.lo) x y l 0)) := by
  obtain ⟨RES, hRES⟩ : ∃ z, sumS (·.secs.lo) x y l 0 = z := ⟨_, rfl⟩
  rw [hRES]
  refine OKat.of_body (rs := [6]) Try.func125 rfl (by decide +kernel) rfl (by simp [Try.ntmps125]) ?_
  simp only [Try.ntmps125]
  repeat' first
    | apply AW.seq | apply AW.region | apply AW.ret | apply AW.block | apply AW.skip | apply AW.exit | apply AW.scope | apply AW.label | apply AWL.nil
    | ((first | (apply W.step cx_ok; decide) | apply W.store cx_ok | apply AW.cond); (simp (disch := omega) only [push_cast, simprocAttr] <;> rfl); all_goals try ((with_reducible intro hI); try first | (cases hI; done) | (simp only [INTS, zL] at hI; try first | (exfalso; omega) | (have hT : True := hI; clear hT hI))))
    | ((first | apply W.ret1 | apply W.end1); (iterate 2 (try (simp (disch := omega) only [push_cast, simprocAttr] <;> rfl))))
  refine AW.loop (fun n s => ∃ (k : Nat) (m : Int) (rest : List Stop), n = rest.length ∧ (l.drop k = rest) ∧ (sumS (·.secs.lo) x y rest m = RES) ∧ (0 ≤ m ∧ m + 36000 * rest.length ≤ 144000) ∧ 0 ≤ s.nx ∧ s.tm 1 = .clo 123 [.iptr [ai x] 0, .iptr [ai y] 0] ∧ s.tm 2 = .clo 127 [] ∧ s.tm 7 = ai m ∧ s.tm 10 = lStop l ∧ s.tm 11 = ai l.length ∧ s.tm 12 = ai k) (l.length) ⟨0, 0, l, rfl, rfl, hRES, (by omega), ?_, ?_, ?_, ?_, ?_, ?_, ?_⟩ ?_
  iterate 7 (first | (simp (disch := omega) only [push_cast, simprocAttr] <;> first | rfl | omega) | omega)
  rintro n s ⟨k, m, rest, hn, hp0, hp1, hp2, hnl, hS⟩
  rcases rest with _ | ⟨t, rest⟩
  · have hk := drop_nil hp0
    rw [sumS] at hp1
    subst hp1
    repeat' first
      | apply AW.seq | apply AW.region | apply AW.ret | apply AW.block | apply AW.skip | apply AW.exit | apply AW.scope | apply AW.label | apply AWL.nil
      | ((first | (apply W.step cx_ok; decide) | apply W.store cx_ok | apply AW.cond); (simp (disch := omega) only [push_cast, simprocAttr, hS, hk] <;> rfl); all_goals try ((with_reducible intro hI); try first | (cases hI; done) | (simp only [INTS, zL] at hI; try first | (exfalso; omega) | (have hT : True := hI; clear hT hI))))
      | ((first | apply W.ret1 | apply W.end1); (iterate 2 (try (simp (disch := omega) only [push_cast, simprocAttr, hS, hk] <;> rfl))))
    all_goals (show _ = _; rfl)
  · obtain ⟨hk, hg, hd', hl', hm, hx⟩ := drop_cons hp0 eStop []
    have ht := hb t hm
    simp only [List.length_cons] at hp2
    rw [sumS] at hp1
    by_cases hc : x ≤ t.pos ∧ t.pos < y
    · have hc1 := hc.1
      have hc2 := hc.2
      rw [if_pos hc] at hp1
      repeat' first
        | apply AW.seq | apply AW.region | apply AW.ret | apply AW.block | apply AW.skip | apply AW.exit | apply AW.scope | apply AW.label | apply AWL.nil
        | ((first | (apply W.step cx_ok; decide) | apply W.store cx_ok | apply AW.cond); (simp (disch := omega) only [push_cast, simprocAttr, hS, hk, hg, hx, hc1, hc2, zP] <;> rfl); all_goals try ((with_reducible intro hI); try first | (cases hI; done) | (simp only [INTS, zL] at hI; try first | (exfalso; omega) | (have hT : True := hI; clear hT hI))))
        | ((apply W.callv cx_ok; decide); (iterate 2 (simp (disch := omega) only [push_cast, simprocAttr, hS, hk, hg, hx, hc1, hc2, zP] <;> rfl)); (with_reducible first | exact inside_ok t x y | exact secsLo_ok t); try first | rfl | (simp (disch := omega) only [push_cast, simprocAttr, hS, hk, hg, hx, hc1, hc2, zP] <;> rfl))
        | ((first | apply W.ret1 | apply W.end1); (iterate 2 (try (simp (disch := omega) only [push_cast, simprocAttr, hS, hk, hg, hx, hc1, hc2, zP] <;> rfl))))
      all_goals (refine ⟨rest.length, ?_, k + 1, m + t.secs.lo, rest, rfl, hd', hp1, (by omega), ?_, ?_, ?_, ?_, ?_, ?_, ?_⟩; ((simp only [List.length_cons] at *; omega)); all_goals first | (simp (disch := omega) only [push_cast, simprocAttr, hS, hk, hg, hx] <;> first | rfl | omega) | omega)
    · have hcF : (decide (x ≤ t.pos) && decide (t.pos < y)) = false := by
        cases hq : (decide (x ≤ t.pos) && decide (t.pos < y)) with
        | false => rfl
        | true => simp only [Bool.and_eq_true, decide_eq_true_eq] at hq; exact absurd hq hc
      rw [if_neg hc] at hp1
      repeat' first
        | apply AW.seq | apply AW.region | apply AW.ret | apply AW.block | apply AW.skip | apply AW.exit | apply AW.scope | apply AW.label | apply AWL.nil
        | ((first | (apply W.step cx_ok; decide) | apply W.store cx_ok | apply AW.cond); (simp (disch := omega) only [push_cast, simprocAttr, hS, hk, hg, hx, hcF] <;> rfl); all_goals try ((with_reducible intro hI); try first | (cases hI; done) | (simp only [INTS, zL] at hI; try first | (exfalso; omega) | (have hT : True := hI; clear hT hI))))
        | ((apply W.callv cx_ok; decide); (iterate 2 (simp (disch := omega) only [push_cast, simprocAttr, hS, hk, hg, hx, hcF] <;> rfl)); (with_reducible first | exact (hcF ▸ inside_ok t x y) | exact secsLo_ok t); try first | rfl | (simp (disch := omega) only [push_cast, simprocAttr, hS, hk, hg, hx, hcF] <;> rfl))
        | ((first | apply W.ret1 | apply W.end1); (iterate 2 (try (simp (disch := omega) only [push_cast, simprocAttr, hS, hk, hg, hx, hcF] <;> rfl))))
      all_goals (refine ⟨rest.length, ?_, k + 1, m, rest, rfl, hd', hp1, (by omega), ?_, ?_, ?_, ?_, ?_, ?_, ?_⟩; ((simp only [List.length_cons] at *; omega)); all_goals first | (simp (disch := omega) only [push_cast, simprocAttr, hS, hk, hg, hx] <;> first | rfl | omega) | omega)
end Go.Proofs.Ks
