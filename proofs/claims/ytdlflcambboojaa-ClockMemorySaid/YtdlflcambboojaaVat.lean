/-
  Contracts of functions, proved by going through their code. No conditions.
-/
import Derived.Test.YtdlflcambboojaaVaa
import Derived.Test.YtdlflcambboojaaVaq
import Derived.Test.YtdlflcambboojaaVas
set_option linter.unusedVariables false
set_option linter.unusedSimpArgs false
set_option maxHeartbeats 8000000
set_option maxRecDepth 10000
namespace Go.Proofs.Ks
open Go Go.Pg Go.Proofs
theorem links_facts {r : Rec} (hv : r.V) {more : List Int} (hml : more.length ≤ 8) (hmb : ∀ a ∈ more, 0 ≤ a ∧ a ≤ 43200) : (nodesR r more).length ≤ 100 ∧ (linksR r more).length ≤ 10000 ∧ (∀ l ∈ linksR r more, l.a < (nodesR r more).length ∧ l.b < (nodesR r more).length) ∧ (∀ l ∈ linksR r more, -1073741823 ≤ l.m ∧ l.m ≤ 1073741823) ∧ ∀ l ∈ linksR r more, l.a ≠ l.b := by
  obtain ⟨h1, h2, h3⟩ := linksR_ok hv hml hmb
  exact ⟨h3, h2, fun l hl => ⟨(h1 l hl).a, (h1 l hl).b⟩, fun l hl => (h1 l hl).m, fun l hl => (h1 l hl).ne⟩
end Go.Proofs.Ks

namespace Go.Pg
open Go Go.RowKit
section
variable {C : Cx} {N : Nat} {Q : Exit → St → Prop} {s : St} {ops : Array Oper} {rest : List Oper} {ty : TypeId} {ps : String} {af : Array Edge} {d : Nat}
variable {H0 : Nat → Option AO} {b : Nat} {tg mk av : List Nat} {Fin : St → Prop} {i : Nat}
def OKr (C : Cx) (f : FuncId) (args : List AV) (H0 : Nat → Option AO) (R : AV) : Prop :=
  ∀ (H : Nat → Option AO) (nx : Nat), (∀ id x, H0 id = some x → H id = some x) → OKm C f args H nx (fun r h n => r = R ∧ h = H ∧ n = nx)
theorem W.callr (hC : C.OK) (hN : d < N) {fo : Operand} {args : Array Operand} {tys : Array TypeId} {f : FuncId} {caps vs : List AV} {R : AV} (hf : s.ev fo = .clo f caps) (ha : evsA args.toList s.ev ++ caps = vs) (hok : OKr C f vs s.H R)
    (k : AWL C N ops Q rest (s.put d R none)) : AWL C N ops Q (⟨some d, .call { callee := .value fo, args := args, argTypes := tys }, ty, ps, af, none⟩ :: rest) s := by
  subst ha
  refine W.callm hC hN hf (hok _ _ fun _ _ h => h) ?_
  rintro r h n ⟨rfl, rfl, rfl⟩
  exact k
theorem D.callr (hC : C.OK) (hN : d < N) (hi : i ∉ tg ∧ i ∉ mk) {fo : Operand} {args : Array Operand} {tys : Array TypeId} {f : FuncId} {caps vs : List AV} {R : AV} (hf : s.ev fo = .clo f caps) (ha : evsA args.toList s.ev ++ caps = vs) (hok : OKr C f vs H0 R)
    (k : DW C N ops H0 b tg mk av Fin (i + 1) rest (s.put d R none)) :
    DW C N ops H0 b tg mk av Fin i (⟨some d, .call { callee := .value fo, args := args, argTypes := tys }, ty, ps, af, none⟩ :: rest) s := by
  subst ha
  refine ⟨R, s.put d R none, rfl, ?_, k⟩
  rw [if_neg hi.1, if_neg hi.2]
  refine ⟨none, rfl, rfl, .inl rfl, fun s' hx _ ht => ?_⟩
  have hev := ev_congr ht
  have e1 : s'.ev fo = .clo f caps := by rw [hev fo (by simp [Op.operands, Call.operands])]; exact hf
  have e2 : evsA args.toList s'.ev = evsA args.toList s.ev := evsA_congr (fun x hx => hev x (by simp only [Op.operands, Call.operands, Array.mem_append]; exact .inr (by simpa using hx)))
  refine one_of_AWL (W.callm hC hN e1 (Qr := fun r h n => r = R ∧ h = s'.H ∧ n = s'.nx) (by rw [e2]; exact hok _ _ hx) ?_)
  rintro r h n ⟨rfl, rfl, rfl⟩
  exact AWL.nil ⟨rfl, rfl⟩
theorem natNe {a b : Nat} (h : a ≠ b) : (a = b) = False := eq_false h
end
end Go.Pg

namespace Go.Proofs.Ks
open Go Go.Pg Go.Proofs
theorem rowAt_ext {H0 H : Nat → Option AO} (h : ∀ id x, H0 id = some x → H id = some x) {i : Nat} {r : Pg.Row} (hr : Pg.rowAt H0 i = some r) : Pg.rowAt H i = some r := by
  have h1 := h i _ (Pg.rowAt_eq hr)
  unfold Pg.rowAt; rw [h1]
def ixM (N : List Node) : List (Key × AV) := (N.map keyN).zip (idxV 0 N.length)
theorem at_r (N : List Node) (kd nm : Int) {g m : Nat} {a b : AV} {H0 : Nat → Option AO} (hg : Pg.rowAt H0 g = some { k := 3, es := [[a, .map m, b]], ty := 135 }) (hm : H0 m = some (.mp (.map .pair) 0 (ixM N))) :
    OKr cx 83 [.ptr g 0 0 1, ai kd, ai nm] H0 (ai (atP kd nm N)) := by
  intro H nx hx
  have hg1 := rowAt_ext hx hg
  have hm1 := hx _ _ hm
  unfold ixM at hm1
  refine OKm.of_body cx_ok (rs := [.tmp 6]) Try.func83 rfl (by decide +kernel) rfl (by simp [Try.ntmps83]) ?_
  simp only [Try.ntmps83]
  repeat' first
    | apply jA | apply jB | apply jC | apply jD | apply jE | apply jF | apply jG | apply jH | apply jI
    | ((first | (apply jK cx_ok; decide) | apply jR | apply jS cx_ok); (simp (disch := omega) only [push_cast, simprocAttr, node_look, zM, hg1, hm1] <;> rfl); all_goals try ((with_reducible intro hI); try first | (cases hI; done) | (simp only [INTS, zL] at hI; try first | (exfalso; omega) | (have hT : True := hI; clear hT hI))))
    | (refine W.makeMap cx_ok (by simp only [push_cast, simprocAttr] <;> rfl) (by decide) ?_)

  all_goals
    ((first | apply W.retX | apply W.endX); (simp (disch := omega) only [push_cast, simprocAttr, hg1, hm1] <;> rfl); (refine ⟨?_, ?_, ?_⟩ <;> (first | rfl | (simp (disch := omega) only [push_cast, simprocAttr, hg1, hm1] <;> rfl))))
theorem between0_m (nd : Int) (x : Span) (hn : 0 ≤ nd) (hb : 0 ≤ x.lo ∧ x.lo ≤ 1099511627776) {lb : Nat} {H : Nat → Option AO} {nx : Nat} (hlb : lb < nx) {args : List AV} (ha : args = [ai nd, .agg (eSpan x), .ptr lb 0 0 1])
    (h1 : Pg.rowAt H lb = some { k := 1, es := [[.v (.slice none 0 0)]], ty := 62 }) :
    OKm cx 122 args H nx (fun r H' nx' => r = .tup [] ∧ H' = updH (updH (updH (updH H nx (.row { k := 2, es := [eSpan x], ty := 23 })) (nx + 1) (.row { k := 3, es := (bothL nd.toNat x).map eLink, ty := 66 })) (nx + 2) (.row { k := 3, es := (bothL nd.toNat x).map eLink, ty := 66, lo := 2 })) lb (.row { k := 1, es := [[.ref (nx + 2) 0 2]], ty := 62 }) ∧ nx' = nx + 3) := by
  subst ha
  have en : ((nd.toNat : Nat) : Int) = nd := Int.toNat_of_nonneg hn
  refine OKm.of_body cx_ok (rs := []) Try.func122 rfl (by decide +kernel) rfl (by simp [Try.ntmps122]) ?_
  simp only [Try.ntmps122]
  repeat' first
    | apply jA | apply jB | apply jC | apply jD | apply jE | apply jF | apply jG | apply jH | apply jI
    | ((first | (apply jK cx_ok; decide) | apply jM cx_ok | apply jR); (simp (disch := (first | omega | (simp only [vC]; omega))) only [push_cast, simprocAttr, takeM, dropM, zK, zA, zB, zN, zQ, zR, zO, zP, zT, zS, zU, leT, zH, natNe, h1, zJ] <;> rfl); all_goals try ((with_reducible intro hI); try first | (cases hI; done) | (simp only [INTS, zL] at hI; try first | (exfalso; omega) | (have hT : True := hI; clear hT hI))))
    | (apply jT cx_ok; decide; rfl; rfl; rfl; decide; (iterate 3 (simp (disch := (first | omega | (simp only [vC]; omega))) only [push_cast, simprocAttr, takeM, dropM, zK, zA, zB, zN, zQ, zR, zO, zP, zT, zS, zU, leT, zH, natNe, h1, zJ] <;> rfl)); (first | (focus (simp; done)) | (intro c hc; obtain ⟨x, _, rfl⟩ := List.mem_map.1 hc; rfl)); ((first | rfl | simp (disch := omega) only [push_cast])); ((try dsimp only); (try simp only [vC]); omega); ((try dsimp only); (try simp only [vC]); omega))

  all_goals
    ((first | apply W.retX | apply W.endX); (simp (disch := omega) only [push_cast, simprocAttr] <;> rfl); (refine ⟨rfl, ?_, ?_⟩ <;> (simp (disch := omega) only [push_cast, simprocAttr, natNe, h1, bothL, zX, zW, zD, zC, yD, en, zV, zJ, St.put, putH, maxNx, yA, updO, upd_twice] <;> rfl)))
theorem between_m (nd : Int) (x : Span) (hn : 0 ≤ nd) (hb : 0 ≤ x.lo ∧ x.lo ≤ 1099511627776) (L : List Lk) {lw : Nat} (hl : L.length ≤ 1000000) {lb lo : Nat} {H : Nat → Option AO} {nx : Nat} (hne : lb ≠ lo) (hlb : lb < nx) (hlo : lo < nx) {args : List AV} (ha : args = [ai nd, .agg (eSpan x), .ptr lb 0 0 1])
    (h1 : Pg.rowAt H lb = some { k := 1, es := [[.ref lo 0 L.length]], ty := 62 }) (h2 : Pg.rowAt H lo = some { k := 3, es := L.map eLink, ty := 66, lo := lw }) (hlw : lw ≤ L.length) :
    OKm cx 122 args H nx (fun r H' nx' => r = .tup [] ∧ H' = updH (updH (updH (updH H nx (.row { k := 2, es := [eSpan x], ty := 23 })) (nx + 1) (.row { k := 3, es := (bothL nd.toNat x).map eLink, ty := 66 })) lo (.row { k := 3, es := (L ++ bothL nd.toNat x).map eLink, ty := 66, lo := L.length + 2 })) lb (.row { k := 1, es := [[.ref lo 0 (L.length + 2)]], ty := 62 }) ∧ nx' = nx + 2) := by
  subst ha
  have en : ((nd.toNat : Nat) : Int) = nd := Int.toNat_of_nonneg hn
  refine OKm.of_body cx_ok (rs := []) Try.func122 rfl (by decide +kernel) rfl (by simp [Try.ntmps122]) ?_
  simp only [Try.ntmps122]
  repeat' first
    | apply jA | apply jB | apply jC | apply jD | apply jE | apply jF | apply jG | apply jH | apply jI
    | ((first | (apply jK cx_ok; decide) | apply jM cx_ok | apply jR); (simp (disch := (first | omega | (simp only [vC]; omega))) only [push_cast, simprocAttr, takeM, dropM, zK, zA, zB, zN, zQ, zR, zO, zP, zT, zS, zU, leT, zH, natNe, h1, h2, hlw] <;> rfl); all_goals try ((with_reducible intro hI); try first | (cases hI; done) | (simp only [INTS, zL] at hI; try first | (exfalso; omega) | (have hT : True := hI; clear hT hI))))
    | (apply jT cx_ok; decide; rfl; rfl; rfl; decide; (iterate 3 (simp (disch := (first | omega | (simp only [vC]; omega))) only [push_cast, simprocAttr, takeM, dropM, zK, zA, zB, zN, zQ, zR, zO, zP, zT, zS, zU, leT, zH, natNe, h1, h2, hlw] <;> rfl)); (first | (focus (simp; done)) | (intro c hc; obtain ⟨x, _, rfl⟩ := List.mem_map.1 hc; rfl)); ((first | rfl | simp (disch := omega) only [push_cast])); ((try dsimp only); (try simp only [vC]); omega); ((try dsimp only); (try simp only [vC]); omega))

  all_goals
    ((first | apply W.retX | apply W.endX); (simp (disch := omega) only [push_cast, simprocAttr] <;> rfl); (refine ⟨rfl, ?_, ?_⟩ <;> (simp (disch := omega) only [push_cast, simprocAttr, natNe, h1, h2, bothL, zY, zX, zW, zE, zD, zC, yD, en, zV, zJ, St.put, putH, updO] <;> rfl)))
theorem ixM_snoc (N : List Node) (n : Node) : ixM (N ++ [n]) = ixM N ++ [(keyN n, ai N.length)] := by
  unfold ixM idxV
  rw [List.map_append, List.length_append, List.length_singleton, List.range'_concat, List.map_append, List.zip_append (by simp)]
  simp
theorem putM_new (v : AV) (kd nm : Int) : ∀ (l : List (Key × AV)), (∀ x ∈ l, x.1 ≠ .pair kd nm) → (∀ x ∈ l, ∃ a b, x.1 = .pair a b) → putM (.pair kd nm) v l = l ++ [(.pair kd nm, v)]
  | [], _, _ => rfl
  | (k, u) :: l, h, h2 => by
    obtain ⟨a, b, hk⟩ := h2 (k, u) (by simp)
    simp only at hk
    subst hk
    have h1 := h (.pair a b, u) (by simp)
    have ih := putM_new v kd nm l (fun x hx => h x (by simp [hx])) (fun x hx => h2 x (by simp [hx]))
    have hs : Key.same (.pair kd nm) (.pair a b) = false := by
      simp only [Key.same]
      cases hq : (kd == a && nm == b) with
      | false => rfl
      | true => simp only [Bool.and_eq_true, beq_iff_eq] at hq; exact absurd (by rw [hq.1, hq.2]) h1
    simp only [putM, hs, zM, if_false, ih, yB]
theorem putM_ix {N : List Node} {n : Node} (h : n ∉ N) : putM (.pair n.kind n.num) (ai N.length) (ixM N) = ixM (N ++ [n]) := by
  rw [ixM_snoc]
  refine putM_new _ _ _ _ (fun x hx => ?_) (fun x hx => ?_)
  all_goals
    obtain ⟨y, hy, hxy⟩ := List.mem_map.1 (List.of_mem_zip hx).1
  · rw [← hxy]; intro e
    simp only [keyN, Key.pair.injEq] at e
    have : y = n := by cases y; cases n; simp_all
    exact h (this ▸ hy)
  · exact ⟨y.kind, y.num, hxy.symm⟩
structure SysB (H : Nat → Option AO) (c g nd m : Nat) (N : List Node) (b : AV) : Prop where
  c : Pg.rowAt H c = some { k := 1, es := [[.ptr g 0 0 1]], ty := 122 }
  g : Pg.rowAt H g = some { k := 3, es := [[.ref nd 0 N.length, .map m, b]], ty := 135 }
  nd : Pg.rowAt H nd = some { k := 2, es := N.map eNode, ty := 144, lo := N.length }
  m : H m = some (.mp (.map .pair) 0 (ixM N))
theorem add_m (N : List Node) (n : Node) (hl : N.length ≤ 1000000) (hnew : n ∉ N) {b : AV} {c g nd m : Nat} {H : Nat → Option AO} {nx : Nat} (hS : SysB H c g nd m N b) (hd1 : c ≠ g ∧ c ≠ nd ∧ c ≠ m) (hd2 : g ≠ nd ∧ g ≠ m ∧ nd ≠ m) (hc : c < nx) (hg : g < nx) (hnd : nd < nx) (hm : m < nx) :
    OKm cx 111 [.agg (eNode n), .ptr c 0 0 1] H nx (fun r H' nx' => SysB H' c g nd m (N ++ [n]) b ∧ nx ≤ nx' ∧ ∀ j, j < nx → j ≠ g → j ≠ nd → j ≠ m → H' j = H j) := by
  have h1 := hS.c
  have h2 := hS.g
  have h3 := hS.nd
  have h4 := hS.m
  have hput := putM_ix hnew
  obtain ⟨d1, d2, d3⟩ := hd1
  obtain ⟨d4, d5, d6⟩ := hd2
  refine OKm.of_body cx_ok (rs := []) Try.func111 rfl (by decide +kernel) rfl (by simp [Try.ntmps111]) ?_
  simp only [Try.ntmps111]
  refine AW.fresh fun hfr0 => ?_
  have hfr : ∀ id, nx ≤ id → H id = none := hfr0
  repeat' first
    | apply jA | apply jB | apply jC | apply jD | apply jE | apply jF | apply jG | apply jH | apply jI | apply jJ
    | refine AW.draw (id := 1) cx_mixed [10] [] [] 0 (by decide +kernel) ?_
    | refine AW.draw (id := 2) cx_mixed [7, 10] [0, 8, 9] [nd, g] 11 (by decide +kernel) ?_
    | refine W.draw cx_mixed (by decide +kernel) ?_
    | ((first | (apply jK cx_ok; decide) | (apply jL cx_ok; decide; decide) | apply jM cx_ok | apply jR | apply jS cx_ok); (simp (disch := (first | omega | (simp only [vC]; omega))) only [push_cast, simprocAttr, takeM, dropM, zK, zA, zB, zN, zQ, zR, zO, zP, zT, zS, zU, leT, zH, natNe, hfr, h1, h2, h3, h4, hput, zI, zG] <;> rfl); all_goals try ((with_reducible intro hI); try first | (cases hI; done) | (simp only [INTS, zL] at hI; try first | (exfalso; omega) | (have hT : True := hI; clear hT hI))))
    | ((first | (apply ja cx_ok; decide) | (apply jb cx_ok; decide; decide) | (apply D.mapUpdate cx_ok; decide) | (apply jc cx_ok; decide; decide)); (simp (disch := (first | omega | (simp only [vC]; omega))) only [push_cast, simprocAttr, takeM, dropM, zK, zA, zB, zN, zQ, zR, zO, zP, zT, zS, zU, leT, zH, natNe, hfr, h1, h2, h3, h4, hput, zI, zG] <;> rfl); try first | exact .inl rfl | exact .inr (by simp))
    | (refine W.makeMap cx_ok (by simp only [push_cast, simprocAttr] <;> rfl) (by decide) ?_)
    | ((apply jZ cx_ok; decide; decide); (simp (disch := (first | omega | (simp only [vC]; omega))) only [push_cast, simprocAttr, takeM, dropM, zK, zA, zB, zN, zQ, zR, zO, zP, zT, zS, zU, leT, zH, natNe, hfr, h1, h2, h3, h4, hput, zI, zG] <;> rfl); (simp (disch := (first | omega | (simp only [vC]; omega))) only [push_cast, simprocAttr, takeM, dropM, zK, zA, zB, zN, zQ, zR, zO, zP, zT, zS, zU, leT, zH, natNe, hfr, h1, h2, h3, h4, hput, zI, zG, updH_at, zJ]); (simp (disch := (first | omega | (simp only [vC]; omega))) only [push_cast, simprocAttr, takeM, dropM, zK, zA, zB, zN, zQ, zR, zO, zP, zT, zS, zU, leT, zH, natNe, hfr, h1, h2, h3, h4, hput, zI, zG] <;> omega))
    | ((apply jY cx_ok; decide; decide); (simp (disch := (first | omega | (simp only [vC]; omega))) only [push_cast, simprocAttr, takeM, dropM, zK, zA, zB, zN, zQ, zR, zO, zP, zT, zS, zU, leT, zH, natNe, hfr, h1, h2, h3, h4, hput, zI, zG] <;> rfl); first | exact .inl rfl | exact .inr (by simp))
    | (apply jT cx_ok; decide; rfl; rfl; rfl; decide; (iterate 3 (simp (disch := (first | omega | (simp only [vC]; omega))) only [push_cast, simprocAttr, takeM, dropM, zK, zA, zB, zN, zQ, zR, zO, zP, zT, zS, zU, leT, zH, natNe, hfr, h1, h2, h3, h4, hput, zI, zG] <;> rfl)); (first | (focus (simp; done)) | (intro c hc; obtain ⟨x, _, rfl⟩ := List.mem_map.1 hc; rfl)); ((first | rfl | simp (disch := omega) only [push_cast])); ((try dsimp only); (try simp only [vC]); omega); ((try dsimp only); (try simp only [vC]); omega))
    | (apply jU cx_ok; decide; decide; rfl; rfl; rfl; decide; (iterate 3 (simp (disch := (first | omega | (simp only [vC]; omega))) only [push_cast, simprocAttr, takeM, dropM, zK, zA, zB, zN, zQ, zR, zO, zP, zT, zS, zU, leT, zH, natNe, hfr, h1, h2, h3, h4, hput, zI, zG] <;> rfl)); (first | (focus (simp; done)) | (intro c hc; obtain ⟨x, _, rfl⟩ := List.mem_map.1 hc; rfl)); ((first | rfl | (simp (disch := omega) only [push_cast]; done))); ((try dsimp only); (try simp only [vC]); omega); ((try dsimp only); (try simp only [vC]); omega); first | exact .inl rfl | exact .inr (by simp))

  all_goals
    ((first | apply W.retX | apply W.endX); (simp (disch := omega) only [push_cast, simprocAttr, natNe, hfr, h1, h2, h3, h4, hput, zI, zG] <;> rfl); (refine ⟨⟨?_, ?_, ?_, ?_⟩, ?_, fun j hj hj1 hj2 hj3 => ?_⟩ <;> (first | rfl | (simp (disch := omega) only [push_cast, simprocAttr, natNe, hfr, h1, h2, h3, h4, hput, zI, zG, zJ, zY, zX, zW, zE, zD, zC, isEmpty_map, lo_len, zV] <;> first | rfl | omega) | omega)))
structure SysY (H : Nat → Option AO) (rb gb pb g m : Nat) (r : Rec) (pl : List Int) (N : List Node) : Prop where
  r : Pg.rowAt H rb = some { k := 14, es := [eRec r], ty := 30 }
  gb : Pg.rowAt H gb = some { k := 1, es := [[.ptr g 0 0 1]], ty := 122 }
  pb : Pg.rowAt H pb = some { k := 1, es := [[lInt pl]], ty := 41 }
  g : ∃ a b, Pg.rowAt H g = some { k := 3, es := [[a, .map m, b]], ty := 135 }
  m : H m = some (.mp (.map .pair) 0 (ixM N))
theorem all_m (r : Rec) (pl : List Int) {g : Nat} {H : Nat → Option AO} {nx : Nat} :
    OKm cx 113 [.ptr g 0 0 1, .agg (eRec r), lInt pl] H nx (fun v H' nx' => v = .clo 121 [.ptr (nx + 1) 0 0 1, .ptr nx 0 0 1, .ptr (nx + 2) 0 0 1] ∧ Pg.rowAt H' nx = some { k := 1, es := [[.ptr g 0 0 1]], ty := 122 } ∧
      Pg.rowAt H' (nx + 1) = some { k := 14, es := [eRec r], ty := 30 } ∧ Pg.rowAt H' (nx + 2) = some { k := 1, es := [[lInt pl]], ty := 41 } ∧ nx' = nx + 3 ∧ ∀ j, j < nx → H' j = H j) := by
  refine OKm.of_body cx_ok (rs := [.tmp 6]) Try.func113 rfl (by decide +kernel) rfl (by simp [Try.ntmps113]) ?_
  simp only [Try.ntmps113]
  repeat' first
    | apply jA | apply jB | apply jC | apply jD | apply jE | apply jF | apply jG | apply jH | apply jI
    | ((first | (apply jK cx_ok; decide) | apply jR); (simp (disch := omega) only [push_cast, simprocAttr, natNe] <;> rfl); all_goals try ((with_reducible intro hI); try first | (cases hI; done) | (simp only [INTS, zL] at hI; try first | (exfalso; omega) | (have hT : True := hI; clear hT hI))))

  all_goals
    ((first | apply W.retX | apply W.endX); (simp (disch := omega) only [push_cast, simprocAttr, natNe] <;> rfl); (refine ⟨?_, ?_, ?_, ?_, ?_, fun j hj => ?_⟩ <;> (first | rfl | (simp (disch := omega) only [push_cast, simprocAttr, natNe, zJ] <;> first | rfl | omega) | omega)))
theorem inside_ok (p : Stop) (x y : Int) : OKv cx 123 [.agg (eStop p), .iptr [ai x] 0, .iptr [ai y] 0] (ab (decide (x ≤ p.pos) && decide (p.pos < y))) := by
  refine OKat.of_body (rs := [4]) Try.func123 rfl (by decide +kernel) rfl (by simp [Try.ntmps123]) ?_
  simp only [Try.ntmps123]
  repeat' first
    | apply jA | apply jB | apply jC | apply jD | apply jE | apply jF | apply jG | apply jH | apply jI
    | ((first | (apply jK cx_ok; decide) | (apply jN; rfl; decide) | apply jR); (simp (disch := omega) only [push_cast, simprocAttr] <;> rfl); all_goals try ((with_reducible intro hI); try first | (cases hI; done) | (simp only [INTS, zL] at hI; try first | (exfalso; omega) | (have hT : True := hI; clear hT hI))))
    | ((first | apply jf | apply jg); (iterate 2 (try (simp (disch := omega) only [push_cast, simprocAttr] <;> rfl))))
  all_goals (show _ = _; first | rfl | (simp [*]; done) | (simp; omega) | (simp_all; omega))
theorem secsHi_ok (p : Stop) : OKv cx 126 [.agg (eStop p)] (ai p.secs.hi) := by
  refine OKat.of_body (rs := [2]) Try.func126 rfl (by decide +kernel) rfl (by simp [Try.ntmps126]) ?_
  simp only [Try.ntmps126]
  repeat' first
    | apply jA | apply jB | apply jC | apply jD | apply jE | apply jF | apply jG | apply jH | apply jI
    | ((first | (apply jK cx_ok; decide) | apply jR); (simp (disch := omega) only [push_cast, simprocAttr] <;> rfl); all_goals try ((with_reducible intro hI); try first | (cases hI; done) | (simp only [INTS, zL] at hI; try first | (exfalso; omega) | (have hT : True := hI; clear hT hI))))
    | ((first | apply jf | apply jg); (iterate 2 (try (simp (disch := omega) only [push_cast, simprocAttr] <;> rfl))))
  all_goals (show _ = _; rfl)
theorem secsLo_ok (p : Stop) : OKv cx 127 [.agg (eStop p)] (ai p.secs.lo) := by
  refine OKat.of_body (rs := [2]) Try.func127 rfl (by decide +kernel) rfl (by simp [Try.ntmps127]) ?_
  simp only [Try.ntmps127]
  repeat' first
    | apply jA | apply jB | apply jC | apply jD | apply jE | apply jF | apply jG | apply jH | apply jI
    | ((first | (apply jK cx_ok; decide) | apply jR); (simp (disch := omega) only [push_cast, simprocAttr] <;> rfl); all_goals try ((with_reducible intro hI); try first | (cases hI; done) | (simp only [INTS, zL] at hI; try first | (exfalso; omega) | (have hT : True := hI; clear hT hI))))
    | ((first | apply jf | apply jg); (iterate 2 (try (simp (disch := omega) only [push_cast, simprocAttr] <;> rfl))))
  all_goals (show _ = _; rfl)
def sumS (f : Stop → Int) (x y : Int) : List Stop → Int → Int
  | [], n => n
  | t :: l, n => sumS f x y l (if x ≤ t.pos ∧ t.pos < y then n + f t else n)
theorem addS_sum (x y : Int) : ∀ (l : List Stop) (p : Int × Int), addS x y l p = (p.1 + sumS (·.secs.lo) x y l 0, p.2 + sumS (·.secs.hi) x y l 0)
  | [], p => by simp [addS, sumS]
  | t :: l, p => by
    have go : ∀ (f : Stop → Int) (l : List Stop) (n : Int), sumS f x y l n = n + sumS f x y l 0 := by
      intro f l
      induction l with
      | nil => intro n; simp [sumS]
      | cons t l ih =>
        intro n; unfold sumS
        by_cases hc : x ≤ t.pos ∧ t.pos < y
        · simp only [if_pos hc]; rw [ih (n + f t), ih (0 + f t)]; omega
        · simp only [if_neg hc]; exact ih n
    rw [addS, addS_sum x y l, sumS, sumS]
    by_cases hc : x ≤ t.pos ∧ t.pos < y
    · simp only [if_pos hc]; rw [go (fun t => t.secs.lo) l (0 + t.secs.lo), go (fun t => t.secs.hi) l (0 + t.secs.hi)]; ext <;> dsimp only <;> omega
    · simp only [if_neg hc]
theorem sumHi_ok (l : List Stop) (x y : Int) (hl : l.length ≤ 4) (hb : ∀ t ∈ l, 0 ≤ t.secs.lo ∧ t.secs.lo ≤ t.secs.hi ∧ t.secs.hi ≤ 36000) : OKv cx 125 [lStop l, .clo 123 [.iptr [ai x] 0, .iptr [ai y] 0], .clo 126 []] (ai (sumS (·.secs.hi) x y l 0)) := by
  obtain ⟨RES, hRES⟩ : ∃ z, sumS (·.secs.hi) x y l 0 = z := ⟨_, rfl⟩
  rw [hRES]
  refine OKat.of_body (rs := [6]) Try.func125 rfl (by decide +kernel) rfl (by simp [Try.ntmps125]) ?_
  simp only [Try.ntmps125]
  repeat' first
    | apply jA | apply jB | apply jC | apply jD | apply jE | apply jF | apply jG | apply jH | apply jI
    | ((first | (apply jK cx_ok; decide) | apply jM cx_ok | apply jR); (simp (disch := omega) only [push_cast, simprocAttr] <;> rfl); all_goals try ((with_reducible intro hI); try first | (cases hI; done) | (simp only [INTS, zL] at hI; try first | (exfalso; omega) | (have hT : True := hI; clear hT hI))))
    | ((first | apply jf | apply jg); (iterate 2 (try (simp (disch := omega) only [push_cast, simprocAttr] <;> rfl))))
  refine AW.loop (fun n s => ∃ (k : Nat) (m : Int) (rest : List Stop), n = rest.length ∧ (l.drop k = rest) ∧ (sumS (·.secs.hi) x y rest m = RES) ∧ (0 ≤ m ∧ m + 36000 * rest.length ≤ 144000) ∧ 0 ≤ s.nx ∧ s.tm 1 = .clo 123 [.iptr [ai x] 0, .iptr [ai y] 0] ∧ s.tm 2 = .clo 126 [] ∧ s.tm 7 = ai m ∧ s.tm 10 = lStop l ∧ s.tm 11 = ai l.length ∧ s.tm 12 = ai k) (l.length) ⟨0, 0, l, rfl, rfl, hRES, (by omega), ?_, ?_, ?_, ?_, ?_, ?_, ?_⟩ ?_
  iterate 7 (first | (simp (disch := omega) only [push_cast, simprocAttr] <;> first | rfl | omega) | omega)
  rintro n s ⟨k, m, rest, hn, hp0, hp1, hp2, hnl, hS⟩
  rcases rest with _ | ⟨t, rest⟩
  · have hk := drop_nil hp0
    rw [sumS] at hp1
    subst hp1
    repeat' first
      | apply jA | apply jB | apply jC | apply jD | apply jE | apply jF | apply jG | apply jH | apply jI
      | ((first | (apply jK cx_ok; decide) | apply jM cx_ok | apply jR); (simp (disch := omega) only [push_cast, simprocAttr, hS, hk] <;> rfl); all_goals try ((with_reducible intro hI); try first | (cases hI; done) | (simp only [INTS, zL] at hI; try first | (exfalso; omega) | (have hT : True := hI; clear hT hI))))
      | ((first | apply jf | apply jg); (iterate 2 (try (simp (disch := omega) only [push_cast, simprocAttr, hS, hk] <;> rfl))))
    all_goals (show _ = _; rfl)
  · obtain ⟨hk, hg, hd', hl', hm, hx⟩ := drop_cons hp0 eStop []
    have ht := hb t hm
    simp only [zD] at hp2
    rw [sumS] at hp1
    by_cases hc : x ≤ t.pos ∧ t.pos < y
    · have hc1 := hc.1
      have hc2 := hc.2
      rw [if_pos hc] at hp1
      repeat' first
        | apply jA | apply jB | apply jC | apply jD | apply jE | apply jF | apply jG | apply jH | apply jI
        | ((first | (apply jK cx_ok; decide) | apply jM cx_ok | apply jR); (simp (disch := omega) only [push_cast, simprocAttr, hS, hk, hg, hx, hc1, hc2, zP] <;> rfl); all_goals try ((with_reducible intro hI); try first | (cases hI; done) | (simp only [INTS, zL] at hI; try first | (exfalso; omega) | (have hT : True := hI; clear hT hI))))
        | ((apply jV cx_ok; decide); (iterate 2 (simp (disch := omega) only [push_cast, simprocAttr, hS, hk, hg, hx, hc1, hc2, zP] <;> rfl)); (with_reducible first | exact inside_ok t x y | exact secsHi_ok t); try first | rfl | (simp (disch := omega) only [push_cast, simprocAttr, hS, hk, hg, hx, hc1, hc2, zP] <;> rfl))
        | ((first | apply jf | apply jg); (iterate 2 (try (simp (disch := omega) only [push_cast, simprocAttr, hS, hk, hg, hx, hc1, hc2, zP] <;> rfl))))
      all_goals (refine ⟨rest.length, ?_, k + 1, m + t.secs.hi, rest, rfl, hd', hp1, (by omega), ?_, ?_, ?_, ?_, ?_, ?_, ?_⟩; ((simp only [zD] at *; omega)); all_goals first | (simp (disch := omega) only [push_cast, simprocAttr, hS, hk, hg, hx] <;> first | rfl | omega) | omega)
    · have hcF : (decide (x ≤ t.pos) && decide (t.pos < y)) = false := by
        cases hq : (decide (x ≤ t.pos) && decide (t.pos < y)) with
        | false => rfl
        | true => simp only [Bool.and_eq_true, decide_eq_true_eq] at hq; exact absurd hq hc
      rw [if_neg hc] at hp1
      repeat' first
        | apply jA | apply jB | apply jC | apply jD | apply jE | apply jF | apply jG | apply jH | apply jI
        | ((first | (apply jK cx_ok; decide) | apply jM cx_ok | apply jR); (simp (disch := omega) only [push_cast, simprocAttr, hS, hk, hg, hx, hcF] <;> rfl); all_goals try ((with_reducible intro hI); try first | (cases hI; done) | (simp only [INTS, zL] at hI; try first | (exfalso; omega) | (have hT : True := hI; clear hT hI))))
        | ((apply jV cx_ok; decide); (iterate 2 (simp (disch := omega) only [push_cast, simprocAttr, hS, hk, hg, hx, hcF] <;> rfl)); (with_reducible first | exact (hcF ▸ inside_ok t x y) | exact secsHi_ok t); try first | rfl | (simp (disch := omega) only [push_cast, simprocAttr, hS, hk, hg, hx, hcF] <;> rfl))
        | ((first | apply jf | apply jg); (iterate 2 (try (simp (disch := omega) only [push_cast, simprocAttr, hS, hk, hg, hx, hcF] <;> rfl))))
      all_goals (refine ⟨rest.length, ?_, k + 1, m, rest, rfl, hd', hp1, (by omega), ?_, ?_, ?_, ?_, ?_, ?_, ?_⟩; ((simp only [zD] at *; omega)); all_goals first | (simp (disch := omega) only [push_cast, simprocAttr, hS, hk, hg, hx] <;> first | rfl | omega) | omega)
theorem sumLo_ok (l : List Stop) (x y : Int) (hl : l.length ≤ 4) (hb : ∀ t ∈ l, 0 ≤ t.secs.lo ∧ t.secs.lo ≤ t.secs.hi ∧ t.secs.hi ≤ 36000) : OKv cx 125 [lStop l, .clo 123 [.iptr [ai x] 0, .iptr [ai y] 0], .clo 127 []] (ai (sumS (·.secs.lo) x y l 0)) := by
  obtain ⟨RES, hRES⟩ : ∃ z, sumS (·.secs.lo) x y l 0 = z := ⟨_, rfl⟩
  rw [hRES]
  refine OKat.of_body (rs := [6]) Try.func125 rfl (by decide +kernel) rfl (by simp [Try.ntmps125]) ?_
  simp only [Try.ntmps125]
  repeat' first
    | apply jA | apply jB | apply jC | apply jD | apply jE | apply jF | apply jG | apply jH | apply jI
    | ((first | (apply jK cx_ok; decide) | apply jM cx_ok | apply jR); (simp (disch := omega) only [push_cast, simprocAttr] <;> rfl); all_goals try ((with_reducible intro hI); try first | (cases hI; done) | (simp only [INTS, zL] at hI; try first | (exfalso; omega) | (have hT : True := hI; clear hT hI))))
    | ((first | apply jf | apply jg); (iterate 2 (try (simp (disch := omega) only [push_cast, simprocAttr] <;> rfl))))
  refine AW.loop (fun n s => ∃ (k : Nat) (m : Int) (rest : List Stop), n = rest.length ∧ (l.drop k = rest) ∧ (sumS (·.secs.lo) x y rest m = RES) ∧ (0 ≤ m ∧ m + 36000 * rest.length ≤ 144000) ∧ 0 ≤ s.nx ∧ s.tm 1 = .clo 123 [.iptr [ai x] 0, .iptr [ai y] 0] ∧ s.tm 2 = .clo 127 [] ∧ s.tm 7 = ai m ∧ s.tm 10 = lStop l ∧ s.tm 11 = ai l.length ∧ s.tm 12 = ai k) (l.length) ⟨0, 0, l, rfl, rfl, hRES, (by omega), ?_, ?_, ?_, ?_, ?_, ?_, ?_⟩ ?_
  iterate 7 (first | (simp (disch := omega) only [push_cast, simprocAttr] <;> first | rfl | omega) | omega)
  rintro n s ⟨k, m, rest, hn, hp0, hp1, hp2, hnl, hS⟩
  rcases rest with _ | ⟨t, rest⟩
  · have hk := drop_nil hp0
    rw [sumS] at hp1
    subst hp1
    repeat' first
      | apply jA | apply jB | apply jC | apply jD | apply jE | apply jF | apply jG | apply jH | apply jI
      | ((first | (apply jK cx_ok; decide) | apply jM cx_ok | apply jR); (simp (disch := omega) only [push_cast, simprocAttr, hS, hk] <;> rfl); all_goals try ((with_reducible intro hI); try first | (cases hI; done) | (simp only [INTS, zL] at hI; try first | (exfalso; omega) | (have hT : True := hI; clear hT hI))))
      | ((first | apply jf | apply jg); (iterate 2 (try (simp (disch := omega) only [push_cast, simprocAttr, hS, hk] <;> rfl))))
    all_goals (show _ = _; rfl)
  · obtain ⟨hk, hg, hd', hl', hm, hx⟩ := drop_cons hp0 eStop []
    have ht := hb t hm
    simp only [zD] at hp2
    rw [sumS] at hp1
    by_cases hc : x ≤ t.pos ∧ t.pos < y
    · have hc1 := hc.1
      have hc2 := hc.2
      rw [if_pos hc] at hp1
      repeat' first
        | apply jA | apply jB | apply jC | apply jD | apply jE | apply jF | apply jG | apply jH | apply jI
        | ((first | (apply jK cx_ok; decide) | apply jM cx_ok | apply jR); (simp (disch := omega) only [push_cast, simprocAttr, hS, hk, hg, hx, hc1, hc2, zP] <;> rfl); all_goals try ((with_reducible intro hI); try first | (cases hI; done) | (simp only [INTS, zL] at hI; try first | (exfalso; omega) | (have hT : True := hI; clear hT hI))))
        | ((apply jV cx_ok; decide); (iterate 2 (simp (disch := omega) only [push_cast, simprocAttr, hS, hk, hg, hx, hc1, hc2, zP] <;> rfl)); (with_reducible first | exact inside_ok t x y | exact secsLo_ok t); try first | rfl | (simp (disch := omega) only [push_cast, simprocAttr, hS, hk, hg, hx, hc1, hc2, zP] <;> rfl))
        | ((first | apply jf | apply jg); (iterate 2 (try (simp (disch := omega) only [push_cast, simprocAttr, hS, hk, hg, hx, hc1, hc2, zP] <;> rfl))))
      all_goals (refine ⟨rest.length, ?_, k + 1, m + t.secs.lo, rest, rfl, hd', hp1, (by omega), ?_, ?_, ?_, ?_, ?_, ?_, ?_⟩; ((simp only [zD] at *; omega)); all_goals first | (simp (disch := omega) only [push_cast, simprocAttr, hS, hk, hg, hx] <;> first | rfl | omega) | omega)
    · have hcF : (decide (x ≤ t.pos) && decide (t.pos < y)) = false := by
        cases hq : (decide (x ≤ t.pos) && decide (t.pos < y)) with
        | false => rfl
        | true => simp only [Bool.and_eq_true, decide_eq_true_eq] at hq; exact absurd hq hc
      rw [if_neg hc] at hp1
      repeat' first
        | apply jA | apply jB | apply jC | apply jD | apply jE | apply jF | apply jG | apply jH | apply jI
        | ((first | (apply jK cx_ok; decide) | apply jM cx_ok | apply jR); (simp (disch := omega) only [push_cast, simprocAttr, hS, hk, hg, hx, hcF] <;> rfl); all_goals try ((with_reducible intro hI); try first | (cases hI; done) | (simp only [INTS, zL] at hI; try first | (exfalso; omega) | (have hT : True := hI; clear hT hI))))
        | ((apply jV cx_ok; decide); (iterate 2 (simp (disch := omega) only [push_cast, simprocAttr, hS, hk, hg, hx, hcF] <;> rfl)); (with_reducible first | exact (hcF ▸ inside_ok t x y) | exact secsLo_ok t); try first | rfl | (simp (disch := omega) only [push_cast, simprocAttr, hS, hk, hg, hx, hcF] <;> rfl))
        | ((first | apply jf | apply jg); (iterate 2 (try (simp (disch := omega) only [push_cast, simprocAttr, hS, hk, hg, hx, hcF] <;> rfl))))
      all_goals (refine ⟨rest.length, ?_, k + 1, m, rest, rfl, hd', hp1, (by omega), ?_, ?_, ?_, ?_, ?_, ?_, ?_⟩; ((simp only [zD] at *; omega)); all_goals first | (simp (disch := omega) only [push_cast, simprocAttr, hS, hk, hg, hx] <;> first | rfl | omega) | omega)
end Go.Proofs.Ks
