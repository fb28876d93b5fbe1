/-
  Contracts of functions, proved by going through their code. No conditions.
-/
import Derived.LoopNIn
import Derived.Lib.AppendStr
import Derived.Test.YtkdiplkmcilkmaaGreatDoorTai
set_option linter.unusedVariables false
set_option linter.unusedSimpArgs false
namespace Go.Pg
open Go Go.RowKit
def OKm (C : Cx) (f : FuncId) (args : List AV) (H : Nat → Option AO) (nx : Nat) (Q : AV → (Nat → Option AO) → Nat → Prop) : Prop :=
  Enters C.P f ∧ ∀ (S0 : Fr) (w0 w : World) (σ : Sg) (vals : Array Value), C.E w0 → Inv w0.heap.size S0 w H σ → (∀ id, nx ≤ id → H id = none) → Below w0.heap.size w0 w → vals.size = args.length → RepL σ w args (fun i => vals[i]?) →
    Calls C.P f vals w fun e w' => ∃ v r σ' H' nx', e = .returned v ∧ Q r H' nx' ∧ Below w0.heap.size w0 w' ∧ Inv w0.heap.size S0 w' H' σ' ∧ (∀ id, nx' ≤ id → H' id = none) ∧ Le σ σ' w w' ∧ Rep σ' w' r v
def bundle : List AV → AV
  | [x] => x
  | xs => .tup xs
def endM (C : Cx) (rs : List ResultVar) (Q : AV → (Nat → Option AO) → Nat → Prop) : Exit → St → Prop
  | .normal, s => ∃ vs, resVs C.T s rs = some vs ∧ Q (bundle vs) s.H s.nx
  | .ret, s => ∃ vs, resVs C.T s rs = some vs ∧ Q (bundle vs) s.H s.nx
  | _, _ => False
def Fr.from (S0 : Fr) (σ : Sg) (w : World) : Fr :=
  ⟨S0.S, fun σ' w' => S0.K σ' w' ∧ Le σ σ' w w', fun _ _ _ _ hle h => ⟨S0.mono _ _ _ _ hle h.1, h.2.trans hle⟩, []⟩
theorem Inv.from {B0 : Nat} {S0 : Fr} {w : World} {H : Nat → Option AO} {σ : Sg} (h : Inv B0 S0 w H σ) : Inv B0 (S0.from σ w) w H σ :=
  ⟨h.al, h.fresh, h.S_lt, h.own_lt, h.row, h.mp, ⟨h.fr, Le.refl _ _ fun _ _ ho => h.al_of_own ho⟩⟩
theorem Inv.unfrom {B0 : Nat} {S0 : Fr} {w w' : World} {H : Nat → Option AO} {σ σ' : Sg} (h : Inv B0 (S0.from σ w) w' H σ') : Inv B0 S0 w' H σ' ∧ Le σ σ' w w' :=
  ⟨⟨h.al, h.fresh, h.S_lt, h.own_lt, h.row, h.mp, h.fr.1⟩, h.fr.2⟩
theorem resVs_len {T : TypeId → Option Ty} {s : St} : ∀ (rs : List ResultVar) (vs : List AV), resVs T s rs = some vs → vs.length = rs.length
  | [], vs, h => by simp only [resVs, Option.some.injEq] at h; subst h; rfl
  | r :: rs, vs, h => by
    simp only [resVs] at h
    split at h
    · rename_i h1 h2; injection h with h; subst h; simp [resVs_len rs _ h2]
    · cases h
section
variable {C : Cx}
theorem run_results_of (hC : C.OK) {S0 : Fr} {w0 w : World} {N : Nat} {a : Act} {s : St} {σ : Sg} (hσ : SimG S0 w0 N a w s σ) {fn : Func} {rs : List ResultVar} {vs : List AV} (hr : fn.results = rs.toArray) (h : resVs C.T s rs = some vs) :
    ∃ v, (results fn a.tmps).run C.P w = .ok v w ∧ Rep σ w (bundle vs) v := by
  obtain ⟨us, g1, g2, g3⟩ := run_resVs hC hσ rs vs h
  have hl := resVs_len rs vs h
  refine ⟨if h : us.toArray.size = 1 then us.toArray[0] else .tuple us.toArray, ?_, ?_⟩
  · simp only [results, hr, Array.mapM_eq_mapM_toList, Sem.run_bind, Sem.run_map, Sem.run_pure]
    exact (congrArg (fun r => (Result.andThen (Result.andThen r fun a w' => Result.ok a.toArray w') fun a w' => Result.ok (if h : a.size = 1 then a[0] else Value.tuple a) w')) g1).trans rfl
  · match vs, us, g2 with
    | [x], [u], _ => simpa [RepL, bundle] using g3
    | [], [], _ => simp only [bundle]; simp [Rep, RepL]
    | x :: y :: vs, u :: v :: us, g2 =>
      have : ¬ ((u :: v :: us).toArray.size = 1) := by simp
      rw [dif_neg this]
      simp only [bundle, Rep]
      exact ⟨_, rfl, by simpa using g2, by simpa using g3⟩
    | [x], u :: v :: us, g2 => simp at g2
    | x :: y :: vs, [u], g2 => simp at g2
theorem OKm.of_body [hW : C.Wide] (hC : C.OK) {f : FuncId} {fn : Func} {c : Code} {args : List AV} {rs : List ResultVar} {H : Nat → Option AO} {nx : Nat} {Q : AV → (Nat → Option AO) → Nat → Prop} (hf : C.P.funcs[f]? = some fn) (hb : fn.body = some c) (hn : (fn.name == "runtime.NumGoroutine") = false)
    (hr : fn.results = rs.toArray) (hN : args.length ≤ fn.ntmps) (h : AW C fn.ntmps c (endM C rs Q) { tm := fun t => args.getD t .junk, H := H, nx := nx }) : OKm C f args H nx Q := by
  refine ⟨⟨fn, hf, hn, by rw [hb]; rfl⟩, fun S0 w0 w σ vals hE hi hnx hbel hsz hrep => ?_⟩
  refine calls_of_wp hf hb ?_
  have hs : Sim (S0.from σ w) w0 fn.ntmps { tmps := vals ++ Array.replicate (fn.ntmps - vals.size) undef, defers := [] } w { tm := fun t => args.getD t .junk, H := H, nx := nx } := by
    refine ⟨σ, hi.from, hnx, fun t => ?_, by simp; omega, rfl, hbel⟩
    show Rep σ w (args.getD t .junk) ((vals ++ Array.replicate (fn.ntmps - vals.size) undef).getD t undef)
    by_cases ht : t < args.length
    · rw [repL_iff] at hrep
      obtain ⟨u, hu, hru⟩ := hrep t ht
      have : (vals ++ Array.replicate (fn.ntmps - vals.size) undef).getD t undef = u := by
        rw [Array.getD_eq_getD_getElem?, Array.getElem?_append_left (by omega), hu]; rfl
      rw [this, List.getD_eq_getElem?_getD, List.getElem?_eq_getElem ht]; exact hru
    · have : args.getD t .junk = .junk := by rw [List.getD_eq_getElem?_getD, List.getElem?_eq_none (by omega)]; rfl
      rw [this]; trivial
  have h2 := h (S0.from σ w) w0 _ w hE hs
  rw [hW.h] at h2
  refine wp_mono (wpIn_wide.1 h2) ?_
  have fin : ∀ a' w' s', Sim (S0.from σ w) w0 fn.ntmps a' w' s' → (∃ vs, resVs C.T s' rs = some vs ∧ Q (bundle vs) s'.H s'.nx) →
      a'.defers = [] ∧ ∃ v, (results fn a'.tmps).run C.P w' = .ok v w' ∧ (∃ v1 r σ' H' nx', Ending.returned v = .returned v1 ∧ Q r H' nx' ∧ Below w0.heap.size w0 w' ∧ Inv w0.heap.size S0 w' H' σ' ∧ (∀ id, nx' ≤ id → H' id = none) ∧ Le σ σ' w w' ∧ Rep σ' w' r v1) := by
    rintro a' w' s' ⟨σ', hσ'⟩ ⟨vs, hvs, hq⟩
    obtain ⟨v, hv, hrv⟩ := run_results_of hC hσ' hr hvs
    obtain ⟨hi', hle⟩ := hσ'.inv.unfrom
    exact ⟨hσ'.d, v, hv, v, _, σ', s'.H, s'.nx, rfl, hq, hσ'.below, hi', hσ'.nx, hle, hrv⟩
  rintro e a' w' ⟨s', hs', hq⟩
  cases e with
  | normal => exact fin a' w' s' hs' hq
  | ret => exact fin a' w' s' hs' hq
  | exit id => exact hq.elim
  | goto l => exact hq.elim
  | panic c => exact hq.elim
  | outgrown => exact hq.elim
theorem OKm.toAt {f : FuncId} {args : List AV} {Q : AV → (Nat → Option AO) → Nat → Prop} {Q' : AV → Prop} (h : OKm C f args (fun _ => none) 0 Q) (hq : ∀ r H nx, Q r H nx → ∃ r', viewA H r = some r' ∧ Q' r') : OKat C f args Q' := by
  refine ⟨h.1, fun w S vals hE hS hsz hrep => ?_⟩
  have hi : Inv w.heap.size (Fr.of S) w (fun _ => none) (pureSg S) :=
    ⟨fun id => by simp [pureSg], fun id _ => ⟨rfl, fun b h => by simp [pureSg] at h⟩, fun b h => ⟨hS b h, .inl h⟩, fun b id h => by simp [pureSg] at h, fun id r h => by simp at h, fun id kt et es h => by simp at h, trivial⟩
  refine (h.2 (Fr.of S) w w (pureSg S) vals hE hi (fun _ _ => rfl) (Below.refl _ _) hsz hrep).mono ?_
  rintro e w' ⟨v, r, σ', H', nx', rfl, hQ, hb, hi', _, _, hr⟩
  obtain ⟨r', hv, hq'⟩ := hq r H' nx' hQ
  refine ⟨hb, v, r', rfl, hq', ?_⟩
  refine viewA_sound hi' (fun b hb => ?_) r v r' hv (fun id _ b hb => .inr (hi'.own_lt b id hb)) hr
  have := hi'.S_lt b hb
  rcases this.2 with h | h
  · exact .inl h
  · exact .inr ⟨h, this.1⟩
theorem OKm.mono {f : FuncId} {args : List AV} {H : Nat → Option AO} {nx : Nat} {Q Q' : AV → (Nat → Option AO) → Nat → Prop} (h : OKm C f args H nx Q) (hq : ∀ r H nx, Q r H nx → Q' r H nx) : OKm C f args H nx Q' :=
  ⟨h.1, fun S0 w0 w σ vals hE hi hnx hbel hsz hrep => (h.2 S0 w0 w σ vals hE hi hnx hbel hsz hrep).mono (fun _ _ ⟨v, r, σ', H', nx', h1, h2, h3⟩ => ⟨v, r, σ', H', nx', h1, hq _ _ _ h2, h3⟩)⟩
variable {N : Nat} {Q : Exit → St → Prop} {s : St} {ops : Array Oper} {rest : List Oper} {o : Oper}
theorem AWL.callm (hC : C.OK) (hg : o.guard = none) {d : Nat} (hd : o.dst = some d) (hN : d < N) {fo : Operand} {args : Array Operand} {tys : Array TypeId} (ho : o.op = .call { callee := .value fo, args := args, argTypes := tys })
    {f : FuncId} {caps : List AV} (hf : s.ev fo = .clo f caps) {Qr : AV → (Nat → Option AO) → Nat → Prop} (hok : OKm C f (evsA args.toList s.ev ++ caps) s.H s.nx Qr)
    (k : ∀ r H' nx', Qr r H' nx' → AWL C N ops Q rest { tm := upd s.tm d r, H := H', nx := nx' }) : AWL C N ops Q (o :: rest) s := by
  rintro S0 w0 a w hE ⟨σ, hσ⟩
  obtain ⟨⟨fn, hfn, hname, hbody⟩, hcall⟩ := hok
  have hfo := hσ.ev fo
  rw [hf] at hfo
  simp only [Rep] at hfo
  obtain ⟨ca, hca, hcs, hcr⟩ := hfo
  have hargs : RepL σ w (evsA args.toList s.ev ++ caps) (fun i => ((args.map a.eval) ++ ca)[i]?) := by
    have h1 := repL_evs (σ := σ) (w := w) (fun x => hσ.ev x) args
    rw [repL_iff'] at h1 hcr ⊢
    intro i c hc
    rw [List.getElem?_append] at hc
    rw [Array.getElem?_append]
    have hl : (evsA args.toList s.ev).length = (args.map a.eval).size := by simp [evsA_map]
    rw [hl] at hc
    split at hc
    · rename_i hi; rw [if_pos hi]; exact h1 i c hc
    · rename_i hi; rw [if_neg hi]; exact hcr _ c hc
  have hsz : ((args.map a.eval) ++ ca).size = (evsA args.toList s.ev ++ caps).length := by simp [evsA_map, hcs]
  have hc := hcall S0 w0 w σ ((args.map a.eval) ++ ca) hE hσ.inv hσ.nx hσ.below hsz hargs
  refine wpListIn_plain hg fun K hK => Oper.wpIn_of_wp C.hF (fun c e => by rw [ho] at e; cases e) ?_
  have hexec : (execOp a.eval o).run C.P w = .ok (.enter f ((args.map a.eval) ++ ca)) w := by
    have hb : (fn.name == "runtime.NumGoroutine") ≠ true := by simp [hname]
    simp only [execOp, ho, resolve, hca, Deferred.ofValue, Sem.run_bind, Sem.run_pure, Result.andThen_ok, invoke, callFunc, run_program, hfn, if_neg hb, hbody, Bool.false_eq_true, if_false]
    simp
  simp only [Oper.wp, hexec, Oper.upon]
  refine hc.mono ?_
  rintro e w' ⟨v, r, σ', H', nx', rfl, hQ, hb, hi', hn', hle, hr⟩
  dsimp only
  rw [hd]
  refine hK _ _ (k r H' nx' hQ S0 w0 _ w' hE ⟨σ', hi', hn', fun t => ?_, by simp [Act.put, hσ.N], hσ.d, hb⟩)
  simp only [Act.put]
  rw [getD_set _ _ _ _ (by rw [hσ.N]; exact hN)]
  show Rep σ' w' (upd s.tm d r t) _
  unfold upd
  split
  · exact hr
  · exact Rep.mono hle _ _ (hσ.tm t)
variable {ty : TypeId} {ps : String} {af : Array Edge} {d : Nat}
theorem W.callm (hC : C.OK) (hN : d < N) {fo : Operand} {args : Array Operand} {tys : Array TypeId} {f : FuncId} {caps : List AV} (hf : s.ev fo = .clo f caps) {Qr : AV → (Nat → Option AO) → Nat → Prop} (hok : OKm C f (evsA args.toList s.ev ++ caps) s.H s.nx Qr)
    (k : ∀ r H' nx', Qr r H' nx' → AWL C N ops Q rest { tm := upd s.tm d r, H := H', nx := nx' }) : AWL C N ops Q (⟨some d, .call { callee := .value fo, args := args, argTypes := tys }, ty, ps, af, none⟩ :: rest) s :=
  AWL.callm hC rfl rfl hN rfl hf hok k
end
end Go.Pg

namespace Go.Pg
open Go Go.RowKit
section
variable {C : Cx} {N : Nat} {Q : Exit → St → Prop} {s : St} {ops : Array Oper} {rest : List Oper} {o : Oper}
theorem AW.adopt {c : Code} (t k : Nat) (e : TypeId) (ht : s.tm t = .v (.slice none 0 0)) (h : AW C N c Q { tm := upd s.tm t (.ref s.nx 0 0), H := updH s.H s.nx (.row { k := k, es := [], ty := e }), nx := s.nx + 1 }) : AW C N c Q s := by
  rintro S0 w0 a w hE ⟨σ, hσ⟩
  obtain ⟨hle, hinv⟩ := hσ.inv.adopt (hσ.nx s.nx (Nat.le_refl _)) { k := k, es := [], ty := e } rfl rfl rfl
  refine h S0 w0 a w hE ⟨σ.adopt s.nx k, hinv, fun id hid => ?_, fun u => ?_, hσ.N, hσ.d, hσ.below⟩
  · have hid' : s.nx + 1 ≤ id := hid
    simp only [updH]; rw [if_neg (by omega)]; exact hσ.nx id (by omega)
  · show Rep _ w (upd s.tm t (.ref s.nx 0 0) u) _
    unfold upd
    split
    · rename_i he
      subst he
      have hr := hσ.tm u
      rw [ht] at hr
      simp only [Rep] at hr
      rw [hr]
      simp only [Rep]
      exact ⟨.inl rfl, none, 0, rfl, Nat.le_refl _, by simp [maxLen], fun h => absurd rfl h, fun _ _ => .inl (by simp [Sg.adopt])⟩
    · exact Rep.mono hle _ _ (hσ.tm u)
theorem AW.fresh {c : Code} (h : (∀ id, s.nx ≤ id → s.H id = none) → AW C N c Q s) : AW C N c Q s := by
  rintro S0 w0 a w hE ⟨σ, hσ⟩
  exact h hσ.nx S0 w0 a w hE ⟨σ, hσ⟩
variable {op : Op} {ty : TypeId} {ps : String} {af : Array Edge} {d j t : Nat} {want bb : Bool}
theorem W.append (hC : C.OK) (hN : d < N) {x1 x2 : Operand} {t e : TypeId} {tt y : Ty} (ht : C.T t = some tt) (hte : tt.d = .slice e) (hy : C.T e = some y) (hk0 : 0 < y.size) {id nx : Nat} {r : Row}
    (hdst : dstA s s.nx (s.ev x1) y e = some (id, r, nx)) {es news : List (List AV)} (hsrc : srcA s.H (s.ev x2) = some es) (hv : viewLL s.H es = some news) (hlen : ∀ e ∈ es, e.length = y.size) (hid : idsLL es = [])
    (hb : (r.es.length + es.length) * y.bytes ≤ 140737488355328) (hm : r.es.length + es.length ≤ 140737488355328)
    (k : AWL C N ops Q rest { tm := upd s.tm d (.ref id 0 (r.es.length + es.length)), H := updH s.H id (.row (appRow r es.length news)), nx := nx }) :
    AWL C N ops Q (⟨some d, .call { callee := .builtin .append, args := #[x1, x2], argTypes := #[t, t] }, ty, ps, af, none⟩ :: rest) s := by
  refine AWL.append hC rfl rfl hN rfl ht hte hy hk0 (.inl rfl) hdst hsrc hlen hv (by rw [hid]; simp) hb hm ?_
  have : frz' s.H (idsLL es) = s.H := by rw [hid]; rfl
  rw [this]; exact k
theorem dstA_congr {s s' : St} (h1 : s'.H = s.H) (h2 : s'.nx = s.nx) (key : Nat) (x : AV) (y : Ty) (e : TypeId) : dstA s' key x y e = dstA s key x y e := by
  unfold dstA; rw [h1, h2]
variable {H0 : Nat → Option AO} {b : Nat} {tg mk av : List Nat} {Fin : St → Prop} {i : Nat}
theorem D.append (hC : C.OK) (hN : d < N) (hi : i ∈ tg) {x1 x2 : Operand} {t e : TypeId} {tt y : Ty} (ht : C.T t = some tt) (hte : tt.d = .slice e) (hy : C.T e = some y) (hk0 : 0 < y.size) {id nx : Nat} {r : Row}
    (hdst : dstA s s.nx (s.ev x1) y e = some (id, r, nx)) {es news : List (List AV)} (hsrc : srcA s.H (s.ev x2) = some es) (hv : viewLL s.H es = some news) (hlen : ∀ e ∈ es, e.length = y.size) (hid : idsLL es = [])
    (hb : (r.es.length + es.length) * y.bytes ≤ 140737488355328) (hm : r.es.length + es.length ≤ 140737488355328) (hav : mk = [] ∨ id ∈ av)
    (k : DW C N ops H0 b tg mk av Fin (i + 1) rest { tm := upd s.tm d (.ref id 0 (r.es.length + es.length)), H := updH s.H id (.row (appRow r es.length news)), nx := nx }) :
    DW C N ops H0 b tg mk av Fin i (⟨some d, .call { callee := .builtin .append, args := #[x1, x2], argTypes := #[t, t] }, ty, ps, af, none⟩ :: rest) s := by
  refine ⟨.ref id 0 (r.es.length + es.length), { tm := upd s.tm d (.ref id 0 (r.es.length + es.length)), H := updH s.H id (.row (appRow r es.length news)), nx := nx }, rfl, ?_, k⟩
  rw [if_pos hi]
  refine ⟨fun s' h1 h2 hl => ?_, ?_⟩
  · have hev := ev_congr hl
    have e1 : s'.ev x1 = s.ev x1 := hev x1 (by simp [Op.operands, Call.operands])
    have e2 : s'.ev x2 = s.ev x2 := hev x2 (by simp [Op.operands, Call.operands])
    refine one_of_AWL (W.append (id := id) (r := r) (nx := nx) (es := es) (news := news) hC hN ht hte hy hk0 (by rw [dstA_congr h1 h2, h2, e1]; exact hdst) (by rw [h1, e2]; exact hsrc) (by rw [h1]; exact hv) hlen hid hb hm (AWL.nil ⟨rfl, ?_⟩))
    rw [h1]; rfl
  · rcases hav with h | h
    · exact .inl h
    · refine .inr fun id' x hid' hx => ?_
      show updH s.H id _ id' = some x
      simp only [updH]
      rw [if_neg (fun e => by rw [e] at hid'; exact hid' h)]; exact hx
theorem D.callm (hC : C.OK) (hN : d < N) (hi : i ∈ tg) {fo : Operand} {args : Array Operand} {tys : Array TypeId} {f : FuncId} {caps : List AV} (hf : s.ev fo = .clo f caps) {R : AV} {H' : Nat → Option AO} {nx' : Nat}
    (hok : OKm C f (evsA args.toList s.ev ++ caps) s.H s.nx (fun r h n => r = R ∧ h = H' ∧ n = nx')) (hav : mk = [] ∨ ∀ id x, id ∉ av → s.H id = some x → H' id = some x)
    (k : DW C N ops H0 b tg mk av Fin (i + 1) rest { tm := upd s.tm d R, H := H', nx := nx' }) :
    DW C N ops H0 b tg mk av Fin i (⟨some d, .call { callee := .value fo, args := args, argTypes := tys }, ty, ps, af, none⟩ :: rest) s := by
  refine ⟨R, { tm := upd s.tm d R, H := H', nx := nx' }, rfl, ?_, k⟩
  rw [if_pos hi]
  refine ⟨fun s' h1 h2 hl => ?_, hav⟩
  have hev := ev_congr hl
  have e1 : s'.ev fo = .clo f caps := by rw [hev fo (by simp [Op.operands, Call.operands])]; exact hf
  have e2 : evsA args.toList s'.ev = evsA args.toList s.ev := evsA_congr (fun x hx => hev x (by simp only [Op.operands, Call.operands, Array.mem_append]; exact .inr (by simpa using hx)))
  refine one_of_AWL (W.callm hC hN e1 (Qr := fun r h n => r = R ∧ h = H' ∧ n = nx') (by rw [e2, h1, h2]; exact hok) ?_)
  rintro r h n ⟨rfl, rfl, rfl⟩
  exact AWL.nil ⟨rfl, rfl⟩
theorem D.alloct (hC : C.OK) (hN : d < N) (hi : i ∈ tg) {r : AV} {row : Row} (h : stepA C.T C.eqT s.H s.ev s.nx op = some (r, some row)) (hav : mk = [] ∨ s.nx ∈ av)
    (k : DW C N ops H0 b tg mk av Fin (i + 1) rest ⟨upd s.tm d r, updH s.H s.nx (.row row), s.nx + 1⟩) :
    DW C N ops H0 b tg mk av Fin i (⟨some d, op, ty, ps, af, none⟩ :: rest) s := by
  refine ⟨r, ⟨upd s.tm d r, updH s.H s.nx (.row row), s.nx + 1⟩, rfl, ?_, k⟩
  rw [if_pos hi]
  refine ⟨fun s' h1 h2 ht => ?_, ?_⟩
  · have := stepA_mono (H := s.H) (H' := s'.H) (fun id x hx => by rw [h1]; exact hx) (fun x hx => (ev_congr ht x hx).symm) h
    refine one_of_AWL (AWL.step (d := d) (r := r) (nr := some row) hC rfl rfl hN (by rw [h2]; exact this) (AWL.nil ⟨rfl, ?_⟩))
    show St.mk _ _ _ = _
    rw [show putH s'.H s'.nx (some row) = updH s'.H s'.nx (.row row) from rfl, h1, h2]; rfl
  · rcases hav with h | h
    · exact .inl h
    · refine .inr fun id' x hid hx => ?_
      show updH s.H s.nx _ id' = some x
      simp only [updH]
      rw [if_neg (fun e => by rw [e] at hid; exact hid h)]; exact hx
end
theorem OKat.of_bodyM {C : Cx} [hW : C.Wide] {Q : AV → Prop} (hC : C.OK) {f : FuncId} {fn : Func} {c : Code} {args : List AV} {rs : List ResultVar} (hf : C.P.funcs[f]? = some fn) (hb : fn.body = some c) (hn : (fn.name == "runtime.NumGoroutine") = false)
    (hr : fn.results = rs.toArray) (hN : args.length ≤ fn.ntmps) (h : AW C fn.ntmps c (endM C rs (fun r H _ => ∃ r', viewA H r = some r' ∧ Q r')) (startSt args)) : OKat C f args Q :=
  OKm.toAt (OKm.of_body hC hf hb hn hr hN h) (fun _ _ _ h => h)
theorem W.retM {C : Cx} {Q : AV → Prop} {rs : List ResultVar} {s : St} {vs : List AV} {r : AV} (h1 : resVs C.T s rs = some vs) (h2 : viewA s.H (bundle vs) = some r) (hq : Q r) : endM C rs (fun r H _ => ∃ r', viewA H r = some r' ∧ Q r') .ret s := ⟨vs, h1, r, h2, hq⟩
theorem W.endM' {C : Cx} {Q : AV → Prop} {rs : List ResultVar} {s : St} {vs : List AV} {r : AV} (h1 : resVs C.T s rs = some vs) (h2 : viewA s.H (bundle vs) = some r) (hq : Q r) : endM C rs (fun r H _ => ∃ r', viewA H r = some r' ∧ Q r') .normal s := ⟨vs, h1, r, h2, hq⟩
theorem updH_at (H : Nat → Option AO) (i : Nat) (o : AO) (j : Nat) : updH H i o j = if j = i then some o else H j := rfl
theorem rowAt_updM (H : Nat → Option AO) (i : Nat) (k : MK) (e : TypeId) (es : List (Key × AV)) (j : Nat) : rowAt (updH H i (.mp k e es)) j = if j = i then none else rowAt H j := by
  unfold rowAt updH
  split <;> rename_i h <;> split at h <;> simp_all
theorem viewLL_nil (H : Nat → Option AO) : viewLL H [] = some [] := rfl
theorem viewLL_cons (H : Nat → Option AO) (e : List AV) (es : List (List AV)) : viewLL H (e :: es) = (match viewL H e, viewLL H es with | some d, some ds => some (d :: ds) | _, _ => none) := rfl
theorem idsLL_nil : idsLL [] = [] := rfl
theorem idsLL_cons (e : List AV) (es : List (List AV)) : idsLL (e :: es) = idsL e ++ idsLL es := rfl
theorem viewLL_map {α : Type} (H : Nat → Option AO) (f : α → List AV) (h : ∀ a, viewL H (f a) = some (f a)) : ∀ l : List α, viewLL H (l.map f) = some (l.map f)
  | [] => rfl
  | a :: l => by simp only [List.map_cons, viewLL_cons, h a, viewLL_map H f h l]
theorem idsLL_map {α : Type} (f : α → List AV) (h : ∀ a, idsL (f a) = []) : ∀ l : List α, idsLL (l.map f) = []
  | [] => rfl
  | a :: l => by simp only [List.map_cons, idsLL_cons, h a, idsLL_map f h l, List.append_nil]
end Go.Pg

namespace Go.Pg
open Go Go.RowKit
section
variable {P : Program} {B0 : Nat} {S0 : Fr} {w : World} {H : Nat → Option AO} {σ : Sg}
theorem rowAt_mask (av : List Nat) (H : Nat → Option AO) (j : Nat) : rowAt (mask av H) j = if j ∈ av then none else rowAt H j := by
  unfold rowAt mask
  split <;> rename_i h <;> split at h <;> simp_all
theorem upd_keep {H : Nat → Option AO} {av : List Nat} {a c : Nat} {u v : AO} (h1 : a ∈ av) (h2 : c ∈ av) (j : Nat) (x : AO) (hj : j ∉ av) (hx : H j = some x) : updH (updH H a u) c v j = some x := by
  have n1 : j ≠ c := fun e => by subst e; exact hj h2
  have n2 : j ≠ a := fun e => by subst e; exact hj h1
  simp only [updH]
  rw [if_neg n1, if_neg n2]; exact hx
theorem upd_twice (H : Nat → Option AO) (id n : Nat) (a b c : AO) : updH (updH (updH H id a) n b) id c = updH (updH H n b) id c := by
  funext i
  simp only [updH]
  split
  · rfl
  · split
    · rfl
    · rfl
def strE (s : ByteArray) : List (List AV) := s.data.toList.map fun b => [AV.v (.int .u8 b.toNat)]
theorem strE_length (s : ByteArray) : (strE s).length = s.size := by unfold strE; rw [List.length_map, Array.length_toList]; rfl
theorem append_str_where (base : Nat) (t u ty e : TypeId) (i : TypeInfo) (ht : P.underlying t = some (.slice e)) (hu : P.underlying u = some .string) (hi : P.info? e = some i) (hz : i.zero = some (.int .u8 0))
    (hsize : i.size = 1) (hby : i.bytes = 1) (v : Value) (n : Nat) (xs : List Value) (hown : w.ownsRow base e 1 v n xs) (s : ByteArray) (hs : 0 < s.size)
    (h63 : n + s.size ≤ maxLen) (hbytes : n + s.size ≤ 140737488355328) {v' : Value} {w' : World} (hrun : (Builtin.append_ #[t, u] ty #[v, .string s]).run P w = .ok v' w') :
    v'.ownBlock = v.ownBlock ∨ v'.ownBlock = some w.heap.size := by
  have hxl : xs.length = n := by simpa using hown.1
  have hsmall : n + s.size ≤ 9223372036854775807 := by simp only [maxLen] at h63; omega
  rcases hown.2 with ⟨rfl, rfl⟩ | ⟨g, cap, cur, rfl, hbg, hg, hnc, hcm, hcs, htake⟩
  · have hr := run_append_nil_string (P := P) w t u ty e i (.int .u8 0) ht hu hi hz s hs (by omega) (by rw [hby]; omega)
    rw [hr] at hrun
    injection hrun with h1 h2
    right; rw [← h1]; rfl
  · by_cases hroom : n + s.size ≤ cap
    · have hr := Lib.run_append_room_string (P := P) w t u ty e i ht hu hi hsize g n cap cur hg s hroom (by rw [hcs]; omega)
      rw [hr] at hrun
      injection hrun with h1 h2
      left; rw [← h1]; rfl
    · have holds : ∀ j x, xs[j]? = some x → w.cell? ((⟨g, 0, none⟩ : Addr).add j) = some x := hown.cells (g := g) rfl
      have hr := Lib.run_append_grow_string (P := P) w t u ty e i (.int .u8 0) ht hu hi hz ⟨g, 0, none⟩ n cap xs (by rw [hsize]; omega) holds s (by omega) (by omega) (growslice_fits (by omega) (by rw [hby]; omega))
      rw [hr] at hrun
      injection hrun with h1 h2
      right; rw [← h1]; rfl
theorem append_coreS {T : TypeId → Option Ty} (hT : TyOK P T) (hi : Inv B0 S0 w H σ) (hB : B0 ≤ w.heap.size) {id : Nat} {r : Row} (hH : H id = some (.row r)) (hf : r.fro = false) {t u ty e : TypeId} {y : Ty} (ht : P.underlying t = some (.slice e)) (hu : P.underlying u = some .string) (hy : T e = some y)
    (hy1 : y.size = 1) (hyb : y.bytes = 1) (hyz : ∀ i, P.info? e = some i → i.zero = some (.int .u8 0)) (hk : r.k = 1) (hty : r.ty = e) {uv : Value} (hr : Rep σ w (.ref id 0 r.es.length) uv) (s : ByteArray) (hs : 0 < s.size) (hb : r.es.length + s.size ≤ 140737488355328) :
    ∃ v w' σ', (Builtin.append_ #[t, u] ty #[uv, .string s]).run P w = .ok v w' ∧ Below B0 w w' ∧ Le σ σ' w w' ∧
      Inv B0 S0 w' (updH H id (.row { r with es := r.es ++ strE s, lo := r.es.length + s.size })) σ' ∧ Rep σ' w' (.ref id 0 (r.es.length + s.size)) v := by
  have hR := hi.row id r hH
  obtain ⟨i, z, f1, f2, f3, f4, f5⟩ := (hT e y hy).get
  simp only [Rep] at hr
  obtain ⟨hal, A', cap, rfl, g1, g2, g3, g4⟩ := hr
  have hlS := strE_length s
  have hown : ∃ xs, w.ownsRow B0 e 1 (.slice A' r.es.length cap) r.es.length xs ∧ (∀ b', σ.cur id = some b' → ∃ arr : Array Value, w.heap[b']? = some (.cells arr r.ty (0, 0)) ∧ xs = arr.toList.take r.es.length) ∧ (Value.slice A' r.es.length cap).ownBlock = σ.cur id := by
    rcases g4 trivial hR.len.symm with ⟨h1, h2, rfl, rfl⟩ | ⟨b', h1, rfl, h3⟩
    · refine ⟨[], ⟨by simp [h2], .inl ⟨by rw [h2], h2⟩⟩, fun b' hb' => (by rw [h1] at hb'; cases hb'), by rw [h1]; rfl⟩
    · obtain ⟨a1, a2, a3, a4, arr, a5, a6⟩ := hR.cur b' h1
      refine ⟨arr.toList.take r.es.length, ⟨?_, .inr ⟨b', cap, arr, rfl, (hi.own_lt b' id a1).1, by rw [← hty]; exact a5, g1, g2, by rw [a6, h3, hk], by rw [Nat.mul_one]⟩⟩, fun b'' hb'' => ?_, by rw [h1]; rfl⟩
      · rw [List.length_take, Array.length_toList, a6, hk, Nat.mul_one, Nat.mul_one]
        exact Nat.min_eq_left a3
      · rw [h1] at hb''; injection hb'' with hb''; subst hb''; exact ⟨arr, a5, rfl⟩
  obtain ⟨xs, hown, hxs, hblk⟩ := hown
  obtain ⟨v', w', hrun, hown', hgrow, hnil⟩ := Lib.run_append_own_string (P := P) w B0 t u ty e i ht hu f1 (hyz i f1) (by rw [f2, hy1]) (by rw [f3, hyb]) _ _ xs hown s (by unfold maxLen; omega) hb hB
  have hwhere := append_str_where B0 t u ty e i ht hu f1 (hyz i f1) (by rw [f2, hy1]) (by rw [f3, hyb]) _ _ xs hown s hs (by unfold maxLen; omega) hb hrun
  rcases hown'.2 with ⟨_, h0⟩ | ⟨g, cap', cur', rfl, hBg, hg', hnc, hcm, hcs, htake⟩
  · omega
  · have hgc : σ.cur id = some g ∨ (w.heap.size ≤ g ∧ B0 ≤ g) := by
      rcases hwhere with h | h
      · rw [hblk] at h; exact .inl h.symm
      · simp only [Value.ownBlock, Option.some.injEq] at h; exact .inr ⟨by omega, hBg⟩
    have hlen' : (r.es ++ strE s).length = r.es.length + s.size := by simp [hlS]
    have hxl : xs.length = r.es.length := by simpa using hown.1
    have hcg : ∀ m, m < r.es.length + s.size → cur'[m]? = (xs ++ Lib.strCells s)[m]? := by
      intro m hm'
      rw [← htake, List.getElem?_take, if_pos (by omega), Array.getElem?_toList]
    have hres := hi.renew (w' := w') (r' := { r with es := r.es ++ strE s, lo := r.es.length + s.size }) (g := g) (cap := cap') (arr := cur') hH rfl hf hf hgc (by rw [hty]; exact hg') hgrow.size
      (fun k' hk' hc' hne => hgrow.block k' hk' (by rw [hblk]; exact fun e => hc' e.symm)) (.inl ⟨by rw [hlen']; omega, by rw [hlen']⟩) (by rw [hlen']; exact hnc) hcm (by rw [hcs, hk])
      (fun e' he' => by
        rcases List.mem_append.1 he' with he' | he'
        · exact hR.each e' he'
        · unfold strE at he'
          obtain ⟨b, _, rfl⟩ := List.mem_map.1 he'
          rw [hk]; exact ⟨rfl, by simp [AV.cell, Value.oneCell']⟩)
      (fun m hm' => by
        rw [hlen'] at hm'
        simp only [hk, Nat.mul_one]
        by_cases hlt : m < r.es.length
        · rw [List.getElem_append_left hlt]
          have hne : σ.cur id ≠ none := fun hc => by have := hR.empty hc; rw [this] at hlt; simp at hlt
          obtain ⟨b', hb'⟩ := Option.ne_none_iff_exists'.1 hne
          obtain ⟨arr, a5, hxa⟩ := hxs b' hb'
          refine RepL.congr (fun q hq => ?_) (hR.con b' hb' m hlt)
          rw [(hR.each _ (List.getElem_mem hlt)).1, hk] at hq
          have hq0 : q = 0 := by omega
          subst hq0
          rw [hcg _ (by omega), List.getElem?_append_left (by omega), hxa, List.getElem?_take, if_pos (by omega), Array.getElem?_toList, hk, Nat.mul_one]
          exact cell_of_row w b' _ arr r.ty (0, 0) a5
        · rw [List.getElem_append_right (by omega)]
          have hms : m - r.es.length < s.data.toList.length := by rw [← hlS] at hm'; unfold strE at hm'; rw [List.length_map] at hm'; omega
          have he : (strE s)[m - r.es.length]'(by rw [hlS]; omega) = [AV.v (.int .u8 (s.data.toList[m - r.es.length]).toNat)] := by unfold strE; simp
          rw [he]
          simp only [RepL, Nat.add_zero, and_true]
          refine ⟨_, ?_, rfl⟩
          rw [hcg _ hm', List.getElem?_append_right (by omega), hxl]
          unfold Lib.strCells
          rw [List.getElem?_map, List.getElem?_eq_getElem hms]; rfl)
    refine ⟨_, w', _, hrun, ⟨hgrow.os, hgrow.tape, hgrow.output, hgrow.size, fun k' hk' => hgrow.block k' (by omega) (fun e => ?_)⟩, hres.1, hres.2, ?_⟩
    · rw [hblk] at e
      have := (hi.own_lt k' id (hR.cur k' e.symm).1).1; omega
    · simp only [Rep]
      rw [hlen']
      refine ⟨hres.1.al id hal, some ⟨g, 0, none⟩, cap', rfl, hnc, hcm, fun _ => ⟨g, by simp, by simp [Sg.renew], by simp [Sg.renew]⟩, fun _ _ => .inr ⟨g, by simp [Sg.renew], rfl, by simp [Sg.renew]⟩⟩
end
section
variable {C : Cx} {N : Nat} {Q : Exit → St → Prop} {s : St} {ops : Array Oper} {rest : List Oper} {o : Oper}
theorem AWL.pureOp (hg : o.guard = none) {d : Nat} (hd : o.dst = some d) (hN : d < N) {r : AV}
    (h : ∀ (S0 : Fr) (w0 : World) (a : Act) (w : World) (σ : Sg), SimG S0 w0 N a w s σ → ∃ v, (execOp a.eval o).run C.P w = .ok (.value v) w ∧ Rep σ w r v) (k : AWL C N ops Q rest (s.put d r none)) (hnd : ∀ c, o.op ≠ .defer c := by intro c e; cases e) : AWL C N ops Q (o :: rest) s := by
  rintro S0 w0 a w hE ⟨σ, hσ⟩
  obtain ⟨v, h1, h5⟩ := h S0 w0 a w σ hσ
  refine wpListIn_plain hg fun K hK => Oper.wpIn_of_wp C.hF hnd ?_
  simp only [Oper.wp, Oper.upon, h1]
  rw [hd]
  exact hK _ _ (k S0 w0 _ w hE ⟨σ, hσ.put hN (s' := s.put d r none) hσ.inv hσ.nx (hσ.inv.le_heap (fun _ _ => rfl)) (Below.refl _ _) h5 rfl⟩)
theorem AWL.appendS (hC : C.OK) (hg : o.guard = none) {d : Nat} (hd : o.dst = some d) (hN : d < N) {x1 x2 : Operand} {t u : TypeId} (ho : o.op = .call { callee := .builtin .append, args := #[x1, x2], argTypes := #[t, u] })
    {e : TypeId} {ty y yu : Ty} (ht : C.T t = some ty) (hte : ty.d = .slice e) (hu : C.T u = some yu) (hud : yu.d = .str) (hy : C.T e = some y) (hy1 : y.size = 1) (hyb : y.bytes = 1) (hyz : ∀ i, C.P.info? e = some i → i.zero = some (.int .u8 0))
    {id nx : Nat} {r : Row} (hdst : dstA s s.nx (s.ev x1) y e = some (id, r, nx)) {b : ByteArray} (hx2 : s.ev x2 = .v (.string b)) (hb0 : 0 < b.size) (hb : r.es.length + b.size ≤ 140737488355328)
    (k : AWL C N ops Q rest { tm := upd s.tm d (.ref id 0 (r.es.length + b.size)), H := updH s.H id (.row { r with es := r.es ++ strE b, lo := r.es.length + b.size }), nx := nx }) : AWL C N ops Q (o :: rest) s := by
  rintro S0 w0 a w hE ⟨σ, hσ⟩
  have hd1 := hσ.ev x1
  have hstep1 : ∃ σ1 H1, Le σ σ1 w w ∧ Inv w0.heap.size S0 w H1 σ1 ∧ (∀ i, i ≠ id → H1 i = s.H i) ∧ (H1 id = some (.row r)) ∧ Rep σ1 w (.ref id 0 r.es.length) (a.eval x1) ∧ r.fro = false ∧ r.k = y.size ∧ r.ty = e ∧ (∀ i, nx ≤ i → H1 i = none) := by
    unfold dstA at hdst
    split at hdst
    · rename_i hx
      injection hdst with hdst
      simp only [Prod.mk.injEq] at hdst
      obtain ⟨rfl, rfl, rfl⟩ := hdst
      rw [hx] at hd1
      simp only [Rep] at hd1
      have had := hσ.inv.adopt (hσ.nx s.nx (Nat.le_refl _)) { k := y.size, es := [], ty := e } rfl rfl rfl
      refine ⟨_, _, had.1, had.2, fun i hi => by simp only [updH]; rw [if_neg hi], by simp [updH], ?_, rfl, rfl, rfl, fun i hi => ?_⟩
      · rw [hd1]
        simp only [Rep]
        exact ⟨.inl rfl, none, 0, rfl, Nat.le_refl _, by simp [maxLen], fun h => absurd rfl h, fun _ _ => .inl ⟨by simp [Sg.adopt], rfl, rfl, rfl⟩⟩
      · simp only [updH]; rw [if_neg (by omega)]; exact hσ.nx i (by omega)
    · rename_i id' n hx
      split at hdst
      · rename_i r' hrow
        split at hdst
        · rename_i hc
          obtain ⟨c1, c2, c3, c4⟩ := hc
          injection hdst with hdst
          simp only [Prod.mk.injEq] at hdst
          obtain ⟨rfl, rfl, rfl⟩ := hdst
          rw [hx, c1] at hd1
          exact ⟨σ, s.H, hσ.inv.le_heap (fun _ _ => rfl), hσ.inv, fun _ _ => rfl, rowAt_eq hrow, hd1, c2, c3, c4, hσ.nx⟩
        · cases hdst
      · cases hdst
    · cases hdst
  obtain ⟨σ1, H1, l1, i1, ho1, hH1, hr1, hf1, hk1, hty1, hnx1⟩ := hstep1
  have hxv := hσ.ev x2
  rw [hx2] at hxv
  simp only [Rep] at hxv
  obtain ⟨v, w', σ', hrun, hb', hle', hinv', hrep'⟩ := append_coreS (T := C.T) (ty := o.type) (u := u) hC.T i1 hσ.size hH1 hf1 ((hC.T t _ ht).slice hte) ((hC.T u _ hu).str hud) hy hy1 hyb hyz (hk1.trans hy1) hty1 hr1 b hb0 hb
  refine wpListIn_plain hg fun K hK => Oper.wpIn_of_wp C.hF (fun c e => by rw [ho] at e; cases e) ?_
  have hexec : (execOp a.eval o).run C.P w = .ok (.value v) w' := by
    simp only [execOp, ho, resolve, invoke, builtin, Sem.run_bind, Sem.run_pure, Result.andThen_ok, List.map_toArray, List.map_cons, List.map_nil, hxv, hrun]
  simp only [Oper.wp, hexec, Oper.upon]
  rw [hd]
  refine hK _ _ (k S0 w0 _ w' hE ⟨σ', ?_⟩)
  refine hσ.put hN (s' := { tm := upd s.tm d (.ref id 0 (r.es.length + b.size)), H := updH s.H id (.row { r with es := r.es ++ strE b, lo := r.es.length + b.size }), nx := nx }) ?_ (fun i hi => ?_) (l1.trans hle') hb' hrep' rfl
  · have : updH s.H id (.row { r with es := r.es ++ strE b, lo := r.es.length + b.size }) = updH H1 id (.row { r with es := r.es ++ strE b, lo := r.es.length + b.size }) := by
      funext i
      simp only [updH]
      split
      · rfl
      · rename_i hne; exact (ho1 i hne).symm
    show Inv w0.heap.size S0 w' (updH s.H id (.row { r with es := r.es ++ strE b, lo := r.es.length + b.size })) σ'
    rw [this]; exact hinv'
  · show updH s.H id _ i = none
    have hii : H1 i = none := hnx1 i hi
    have hne : i ≠ id := fun e => by subst e; rw [hH1] at hii; cases hii
    simp only [updH]; rw [if_neg hne, ← ho1 i hne]; exact hii
theorem AWL.freeze {t : Nat} {v : AV} (hv : viewA s.H (s.tm t) = some v) (k : AWL C N ops Q rest { tm := upd s.tm t v, H := frz' s.H (idsA (s.tm t)), nx := s.nx }) : AWL C N ops Q rest s := by
  rintro S0 w0 a w hE ⟨σ, hσ⟩
  have hrows := idsA_row _ _ hv
  have hinv := hσ.inv.frz hrows
  have hle := hσ.inv.le_frz (idsA (s.tm t))
  have hinv' : Inv w0.heap.size S0 w (frz' s.H (idsA (s.tm t))) (σ.frz (idsA (s.tm t))) := by
    unfold frz'
    split
    · rename_i he
      have h0 : idsA (s.tm t) = [] := by simpa using he
      have e1 : σ.frz (idsA (s.tm t)) = σ := by
        rw [h0]
        unfold Sg.frz
        congr 1
        funext b; simp
      rw [e1]; exact hσ.inv
    · exact hinv
  refine k S0 w0 a w hE ⟨σ.frz (idsA (s.tm t)), hinv', fun id hid => ?_, fun u => ?_, hσ.N, hσ.d, hσ.below⟩
  · have h0 := hσ.nx id hid
    show frz' s.H _ id = none
    unfold frz'
    split
    · exact h0
    · unfold frz; split
      · rw [h0]
      · exact h0
  · show Rep _ w (upd s.tm t v u) _
    unfold upd
    split
    · rename_i he
      subst he
      exact Rep.lift (viewA_sound hσ.inv (S' := (σ.frz (idsA (s.tm u))).S) (fun b h => .inl h) _ _ _ hv (fun id hid b hb => .inr ⟨id, hid, hb⟩) (hσ.tm u))
    · exact Rep.mono hle _ _ (hσ.tm u)
variable {op : Op} {ty : TypeId} {ps : String} {af : Array Edge} {d j t : Nat} {want bb : Bool} {H0 : Nat → Option AO} {b : Nat} {tg mk av : List Nat} {Fin : St → Prop} {i : Nat}
theorem D.callvt (hC : C.OK) (hN : d < N) (hi : i ∈ tg) {fo : Operand} {args : Array Operand} {tys : Array TypeId} {f : FuncId} {caps vs : List AV} {R : AV} (hf : s.ev fo = .clo f caps) (hv : viewL s.H (evsA args.toList s.ev ++ caps) = some vs) (hok : OKv C f vs R)
    (hfl : (flatA R || (idsL (evsA args.toList s.ev ++ caps)).isEmpty) = true) (k : DW C N ops H0 b tg mk av Fin (i + 1) rest (s.put d R none)) :
    DW C N ops H0 b tg mk av Fin i (⟨some d, .call { callee := .value fo, args := args, argTypes := tys }, ty, ps, af, none⟩ :: rest) s := by
  refine ⟨R, s.put d R none, rfl, ?_, k⟩
  rw [if_pos hi]
  refine ⟨fun s' h1 h2 ht => ?_, .inr fun id x _ hx => hx⟩
  have hev := ev_congr ht
  have e1 : s'.ev fo = .clo f caps := by rw [hev fo (by simp [Op.operands, Call.operands])]; exact hf
  have e2 : evsA args.toList s'.ev = evsA args.toList s.ev := evsA_congr (fun x hx => hev x (by simp only [Op.operands, Call.operands, Array.mem_append]; exact .inr (by simpa using hx)))
  refine one_of_AWL (W.callv (R := R) hC hN e1 (by rw [e2, h1]; exact hv) hok (AWL.nil ⟨rfl, ?_⟩))
  rw [e2]
  unfold St.back
  have : afterH s'.H (idsL (evsA args.toList s.ev ++ caps)) R = s'.H := by
    cases hq : flatA R <;> simp_all [afterH]
  rw [this, h1, h2]; rfl
theorem W.retX {rs : List ResultVar} {Qx : AV → (Nat → Option AO) → Nat → Prop} {vs : List AV} (h1 : resVs C.T s rs = some vs) (hq : Qx (bundle vs) s.H s.nx) : endM C rs Qx .ret s := ⟨vs, h1, hq⟩
theorem W.endX {rs : List ResultVar} {Qx : AV → (Nat → Option AO) → Nat → Prop} {vs : List AV} (h1 : resVs C.T s rs = some vs) (hq : Qx (bundle vs) s.H s.nx) : endM C rs Qx .normal s := ⟨vs, h1, hq⟩
def AWs (C : Cx) (N : Nat) (c : Code) (Q : Exit → St → Prop) (s : St) : Prop :=
  ∀ (S : Nat → Prop) w0 a w, C.E w0 → Sim (Fr.of S) w0 N a w s → c.wpIn C.F 0 C.P (fun e a' w' => ∃ s', Sim (Fr.of S) w0 N a' w' s' ∧ Q e s') a w
theorem thenQ_n {K : St → Prop} (h : K s) : thenQ K Q .normal s := h
theorem AWs.of {c : Code} (h : AW C N c Q s) : AWs C N c Q s := fun S w0 a w hE hs => h (Fr.of S) w0 a w hE hs
theorem AWs.seq {x y : Code} (h : AW C N x (thenQ (AWs C N y Q) Q) s) : AWs C N (.seq x y) Q s := by
  intro S w0 a w hE hs
  refine wpIn_seq (wpIn_mono (h (Fr.of S) w0 a w hE hs) ?_)
  rintro e a' w' ⟨s', h1, h3⟩
  cases e <;> simp only [thenQ, Exit.then] at h3 ⊢
  · exact h3 S w0 a' w' hE h1
  all_goals exact ⟨s', h1, h3⟩
theorem AWs.last {id d : Nat} {fo : Operand} {args : Array Operand} {tys : Array TypeId} {ty : TypeId} {ps : String} {af : Array Edge} {l : List Oper} (hN : d < N) {f : FuncId} (hf : s.ev fo = .clo f []) (hent : Enters C.P f) {r : AV}
    (hcall : ∀ (S0 : Fr) (w0 w : World) (σ : Sg) (vals : Array Value), C.E w0 → Inv w0.heap.size S0 w s.H σ → Below w0.heap.size w0 w → vals.size = (evsA args.toList s.ev).length → RepL σ w (evsA args.toList s.ev) (fun i => vals[i]?) →
      Calls C.P f vals w fun e w' => Below w0.heap.size w0 w' ∧ ∃ v, e = .returned v ∧ Rep (pureSg fun _ => False) w' r v)
    (k : AWL C N ((⟨some d, .call { callee := .value fo, args := args, argTypes := tys }, ty, ps, af, none⟩ : Oper) :: l).toArray (thenQ (AW C N .ret Q) Q) l { tm := upd (fun _ => .junk) d r, H := fun _ => none, nx := 0 }) :
    AWs C N (.seq (.region id ((⟨some d, .call { callee := .value fo, args := args, argTypes := tys }, ty, ps, af, none⟩ : Oper) :: l).toArray false) .ret) Q s := by
  rintro S w0 a w hE ⟨σ, hσ⟩
  obtain ⟨fn, hfn, hname, hbody⟩ := hent
  have hfo := hσ.ev fo
  rw [hf] at hfo
  simp only [Rep] at hfo
  obtain ⟨ca, hca, hcs, _⟩ := hfo
  have hca0 : ca = #[] := Array.eq_empty_of_size_eq_zero (by simpa using hcs)
  subst hca0
  have hc := hcall (Fr.of S) w0 w σ (args.map a.eval) hE hσ.inv hσ.below (by simp [evsA_map]) (repL_evs (fun x => hσ.ev x) args)
  refine wpIn_seq ?_
  have hreg : (Code.region id ((⟨some d, .call { callee := .value fo, args := args, argTypes := tys }, ty, ps, af, none⟩ : Oper) :: l).toArray false).wpIn C.F 0 C.P (fun e a' w' => ∃ s', Sim (Fr.of S) w0 N a' w' s' ∧ (thenQ (AW C N .ret Q) Q) e s') a w := by
    refine wpIn_region_lit ?_
    refine wpListIn_plain rfl fun K hK => Oper.wpIn_of_wp C.hF (fun c e => by cases e) ?_
    have hexec : (execOp a.eval ⟨some d, .call { callee := .value fo, args := args, argTypes := tys }, ty, ps, af, none⟩).run C.P w = .ok (.enter f (args.map a.eval)) w := by
      have hb : (fn.name == "runtime.NumGoroutine") ≠ true := by simp [hname]
      simp only [execOp, resolve, hca, Deferred.ofValue, Sem.run_bind, Sem.run_pure, Result.andThen_ok, invoke, callFunc, run_program, hfn, if_neg hb, hbody, Bool.false_eq_true, if_false]
      simp
    simp only [Oper.wp, hexec, Oper.upon]
    refine hc.mono ?_
    rintro e w' ⟨hb, v, rfl, hr⟩
    dsimp only
    refine hK _ _ (k (Fr.of S) w0 _ w' hE ⟨pureSg fun _ => False, ⟨fun i => by simp [pureSg], fun i _ => ⟨rfl, fun b h => by simp [pureSg] at h⟩, fun b h => h.elim, fun b i h => by simp [pureSg] at h, fun i r h => (by cases h), fun i kt et es h => (by cases h), trivial⟩, fun _ _ => rfl, fun t => ?_, by simp [Act.put, hσ.N], hσ.d, hb⟩)
    simp only [Act.put]
    rw [getD_set _ _ _ _ (by rw [hσ.N]; exact hN)]
    show Rep _ w' (upd (fun _ => .junk) d r t) _
    unfold upd
    split
    · exact hr
    · trivial
  refine wpIn_mono hreg ?_
  rintro e a' w' ⟨s', h1, h3⟩
  cases e <;> simp only [thenQ, Exit.then] at h3 ⊢
  · exact h3 (Fr.of S) w0 a' w' hE h1
  all_goals exact ⟨s', h1, h3⟩
theorem OKat.of_bodyS [hW : C.Wide] {Qr : AV → Prop} {f : FuncId} {fn : Func} {c : Code} {args : List AV} {rs : List Nat} (hf : C.P.funcs[f]? = some fn) (hb : fn.body = some c) (hn : (fn.name == "runtime.NumGoroutine") = false) (hr : fn.results = (rs.map ResultVar.tmp).toArray)
    (hN : args.length ≤ fn.ntmps) (h : AWs C fn.ntmps c (endQ rs Qr) (startSt args)) : OKat C f args Qr := by
  refine ⟨⟨fn, hf, hn, by rw [hb]; rfl⟩, fun w S vals hE hS hsz hrep => ?_⟩
  have hbig : AW { C with E := fun w' => w' = w } fn.ntmps c (endQ rs Qr) (startSt args) → True := fun _ => trivial
  refine calls_of_wp hf hb ?_
  have hs := start_sim (N := fn.ntmps) hS hsz hrep hN
  have h2 := h S w _ w hE hs
  rw [hW.h] at h2
  refine wp_mono (wpIn_wide.1 h2) ?_
  have fin : ∀ a' w' s', Sim (Fr.of S) w fn.ntmps a' w' s' → (∃ r', viewA s'.H (match rs with | [t] => s'.tm t | ts => .tup (ts.map s'.tm)) = some r' ∧ Qr r') →
      a'.defers = [] ∧ ∃ v, (results fn a'.tmps).run C.P w' = .ok v w' ∧ (Below w.heap.size w w' ∧ ∃ v2 r, Ending.returned v = .returned v2 ∧ Qr r ∧ Rep (pureSg fun b => S b ∨ (w.heap.size ≤ b ∧ b < w'.heap.size)) w' r v2) := by
    rintro a' w' s' ⟨σ, hσ⟩ ⟨r', hv, hq⟩
    have hview : ∀ (c : AV) (u : Value), viewA s'.H c = some r' → Rep σ w' c u → Rep (pureSg fun b => S b ∨ (w.heap.size ≤ b ∧ b < w'.heap.size)) w' r' u := by
      intro c u hc hu
      refine viewA_sound hσ.inv (fun b hb => ?_) c u r' hc (fun id _ b hb => .inr (hσ.inv.own_lt b id hb)) hu
      have := hσ.inv.S_lt b hb
      rcases this.2 with h | h
      · exact .inl h
      · exact .inr ⟨h, this.1⟩
    refine ⟨hσ.d, ?_⟩
    by_cases hl : ∃ t, rs = [t]
    · obtain ⟨t, rfl⟩ := hl
      exact ⟨_, results_tmp (by simpa using hr) _ _ _, hσ.below, _, r', rfl, hq, hview _ _ hv (hσ.tm t)⟩
    · have hne : rs.length ≠ 1 := fun h => by
        match rs, h with
        | [t], _ => exact hl ⟨t, rfl⟩
      refine ⟨_, results_tmps hr hne _ _ _, hσ.below, _, r', rfl, hq, ?_⟩
      have hm : (match rs with | [t] => s'.tm t | ts => AV.tup (ts.map s'.tm)) = .tup (rs.map s'.tm) := by
        match rs, hl with
        | [], _ => rfl
        | [t], h => exact absurd ⟨t, rfl⟩ h
        | _ :: _ :: _, _ => rfl
      rw [hm] at hv
      refine hview _ _ hv ?_
      simp only [Rep]
      refine ⟨_, rfl, by simp, ?_⟩
      rw [repL_iff']
      intro i c hc
      simp only [List.getElem?_map, Option.map_eq_some_iff] at hc
      obtain ⟨t, ht, rfl⟩ := hc
      exact ⟨a'.tmps.getD t undef, by simp [ht], hσ.tm t⟩
  rintro e a' w' ⟨s', hs', hq⟩
  cases e with
  | normal => exact fin a' w' s' hs' hq
  | ret => exact fin a' w' s' hs' hq
  | exit id => exact hq.elim
  | goto l => exact hq.elim
  | panic c => exact hq.elim
  | outgrown => exact hq.elim
end
end Go.Pg
