/-
  Contracts of functions, proved by going through their code. No conditions.
-/
import Derived.Test.YtdlflcambboojaaSaa
import Derived.Test.YtdlflcambboojaaSba
set_option linter.unusedVariables false
set_option linter.unusedSimpArgs false
namespace Go.Pg
open Go Go.RowKit
section
variable {C : Cx} {N : Nat} {Q : Exit → St → Prop} {s : St} {ops : Array Oper} {rest : List Oper} {o : Oper}
theorem AWL.callB (hC : C.OK) (hg : o.guard = none) {d : Nat} (hd : o.dst = some d) (hN : d < N) {fo : Operand} {args : Array Operand} {tys : Array TypeId} (ho : o.op = .call { callee := .value fo, args := args, argTypes := tys })
    {f : FuncId} {first vs : List AV} (hf : s.ev fo = .bnd f first) (hv : viewL s.H (first ++ evsA args.toList s.ev) = some vs) {Qr : AV → Prop} (hok : OKat C f vs Qr)
    (k : ∀ r, Qr r → AWL C N ops Q rest (s.back d r (idsL (first ++ evsA args.toList s.ev)))) : AWL C N ops Q (o :: rest) s := by
  rintro S0 w0 a w hE ⟨σ, hσ⟩
  obtain ⟨⟨fn, hfn, hname, hbody⟩, hcall⟩ := hok
  have hfo := hσ.ev fo
  rw [hf] at hfo
  simp only [Rep] at hfo
  obtain ⟨ca, hca, hcs, hcr⟩ := hfo
  let ids := idsL (first ++ evsA args.toList s.ev)
  let S' : Nat → Prop := fun b => σ.S b ∨ ∃ id, id ∈ ids ∧ σ.own b = some id
  have hargs : RepL σ w (first ++ evsA args.toList s.ev) (fun i => (ca ++ (args.map a.eval))[i]?) := by
    have h1 := repL_evs (σ := σ) (w := w) (fun x => hσ.ev x) args
    rw [repL_iff'] at h1 hcr ⊢
    intro i c hc
    rw [List.getElem?_append] at hc
    rw [Array.getElem?_append]
    rw [← hcs] at hc
    split at hc
    · rename_i hi; rw [if_pos hi]; exact hcr i c hc
    · rename_i hi; rw [if_neg hi]; exact h1 _ c hc
  obtain ⟨g1, _, g3⟩ := viewL_sound hσ.inv (S' := S') (fun b h => .inl h) _ _ vs hv (fun id hid b hb => .inr ⟨id, hid, hb⟩) hargs
  have hEw : C.E w := hC.E _ _ hσ.below hE
  have hS' : ∀ b, S' b → b < w.heap.size := fun b h => by
    rcases h with h | ⟨id, _, h⟩
    · exact (hσ.inv.S_lt b h).1
    · exact (hσ.inv.own_lt b id h).2
  have hsz : (ca ++ (args.map a.eval)).size = vs.length := by rw [← g1]; simp [evsA_map, hcs]
  have hc := hcall w S' (ca ++ (args.map a.eval)) hEw hS' hsz g3
  refine wpListIn_plain hg fun K hK => Oper.wpIn_of_wp C.hF (fun c e => by rw [ho] at e; cases e) ?_
  have hexec : (execOp a.eval o).run C.P w = .ok (.enter f (ca ++ (args.map a.eval))) w := by
    have hb : (fn.name == "runtime.NumGoroutine") ≠ true := by simp [hname]
    simp only [execOp, ho, resolve, hca, Deferred.ofValue, Sem.run_bind, Sem.run_pure, Result.andThen_ok, invoke, callFunc, run_program, hfn, if_neg hb, hbody, Bool.false_eq_true, if_false]
    simp
  simp only [Oper.wp, hexec, Oper.upon]
  refine hc.mono ?_
  rintro e w' ⟨hb, v, r, rfl, hQ, hr⟩
  dsimp only
  rw [hd]
  refine hK _ _ (k r hQ S0 w0 _ w' hE ?_)
  have hbel : Below w0.heap.size w w' := hb.mono hσ.size
  have hmore := hσ.inv.more hσ.size hb
  have hlem := hσ.inv.le_more hb
  have hnx : ∀ id, (s.back d r ids).nx ≤ id → (s.back d r ids).H id = none := fun id h => afterH_none (hσ.nx id h)
  by_cases hfl : flatA r = true
  · refine ⟨_, hσ.put hN (s' := s.back d r ids) ?_ hnx hlem hbel (Rep.flat r v hfl hr) rfl⟩
    simp only [St.back, afterH, hfl, if_true]
    exact hmore
  · by_cases hem : ids.isEmpty = true
    · refine ⟨_, hσ.put hN (s' := s.back d r ids) ?_ hnx hlem hbel ?_ rfl⟩
      · simp only [St.back, afterH, hfl, hem, if_true, Bool.false_eq_true, if_false]
        exact hmore
      · have he : ids = [] := by simpa using hem
        have : S' = σ.S := by funext b; simp [S', he]
        rw [this] at hr
        exact hr.lift
    · have hrow : ∀ id ∈ ids, ∃ r, rowAt s.H id = some r := idsL_row _ _ hv
      have hfr := hmore.frz hrow
      have hlf := hmore.le_frz ids
      have hle2 : Le σ ((σ.more w.heap.size w'.heap.size).frz ids) w w' := by
        refine ⟨fun b h => .inl (.inl h), hlem.heap, fun b id h => ?_, hlem.al, hlem.obj⟩
        exact hlem.own b id h
      refine ⟨_, hσ.put hN (s' := s.back d r ids) (σ' := (σ.more w.heap.size w'.heap.size).frz ids) ?_ hnx hle2 hbel ?_ rfl⟩
      · simp only [St.back, afterH, hfl, hem, Bool.false_eq_true, if_false]
        exact hfr
      · refine (Rep.mono (Le.pure_ (fun b h => ?_) (fun _ _ => rfl)) _ _ hr).lift
        rcases h with (h | ⟨id, h1, h2⟩) | h
        · exact .inl (.inl h)
        · exact .inr ⟨id, h1, h2⟩
        · exact .inl (.inr h)
end
section
variable {C : Cx} {N : Nat} {Q : Exit → St → Prop} {s : St} {ops : Array Oper} {rest : List Oper} {ty : TypeId} {ps : String} {af : Array Edge} {d : Nat}
variable {H0 : Nat → Option AO} {b : Nat} {tg mk av : List Nat} {Fin : St → Prop} {i : Nat}
theorem W.callb (hC : C.OK) (hN : d < N) {fo : Operand} {args : Array Operand} {tys : Array TypeId} {f : FuncId} {first vs : List AV} {R : AV} (hf : s.ev fo = .bnd f first) (hv : viewL s.H (first ++ evsA args.toList s.ev) = some vs) (hok : OKv C f vs R)
    (k : AWL C N ops Q rest (s.back d R (idsL (first ++ evsA args.toList s.ev)))) : AWL C N ops Q (⟨some d, .call { callee := .value fo, args := args, argTypes := tys }, ty, ps, af, none⟩ :: rest) s :=
  AWL.callB hC rfl rfl hN rfl hf hv hok (fun r hr => by subst hr; exact k)
theorem D.callb (hC : C.OK) (hN : d < N) (hi : i ∉ tg ∧ i ∉ mk) {fo : Operand} {args : Array Operand} {tys : Array TypeId} {f : FuncId} {first vs : List AV} {R : AV} (hf : s.ev fo = .bnd f first) (hv : viewL H0 (first ++ evsA args.toList s.ev) = some vs) (hok : OKv C f vs R)
    (hfl : (flatA R || (idsL (first ++ evsA args.toList s.ev)).isEmpty) = true) (k : DW C N ops H0 b tg mk av Fin (i + 1) rest (s.put d R none)) :
    DW C N ops H0 b tg mk av Fin i (⟨some d, .call { callee := .value fo, args := args, argTypes := tys }, ty, ps, af, none⟩ :: rest) s := by
  refine ⟨R, s.put d R none, rfl, ?_, k⟩
  rw [if_neg hi.1, if_neg hi.2]
  refine ⟨none, rfl, rfl, .inl rfl, fun s' hx _ ht => ?_⟩
  have hev := ev_congr ht
  have e1 : s'.ev fo = .bnd f first := by rw [hev fo (by simp [Op.operands, Call.operands])]; exact hf
  have e2 : evsA args.toList s'.ev = evsA args.toList s.ev := evsA_congr (fun x hx => hev x (by simp only [Op.operands, Call.operands, Array.mem_append]; exact .inr (by simpa using hx)))
  refine one_of_AWL (W.callb (R := R) hC hN e1 (by rw [e2]; exact viewL_mono hx _ _ hv) hok (AWL.nil ⟨rfl, ?_⟩))
  rw [e2]
  unfold St.back
  have : afterH s'.H (idsL (first ++ evsA args.toList s.ev)) R = s'.H := by
    cases hq : flatA R <;> simp_all [afterH]
  rw [this]; rfl
end
end Go.Pg
