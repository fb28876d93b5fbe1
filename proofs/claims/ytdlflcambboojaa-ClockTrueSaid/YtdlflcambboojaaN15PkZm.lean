/-
  Contracts of functions, proved by going through their code. No conditions.
-/
import Derived.Test.YtdlflcambboojaaRaa
import Derived.Test.YtdlflcambboojaaRba
set_option linter.unusedVariables false
set_option linter.unusedSimpArgs false
namespace Go.Pg
open Go Go.RowKit
def delM (k : Key) : List (Key × AV) → List (Key × AV)
  | [] => []
  | e :: es => if k.same e.1 then es else e :: delM k es
theorem delM_case (k : Key) : ∀ es : List (Key × AV), ((∀ d ∈ es, k.same d.1 = false) ∧ delM k es = es) ∨
    ∃ (j : Nat) (d : Key × AV), es[j]? = some d ∧ k.same d.1 = true ∧ (∀ j', j' < j → ∀ d, es[j']? = some d → k.same d.1 = false) ∧ delM k es = es.eraseIdx j
  | [] => .inl ⟨(fun d h => by cases h), rfl⟩
  | e :: es => by
    unfold delM
    by_cases hk : k.same e.1 = true
    · rw [if_pos hk]; exact .inr ⟨0, e, rfl, hk, fun j' h => absurd h (Nat.not_lt_zero _), rfl⟩
    · have hk' : k.same e.1 = false := by simpa using hk
      rw [if_neg hk]
      rcases delM_case k es with ⟨h1, h2⟩ | ⟨j, d, h1, h2, h3, h4⟩
      · refine .inl ⟨fun d hd => ?_, by rw [h2]⟩
        rcases List.mem_cons.1 hd with rfl | hd
        · exact hk'
        · exact h1 d hd
      · refine .inr ⟨j + 1, d, by simpa using h1, h2, fun j' hj d' hd' => ?_, by rw [h4]; rfl⟩
        cases j' with
        | zero => simp at hd'; subst hd'; exact hk'
        | succ j' => exact h3 j' (by omega) d' (by simpa using hd')
theorem mapErase {α β : Type} (f : α → β) : ∀ (l : List α) (i : Nat), (l.map f).eraseIdx i = (l.eraseIdx i).map f
  | [], _ => rfl
  | _ :: _, 0 => rfl
  | x :: l, i + 1 => by simp [mapErase f l i]
theorem delM_mem (k : Key) : ∀ (es : List (Key × AV)) (d : Key × AV), d ∈ delM k es → d ∈ es
  | e :: es, d, h => by
    unfold delM at h
    split at h
    · exact List.mem_cons_of_mem _ h
    · rcases List.mem_cons.1 h with rfl | h
      · simp
      · exact List.mem_cons_of_mem _ (delM_mem k es d h)
def mapDelA (T : TypeId → Option Ty) (eqT : TypeId → Bool) (H : Nat → Option AO) (t : TypeId) (m k : AV) : Option (Nat × AO) :=
  match T t, m with
  | some { d := .map kt _, .. }, .map id => match keyA T eqT kt k, H id with
    | some key, some (.mp (.map sh) b es) => if key.sh = sh then some (id, .mp (.map sh) b (delM key es)) else none
    | _, _ => none
  | _, _ => none
def mapLenA (T : TypeId → Option Ty) (H : Nat → Option AO) (t : TypeId) (m : AV) : Option AV :=
  match T t, m with
  | some { d := .map _ _, .. }, .map id => match H id with
    | some (.mp (.map _) _ es) => some (.v (.int .i64 es.length))
    | _ => none
  | _, _ => none
section
variable {C : Cx} {N : Nat} {Q : Exit → St → Prop} {s : St} {ops : Array Oper} {rest : List Oper} {o : Oper}
theorem AWL.mapDelete (hC : C.OK) (hg : o.guard = none) (hd : o.dst = none) {t tk : TypeId} {m kk : Operand} (ho : o.op = .call { callee := .builtin .delete, args := #[m, kk], argTypes := #[t, tk] }) {id : Nat} {ao : AO} (h : mapDelA C.T C.eqT s.H t (s.ev m) (s.ev kk) = some (id, ao))
    (k : AWL C N ops Q rest { s with H := updH s.H id ao }) : AWL C N ops Q (o :: rest) s := by
  rintro S0 w0 a w hE ⟨σ, hσ⟩
  unfold mapDelA at h
  split at h
  · rename_i sz by_ z kt et id' ht hm
    split at h
    · rename_i key sh kb es hkey hH
      split at h
      · rename_i hsh
        injection h with h; injection h with h1 h2; subst h1; subst h2
        have hmv := hσ.ev m
        rw [hm] at hmv
        obtain ⟨hkv, hko⟩ := keyA_sound hC.T hC.eqT (hσ.ev kk) hkey
        obtain ⟨b, clock, xs, hmb, a1, a2, a3, a4, a5, a5', a6⟩ := map_block hσ.inv hH hmv
        have hu := (hC.T t _ ht).map rfl
        have hobj : (getObj b).run C.P w = .ok (.map xs clock) w := MapKept.run_getObj_map a4
        obtain ⟨f1, f2⟩ := findKey_case hko w a5 (fun d hd => (a5' d hd).trans hsh.symm)
        have key : ∃ (xs' : Array MapEntry), (Builtin.delete_ #[t, tk] o.type #[a.eval m, a.eval kk]).run C.P w = .ok (.tuple #[]) (ChangeMaps.setBlock w b (.map xs' clock)) ∧
            xs'.toList.map (·.key) = (delM key es).map (fun e => e.1.val) ∧ RepL σ w ((delM key es).map (·.2)) (fun i => (xs'[i]?).map (·.val)) := by
          rcases delM_case key es with ⟨b3, b4⟩ | ⟨j, d', b3, b4, b5, b6⟩
          · refine ⟨xs, ?_, by rw [b4]; exact a5, by rw [b4]; exact a6⟩
            rw [hmb, hkv]
            simp [Builtin.delete_, run_underlying hu, hobj, hko.check, f1 b3, MapKept.run_setObj_map _ a4, ChangeMaps.setBlock]
          · have hlj : j < xs.toList.length := by
              have h1 := (List.getElem?_eq_some_iff.1 b3).1
              have h2 := congrArg List.length a5
              rw [List.length_map, List.length_map] at h2
              omega
            obtain ⟨e, he⟩ : ∃ e, xs.toList[j]? = some e := ⟨_, List.getElem?_eq_getElem hlj⟩
            have hxl : (xs.eraseIdxIfInBounds j).toList = xs.toList.eraseIdx j := by
              unfold Array.eraseIdxIfInBounds
              rw [dif_pos (by simpa using hlj)]
              simp
            refine ⟨xs.eraseIdxIfInBounds j, ?_, ?_, ?_⟩
            · rw [hmb, hkv]
              simp [Builtin.delete_, run_underlying hu, hobj, hko.check, f2 j e d' he b3 b4 b5, MapKept.run_setObj_map _ a4, ChangeMaps.setBlock]
            · rw [hxl, b6, ← mapErase, ← mapErase, a5]
            · rw [b6]
              rw [repL_iff'] at a6 ⊢
              intro i c hc
              rw [← mapErase, List.getElem?_eraseIdx] at hc
              have hx : (xs.eraseIdxIfInBounds j)[i]? = if i < j then xs[i]? else xs[i + 1]? := by
                rw [← Array.getElem?_toList, hxl, List.getElem?_eraseIdx]
                split <;> rw [Array.getElem?_toList]
              rw [hx]
              split at hc
              · rename_i hij; rw [if_pos hij]; exact a6 i c hc
              · rename_i hij; rw [if_neg hij]; exact a6 (i + 1) c hc
        obtain ⟨xs', hrun, hk1, hk2⟩ := key
        have hsame : (ChangeMaps.setBlock w b (.map xs' clock)).heap[b]? = some (.map xs' clock) := ChangeMaps.heap_setBlock_same a4 _
        have hoth : ∀ k, k ≠ b → (ChangeMaps.setBlock w b (.map xs' clock)).heap[k]? = w.heap[k]? := fun k hk => ChangeMaps.heap_setBlock_other a4 _ hk
        have hsz : (ChangeMaps.setBlock w b (.map xs' clock)).heap.size = w.heap.size := by simp [ChangeMaps.setBlock]
        obtain ⟨hle, hinv⟩ := hσ.inv.remap (kt' := .map sh) hH rfl rfl (fun b hb d hd => by
          obtain ⟨x, hx, rfl⟩ := List.mem_map.1 hd
          exact hb _ (List.mem_map.2 ⟨x, delM_mem _ _ _ hx, rfl⟩)) a1 hsame hsz hoth hk1 hk2
        refine wpListIn_plain hg fun K hK => Oper.wpIn_of_wp C.hF (fun c e => by rw [ho] at e; cases e) ?_
        have hrun' : (execOp a.eval o).run C.P w = .ok (.value (.tuple #[])) (ChangeMaps.setBlock w b (.map xs' clock)) := by
          simp only [execOp, ho, resolve, invoke, builtin, Sem.run_bind, Sem.run_pure, Result.andThen_ok, List.map_toArray, List.map_cons, List.map_nil, hrun]
        simp only [Oper.wp, hrun', Oper.upon, hd]
        refine hK _ _ (k S0 w0 _ _ hE ⟨σ, hinv, fun i' hi' => ?_, fun t' => Rep.mono hle _ _ (hσ.tm t'), hσ.N, hσ.d, hσ.below.trans ⟨rfl, rfl, rfl, by rw [hsz]; exact Nat.le_refl _, fun k' hk' => hoth k' (fun e => ?_)⟩⟩)
        · simp only [updH]
          split
          · rename_i e; subst e; rw [hσ.nx i' hi'] at hH; cases hH
          · exact hσ.nx i' hi'
        · subst e; have := (hσ.inv.own_lt k' id' a2).1; omega
      · cases h
    · cases h
  · cases h
theorem AWL.mapLen (hC : C.OK) (hg : o.guard = none) {d : Nat} (hd : o.dst = some d) (hN : d < N) {t : TypeId} {m : Operand} (ho : o.op = .call { callee := .builtin .len, args := #[m], argTypes := #[t] }) {x : AV} (h : mapLenA C.T s.H t (s.ev m) = some x)
    (k : AWL C N ops Q rest { s with tm := upd s.tm d x }) : AWL C N ops Q (o :: rest) s := by
  rintro S0 w0 a w hE ⟨σ, hσ⟩
  unfold mapLenA at h
  split at h
  · rename_i sz by_ z kt et id' ht hm
    split at h
    · rename_i sh kb es hH
      injection h with h; subst h
      have hmv := hσ.ev m
      rw [hm] at hmv
      obtain ⟨b, clock, xs, hmb, a1, a2, a3, a4, a5, a5', a6⟩ := map_block hσ.inv hH hmv
      have hu := (hC.T t _ ht).map rfl
      have hobj : (getObj b).run C.P w = .ok (.map xs clock) w := MapKept.run_getObj_map a4
      have hlen : xs.size = es.length := by
        have := congrArg List.length a5
        simpa using this
      have hrun : (Builtin.len_ #[t] o.type #[a.eval m]).run C.P w = .ok (.int .i64 (es.length : Int)) w := by
        rw [hmb, ← hlen]
        simp [Builtin.len_, run_underlying hu, hobj, goInt]
      refine wpListIn_plain hg fun K hK => Oper.wpIn_of_wp C.hF (fun c e => by rw [ho] at e; cases e) ?_
      have hrun' : (execOp a.eval o).run C.P w = .ok (.value (.int .i64 (es.length : Int))) w := by
        simp only [execOp, ho, resolve, invoke, builtin, Sem.run_bind, Sem.run_pure, Result.andThen_ok, List.map_toArray, List.map_cons, List.map_nil, hrun]
      simp only [Oper.wp, hrun', Oper.upon]
      rw [hd]
      refine hK _ _ (k S0 w0 _ _ hE ⟨σ, hσ.put hN (s' := { s with tm := upd s.tm d (.v (.int .i64 es.length)) }) hσ.inv hσ.nx (hσ.inv.le_heap (fun _ _ => rfl)) (Below.refl _ _) ?_ rfl⟩)
      simp only [Rep]
    · cases h
  · cases h
variable {ty : TypeId} {ps : String} {af : Array Edge} {d : Nat}
theorem W.mapDelete (hC : C.OK) {t tk : TypeId} {m kk : Operand} {id : Nat} {ao : AO} (h : mapDelA C.T C.eqT s.H t (s.ev m) (s.ev kk) = some (id, ao)) (k : AWL C N ops Q rest { s with H := updH s.H id ao }) :
    AWL C N ops Q (⟨none, .call { callee := .builtin .delete, args := #[m, kk], argTypes := #[t, tk] }, ty, ps, af, none⟩ :: rest) s := AWL.mapDelete hC rfl rfl rfl h k
theorem W.mapLen (hC : C.OK) (hN : d < N) {t : TypeId} {m : Operand} {x : AV} (h : mapLenA C.T s.H t (s.ev m) = some x) (k : AWL C N ops Q rest { s with tm := upd s.tm d x }) :
    AWL C N ops Q (⟨some d, .call { callee := .builtin .len, args := #[m], argTypes := #[t] }, ty, ps, af, none⟩ :: rest) s := AWL.mapLen hC rfl rfl hN rfl h k
end
end Go.Pg
