/-
  Contracts of functions, proved by going through their code. No conditions.
-/
import Derived.Test.YtdlflcambboojaaVaa
import Derived.Test.YtdlflcambboojaaVba
set_option linter.unusedVariables false
set_option linter.unusedSimpArgs false
namespace Go.Pg
open Go Go.RowKit
section
variable {P : Program} {T : TypeId → Option Ty} {σ : Sg} {w : World}
def cellEqN (T : TypeId → Option Ty) (eqT : TypeId → Bool) (off : Nat) (ft : TypeId) (xs ys : List AV) : Option Bool :=
  match T ft with
  | some y => match y.d with
    | .st gs => if eqT ft then (match partA y xs off, partA y ys off with
      | some (.agg a), some (.agg b) => cellsEqA T gs a b
      | _, _ => none) else none
    | _ => cellsEqA T [(off, ft)] xs ys
  | none => none
def cellsEqN (T : TypeId → Option Ty) (eqT : TypeId → Bool) : List (Nat × TypeId) → List AV → List AV → Option Bool
  | [], _, _ => some true
  | (off, ft) :: fs, xs, ys =>
    match cellEqN T eqT off ft xs ys, cellsEqN T eqT fs xs ys with
    | some b, some r => some (b && r)
    | _, _ => none
theorem eqFields_cons {d : Nat} {xs ys : Array Value} {f : Field} {fs : List Field} {b r : Bool} (h1 : (Op.eqFields d xs ys [f]).run P w = .ok b w) (h2 : (Op.eqFields d xs ys fs).run P w = .ok r w) (hn : f.name ≠ "_") :
    (Op.eqFields d xs ys (f :: fs)).run P w = .ok (b && r) w := by
  simp only [Op.eqFields, hn, ne_eq, not_false_eq_true, if_true, Sem.run_bind, Sem.run_ite, Sem.run_pure] at h1 ⊢
  generalize (part f.type xs f.offset).run P w = r1 at h1 ⊢
  cases r1 with
  | ok a w1 =>
    simp only [Result.andThen_ok] at h1 ⊢
    generalize (part f.type ys f.offset).run P w1 = r2 at h1 ⊢
    cases r2 with
    | ok c w2 =>
      simp only [Result.andThen_ok] at h1 ⊢
      generalize (Op.equalIn d f.type a c).run P w2 = r3 at h1 ⊢
      cases r3 with
      | ok q w3 =>
        cases q
        · simp only [Result.andThen_ok, Bool.not_false, if_true, Result.ok.injEq] at h1 ⊢
          obtain ⟨rfl, rfl⟩ := h1
          simp
        · simp only [Result.andThen_ok, Bool.not_true, Bool.false_eq_true, if_false, Result.ok.injEq] at h1 ⊢
          obtain ⟨rfl, rfl⟩ := h1
          rw [h2, Bool.true_and]
      | halt x w3 => simp [Result.andThen] at h1
    | halt x w2 => simp [Result.andThen] at h1
  | halt x w1 => simp [Result.andThen] at h1
theorem cellsEqN_sound (hT : TyOK P T) {eqT : TypeId → Bool} (hE : ∀ t, eqT t = true → EqFact P t) (d : Nat) : ∀ (fs : List Field) (cs ds : List AV) (xs ys : Array Value) (r : Bool), (∀ f ∈ fs, f.name ≠ "_") →
    xs.size = cs.length → ys.size = ds.length → (∀ c ∈ cs, c.cell = true) → (∀ c ∈ ds, c.cell = true) →
    RepL σ w cs (fun i => xs[i]?) → RepL σ w ds (fun i => ys[i]?) → cellsEqN T eqT (fs.map fun f => (f.offset, f.type)) cs ds = some r → (Op.eqFields (d + 2) xs ys fs).run P w = .ok r w := by
  intro fs
  induction fs with
  | nil => intro cs ds xs ys r _ _ _ _ _ _ _ h; simp only [List.map_nil, cellsEqN, Option.some.injEq] at h; subst h; simp [Op.eqFields]
  | cons f fs ih =>
    intro cs ds xs ys r hn s1 s2 c1 c2 hx hy h
    have hnf : f.name ≠ "_" := hn f (by simp)
    simp only [List.map_cons, cellsEqN] at h
    split at h
    · rename_i b r' hb hr
      injection h with h; subst h
      refine eqFields_cons ?_ (ih cs ds xs ys r' (fun g hg => hn g (by simp [hg])) s1 s2 c1 c2 hx hy hr) hnf
      unfold cellEqN at hb
      split at hb
      · rename_i y hty
        split at hb
        · rename_i gs hd
          split at hb
          · rename_i heq
            have hq := hE _ heq
            split at hb
            · rename_i a e ha he
              obtain ⟨va, p1, p2⟩ := partA_sound hT hty s1 c1 hx ha
              obtain ⟨ve, p3, p4⟩ := partA_sound hT hty s2 c2 hy he
              simp only [Rep] at p2 p4
              obtain ⟨ax, rfl, h1, h2, h3⟩ := p2
              obtain ⟨ay, rfl, g1, g2, g3⟩ := p4
              obtain ⟨fa, hu, hm⟩ := (hT _ _ hty).st hd
              have hfo : P.fieldsOf f.type = fa := by simp [Program.fieldsOf, hu]
              have key : (Op.equalIn (d + 2) f.type (.agg ax) (.agg ay)).run P w = .ok b w := by
                rw [run_equalIn_struct (P := P) w (d + 1) f.type ax ay (by rw [hfo]; exact hu) hq.held, hfo]
                subst hm
                exact cellsEqA_sound hT d fa.toList a e ax ay b (fun f hf => by have := List.all_eq_true.1 hq.names f (by rw [hfo]; exact hf); simpa using this) h3 g3 hb
              simp only [Op.eqFields, hnf, ne_eq, not_false_eq_true, if_true, Sem.run_bind, p1, p3, key, Result.andThen_ok, Sem.run_ite, Sem.run_pure]
              cases b <;> simp
            · cases hb
          · cases hb
        · exact cellsEqA_sound hT (d + 1) [f] cs ds xs ys b (fun g hg => by rw [List.mem_singleton.1 hg]; exact hnf) hx hy hb
      · cases hb
    · cases h
end
section
variable {C : Cx} {N : Nat} {Q : Exit → St → Prop} {s : St} {ops : Array Oper} {rest : List Oper} {ty : TypeId} {ps : String} {af : Array Edge} {d : Nat} {tg mk av : List Nat} {H0 : Nat → Option AO} {b i : Nat} {Fin : St → Prop}
theorem W.eqN (hC : C.OK) (hN : d < N) {op : BinOp} (ho : op = .eql ∨ op = .neq) {t t2 : TypeId} {x y : Operand} {T : Ty} {fs : List (Nat × TypeId)} (hT : C.T t = some T) (hd : T.d = .st fs) (hE : EqFact C.P t) {xs ys : List AV} (hx : s.ev x = .agg xs) (hy : s.ev y = .agg ys)
    {r : Bool} (hr : cellsEqN C.T C.eqT fs xs ys = some r) (k : AWL C N ops Q rest (s.put d (.v (.bool (if op = .eql then r else !r))) none)) : AWL C N ops Q (⟨some d, .binOp op t x y t2, ty, ps, af, none⟩ :: rest) s := by
  rintro S0 w0 a w hE0 ⟨σ, hσ⟩
  have h1 := hσ.ev x
  have h2 := hσ.ev y
  rw [hx] at h1
  rw [hy] at h2
  simp only [Rep] at h1 h2
  obtain ⟨ax, ux, e1, e2, e3⟩ := h1
  obtain ⟨ay, uy, g1, g2, g3⟩ := h2
  obtain ⟨fa, hu, hm⟩ := (hC.T t _ hT).st hd
  have hfo : C.P.fieldsOf t = fa := by simp [Program.fieldsOf, hu]
  have key : (Op.equalIn 10000 t (.agg ax) (.agg ay)).run C.P w = .ok r w := by
    rw [run_equalIn_struct (P := C.P) w 9999 t ax ay (by rw [hfo]; exact hu) hE.held, hfo]
    subst hm
    exact cellsEqN_sound hC.T hC.eqT 9997 fa.toList xs ys ax ay r (fun f hf => by have := List.all_eq_true.1 hE.names f (by rw [hfo]; exact hf); simpa using this) e1 g1 e2 g2 e3 g3 hr
  have hrun : (execOp a.eval ⟨some d, .binOp op t x y t2, ty, ps, af, none⟩).run C.P w = .ok (.value (.bool (if op = .eql then r else !r))) w := by
    simp only [execOp, ux, uy, Sem.run_bind, run_eqGuard_agg w op t x y ax ay hE.guard, Result.andThen_ok]
    rcases ho with rfl | rfl
    · rw [run_eql_struct, key, if_pos rfl]; rfl
    · rw [run_neq_struct, key, if_neg (by decide)]; rfl
  refine wpListIn_plain rfl fun K hK => Oper.wpIn_of_wp C.hF (fun c e => by cases e) ?_
  simp only [Oper.wp, Oper.upon, hrun]
  have hs' := hσ.put hN (s' := s.put d (.v (.bool (if op = .eql then r else !r))) none) (r := .v (.bool (if op = .eql then r else !r))) (v := .bool (if op = .eql then r else !r)) hσ.inv hσ.nx (Le.refl _ _ fun _ _ ho => hσ.inv.al_of_own ho) (Below.refl _ _) rfl rfl
  exact hK _ _ (k S0 w0 _ w hE0 ⟨σ, hs'⟩)
theorem D.eqN (hC : C.OK) (hN : d < N) (hi : i ∉ tg ∧ i ∉ mk) {op : BinOp} (ho : op = .eql ∨ op = .neq) {t t2 : TypeId} {x y : Operand} {T : Ty} {fs : List (Nat × TypeId)} (hT : C.T t = some T) (hd : T.d = .st fs) (hE : EqFact C.P t) {xs ys : List AV} (hx : s.ev x = .agg xs) (hy : s.ev y = .agg ys)
    {r : Bool} (hr : cellsEqN C.T C.eqT fs xs ys = some r) (k : DW C N ops H0 b tg mk av Fin (i + 1) rest (s.put d (.v (.bool (if op = .eql then r else !r))) none)) : DW C N ops H0 b tg mk av Fin i (⟨some d, .binOp op t x y t2, ty, ps, af, none⟩ :: rest) s := by
  refine ⟨.v (.bool (if op = .eql then r else !r)), s.put d (.v (.bool (if op = .eql then r else !r))) none, rfl, ?_, k⟩
  rw [if_neg hi.1, if_neg hi.2]
  refine ⟨none, rfl, rfl, .inl rfl, fun s' hx' _ ht => ?_⟩
  have hev := ev_congr ht
  exact one_of_AWL (W.eqN hC hN ho hT hd hE (by rw [hev x (by simp [Op.operands])]; exact hx) (by rw [hev y (by simp [Op.operands])]; exact hy) hr (AWL.nil ⟨rfl, rfl⟩))
theorem W.neN (hC : C.OK) (hN : d < N) {t t2 : TypeId} {x y : Operand} {T : Ty} {fs : List (Nat × TypeId)} (hT : C.T t = some T) (hd : T.d = .st fs) (hE : EqFact C.P t) {xs ys : List AV} (hx : s.ev x = .agg xs) (hy : s.ev y = .agg ys)
    {r : Bool} (hr : cellsEqN C.T C.eqT fs xs ys = some r) (k : AWL C N ops Q rest (s.put d (.v (.bool (!r))) none)) : AWL C N ops Q (⟨some d, .binOp .neq t x y t2, ty, ps, af, none⟩ :: rest) s :=
  W.eqN hC hN (.inr rfl) hT hd hE hx hy hr (by rw [if_neg (by decide)]; exact k)
theorem D.neN (hC : C.OK) (hN : d < N) (hi : i ∉ tg ∧ i ∉ mk) {t t2 : TypeId} {x y : Operand} {T : Ty} {fs : List (Nat × TypeId)} (hT : C.T t = some T) (hd : T.d = .st fs) (hE : EqFact C.P t) {xs ys : List AV} (hx : s.ev x = .agg xs) (hy : s.ev y = .agg ys)
    {r : Bool} (hr : cellsEqN C.T C.eqT fs xs ys = some r) (k : DW C N ops H0 b tg mk av Fin (i + 1) rest (s.put d (.v (.bool (!r))) none)) : DW C N ops H0 b tg mk av Fin i (⟨some d, .binOp .neq t x y t2, ty, ps, af, none⟩ :: rest) s :=
  D.eqN hC hN hi (.inr rfl) hT hd hE hx hy hr (by rw [if_neg (by decide)]; exact k)
end
end Go.Pg
