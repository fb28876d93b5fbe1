/-
  Contracts of functions, proved by going through their code. No conditions.
-/
import Derived.Shelf.SlSortCmp.NoneTotal
import Derived.ProofKit
import Derived.LaidMore
import Derived.OpenShut
import Derived.Carry
import Derived.Stop.Joined
import Derived.Test.YtkdiplkmcilkmaaGreatDoorChecked
import Derived.Test.YtkdiplkmcilkmaaGreatDoorRows
import Derived.ChangeCalls
import Derived.Test.YtkdiplkmcilkmaaGreatDoorTie
import Derived.Test.YtkdiplkmcilkmaaGreatDoorCards
import Derived.LaidSub
import Derived.MakeChecks
import Derived.Test.YtkdiplkmcilkmaaGreatDoorTam
import Derived.Test.YtkdiplkmcilkmaaGreatDoorTan
import Derived.Test.YtkdiplkmcilkmaaGreatDoorTav
import Derived.Test.YtkdiplkmcilkmaaGreatDoorTax
import Derived.Test.YtkdiplkmcilkmaaGreatDoorTaz
set_option linter.unusedVariables false
set_option linter.unusedSimpArgs false
set_option maxRecDepth 10000
namespace Go.Proofs.Dz
open Go Go.Pg Go.Proofs Go.Proofs.Ds
theorem ex_normal : checkL [⟨43195, 9⟩, ⟨0, 20⟩] = 0 ∧ arcsF (spansS [⟨43195, 9⟩, ⟨0, 20⟩]) = [⟨43195, 25⟩] := by decide +kernel
theorem ex_minus : checkL [⟨43195, 25⟩] = 0 ∧ checkL [⟨5, 0⟩] = 0 ∧ arcsF (meetF (spansS [⟨43195, 25⟩]) (restS (spansS [⟨5, 0⟩]))) = [⟨6, 14⟩, ⟨43195, 9⟩] := by decide +kernel
theorem ex_grow : checkL [⟨43199, 0⟩] = 0 ∧ growL [⟨43199, 0⟩] 2 = [⟨43197, 4⟩] := by decide +kernel
theorem ex_size : checkL [⟨43197, 4⟩] = 0 ∧ sumW (spansS [⟨43197, 4⟩]) = 5 := by decide +kernel
def exK : Key := ⟨3, 1, 5⟩
def exI : Ink := ⟨1, 1, 3⟩
def exM : Mark := ⟨⟨98, 0⟩, 1, 9, 4086⟩
theorem ex_strike : keyV exK = true ∧ inkV exI = true ∧ strikesI 5 4 8 (-2) exI = true ∧ struckF 5 1 ⟨100, 0⟩ 4 8 (-2) = exM := by decide +kernel
theorem ex_angles : markV exM = true ∧ madeF exK exM exI = true ∧ wideF exM.arc exI.slip = ⟨95, 6⟩ := by decide +kernel
theorem ex_ahead : aheadF 43190 10 = 20 ∧ apartF 10 43190 = 20 := by decide +kernel
theorem ex_text : textB [exM] = ByteArray.mk #[49, 32, 57, 56, 32, 48, 32, 35, 46, 46, 35, 46, 46, 46, 46, 46, 46, 46, 46, 10] := by decide +kernel
end Go.Proofs.Dz

namespace Go.Proofs.Dz
open Go Go.Pg Go.Proofs Go.Proofs.Ds Go.RowKit
theorem sort130_0 : SortKC0 Tryz.prog 105 := fun p cap fv w => AnyF.slices_SortFunc_none Tryz.sortF p cap fv w
end Go.Proofs.Dz

namespace Go.Pg
open Go Go.RowKit
section
variable {P : Program} {T : TypeId → Option Ty} {σ : Sg} {w : World}
def cellEqN (T : TypeId → Option Ty) (eqT : TypeId → Bool) (off : Nat) (ft : TypeId) (xs ys : List AV) : Option Bool :=
  match T ft with
  | some y => match y.d with
    | .st gs => if eqT ft then (match partA y xs off, partA y ys off with
      | some (.agg a), some (.agg b) => cellsEqA T gs a b
      | _, _ => none) else none
    | _ => cellsEqA T [(off, ft)] xs ys
  | none => none
def cellsEqN (T : TypeId → Option Ty) (eqT : TypeId → Bool) : List (Nat × TypeId) → List AV → List AV → Option Bool
  | [], _, _ => some true
  | (off, ft) :: fs, xs, ys =>
    match cellEqN T eqT off ft xs ys, cellsEqN T eqT fs xs ys with
    | some b, some r => some (b && r)
    | _, _ => none
theorem eqFields_cons {d : Nat} {xs ys : Array Value} {f : Field} {fs : List Field} {b r : Bool} (h1 : (Op.eqFields d xs ys [f]).run P w = .ok b w) (h2 : (Op.eqFields d xs ys fs).run P w = .ok r w) (hn : f.name ≠ "_") :
    (Op.eqFields d xs ys (f :: fs)).run P w = .ok (b && r) w := by
  simp only [Op.eqFields, hn, ne_eq, not_false_eq_true, if_true, Sem.run_bind, Sem.run_ite, Sem.run_pure] at h1 ⊢
  generalize (part f.type xs f.offset).run P w = r1 at h1 ⊢
  cases r1 with
  | ok a w1 =>
    simp only [Result.andThen_ok] at h1 ⊢
    generalize (part f.type ys f.offset).run P w1 = r2 at h1 ⊢
    cases r2 with
    | ok c w2 =>
      simp only [Result.andThen_ok] at h1 ⊢
      generalize (Op.equalIn d f.type a c).run P w2 = r3 at h1 ⊢
      cases r3 with
      | ok q w3 =>
        cases q
        · simp only [Result.andThen_ok, Bool.not_false, if_true, Result.ok.injEq] at h1 ⊢
          obtain ⟨rfl, rfl⟩ := h1
          simp
        · simp only [Result.andThen_ok, Bool.not_true, Bool.false_eq_true, if_false, Result.ok.injEq] at h1 ⊢
          obtain ⟨rfl, rfl⟩ := h1
          rw [h2, Bool.true_and]
      | halt x w3 => simp [Result.andThen] at h1
    | halt x w2 => simp [Result.andThen] at h1
  | halt x w1 => simp [Result.andThen] at h1
theorem cellsEqN_sound (hT : TyOK P T) {eqT : TypeId → Bool} (hE : ∀ t, eqT t = true → EqFact P t) (d : Nat) : ∀ (fs : List Field) (cs ds : List AV) (xs ys : Array Value) (r : Bool), (∀ f ∈ fs, f.name ≠ "_") →
    xs.size = cs.length → ys.size = ds.length → (∀ c ∈ cs, c.cell = true) → (∀ c ∈ ds, c.cell = true) →
    RepL σ w cs (fun i => xs[i]?) → RepL σ w ds (fun i => ys[i]?) → cellsEqN T eqT (fs.map fun f => (f.offset, f.type)) cs ds = some r → (Op.eqFields (d + 2) xs ys fs).run P w = .ok r w := by
  intro fs
  induction fs with
  | nil => intro cs ds xs ys r _ _ _ _ _ _ _ h; simp only [List.map_nil, cellsEqN, Option.some.injEq] at h; subst h; simp [Op.eqFields]
  | cons f fs ih =>
    intro cs ds xs ys r hn s1 s2 c1 c2 hx hy h
    have hnf : f.name ≠ "_" := hn f (by simp)
    simp only [List.map_cons, cellsEqN] at h
    split at h
    · rename_i b r' hb hr
      injection h with h; subst h
      refine eqFields_cons ?_ (ih cs ds xs ys r' (fun g hg => hn g (by simp [hg])) s1 s2 c1 c2 hx hy hr) hnf
      unfold cellEqN at hb
      split at hb
      · rename_i y hty
        split at hb
        · rename_i gs hd
          split at hb
          · rename_i heq
            have hq := hE _ heq
            split at hb
            · rename_i a e ha he
              obtain ⟨va, p1, p2⟩ := partA_sound hT hty s1 c1 hx ha
              obtain ⟨ve, p3, p4⟩ := partA_sound hT hty s2 c2 hy he
              simp only [Rep] at p2 p4
              obtain ⟨ax, rfl, h1, h2, h3⟩ := p2
              obtain ⟨ay, rfl, g1, g2, g3⟩ := p4
              obtain ⟨fa, hu, hm⟩ := (hT _ _ hty).st hd
              have hfo : P.fieldsOf f.type = fa := by simp [Program.fieldsOf, hu]
              have key : (Op.equalIn (d + 2) f.type (.agg ax) (.agg ay)).run P w = .ok b w := by
                rw [run_equalIn_struct (P := P) w (d + 1) f.type ax ay (by rw [hfo]; exact hu) hq.held, hfo]
                subst hm
                exact cellsEqA_sound hT d fa.toList a e ax ay b (fun f hf => by have := List.all_eq_true.1 hq.names f (by rw [hfo]; exact hf); simpa using this) h3 g3 hb
              simp only [Op.eqFields, hnf, ne_eq, not_false_eq_true, if_true, Sem.run_bind, p1, p3, key, Result.andThen_ok, Sem.run_ite, Sem.run_pure]
              cases b <;> simp
            · cases hb
          · cases hb
        · exact cellsEqA_sound hT (d + 1) [f] cs ds xs ys b (fun g hg => by rw [List.mem_singleton.1 hg]; exact hnf) hx hy hb
      · cases hb
    · cases h
end
section
variable {C : Cx} {N : Nat} {Q : Exit → St → Prop} {s : St} {ops : Array Oper} {rest : List Oper} {ty : TypeId} {ps : String} {af : Array Edge} {d : Nat} {tg mk av : List Nat} {H0 : Nat → Option AO} {b i : Nat} {Fin : St → Prop}
theorem W.eqN (hC : C.OK) (hN : d < N) {op : BinOp} (ho : op = .eql ∨ op = .neq) {t t2 : TypeId} {x y : Operand} {T : Ty} {fs : List (Nat × TypeId)} (hT : C.T t = some T) (hd : T.d = .st fs) (hE : EqFact C.P t) {xs ys : List AV} (hx : s.ev x = .agg xs) (hy : s.ev y = .agg ys)
    {r : Bool} (hr : cellsEqN C.T C.eqT fs xs ys = some r) (k : AWL C N ops Q rest (s.put d (.v (.bool (if op = .eql then r else !r))) none)) : AWL C N ops Q (⟨some d, .binOp op t x y t2, ty, ps, af, none⟩ :: rest) s := by
  rintro S0 w0 a w hE0 ⟨σ, hσ⟩
  have h1 := hσ.ev x
  have h2 := hσ.ev y
  rw [hx] at h1
  rw [hy] at h2
  simp only [Rep] at h1 h2
  obtain ⟨ax, ux, e1, e2, e3⟩ := h1
  obtain ⟨ay, uy, g1, g2, g3⟩ := h2
  obtain ⟨fa, hu, hm⟩ := (hC.T t _ hT).st hd
  have hfo : C.P.fieldsOf t = fa := by simp [Program.fieldsOf, hu]
  have key : (Op.equalIn 10000 t (.agg ax) (.agg ay)).run C.P w = .ok r w := by
    rw [run_equalIn_struct (P := C.P) w 9999 t ax ay (by rw [hfo]; exact hu) hE.held, hfo]
    subst hm
    exact cellsEqN_sound hC.T hC.eqT 9997 fa.toList xs ys ax ay r (fun f hf => by have := List.all_eq_true.1 hE.names f (by rw [hfo]; exact hf); simpa using this) e1 g1 e2 g2 e3 g3 hr
  have hrun : (execOp a.eval ⟨some d, .binOp op t x y t2, ty, ps, af, none⟩).run C.P w = .ok (.value (.bool (if op = .eql then r else !r))) w := by
    simp only [execOp, ux, uy, Sem.run_bind, run_eqGuard_agg w op t x y ax ay hE.guard, Result.andThen_ok]
    rcases ho with rfl | rfl
    · rw [run_eql_struct, key, if_pos rfl]; rfl
    · rw [run_neq_struct, key, if_neg (by decide)]; rfl
  refine wpListIn_plain rfl fun K hK => Oper.wpIn_of_wp C.hF (fun c e => by cases e) ?_
  simp only [Oper.wp, Oper.upon, hrun]
  have hs' := hσ.put hN (s' := s.put d (.v (.bool (if op = .eql then r else !r))) none) (r := .v (.bool (if op = .eql then r else !r))) (v := .bool (if op = .eql then r else !r)) hσ.inv hσ.nx (Le.refl _ _ fun _ _ ho => hσ.inv.al_of_own ho) (Below.refl _ _) rfl rfl
  exact hK _ _ (k S0 w0 _ w hE0 ⟨σ, hs'⟩)
theorem D.eqN (hC : C.OK) (hN : d < N) (hi : i ∉ tg ∧ i ∉ mk) {op : BinOp} (ho : op = .eql ∨ op = .neq) {t t2 : TypeId} {x y : Operand} {T : Ty} {fs : List (Nat × TypeId)} (hT : C.T t = some T) (hd : T.d = .st fs) (hE : EqFact C.P t) {xs ys : List AV} (hx : s.ev x = .agg xs) (hy : s.ev y = .agg ys)
    {r : Bool} (hr : cellsEqN C.T C.eqT fs xs ys = some r) (k : DW C N ops H0 b tg mk av Fin (i + 1) rest (s.put d (.v (.bool (if op = .eql then r else !r))) none)) : DW C N ops H0 b tg mk av Fin i (⟨some d, .binOp op t x y t2, ty, ps, af, none⟩ :: rest) s := by
  refine ⟨.v (.bool (if op = .eql then r else !r)), s.put d (.v (.bool (if op = .eql then r else !r))) none, rfl, ?_, k⟩
  rw [if_neg hi.1, if_neg hi.2]
  refine ⟨none, rfl, rfl, .inl rfl, fun s' hx' _ ht => ?_⟩
  have hev := ev_congr ht
  exact one_of_AWL (W.eqN hC hN ho hT hd hE (by rw [hev x (by simp [Op.operands])]; exact hx) (by rw [hev y (by simp [Op.operands])]; exact hy) hr (AWL.nil ⟨rfl, rfl⟩))
theorem W.neN (hC : C.OK) (hN : d < N) {t t2 : TypeId} {x y : Operand} {T : Ty} {fs : List (Nat × TypeId)} (hT : C.T t = some T) (hd : T.d = .st fs) (hE : EqFact C.P t) {xs ys : List AV} (hx : s.ev x = .agg xs) (hy : s.ev y = .agg ys)
    {r : Bool} (hr : cellsEqN C.T C.eqT fs xs ys = some r) (k : AWL C N ops Q rest (s.put d (.v (.bool (!r))) none)) : AWL C N ops Q (⟨some d, .binOp .neq t x y t2, ty, ps, af, none⟩ :: rest) s :=
  W.eqN hC hN (.inr rfl) hT hd hE hx hy hr (by rw [if_neg (by decide)]; exact k)
theorem D.neN (hC : C.OK) (hN : d < N) (hi : i ∉ tg ∧ i ∉ mk) {t t2 : TypeId} {x y : Operand} {T : Ty} {fs : List (Nat × TypeId)} (hT : C.T t = some T) (hd : T.d = .st fs) (hE : EqFact C.P t) {xs ys : List AV} (hx : s.ev x = .agg xs) (hy : s.ev y = .agg ys)
    {r : Bool} (hr : cellsEqN C.T C.eqT fs xs ys = some r) (k : DW C N ops H0 b tg mk av Fin (i + 1) rest (s.put d (.v (.bool (!r))) none)) : DW C N ops H0 b tg mk av Fin i (⟨some d, .binOp .neq t x y t2, ty, ps, af, none⟩ :: rest) s :=
  D.eqN hC hN hi (.inr rfl) hT hd hE hx hy hr (by rw [if_neg (by decide)]; exact k)
end
end Go.Pg

namespace Go.Pg
open Go
section
variable {C : Cx} {N : Nat} {Q : Exit → St → Prop} {s : St} {ops : Array Oper} {rest : List Oper} {ty : TypeId} {ps : String} {af : Array Edge} {d : Nat} {tg mk av : List Nat} {H0 : Nat → Option AO} {b i : Nat} {Fin : St → Prop}
theorem W.eeN (hC : C.OK) (hN : d < N) {t t2 : TypeId} {x y : Operand} {T : Ty} {fs : List (Nat × TypeId)} (hT : C.T t = some T) (hd : T.d = .st fs) (hE : EqFact C.P t) {xs ys : List AV} (hx : s.ev x = .agg xs) (hy : s.ev y = .agg ys)
    {r : Bool} (hr : cellsEqN C.T C.eqT fs xs ys = some r) (k : AWL C N ops Q rest (s.put d (.v (.bool r)) none)) : AWL C N ops Q (⟨some d, .binOp .eql t x y t2, ty, ps, af, none⟩ :: rest) s :=
  W.eqN hC hN (.inl rfl) hT hd hE hx hy hr (by rw [if_pos rfl]; exact k)
theorem D.eeN (hC : C.OK) (hN : d < N) (hi : i ∉ tg ∧ i ∉ mk) {t t2 : TypeId} {x y : Operand} {T : Ty} {fs : List (Nat × TypeId)} (hT : C.T t = some T) (hd : T.d = .st fs) (hE : EqFact C.P t) {xs ys : List AV} (hx : s.ev x = .agg xs) (hy : s.ev y = .agg ys)
    {r : Bool} (hr : cellsEqN C.T C.eqT fs xs ys = some r) (k : DW C N ops H0 b tg mk av Fin (i + 1) rest (s.put d (.v (.bool r)) none)) : DW C N ops H0 b tg mk av Fin i (⟨some d, .binOp .eql t x y t2, ty, ps, af, none⟩ :: rest) s :=
  D.eqN hC hN hi (.inl rfl) hT hd hE hx hy hr (by rw [if_pos rfl]; exact k)
end
end Go.Pg

namespace Go.Proofs.Dz
open Go Go.Pg Go.Proofs Go.Proofs.Ds
theorem E42 : EqFact Tryz.prog 26 := ⟨by kernel_rfl, by kernel_rfl, by kernel_rfl⟩
end Go.Proofs.Dz

set_option maxHeartbeats 8000000
namespace Go.Proofs.Dz
open Go Go.Pg Go.Proofs Go.Proofs.Ds
theorem rowAt_afterH (H : Nat → Option AO) (ids : List Nat) (r : AV) (j : Nat) : Pg.rowAt (afterH H ids r) j = if flatA r = true then Pg.rowAt H j else if j ∈ ids then (Pg.rowAt H j).map (fun r => { r with fro := true }) else Pg.rowAt H j := by
  unfold afterH
  split
  · rfl
  · have := rowAt_frzG H ids j
    unfold frz' at this
    exact this
theorem sanity_ok : OKv cx 7 [] (ab true) := by
  have h0 := sort130_0
  have c20 := Normal_good h0 [⟨43195, 9⟩, ⟨0, 20⟩] ex_normal.1
  rw [ex_normal.2] at c20
  replace c20 : OKv cx 27 [.lst [[ai 43195, ai 9], [ai 0, ai 20]]] (.tup [.lst [[ai 43195, ai 25]], ai 0]) := c20
  have c23 := Minus_good h0 [⟨43195, 25⟩] [⟨5, 0⟩] ex_minus.1 ex_minus.2.1
  rw [ex_minus.2.2] at c23
  replace c23 : OKv cx 28 [.lst [[ai 43195, ai 25]], .lst [[ai 5, ai 0]]] (.tup [.lst [[ai 6, ai 14], [ai 43195, ai 9]], ai 0]) := c23
  have c34 := Grow_good h0 [⟨43199, 0⟩] 2 ex_grow.1 (by decide)
  rw [ex_grow.2] at c34
  replace c34 : OKv cx 29 [.lst [[ai 43199, ai 0]], ai 2] (.tup [.lst [[ai 43197, ai 4]], ai 0]) := c34
  have c32 := Size_good h0 [⟨43197, 4⟩] ex_size.1
  rw [ex_size.2] at c32
  replace c32 : OKv cx 30 [.lst [[ai 43197, ai 4]]] (.tup [ai 5, ai 0]) := c32
  have c26a : OKv cx 12 [.lst [[ai 43195, ai 25]], .lst [[ai 43195, ai 25]]] (ab true) := SameArcs_same [⟨43195, 25⟩] (by decide)
  have c26b : OKv cx 12 [.lst [[ai 6, ai 14], [ai 43195, ai 9]], .lst [[ai 6, ai 14], [ai 43195, ai 9]]] (ab true) := SameArcs_same [⟨6, 14⟩, ⟨43195, 9⟩] (by decide)
  have c26c : OKv cx 12 [.lst [[ai 43197, ai 4]], .lst [[ai 43197, ai 4]]] (ab true) := SameArcs_same [⟨43197, 4⟩] (by decide)
  have c26d : OKv cx 12 [.lst [[ai 95, ai 6]], .lst [[ai 95, ai 6]]] (ab true) := SameArcs_same [⟨95, 6⟩] (by decide)
  obtain ⟨k1, k2, k3, k4⟩ := ex_strike
  have c35 := Strike_good exK 100 ⟨4, 8, -2⟩ exI k1 k2 (by decide) (by decide) 0 exM (.inl ⟨k3, rfl, k4.symm⟩)
  replace c35 : OKv cx 31 [.agg [ai 3, ai 1, ai 5], ai 100, .agg [ai 4, ai 8, ai (-2)], .agg [ai 1, ai 1, ai 3]] (.tup [.agg [ai 98, ai 0, ai 1, ai 9, ai 4086], ai 0]) := c35
  obtain ⟨m1, m2, m3⟩ := ex_angles
  have c71 := Angles_good exK exM exI k1 m1 k2
  rw [if_pos m2, m3] at c71
  replace c71 : OKv cx 10 [.agg [ai 3, ai 1, ai 5], .agg [ai 98, ai 0, ai 1, ai 9, ai 4086], .agg [ai 1, ai 1, ai 3]] (.tup [.lst [[ai 95, ai 6]], ai 0]) := c71
  have c85 := Print_ok [exM] (by decide) (by intro m hm; rw [List.mem_singleton.1 hm]; exact m1) (by decide)
  rw [ex_text] at c85
  replace c85 : OKv cx 22 [.lst [[ai 98, ai 0, ai 1, ai 9, ai 4086]]] (.tup [at_ (ByteArray.mk #[49, 32, 57, 56, 32, 48, 32, 35, 46, 46, 35, 46, 46, 46, 46, 46, 46, 46, 46, 10]), ai 0]) := c85
  have c44 := Ahead_ok 43190 10
  rw [ex_ahead.1] at c44
  have c46 := Apart_ok 10 43190
  rw [ex_ahead.2] at c46
  have hf1 : ∀ l x, flatA (.tup [.lst l, .v x]) = false := fun _ _ => rfl
  have hf2 : ∀ x y, flatA (.tup [.v x, .v y]) = true := fun _ _ => rfl
  have hf3 : flatA (.tup [.agg [ai 98, ai 0, ai 1, ai 9, ai 4086], ai 0]) = true := rfl
  have hf4 : ∀ x, flatA (.v x) = true := fun _ => rfl
  refine OKat.of_body (rs := [0]) Tryz.func7 rfl (by decide +kernel) rfl (by simp [Tryz.ntmps7]) ?_
  simp only [Tryz.ntmps7]
  repeat' first
    | ((first | (apply W.eeN cx_ok; decide) | (apply D.eeN cx_ok; decide; decide)); rfl; rfl; exact E42; (iterate 2 (simp (disch := omega) only [push_cast, simprocAttr, natNe, List.mem_cons, List.not_mem_nil, TyD.isAgg, Nat.add_assoc, List.map_nil, List.length_nil, Bool.and_self, Bool.and_true, Bool.true_and, Bool.false_and, Bool.and_false, Bool.not_true, Bool.not_false, Bool.false_eq_true, rowAt_afterH, St.back, idsL, idsA, idsLL, List.cons_append, List.nil_append, List.append_nil, Option.map_some, hf1, hf2, hf3, hf4] <;> rfl)); (simp (disch := omega) only [push_cast, simprocAttr, natNe, List.mem_cons, List.not_mem_nil, TyD.isAgg, Nat.add_assoc, List.map_nil, List.length_nil, Bool.and_self, Bool.and_true, Bool.true_and, Bool.false_and, Bool.and_false, Bool.not_true, Bool.not_false, Bool.false_eq_true, rowAt_afterH, St.back, idsL, idsA, idsLL, List.cons_append, List.nil_append, List.append_nil, Option.map_some, hf1, hf2, hf3, hf4, cellsEqN, cellEqN] <;> rfl))
    | apply AW.seq | apply AW.region | apply AW.ret | apply AW.block | apply AW.skip | apply AW.exit | apply AW.scope | apply AW.label | apply AWL.nil
    | ((first | (apply W.step cx_ok; decide) | apply W.store cx_ok | (apply W.gS; rfl; decide) | apply AW.cond); (simp (disch := omega) only [push_cast, simprocAttr, natNe, List.mem_cons, List.not_mem_nil, TyD.isAgg, Nat.add_assoc, List.map_nil, List.length_nil, Bool.and_self, Bool.and_true, Bool.true_and, Bool.false_and, Bool.and_false, Bool.not_true, Bool.not_false, Bool.false_eq_true, rowAt_afterH, St.back, idsL, idsA, idsLL, List.cons_append, List.nil_append, List.append_nil, Option.map_some, hf1, hf2, hf3, hf4] <;> rfl); all_goals try ((with_reducible intro hI); try first | (cases hI; done) | (simp only [INTS, not_true_eq_false] at hI; try first | (exfalso; omega) | (have hT : True := hI; clear hT hI))))
    | ((apply W.callv cx_ok; decide); (iterate 2 (simp (disch := omega) only [push_cast, simprocAttr, natNe, List.mem_cons, List.not_mem_nil, TyD.isAgg, Nat.add_assoc, List.map_nil, List.length_nil, Bool.and_self, Bool.and_true, Bool.true_and, Bool.false_and, Bool.and_false, Bool.not_true, Bool.not_false, Bool.false_eq_true, rowAt_afterH, St.back, idsL, idsA, idsLL, List.cons_append, List.nil_append, List.append_nil, Option.map_some, hf1, hf2, hf3, hf4] <;> rfl)); (with_reducible first | exact c20 | exact c23 | exact c34 | exact c32 | exact c26a | exact c26b | exact c26c | exact c26d | exact c35 | exact c71 | exact c85 | exact c44 | exact c46); try first | rfl | (simp (disch := omega) only [push_cast, simprocAttr, natNe, List.mem_cons, List.not_mem_nil, TyD.isAgg, Nat.add_assoc, List.map_nil, List.length_nil, Bool.and_self, Bool.and_true, Bool.true_and, Bool.false_and, Bool.and_false, Bool.not_true, Bool.not_false, Bool.false_eq_true, rowAt_afterH, St.back, idsL, idsA, idsLL, List.cons_append, List.nil_append, List.append_nil, Option.map_some, hf1, hf2, hf3, hf4] <;> rfl))
    | ((first | apply W.ret1 | apply W.end1); (iterate 2 (try (simp (disch := omega) only [push_cast, simprocAttr, natNe, List.mem_cons, List.not_mem_nil, TyD.isAgg, Nat.add_assoc, List.map_nil, List.length_nil, Bool.and_self, Bool.and_true, Bool.true_and, Bool.false_and, Bool.and_false, Bool.not_true, Bool.not_false, Bool.false_eq_true, rowAt_afterH, St.back, idsL, idsA, idsLL, List.cons_append, List.nil_append, List.append_nil, Option.map_some, hf1, hf2, hf3, hf4] <;> rfl))))

  all_goals (show _ = _; rfl)
end Go.Proofs.Dz

set_option maxRecDepth 100000
namespace Go.Proofs.Dz
open Go Go.Pg Go.Proofs Go.Proofs.Ds Go.ChangeShapes Go.WideShapes Go.RowKit
section
variable {H : Type} {enc : TypeId × Value → H} {W : World} {spare : Nat → Bool} {held : Bool}
abbrev Old (W : World) : Nat → Prop := fun b => b < W.heap.size
def Reads (enc : TypeId × Value → H) (W : World) (spare : Nat → Bool) (held : Bool) (t : TypeId) {α : Type} (e : α → List AV) (good : α → Prop) : Prop :=
  ∀ fuel cs x, DataW.trod enc Tryz.prog W 0 spare held fuel t cs = some x → ∃ a, good a ∧ cs.length = (e a).length ∧ (∀ c ∈ e a, c.cell = true) ∧ RepL (pureSg (Old W)) W (e a) (fun i => cs[i]?)
theorem Reads.int {t : TypeId} {k : IntKind} (ht : Tryz.prog.underlying t = some (.int k)) : Reads enc W spare held t (fun n : Int => [AV.v (.int k n)]) (fun n => (Lit.int k n).wf = true) := by
  intro fuel cs x h
  obtain ⟨n, rfl, _, hw⟩ := DataW.trod_int ht h
  exact ⟨n, hw, rfl, by simp [AV.cell, Value.oneCell'], by simp [RepL, Rep]⟩
theorem Reads.bool {t : TypeId} (ht : Tryz.prog.underlying t = some .bool) : Reads enc W spare held t (fun b : Bool => [AV.v (.bool b)]) (fun _ => True) := by
  intro fuel cs x h
  obtain ⟨n, rfl, _⟩ := DataW.trod_bool ht h
  exact ⟨n, trivial, rfl, by simp [AV.cell, Value.oneCell'], by simp [RepL, Rep]⟩
theorem Reads.str {t : TypeId} (ht : Tryz.prog.underlying t = some .string) : Reads enc W spare held t (fun s : ByteArray => [AV.v (.string s)]) (fun s => s.size ≤ 9223372036854775807) := by
  intro fuel cs x h
  obtain ⟨n, rfl, _, hn⟩ := DataW.trod_string ht h
  exact ⟨n, by simpa [maxLen] using hn, rfl, by simp [AV.cell, Value.oneCell'], by simp [RepL, Rep]⟩
theorem Reads.slice {t e : TypeId} {α : Type} {f : α → List AV} {good : α → Prop} {k : Nat} (ht : Tryz.prog.underlying t = some (.slice e)) (hc : Tryz.prog.cellsOf e = k) (hk : 0 < k) (hlen : ∀ a, (f a).length = k)
    (hR : Reads enc W spare held e f good) : Reads enc W spare held t (fun l : List α => [AV.lst (l.map f)]) (fun l => (∀ a ∈ l, good a) ∧ l.length ≤ 9223372036854775807) := by
  intro fuel cs x h
  rcases DataW.trod_slice ht h with ⟨rfl, _⟩ | ⟨a, len, cap, elems, rest, n, _, rfl, _, _, hle, hcap, hlen', hel, _, _⟩
  · refine ⟨[], by simp, rfl, by simp [AV.cell], ?_⟩
    simp only [RepL, List.map_nil]
    refine ⟨⟨_, rfl, ?_⟩, trivial⟩
    simp only [Rep]
    exact ⟨none, 0, 0, rfl, by simp, by simp [maxLen], by simp, by simp⟩
  · rw [hc] at hel
    have key : ∀ i, i < len → ∃ b, good b ∧ (∀ c ∈ f b, c.cell = true) ∧ (∀ j, j < k → ∃ u, W.cell? ((a.add (i * k)).add j) = some u) ∧ RepL (pureSg (Old W)) W (f b) (fun j => W.cell? ((a.add (i * k)).add j)) := by
      intro i hi
      have := hel i hi
      obtain ⟨y, hy⟩ : ∃ y, elems[i]? = some y := ⟨_, List.getElem?_eq_getElem (by omega)⟩
      rw [hy] at this
      simp only [Option.bind_eq_some_iff] at this
      obtain ⟨cs', h1, h2⟩ := this
      obtain ⟨_, g2, g3⟩ := World.cells?_some h1
      obtain ⟨b, b1, b2, b3, b4⟩ := hR n cs' y h2
      refine ⟨b, b1, b3, fun j hj => ⟨cs'[j]'(by omega), by rw [g3 j hj, List.getElem?_eq_getElem (by omega)]⟩, RepL.congr (fun j hj => ?_) b4⟩
      rw [hlen] at hj
      exact (g3 j hj).symm
    let g : Fin len → α := fun i => Classical.choose (key i.1 i.2)
    have hg : ∀ i : Fin len, good (g i) ∧ (∀ c ∈ f (g i), c.cell = true) ∧ (∀ j, j < k → ∃ u, W.cell? ((a.add (i.1 * k)).add j) = some u) ∧ RepL (pureSg (Old W)) W (f (g i)) (fun j => W.cell? ((a.add (i.1 * k)).add j)) := fun i => Classical.choose_spec (key i.1 i.2)
    have hll : (List.ofFn g).length = len := by simp
    have hlm : ((List.ofFn g).map f).length = len := by simp
    refine ⟨List.ofFn g, ⟨fun b hb => ?_, by rw [hll]; simp only [maxLen] at hcap; omega⟩, rfl, by simp [AV.cell], ?_⟩
    · obtain ⟨i, hi⟩ := (List.mem_ofFn).1 hb
      rw [← hi]; exact (hg i).1
    · simp only [RepL]
      refine ⟨⟨_, rfl, ?_⟩, trivial⟩
      simp only [Rep]
      refine ⟨some a, cap, k, by rw [hlm], by rw [hlm]; exact hle, hcap, fun e he => ?_, fun hne => ?_⟩
      · obtain ⟨b, hb, rfl⟩ := List.mem_map.1 he
        obtain ⟨i, hi⟩ := (List.mem_ofFn).1 hb
        rw [← hi]; exact ⟨hlen _, (hg i).2.1⟩
      · have hpos : 0 < len := by
          rcases Nat.eq_zero_or_pos len with h0 | h0
          · exact absurd (List.eq_nil_of_length_eq_zero (by rw [hlm, h0])) hne
          · exact h0
        obtain ⟨u, hu⟩ := (hg ⟨0, hpos⟩).2.2.1 0 hk
        obtain ⟨b, o, spot⟩ := a
        have hspot : spot = none := by simpa [Addr.add] using World.cell?_spot hu
        subst hspot
        refine ⟨b, o, rfl, ?_, ?_⟩
        · show b < W.heap.size
          rcases Nat.lt_or_ge b W.heap.size with hb | hb
          · exact hb
          · have : W.heap[b]? = none := Array.getElem?_eq_none hb
            simp [World.cell?, Addr.add, this] at hu
        · rw [repLL_iff]
          intro i hi
          rw [hlm] at hi
          have he : ((List.ofFn g).map f)[i]'(by rw [hlm]; exact hi) = f (g ⟨i, hi⟩) := by simp
          rw [he]
          refine RepL.congr (fun j _ => ?_) (hg ⟨i, hi⟩).2.2.2
          rw [Addr.add_lit, Addr.add_lit]
theorem Reads.field {ft : TypeId} {α : Type} {e : α → AV} {good : α → Prop} {n off i : Nat} {cs : List Value} {xs : List (DataW H × List MemPlace)}
    (hR : Reads enc W spare held ft (fun a => [e a]) good) (h : DataW.trod enc Tryz.prog W 0 spare held n ft ((cs.drop off).take (Tryz.prog.cellsOf ft)) = xs[i]?) (hi : i < xs.length) :
    ∃ a, good a ∧ (e a).cell = true ∧ ∃ u, cs[off]? = some u ∧ Rep (pureSg (Old W)) W (e a) u := by
  rw [List.getElem?_eq_getElem hi] at h
  obtain ⟨a, h1, h2, h3, h4⟩ := hR _ _ _ h
  refine ⟨a, h1, h3 _ (by simp), ?_⟩
  simp only [RepL] at h4
  obtain ⟨⟨u, hu, hr⟩, _⟩ := h4
  refine ⟨u, ?_, hr⟩
  rw [List.getElem?_take] at hu
  split at hu
  · simpa using hu
  · cases hu
theorem i3 : Reads enc W spare held 3 eInt (fun n => (Lit.int .i64 n).wf = true) := Reads.int Tryz.underlying3
theorem Reads.fieldM {ft : TypeId} {α : Type} {e : α → List AV} {good : α → Prop} {n off i : Nat} {cs : List Value} {xs : List (DataW H × List MemPlace)}
    (hR : Reads enc W spare held ft e good) (h : DataW.trod enc Tryz.prog W 0 spare held n ft ((cs.drop off).take (Tryz.prog.cellsOf ft)) = xs[i]?) (hi : i < xs.length) :
    ∃ a, good a ∧ (∀ c ∈ e a, c.cell = true) ∧ RepL (pureSg (Old W)) W (e a) (fun j => cs[off + j]?) := by
  rw [List.getElem?_eq_getElem hi] at h
  obtain ⟨a, h1, h2, h3, h4⟩ := hR _ _ _ h
  refine ⟨a, h1, h3, ?_⟩
  rw [repL_iff] at h4 ⊢
  intro j hj
  obtain ⟨u, hu, hr⟩ := h4 j hj
  refine ⟨u, ?_, hr⟩
  rw [List.getElem?_take] at hu
  split at hu
  · simpa using hu
  · cases hu
theorem arc_reads : Reads enc W spare held 24 eArc (fun _ => True) := by
  intro fuel cs x h
  obtain ⟨xs, n, _, _, hl, hn, hf⟩ := DataW.trod_struct Tryz.underlying24 h
  have hn' : xs.length = 2 := hn
  obtain ⟨a0, _, c0, u0, h0, r0⟩ := Reads.field (e := fun n : Int => ai n) i3 (hf 0 _ rfl) (by omega)
  obtain ⟨a1, _, c1, u1, h1, r1⟩ := Reads.field (e := fun n : Int => ai n) i3 (hf 1 _ rfl) (by omega)
  refine ⟨⟨a0, a1⟩, trivial, hl.trans (by kernel_rfl), by simp [AV.cell, Value.oneCell'], ?_⟩
  simp only [RepL]
  exact ⟨⟨u0, h0, r0⟩, ⟨u1, h1, r1⟩, trivial⟩
theorem mark_reads : Reads enc W spare held 26 eMark (fun _ => True) := by
  intro fuel cs x h
  obtain ⟨xs, n, _, _, hl, hn, hf⟩ := DataW.trod_struct Tryz.underlying26 h
  have hn' : xs.length = 4 := hn
  obtain ⟨a0, _, c0, r0⟩ := Reads.fieldM (e := eArc) arc_reads (hf 0 _ rfl) (by omega)
  obtain ⟨a1, _, c1, u1, h1, r1⟩ := Reads.field (e := fun n : Int => ai n) i3 (hf 1 _ rfl) (by omega)
  obtain ⟨a2, _, c2, u2, h2, r2⟩ := Reads.field (e := fun n : Int => ai n) i3 (hf 2 _ rfl) (by omega)
  obtain ⟨a3, _, c3, u3, h3, r3⟩ := Reads.field (e := fun n : Int => ai n) i3 (hf 3 _ rfl) (by omega)
  refine ⟨⟨a0, a1, a2, a3⟩, trivial, hl.trans (by kernel_rfl), by simp [AV.cell, Value.oneCell'], ?_⟩
  simp only [RepL] at r0 ⊢
  obtain ⟨x0, x1, _⟩ := r0
  exact ⟨x0, x1, ⟨u1, h1, r1⟩, ⟨u2, h2, r2⟩, ⟨u3, h3, r3⟩, trivial⟩
variable {r : Reach} {base : Nat} {v : Value} {d : DataW H} {ps : List MemPlace}
theorem arg_one {t : TypeId} {α : Type} {e : α → AV} {good : α → Prop} (hR : Reads enc W spare held t (fun a => [e a]) good) (hv : v.cells = #[v]) (h : DataW.Trod enc Tryz.prog W 0 spare held t v d ps) : ∃ a, good a ∧ Rep (pureSg (Old W)) W (e a) v := by
  obtain ⟨fuel, hf⟩ := h
  rw [hv] at hf
  obtain ⟨a, g, g1, g2, g3⟩ := hR _ _ _ hf
  refine ⟨a, g, ?_⟩
  simp only [RepL] at g3
  obtain ⟨⟨u, hu, hr⟩, _⟩ := g3
  simp at hu
  subst hu; exact hr
theorem arg_string (hv : Value.okWide Tryz.prog W r base 9 v) (h : DataW.Trod enc Tryz.prog W 0 spare held 9 v d ps) : ∃ s : ByteArray, s.size ≤ 9223372036854775807 ∧ Rep (pureSg (Old W)) W (at_ s) v := by
  obtain ⟨n, rfl⟩ := okWide_string Tryz.underlying9 hv
  exact arg_one (e := fun s : ByteArray => at_ s) (Reads.str Tryz.underlying9) rfl h
theorem arg_marks (hv : Value.okWide Tryz.prog W r base 51 v) (h : DataW.Trod enc Tryz.prog W 0 spare held 51 v d ps) : ∃ l : List Mark, l.length ≤ 9223372036854775807 ∧ Rep (pureSg (Old W)) W (.lst (l.map eMark)) v := by
  obtain ⟨a, len, cap, rfl⟩ := okWide_slice Tryz.underlying51 hv
  obtain ⟨l, g, h⟩ := arg_one (e := fun l : List Mark => .lst (l.map eMark)) (Reads.slice Tryz.underlying51 (k := 5) (by kernel_rfl) (by decide) (fun _ => rfl) mark_reads) rfl h
  exact ⟨l, g.2, h⟩
end
end Go.Proofs.Dz

namespace Go.Proofs.Dz
open Go Go.Pg Go.Proofs Go.Proofs.Ds Go.ChangeShapes Go.WideShapes Go.ChangeAt Go.RowKit
section
variable {H : Type} {enc : TypeId × Value → H} {P : Program}
theorem post_below {f : Func} {s : ChangeSpec} {apart fresh handsOn again : Bool} {W W' : World} {args : Array Value} {v : Value} {ds gs : List (DataW H)} {before pa pv : List MemPlace}
    (hW : DataW.Whole enc P f.params.toList s.vars apart W args.toList ds gs before)
    (hres : ∀ (b : Nat) (sp : Nat → Bool) (hd : Bool), DataW.TrodAll enc P W' b sp hd f.resultTypes.toList (v.resultList f.resultTypes.size) (s.fn H (ds ++ gs)).results [])
    (hargs : ∀ sp : Nat → Bool, (∀ p ∈ before, sp p.block = true) → DataW.TrodAll enc P W' 0 sp true f.params.toList args.toList (s.fn H (ds ++ gs)).args pa)
    (hvars : ∀ sp : Nat → Bool, (∀ p ∈ before, sp p.block = true) → DataW.TrodVars enc P W' sp s.vars (s.fn H (ds ++ gs)).vars pv)
    (hps : before = pa ++ pv) (hb : Below W.heap.size W W')
    (hok : ∀ (j : Nat) (t : TypeId) (r : Value), f.resultTypes[j]? = some t → (v.resultList f.resultTypes.size)[j]? = some r → Value.okWide P W' .any 0 t r) :
    s.post enc P f apart fresh handsOn again W args v W' := by
  have hlt := hW.lt
  have hold : ∀ p ∈ before, (fun b => decide (b < W.heap.size)) p.block = true := fun p hp => by simpa using hlt p hp
  refine ⟨ds, gs, before, [], pa, pv, hW, hres _ _ _, hargs _ hold, hvars _ hold, World.keptBut_mono (fun p hp => ⟨hp, ?_⟩) (hb.frame (· ∈ before)), fun _ => ?_⟩
  · rw [hps, List.mem_append] at hp
    exact Or.inr hp
  · obtain ⟨_, _, _, _, _, hz, hn⟩ := hW
    refine ⟨hok, _, _, ([] ++ pa) ++ pv, ⟨[] ++ pa, pv, trodAll_append (hargs _ (fun _ _ => rfl)) (hres _ _ _), hvars _ (fun _ _ => rfl), rfl, ?_, ?_⟩, ?_⟩
    · intro b off hp
      have hp' : MemPlace.cell b off ∈ before := by rw [hps]; simpa using hp
      rw [hb.frozen (p := ⟨b, off, none⟩) (hlt _ hp')]
      exact hz b off hp'
    · intro ha
      have := hn ha
      rw [hps] at this
      simpa using this
    · intro p hp _
      rw [hps]
      simpa using hp
theorem laid_out : laidOutB Tryz.prog = true := by kernel_rfl
theorem stays_all {W W' : World} (hb : Below W.heap.size W W') (sp : Nat → Bool) : ∀ (ts : List TypeId) (vs : List Value) (ds : List (DataW H)) (ps : List MemPlace),
    (∀ t ∈ ts, Tryz.prog.readableRec t = true ∧ t < Tryz.prog.types.size) → DataW.TrodAll enc Tryz.prog W 0 (fun _ => true) true ts vs ds ps → (∀ x ∈ ps, x.block < W.heap.size) → (∀ x ∈ ps, sp x.block = true) →
    DataW.TrodAll enc Tryz.prog W' 0 sp true ts vs ds ps
  | [], [], [], ps, _, h, _, _ => h
  | t :: ts, v :: vs, d :: ds, ps, ht, ⟨p, q, h1, h2, e⟩, hlt, hsp => by
    subst e
    refine ⟨p, q, ?_, ?_, rfl⟩
    · exact WideElems.Trod_stays laid_out (ht t (by simp)).1 (ht t (by simp)).2 h1 (fun x hx => hb.same (hlt x (by simp [hx]))) (fun x hx => hsp x (by simp [hx]))
    · exact stays_all hb sp ts vs ds q (fun u hu => ht u (by simp [hu])) h2 (fun x hx => hlt x (by simp [hx])) (fun x hx => hsp x (by simp [hx]))
  | [], _ :: _, _, _, _, h, _, _ => h.elim
  | [], [], _ :: _, _, _, h, _, _ => h.elim
  | _ :: _, [], _, _, _, h, _, _ => h.elim
  | _ :: _, _ :: _, [], _, _, h, _, _ => h.elim
theorem law_post {fn : Func} {s : ChangeSpec} (hvars : s.vars = []) (hres : fn.resultTypes = #[4]) (hparams : (fn.params.toList.all fun t => Tryz.prog.readableRec t && decide (t < Tryz.prog.types.size)) = true)
    (hfn : ∀ ds : List (DataW H), ds.length = fn.params.toList.length → s.fn H ds = { results := [.lit (.bool true)], args := ds })
    {W W' : World} {args : Array Value} {ds gs : List (DataW H)} {before : List MemPlace} (hW : DataW.Whole enc Tryz.prog fn.params.toList s.vars false W args.toList ds gs before) (hb : Below W.heap.size W W') :
    s.post enc Tryz.prog fn false true false false W args (.bool true) W' := by
  have hlt := hW.lt
  have hW0 := hW
  obtain ⟨p, q, hA0, hV0, e, hfz, hnd⟩ := hW
  have hA : DataW.TrodAll enc Tryz.prog W 0 (fun _ => true) true fn.params.toList args.toList ds p := hA0
  have hV : DataW.TrodVars enc Tryz.prog W (fun _ => true) s.vars gs q := hV0
  rw [hvars] at hV
  obtain ⟨rfl, rfl⟩ := trodVars_none hV
  rw [List.append_nil] at e
  subst e
  have hs : s.fn H (ds ++ []) = { results := [.lit (.bool true)], args := ds } := by rw [List.append_nil]; exact hfn ds (Go.trodAll_length hA).2
  refine post_below (pa := before) (pv := []) hW0 (fun b sp hd => ?_) (fun sp hsp => ?_) (fun sp _ => ?_) (by simp) hb (ok_one hres rfl (okWide_bool_mk Tryz.underlying4 _))
  · rw [hs, hres]; exact trodAll_mk1 (shut_bool Tryz.underlying4 true)
  · rw [hs]
    refine stays_all hb sp _ _ _ _ (fun t ht => ?_) hA hlt hsp
    have := List.all_eq_true.1 hparams t ht
    simpa using this
  · rw [hs, hvars]; rfl
end
end Go.Proofs.Dz

namespace Go.Proofs.Dz
open Go Go.Pg Go.Proofs Go.Proofs.Ds Go.ChangeShapes Go.WideShapes Go.ChangeAt Go.RowKit
open Go.Proofs.YtkdiplkmcilkmaaGreatDoor
theorem own_knob : ownKnob Tryz.prog.godebug = none := by kernel_rfl
abbrev z3 : Value := .agg #[.int .i64 0, .int .i64 0, .int .i64 0]
section
variable {H : Type} {enc : TypeId × Value → H} {P : Program} {W : World} {b : Nat} {sp : Nat → Bool} {held : Bool}
theorem trodAll_pop {t : TypeId} {ts : List TypeId} {vs : List Value} {ds : List (DataW H)} {ps : List MemPlace} (h : DataW.TrodAll enc P W b sp held (t :: ts) vs ds ps) :
    ∃ v vs' d ds' p q, vs = v :: vs' ∧ ds = d :: ds' ∧ DataW.Trod enc P W b sp held t v d p ∧ DataW.TrodAll enc P W b sp held ts vs' ds' q := by
  match vs, ds, h with
  | v :: vs, d :: ds, ⟨p, q, h1, h2, _⟩ => exact ⟨v, vs, d, ds, p, q, rfl, rfl, h1, h2⟩
theorem trodAll_end {vs : List Value} {ds : List (DataW H)} {ps : List MemPlace} (h : DataW.TrodAll enc P W b sp held [] vs ds ps) : vs = [] := by
  match vs, ds, h with
  | [], [], _ => rfl
end
end Go.Proofs.Dz
