/-
  Contracts of functions, proved by going through their code. No conditions.
-/
import Derived.WideKeyArgs2
import Derived.Test.YtmcchoalekmklaaGreatZab
set_option linter.unusedVariables false
set_option linter.unusedSimpArgs false
namespace Go.Pg
open Go Go.RowKit
section
variable {P : Program} {T : TypeId → Option Ty} {B0 : Nat} {S0 : Fr} {w : World} {H : Nat → Option AO} {σ : Sg}
theorem repLL_at {es : List (List AV)} {f : Nat → Nat → Option Value} (h : RepLL σ w es f) {i : Nat} (hi : i < es.length) : RepL σ w (es.getD i []) (f i) := by
  rw [repLL_iff] at h
  have := h i hi
  rwa [List.getD_eq_getElem?_getD, List.getElem?_eq_getElem hi, Option.getD_some]
theorem indexAddrA_sound (hT : TyOK P T) (hi : Inv B0 S0 w H σ) {t : TypeId} {x ix r : AV} {u ui : Value} (hr : Rep σ w x u) (hx : Rep σ w ix ui) (h : indexAddrA T H t x ix = some r) :
    ∃ v, (Instr.indexAt t u ui).run P w = .ok v w ∧ Rep σ w r v := by
  unfold indexAddrA at h
  split at h
  · rename_i e kd i ht
    simp only [Rep] at hx; subst hx
    have hu := (hT t _ ht).slice rfl
    split at h
    · rename_i y hy
      have hsz := (hT e y hy).run_size w
      split at h
      · rename_i es
        split at h
        · rename_i hb
          split at h
          · rename_i hl
            injection h with h; subst h
            simp only [Rep] at hr
            obtain ⟨A, cap, k, rfl, h1, h2, h3, h4⟩ := hr
            have hn : i.toNat < es.length := by omega
            obtain ⟨b, o, rfl, hS, hR⟩ := h4 (by intro he; subst he; simp at hn)
            have hmem : es.getD i.toNat [] ∈ es := by rw [List.getD_eq_getElem?_getD, List.getElem?_eq_getElem hn, Option.getD_some]; exact List.getElem_mem _
            have hk : k = y.size := by rw [← (h3 _ hmem).1]; exact hl
            refine ⟨.pointer (some ⟨b, o + i.toNat * k, none⟩), ?_, ?_⟩
            · simp [Instr.indexAt, asIntOf, run_underlying hu, hb.1, hb.2, hsz, Addr.add_lit, hk]
            · simp only [Rep]
              refine ⟨b, o + i.toNat * k, by simp, hS, (h3 _ hmem).2, ?_⟩
              have := repLL_at hR hn
              exact this
          · cases h
        · cases h
      · rename_i id off n
        split at h
        · rename_i hb
          split at h
          · rename_i rw hrow
            split at h
            · rename_i hk
              injection h with h; subst h
              simp only [Rep] at hr
              obtain ⟨hal, A, cap, rfl, h1, h2, h3, h4⟩ := hr
              obtain ⟨b, rfl, hown, hext⟩ := h3 (by omega)
              have hR := hi.row id rw (rowAt_eq hrow)
              refine ⟨.pointer (some ⟨b, (off + i.toNat) * σ.k id, none⟩), ?_, ?_⟩
              · simp [Instr.indexAt, asIntOf, run_underlying hu, hb.1, hb.2, hsz, Addr.add_lit, hR.k, hk, Nat.add_mul]
              · simp only [Rep]
                exact ⟨b, by simp, hown, by omega, hext⟩
            · cases h
          · cases h
        · cases h
      · cases h
    · cases h
  · rename_i n e kd i ht
    simp only [Rep] at hx; subst hx
    have hu := (hT t _ ht).arr rfl
    split at h
    · rename_i y hy
      have hsz := (hT e y hy).run_size w
      split at h
      · rename_i hb
        obtain ⟨a, rfl, hr'⟩ := offA_sound hr h
        refine ⟨.pointer (some (a.add (i.toNat * y.size))), ?_, hr'⟩
        simp [Instr.indexAt, asIntOf, run_underlying hu, Instr.sureAddr, hb.1, hb.2, hsz]
      · cases h
    · cases h
  · cases h
theorem indexA_sound (hT : TyOK P T) {t : TypeId} {x ix r : AV} {u ui : Value} (hr : Rep σ w x u) (hx : Rep σ w ix ui) (h : indexA T t x ix = some r) :
    ∃ v, (Instr.index t u ui).run P w = .ok v w ∧ Rep σ w r v := by
  unfold indexA at h
  split at h
  · rename_i n e cs kd i ht
    simp only [Rep] at hx; subst hx
    have hu := (hT t _ ht).arr rfl
    split at h
    · rename_i y hy
      have hsz := (hT e y hy).run_size w
      split at h
      · rename_i hb
        simp only [Rep] at hr
        obtain ⟨arr, rfl, h1, h2, h3⟩ := hr
        obtain ⟨v, hv, hrv⟩ := partA_sound hT hy h1 h2 h3 h
        refine ⟨v, ?_, hrv⟩
        simp [Instr.index, asIntOf, run_underlying hu, hb.1, hb.2, hsz, hv]
      · cases h
    · cases h
  · rename_i s kd i ht
    simp only [Rep] at hx hr; subst hx; subst hr
    have hu := (hT t _ ht).str rfl
    split at h
    · rename_i hb
      injection h with h; subst h
      have hlt : i.toNat < s.size := by omega
      refine ⟨_, ?_, rfl⟩
      have h1 : s[i.toNat]? = some s[i.toNat] := by simp [hlt]
      have h2 : s.data[i.toNat]? = some s[i.toNat] := by rw [Array.getElem?_eq_getElem (by exact hlt)]; rfl
      simp [Instr.index, asIntOf, run_underlying hu, hb.1, h1, h2]
    · cases h
  · cases h
theorem extractA_sound {x r : AV} {i : Nat} {u : Value} (hr : Rep σ w x u) (h : extractA x i = some r) : ∃ v, (Instr.extract u i).run P w = .ok v w ∧ Rep σ w r v := by
  cases x <;> simp only [extractA] at h <;> try contradiction
  simp only [Rep] at hr
  obtain ⟨arr, rfl, h1, h3⟩ := hr
  obtain ⟨hlt, rfl⟩ := List.getElem?_eq_some_iff.1 h
  rw [repL_iff] at h3
  obtain ⟨v, hv, hrv⟩ := h3 i hlt
  exact ⟨v, by simp [Instr.extract, hv], hrv⟩
theorem lenA_sound (hT : TyOK P T) {t ty : TypeId} {x r : AV} {u : Value} (hr : Rep σ w x u) (h : lenA T t x = some r) : ∃ v, (Builtin.len_ #[t] ty #[u]).run P w = .ok v w ∧ Rep σ w r v := by
  unfold lenA at h
  split at h
  · rename_i e es ht
    injection h with h; subst h
    simp only [Rep] at hr
    obtain ⟨A, cap, k, rfl, _⟩ := hr
    exact ⟨_, by simp [Builtin.len_, run_underlying ((hT t _ ht).slice rfl)]; rfl, rfl⟩
  · rename_i e a b n ht
    injection h with h; subst h
    simp only [Rep] at hr
    obtain ⟨_, A, cap, rfl, _⟩ := hr
    exact ⟨_, by simp [Builtin.len_, run_underlying ((hT t _ ht).slice rfl)]; rfl, rfl⟩
  · rename_i e ht
    injection h with h; subst h
    simp only [Rep] at hr; subst hr
    exact ⟨_, by simp [Builtin.len_, run_underlying ((hT t _ ht).slice rfl)]; rfl, rfl⟩
  · rename_i s ht
    injection h with h; subst h
    simp only [Rep] at hr; subst hr
    exact ⟨_, by simp [Builtin.len_, run_underlying ((hT t _ ht).str rfl)]; rfl, rfl⟩
  · rename_i n e ht
    injection h with h; subst h
    exact ⟨_, by simp [Builtin.len_, run_underlying ((hT t _ ht).arr rfl)]; rfl, rfl⟩
  · cases h
theorem intBinA_sound {op : BinOp} {t : TypeId} {k : IntKind} {a b : Int} {r : AV} (h1 : op ≠ .shl) (h2 : op ≠ .shr) (h : intBinA op k a b = some r) :
    ∃ v, (binOp op t (.int k a) (.int k b)).run P w = .ok v w ∧ Rep σ w r v := by
  have hk : ¬ (k ≠ k) := by simp
  cases op <;> simp only [intBinA] at h <;> try contradiction
  case quo =>
    split at h
    · cases h
    · rename_i hb
      injection h with h; subst h
      refine ⟨_, ?_, rfl⟩
      simp only [binOp, if_neg hk, Op.intDiv, if_neg hb]
      rfl
  case rem =>
    split at h
    · cases h
    · rename_i hb
      injection h with h; subst h
      refine ⟨_, ?_, rfl⟩
      simp only [binOp, if_neg hk, Op.intDiv, if_neg hb]
      rfl
  all_goals
    injection h with h; subst h
    refine ⟨_, ?_, rfl⟩
    simp only [binOp, if_neg hk]
    rfl
theorem run_eqGuard_v (op : BinOp) (t : TypeId) (x y : Operand) (a b : Value) (ha : a ≠ .nilIface) (hb : ∀ cs, a ≠ .agg cs) : (eqGuard op t x y a b).run P w = .ok () w := by
  cases a <;> simp_all <;> cases op <;> simp [eqGuard]
theorem cellsEqA_sound (hT : TyOK P T) (d : Nat) : ∀ (fs : List Field) (cs ds : List AV) (xs ys : Array Value) (r : Bool), (∀ f ∈ fs, f.name ≠ "_") →
    RepL σ w cs (fun i => xs[i]?) → RepL σ w ds (fun i => ys[i]?) → cellsEqA T (fs.map fun f => (f.offset, f.type)) cs ds = some r → (Op.eqFields (d + 1) xs ys fs).run P w = .ok r w := by
  intro fs
  induction fs with
  | nil => intro cs ds xs ys r _ _ _ h; simp only [List.map_nil, cellsEqA, Option.some.injEq] at h; subst h; simp [Op.eqFields]
  | cons f fs ih =>
    intro cs ds xs ys r hn hx hy h
    have hnf : f.name ≠ "_" := hn f (by simp)
    have hn' : ∀ g ∈ fs, g.name ≠ "_" := fun g hg => hn g (by simp [hg])
    have ih' := fun r => ih cs ds xs ys r hn' hx hy
    have hpart : ∀ {y : Ty} {cs : List AV} {xs : Array Value} {x : Value}, T f.type = some y → y.d.isAgg = false → RepL σ w cs (fun i => xs[i]?) → cs[f.offset]? = some (.v x) → (part f.type xs f.offset).run P w = .ok x w := by
      intro y cs xs x hty hag hl hc
      have hf := hT _ y hty
      simp only [part, Sem.run_bind, hf.run_isAgg, Result.andThen_ok, hag, Bool.false_eq_true, if_false]
      obtain ⟨hlt, he⟩ := List.getElem?_eq_some_iff.1 hc
      rw [repL_iff] at hl
      obtain ⟨u, hu, hr⟩ := hl _ hlt
      rw [he] at hr
      simp only [Rep] at hr; subst hr
      simp [hu]
    simp only [List.map_cons, cellsEqA] at h
    split at h
    · rename_i kd ht hc hd
      split at h
      · rename_i hk
        subst hk
        simp only [Option.map_eq_some_iff] at h
        obtain ⟨r', h', rfl⟩ := h
        have e1 := hpart ht rfl hx hc
        have e2 := hpart ht rfl hy hd
        have e3 := fun k a b => run_equalIn_int (P := P) w d f.type k _ a b ((hT _ _ ht).int rfl)
        simp only [Op.eqFields, hnf, ne_eq, not_false_eq_true, if_true, Sem.run_bind, e1, e2, Result.andThen_ok, e3, Sem.run_ite, ih' r' h', Sem.run_pure]
        split <;> rename_i hh <;> simp_all
      · cases h
    · rename_i ht hc hd
      simp only [Option.map_eq_some_iff] at h
      obtain ⟨r', h', rfl⟩ := h
      have e1 := hpart ht rfl hx hc
      have e2 := hpart ht rfl hy hd
      have e3 : ∀ a b, (Op.equalIn (d + 1) f.type (.string a) (.string b)).run P w = .ok (a.data.toList == b.data.toList) w := fun a b => by
        rw [← ByteArray.toList_eq, ← ByteArray.toList_eq]; exact run_equalIn_string (P := P) w d f.type a b ((hT _ _ ht).str rfl)
      simp only [Op.eqFields, hnf, ne_eq, not_false_eq_true, if_true, Sem.run_bind, e1, e2, Result.andThen_ok, e3, Sem.run_ite, ih' r' h', Sem.run_pure]
      split <;> rename_i hh <;> simp_all
    · rename_i ht hc hd
      simp only [Option.map_eq_some_iff] at h
      obtain ⟨r', h', rfl⟩ := h
      have e1 := hpart ht rfl hx hc
      have e2 := hpart ht rfl hy hd
      have e3 := fun a b => run_equalIn_bool' (P := P) w d f.type a b ((hT _ _ ht).bool rfl)
      simp only [Op.eqFields, hnf, ne_eq, not_false_eq_true, if_true, Sem.run_bind, e1, e2, Result.andThen_ok, e3, Sem.run_ite, ih' r' h', Sem.run_pure]
      split <;> rename_i hh <;> simp_all
    · cases h
structure EqFact (P : Program) (t : TypeId) : Prop where
  held : P.stoodInHeld t = false
  guard : P.eqGuardType P.depth t = false
  names : (P.fieldsOf t).toList.all (fun f => f.name != "_") = true
theorem binA_sound (hT : TyOK P T) {eqT : TypeId → Bool} (hE : ∀ t, eqT t = true → EqFact P t) {op : BinOp} {t : TypeId} {x y : AV} {ux uy : Value} {ox oy : Operand} {r : AV}
    (hx : Rep σ w x ux) (hy : Rep σ w y uy) (h : binA T eqT op t x y = some r) :
    ∃ v, (do eqGuard op t ox oy ux uy; binOp op t ux uy : Sem Value).run P w = .ok v w ∧ Rep σ w r v := by
  unfold binA at h
  split at h
  · rename_i k a k' b
    simp only [Rep] at hx hy; subst hx; subst hy
    simp only [Sem.run_bind, run_eqGuard_v op t ox oy (.int k a) (.int k' b) (by simp) (by simp), Result.andThen_ok]
    split at h
    · split at h
      · cases h
      · rename_i hb
        injection h with h; subst h
        exact ⟨_, by simp only [binOp, Op.shift, if_neg hb]; rfl, rfl⟩
    · split at h
      · cases h
      · rename_i hb
        injection h with h; subst h
        exact ⟨_, by simp only [binOp, Op.shift, if_neg hb]; rfl, rfl⟩
    · rename_i h1 h2
      split at h
      · rename_i hk; subst hk
        exact intBinA_sound (fun e => h1 e) (fun e => h2 e) h
      · cases h
  · rename_i a b
    simp only [Rep] at hx hy; subst hx; subst hy
    simp only [Sem.run_bind, run_eqGuard_v op t ox oy (.string a) (.string b) (by simp) (by simp), Result.andThen_ok]
    cases op <;> simp only [strBinA] at h <;> try contradiction
    all_goals first
      | (split at h
         · rename_i hle
           injection h with h; subst h
           refine ⟨_, ?_, rfl⟩
           have : ¬ ((a.size + b.size : Nat) : Int) > IntKind.i64.max := by
             have : IntKind.i64.max = 9223372036854775807 := by decide
             rw [this]; simp only [maxLen] at hle; omega
           simp only [binOp, Op.stringOp, if_neg this]; rfl
         · cases h)
      | (simp only [← ByteArray.toList_eq] at h
         injection h with h; subst h; exact ⟨_, by simp only [binOp, Op.stringOp]; rfl, rfl⟩)
  · rename_i a b
    simp only [Rep] at hx hy; subst hx; subst hy
    simp only [Sem.run_bind, run_eqGuard_v op t ox oy (.bool a) (.bool b) (by simp) (by simp), Result.andThen_ok]
    split at h
    · rename_i ht
      injection h with h; subst h
      refine ⟨.bool (a == b), ?_, rfl⟩
      have := run_equalIn_bool (P := P) w 9999 t a b ((hT t _ ht).bool rfl)
      simp [binOp, Op.equal, Op.maxDepth, this]
    · rename_i ht
      injection h with h; subst h
      refine ⟨.bool (!(a == b)), ?_, rfl⟩
      have := run_equalIn_bool (P := P) w 9999 t a b ((hT t _ ht).bool rfl)
      simp [binOp, Op.equal, Op.maxDepth, this]
    · cases h
  · rename_i xs ys
    split at h
    · rename_i sz by_ z fs ht
      split at h
      · rename_i heq
        have hq := hE t heq
        simp only [Rep] at hx hy
        obtain ⟨ax, rfl, h1, h2, h3⟩ := hx
        obtain ⟨ay, rfl, g1, g2, g3⟩ := hy
        obtain ⟨fa, hu, hm⟩ := (hT t _ ht).st rfl
        have hfo : P.fieldsOf t = fa := by simp [Program.fieldsOf, hu]
        have key : ∀ r', cellsEqA T fs xs ys = some r' → (Op.equalIn 10000 t (.agg ax) (.agg ay)).run P w = .ok r' w := by
          intro r' hr'
          rw [run_equalIn_struct (P := P) w 9999 t ax ay (by rw [hfo]; exact hu) hq.held, hfo]
          subst hm
          exact cellsEqA_sound hT 9998 fa.toList xs ys ax ay r' (fun f hf => by have := List.all_eq_true.1 hq.names f (by rw [hfo]; exact hf); simpa using this) h3 g3 hr'
        simp only [Sem.run_bind, run_eqGuard_agg w op t ox oy ax ay hq.guard, Result.andThen_ok]
        split at h
        · simp only [Option.map_eq_some_iff] at h
          obtain ⟨r', h', rfl⟩ := h
          exact ⟨_, by rw [run_eql_struct, key r' h']; rfl, rfl⟩
        · simp only [Option.map_eq_some_iff] at h
          obtain ⟨r', h', rfl⟩ := h
          exact ⟨_, by rw [run_neq_struct, key r' h']; rfl, rfl⟩
        · cases h
      · cases h
    · cases h
  · cases h
theorem beq_bytes (a b : ByteArray) : (a == b) = (a.data.toList == b.data.toList) := by
  have : (a == b) = (a.data == b.data) := by cases a; cases b; rfl
  rw [this, Array.beq_toList]
theorem keys_case (k : Key) (y : AV) : ∀ (l : List MapEntry) (es : List (Key × AV)) (i : Nat), l.map (·.key) = es.map (fun e => e.1.val) →
    (findM k es = none ∧ putM k y es = es ++ [(k, y)] ∧ ∀ d ∈ es, k.same d.1 = false) ∨
    ∃ (j : Nat) (x : AV) (e : MapEntry), findM k es = some x ∧ l[j]? = some e ∧ (es.map (·.2))[j]? = some x ∧ e.key = k.val ∧ (∃ d, es[j]? = some d ∧ k.same d.1 = true) ∧ (∀ j', j' < j → ∀ d, es[j']? = some d → k.same d.1 = false) ∧
      (putM k y es).map (fun e => e.1.val) = es.map (fun e => e.1.val) ∧ (putM k y es).map (·.2) = (es.map (·.2)).set j y ∧ (putM k y es).map (·.1) = es.map (·.1)
  | [], [], i, _ => .inl ⟨rfl, rfl, fun d hd => by simp at hd⟩
  | e :: l, d :: es, i, h => by
    simp only [List.map_cons, List.cons.injEq] at h
    obtain ⟨h1, h2⟩ := h
    simp only [findM, putM]
    by_cases hk : k.same d.1 = true
    · simp only [hk, if_true]
      have hs := Key.same_eq hk
      exact .inr ⟨0, d.2, e, rfl, rfl, rfl, by rw [h1, hs], ⟨d, rfl, hk⟩, fun j' hj => absurd hj (Nat.not_lt_zero _), by simp [hs], by simp, by simp [hs]⟩
    · have hk' : k.same d.1 = false := by simpa using hk
      simp only [hk', Bool.false_eq_true, if_false]
      rcases keys_case k y l es (i + 1) h2 with ⟨a1, a2, a3⟩ | ⟨j, x, e', a1, a2, a3, a4, a5, a6, a7, a8, a9⟩
      · refine .inl ⟨a1, by rw [a2]; rfl, fun d' hd => ?_⟩
        rcases List.mem_cons.1 hd with rfl | hd
        · exact hk'
        · exact a3 d' hd
      · refine .inr ⟨j + 1, x, e', a1, by simpa using a2, by simpa using a3, a4, by simpa using a5, fun j' hj d' hd => ?_, by simp [a7], by simp [a8], by simp [a9]⟩
        cases j' with
        | zero => simp only [List.getElem?_cons_zero, Option.some.injEq] at hd; subst hd; exact hk'
        | succ j' => exact a6 j' (by omega) d' (by simpa using hd)
  | [], _ :: _, _, h => by simp at h
  | _ :: _, [], _, h => by simp at h
structure KeyOK (P : Program) (kt : TypeId) (k : Key) : Prop where
  check : ∀ b w, (Instr.checkKey b 10000 kt k.val).run P w = .ok () w
  same : ∀ (k' : Key) w, k'.sh = k.sh → (∀ kind, P.underlying kt = some kind → Instr.sameNow kind k.val k'.val = some (k.same k')) ∨
    ((∀ kind, P.underlying kt = some kind → Instr.sameNow kind k.val k'.val = none) ∧ (Op.equal kt k.val k'.val).run P w = .ok (k.same k') w)
  und : ∃ kind, P.underlying kt = some kind
theorem findAsking_case {kt : TypeId} {k : Key} (hk : KeyOK P kt k) (w : World) (hs : ∀ k' : Key, k'.sh = k.sh → (Op.equal kt k.val k'.val).run P w = .ok (k.same k') w) : ∀ (l : List MapEntry) (es : List (Key × AV)) (i : Nat), l.map (·.key) = es.map (fun e => e.1.val) → (∀ d ∈ es, d.1.sh = k.sh) →
    ((∀ d ∈ es, k.same d.1 = false) → (Instr.findAsking kt k.val l i).run P w = .ok none w) ∧
    (∀ j e d, l[j]? = some e → es[j]? = some d → k.same d.1 = true → (∀ j', j' < j → ∀ d, es[j']? = some d → k.same d.1 = false) → (Instr.findAsking kt k.val l i).run P w = .ok (some (i + j, e.val)) w)
  | [], [], i, _, _ => ⟨fun _ => rfl, fun j e d h => by simp at h⟩
  | e :: l, d :: es, i, h, hsh => by
    simp only [List.map_cons, List.cons.injEq] at h
    obtain ⟨h1, h2⟩ := h
    obtain ⟨g1, g2⟩ := findAsking_case hk w hs l es (i + 1) h2 (fun d' hd => hsh d' (by simp [hd]))
    have he : (Op.equal kt k.val e.key).run P w = .ok (k.same d.1) w := by rw [h1]; exact hs d.1 (hsh d (by simp))
    constructor
    · intro hd
      have h3 := hd d (by simp)
      simp only [Instr.findAsking, Sem.run_bind, he, Result.andThen_ok, h3, Bool.false_eq_true, if_false]
      exact g1 (fun d' hd' => hd d' (by simp [hd']))
    · intro j e' d' hj hd hsame hbef
      cases j with
      | zero =>
        simp only [List.getElem?_cons_zero, Option.some.injEq] at hj hd
        subst hj; subst hd
        simp only [Instr.findAsking, Sem.run_bind, he, Result.andThen_ok, hsame, if_true, Sem.run_pure]
        rfl
      | succ j =>
        have h3 := hbef 0 (by omega) d rfl
        simp only [Instr.findAsking, Sem.run_bind, he, Result.andThen_ok, h3, Bool.false_eq_true, if_false]
        rw [g2 j e' d' (by simpa using hj) (by simpa using hd) hsame (fun j' hj' d'' hd'' => hbef (j' + 1) (by omega) d'' (by simpa using hd''))]
        congr 3; omega
  | [], _ :: _, _, h, _ => by simp at h
  | _ :: _, [], _, h, _ => by simp at h
theorem findNow_case {kind : TypeDesc} {k : Key} (hs : ∀ k' : Key, k'.sh = k.sh → Instr.sameNow kind k.val k'.val = some (k.same k')) : ∀ (l : List MapEntry) (es : List (Key × AV)) (i : Nat), l.map (·.key) = es.map (fun e => e.1.val) → (∀ d ∈ es, d.1.sh = k.sh) →
    ((∀ d ∈ es, k.same d.1 = false) → Instr.findNow kind k.val l i = some none) ∧
    (∀ j e d, l[j]? = some e → es[j]? = some d → k.same d.1 = true → (∀ j', j' < j → ∀ d, es[j']? = some d → k.same d.1 = false) → Instr.findNow kind k.val l i = some (some (i + j, e.val)))
  | [], [], i, _, _ => ⟨fun _ => rfl, fun j e d h => by simp at h⟩
  | e :: l, d :: es, i, h, hsh => by
    simp only [List.map_cons, List.cons.injEq] at h
    obtain ⟨h1, h2⟩ := h
    obtain ⟨g1, g2⟩ := findNow_case hs l es (i + 1) h2 (fun d' hd => hsh d' (by simp [hd]))
    have he : Instr.sameNow kind k.val e.key = some (k.same d.1) := by rw [h1]; exact hs d.1 (hsh d (by simp))
    constructor
    · intro hd
      have h3 := hd d (by simp)
      simp only [Instr.findNow, he, h3]
      exact g1 (fun d' hd' => hd d' (by simp [hd']))
    · intro j e' d' hj hd hsame hbef
      cases j with
      | zero =>
        simp only [List.getElem?_cons_zero, Option.some.injEq] at hj hd
        subst hj; subst hd
        simp only [Instr.findNow, he, hsame]
        rfl
      | succ j =>
        have h3 := hbef 0 (by omega) d rfl
        simp only [Instr.findNow, he, h3]
        rw [g2 j e' d' (by simpa using hj) (by simpa using hd) hsame (fun j' hj' d'' hd'' => hbef (j' + 1) (by omega) d'' (by simpa using hd''))]
        congr 3; omega
  | [], _ :: _, _, h, _ => by simp at h
  | _ :: _, [], _, h, _ => by simp at h
theorem findKey_case {kt : TypeId} {k : Key} (hk : KeyOK P kt k) (w : World) {l : List MapEntry} {es : List (Key × AV)} (h : l.map (·.key) = es.map (fun e => e.1.val)) (hsh : ∀ d ∈ es, d.1.sh = k.sh) :
    ((∀ d ∈ es, k.same d.1 = false) → (Instr.findKey kt k.val l).run P w = .ok none w) ∧
    (∀ j e d, l[j]? = some e → es[j]? = some d → k.same d.1 = true → (∀ j', j' < j → ∀ d, es[j']? = some d → k.same d.1 = false) → (Instr.findKey kt k.val l).run P w = .ok (some (j, e.val)) w) := by
  obtain ⟨kind, hu⟩ := hk.und
  have hcase : (∀ k' : Key, k'.sh = k.sh → Instr.sameNow kind k.val k'.val = some (k.same k')) ∨ ((∀ k' : Key, k'.sh = k.sh → Instr.sameNow kind k.val k'.val = none) ∧ ∀ k' : Key, k'.sh = k.sh → (Op.equal kt k.val k'.val).run P w = .ok (k.same k') w) := by
    by_cases hx : ∃ k' : Key, k'.sh = k.sh ∧ Instr.sameNow kind k.val k'.val = none
    · right
      obtain ⟨k1, hs1, hn1⟩ := hx
      have hall : ∀ k' : Key, k'.sh = k.sh → Instr.sameNow kind k.val k'.val = none := by
        intro k' hs
        cases k <;> cases k1 <;> cases k' <;> simp only [Key.sh, reduceCtorEq] at hs hs1 <;> cases kind <;> simp_all [Instr.sameNow, Key.val]
      refine ⟨hall, fun k' hs => ?_⟩
      rcases hk.same k' w hs with hc | ⟨_, hc⟩
      · have := hc kind hu; rw [hall k' hs] at this; cases this
      · exact hc
    · left
      intro k' hs
      rcases hk.same k' w hs with hc | ⟨hc, _⟩
      · exact hc kind hu
      · exact absurd ⟨k', hs, hc kind hu⟩ hx
  rcases hcase with hs | ⟨hn, hs⟩
  · obtain ⟨a1, a2⟩ := findNow_case hs l es 0 h hsh
    refine ⟨fun hd => ?_, fun j e d h1 h2 h3 h4 => ?_⟩
    · simp [Instr.findKey, run_underlying hu, a1 hd]
    · simp [Instr.findKey, run_underlying hu, a2 j e d h1 h2 h3 h4]
  · obtain ⟨a1, a2⟩ := findAsking_case hk w hs l es 0 h hsh
    cases l with
    | nil =>
      cases es with
      | nil => exact ⟨fun _ => by simp [Instr.findKey, run_underlying hu, Instr.findNow], fun j e d h1 => by simp at h1⟩
      | cons d es => simp at h
    | cons e l =>
      cases es with
      | nil => simp at h
      | cons d es =>
        have he : Instr.findNow kind k.val (e :: l) 0 = none := by
          simp only [List.map_cons, List.cons.injEq] at h
          simp only [Instr.findNow, h.1, hn d.1 (hsh d (by simp))]
        refine ⟨fun hd => ?_, fun j e' d' h1 h2 h3 h4 => ?_⟩
        · simp [Instr.findKey, run_underlying hu, he, a1 hd]
        · have := a2 j e' d' h1 h2 h3 h4
          rw [Nat.zero_add] at this
          simp [Instr.findKey, run_underlying hu, he, this]
theorem keyA_sound (hT : TyOK P T) {eqT : TypeId → Bool} (hE : ∀ t, eqT t = true → EqFact P t) {kt : TypeId} {k : AV} {key : Key} {u : Value} (hr : Rep σ w k u) (h : keyA T eqT kt k = some key) : u = key.val ∧ KeyOK P kt key := by
  unfold keyA at h
  split at h
  · rename_i sz by_ z s ht
    injection h with h; subst h
    simp only [Rep] at hr; subst hr
    have hu := (hT kt _ ht).str rfl
    refine ⟨rfl, ⟨fun b w => by unfold Instr.checkKey; simp [run_underlying hu, Key.val], fun k' w hs => .inl fun kind hk => ?_, _, hu⟩⟩
    rw [hu] at hk; injection hk with hk; subst hk
    cases k' <;> simp only [Key.sh, reduceCtorEq] at hs
    simp only [Key.val, Instr.sameNow, Key.same, beq_bytes]
  · rename_i sz by_ z n ht
    injection h with h; subst h
    simp only [Rep] at hr; subst hr
    have hu := (hT kt _ ht).int rfl
    refine ⟨rfl, ⟨fun b w => by unfold Instr.checkKey; simp [run_underlying hu, Key.val], fun k' w hs => .inl fun kind hk => ?_, _, hu⟩⟩
    rw [hu] at hk; injection hk with hk; subst hk
    cases k' <;> simp only [Key.sh, reduceCtorEq] at hs
    simp only [Key.val, Instr.sameNow, Key.same, if_true]
  · rename_i sz by_ z t1 t2 a b ht
    split at h
    · rename_i s1 b1 z1 s2 b2 z2 ht1 ht2
      split at h
      · rename_i heq
        injection h with h; subst h
        have hq := hE kt heq
        obtain ⟨fa, hu, hm⟩ := (hT kt _ ht).st rfl
        have hfo : P.fieldsOf kt = fa := by simp [Program.fieldsOf, hu]
        have hval : u = Key.val (.pair a b) := by
          simp only [Rep] at hr
          obtain ⟨arr, rfl, h1, h2, h3⟩ := hr
          simp only [RepL, Rep, exists_eq_right, and_true] at h3
          obtain ⟨g1, g2⟩ := h3
          simp only [Key.val, Value.agg.injEq]
          apply Array.ext_getElem?
          intro i
          match i with
          | 0 => simpa using g1
          | 1 => simpa using g2
          | i + 2 => rw [Array.getElem?_eq_none (by simp only [List.length_cons, List.length_nil] at h1; omega)]; simp
        have hu1 := (hT t1 _ ht1).int rfl
        have hu2 := (hT t2 _ ht2).int rfl
        have hag1 : ∀ w, (isAgg t1).run P w = .ok false w := fun w => (hT t1 _ ht1).run_isAgg w
        have hag2 : ∀ w, (isAgg t2).run P w = .ok false w := fun w => (hT t2 _ ht2).run_isAgg w
        refine ⟨hval, ⟨fun bb w => ?_, fun k' w hs => .inr ⟨fun kind hk => ?_, ?_⟩, _, hu⟩⟩
        · obtain ⟨f1, f2, rfl⟩ : ∃ f1 f2, fa = #[f1, f2] := by
            have := congrArg List.length hm
            simp only [List.length_map, Array.length_toList, List.length_cons, List.length_nil] at this
            exact ⟨fa[0], fa[1], Array.ext (by simpa using this) fun i h1 h2 => by
              have : i = 0 ∨ i = 1 := by simp at h2; omega
              rcases this with rfl | rfl <;> rfl⟩
          simp only [List.map_cons, List.map_nil, List.cons.injEq, Prod.mk.injEq, and_true] at hm
          obtain ⟨⟨e1, e2⟩, e3, e4⟩ := hm
          unfold Instr.checkKey
          have hp1 : (part t1 #[Value.int .i64 a, .int .i64 b] 0).run P w = .ok (.int .i64 a) w := by simp [part, hag1 w]
          have hp2 : (part t2 #[Value.int .i64 a, .int .i64 b] 1).run P w = .ok (.int .i64 b) w := by simp [part, hag2 w]
          have hc1 : (Instr.checkKey bb 9999 t1 (.int .i64 a)).run P w = .ok () w := by unfold Instr.checkKey; simp [run_underlying hu1]
          have hc2 : (Instr.checkKey bb 9999 t2 (.int .i64 b)).run P w = .ok () w := by unfold Instr.checkKey; simp [run_underlying hu2]
          simp [run_underlying hu, Key.val, e1, e2, e3, e4, hp1, hp2, hc1, hc2]
        · rw [hu] at hk; injection hk with hk; subst hk
          cases k' <;> simp only [Key.sh, reduceCtorEq] at hs
          simp only [Key.val, Instr.sameNow]
        · cases k' <;> simp only [Key.sh, reduceCtorEq] at hs
          rename_i c d
          have hrx : ∀ x y : Int, RepL σ w [.v (.int .i64 x), .v (.int .i64 y)] (fun i => (#[Value.int .i64 x, .int .i64 y] : Array Value)[i]?) := fun x y => by simp [RepL, Rep]
          have hc : cellsEqA T [(0, t1), (1, t2)] [.v (.int .i64 a), .v (.int .i64 b)] [.v (.int .i64 c), .v (.int .i64 d)] = some ((a == c) && ((b == d) && true)) := by
            simp [cellsEqA, ht1, ht2]
          have hrun : (Op.equalIn 10000 kt (.agg #[.int .i64 a, .int .i64 b]) (.agg #[.int .i64 c, .int .i64 d])).run P w = .ok ((a == c) && ((b == d) && true)) w := by
            rw [run_equalIn_struct (P := P) w 9999 kt _ _ (by rw [hfo]; exact hu) hq.held, hfo]
            rw [← hm] at hc
            exact cellsEqA_sound hT 9998 fa.toList _ _ _ _ _ (fun f hf => by have := List.all_eq_true.1 hq.names f (by rw [hfo]; exact hf); simpa using this) (hrx a b) (hrx c d) hc
          simp only [Key.val, Key.same, Op.equal, Op.maxDepth]
          rw [hrun, Bool.and_true]
      · cases h
    · cases h
  · cases h
theorem map_block (hi : Inv B0 S0 w H σ) {id : Nat} {sh : KSh} {et : TypeId} {es : List (Key × AV)} (hH : H id = some (.mp (.map sh) et es)) {u : Value} (hr : Rep σ w (.map id) u) :
    ∃ b clock, ∃ xs : Array MapEntry, u = .map (some b) ∧ σ.cur id = some b ∧ σ.own b = some id ∧ ¬ σ.S b ∧ w.heap[b]? = some (.map xs clock) ∧ xs.toList.map (·.key) = es.map (fun e => e.1.val) ∧ (∀ d ∈ es, d.1.sh = sh) ∧ RepL σ w (es.map (·.2)) (fun i => (xs[i]?).map (·.val)) := by
  simp only [Rep] at hr
  obtain ⟨b, rfl, hown⟩ := hr
  have hm := hi.mp id (.map sh) et es hH
  obtain ⟨b', clock, xs, a1, a2, a3, a4, ⟨a5, a5'⟩, a6⟩ := hm.cur
  have := (hm.one b hown).1
  rw [a1] at this; injection this with this; subst this
  exact ⟨b', clock, xs, rfl, a1, a2, a3.1 rfl, a4, a5, fun d hd => a5' d.1 (List.mem_map.2 ⟨d, hd, rfl⟩), a6⟩
theorem look_core (hT : TyOK P T) {t kt et : TypeId} {sz by_ : Nat} {z0 : List AV} (ht : T t = some { size := sz, bytes := by_, zero := z0, d := .map kt et }) {s1 b1 : Nat} {z : AV} {d : TyD} (het : T et = some { size := s1, bytes := b1, zero := [z], d := d }) (hag1 : d.isAgg = false)
    {key : Key} (hko : KeyOK P kt key) {b clock : Nat} {xs : Array MapEntry} {es : List (Key × AV)} (a4 : w.heap[b]? = some (.map xs clock)) (a5 : xs.toList.map (·.key) = es.map (fun e => e.1.val)) (a5' : ∀ d ∈ es, d.1.sh = key.sh) (a6 : RepL σ w (es.map (·.2)) (fun i => (xs[i]?).map (·.val))) {ok : Bool} :
    ∃ v, (Instr.lookup t (.map (some b)) key.val ok).run P w = .ok v w ∧ Rep σ w (pickM z ok (findM key es)) v := by
  have hu := (hT t _ ht).map rfl
  obtain ⟨zv, hz, hzv⟩ := (hT et _ het).run_zero1 w hag1 rfl
  have hobj : (getObj b).run P w = .ok (.map xs clock) w := MapKept.run_getObj_map a4
  obtain ⟨f1, f2⟩ := findKey_case hko w a5 a5'
  rcases keys_case key .junk xs.toList es 0 a5 with ⟨b1, _, b3⟩ | ⟨j, x, e, b1, b3, b4, b5, ⟨d', b6, b7⟩, b8, _⟩
  · rw [b1]
    simp only [pickM]
    refine ⟨if ok then .tuple #[zv, .bool false] else zv, ?_, ?_⟩
    · simp [Instr.lookup, run_underlying hu, hobj, hko.check, f1 b3, hz]
    · subst hzv
      cases ok
      · rfl
      · simp only [if_true, Rep]; exact ⟨_, rfl, rfl, by simp [RepL, Rep]⟩
  · rw [b1]
    simp only [pickM]
    have hx : Rep σ w x e.val := by
      rw [repL_iff'] at a6
      obtain ⟨u, hu, hr⟩ := a6 j x b4
      rw [Array.getElem?_toList] at b3
      simp only [b3, Option.map_some, Option.some.injEq] at hu
      subst hu; exact hr
    refine ⟨if ok then .tuple #[e.val, .bool true] else e.val, ?_, ?_⟩
    · simp [Instr.lookup, run_underlying hu, hobj, hko.check, f2 j e d' b3 b6 b7 b8]
    · cases ok
      · exact hx
      · simp only [if_true, Rep]; exact ⟨_, rfl, rfl, by simp [RepL, Rep, hx]⟩
theorem lookupA_sound (hT : TyOK P T) {eqT : TypeId → Bool} (hE : ∀ t, eqT t = true → EqFact P t) (hi : Inv B0 S0 w H σ) {t : TypeId} {m k r : AV} {um uk : Value} {ok : Bool} (hm : Rep σ w m um) (hk : Rep σ w k uk) (h : lookupA T eqT H t m k ok = some r) :
    ∃ v, (Instr.lookup t um uk ok).run P w = .ok v w ∧ Rep σ w r v := by
  unfold lookupA at h
  split at h
  · rename_i sz by_ z kt et id ht
    split at h
    · rename_i key _ _ z d sh _ es hkey het hH
      split at h
      · cases h
      · rename_i hag
        have hag1 : d.isAgg = false := by simpa using (not_or.1 hag).1
        have hsh : key.sh = sh := by simpa using (not_or.1 hag).2
        injection h with h; subst h
        obtain ⟨rfl, hko⟩ := keyA_sound hT hE hk hkey
        obtain ⟨b, clock, xs, rfl, a1, a2, a3, a4, a5, a5', a6⟩ := map_block hi hH hm
        exact look_core hT ht het hag1 hko a4 a5 (fun d hd => (a5' d hd).trans hsh.symm) a6
    · cases h
  · rename_i sz by_ z kt et sh ks vs ht
    split at h
    · rename_i key _ _ z d hkey het
      split at h
      · cases h
      · rename_i hag
        have hag1 : d.isAgg = false := by simpa using (not_or.1 hag).1
        have hsh : key.sh = sh := by simpa using (not_or.1 hag).2
        injection h with h; subst h
        obtain ⟨rfl, hko⟩ := keyA_sound hT hE hk hkey
        simp only [Rep] at hm
        obtain ⟨b, clock, xs, rfl, _, a4, a5, a5', a7, a6⟩ := hm
        have e1 : (ks.zip vs).map (·.1) = ks := by rw [List.map_fst_zip (by omega)]
        have e2 : (ks.zip vs).map (·.2) = vs := by rw [List.map_snd_zip (by omega)]
        refine look_core hT ht het hag1 hko a4 (es := ks.zip vs) ?_ (fun d hd => ?_) ?_
        · rw [a5, ← e1, List.map_map]; simp [e1]
        · exact (a5' d.1 (by rw [← e1]; exact List.mem_map.2 ⟨d, hd, rfl⟩)).trans hsh.symm
        · rw [e2]; exact RepL.mono (Le.of_pure σ w) _ _ _ (fun _ _ h => h) a6
    · cases h
  · cases h
theorem unA_sound {op : UnOp} {x r : AV} {u : Value} (hr : Rep σ w x u) (h : unA op x = some r) : ∃ v, (Op.unary op u).run P w = .ok v w ∧ Rep σ w r v := by
  unfold unA at h
  split at h
  · injection h with h; subst h
    simp only [Rep] at hr; subst hr
    exact ⟨_, by simp only [Op.unary]; rfl, rfl⟩
  · injection h with h; subst h
    simp only [Rep] at hr; subst hr
    exact ⟨_, by simp only [Op.unary, Op.intArith]; rfl, rfl⟩
  · cases h
theorem convA_sound (hT : TyOK P T) {src dst : TypeId} {x r : AV} {u : Value} (hr : Rep σ w x u) (h : convA T src dst x = some r) : ∃ v, (convert src dst u).run P w = .ok v w ∧ Rep σ w r v := by
  unfold convA at h
  split at h
  · rename_i ys k kk n hs hd
    injection h with h; subst h
    simp only [Rep] at hr; subst hr
    obtain ⟨ds, h1, _⟩ := (hT src _ hs).desc
    exact ⟨_, by simp only [convert, Sem.run_bind, run_underlying h1, run_underlying ((hT dst _ hd).int rfl), Result.andThen_ok]; rfl, rfl⟩
  · rename_i ys s hs hd
    injection h with h; subst h
    simp only [Rep] at hr; subst hr
    obtain ⟨ds, h1, _⟩ := (hT src _ hs).desc
    refine ⟨.string s, ?_, rfl⟩
    simp only [convert, Sem.run_bind, run_underlying h1, run_underlying ((hT dst _ hd).str rfl), Result.andThen_ok]
    cases ds <;> rfl
  · cases h
theorem minA_sound {b : Builtin} {t : TypeId} {tys : Array TypeId} {xs : List AV} {us : List Value} {r : AV} (hb : b = .min ∨ b = .max) (hl : us.length = xs.length) (hr : RepL σ w xs (fun i => us[i]?)) (h : minA b xs = some r) :
    ∃ v, (∀ cs, (builtin b tys t cs us.toArray).run P w = .ok (.value v) w) ∧ Rep σ w r v := by
  unfold minA at h
  split at h
  · rename_i k a k' c
    split at h
    · rename_i hk; subst hk
      match us, hl with
      | [u1, u2], _ =>
        simp only [RepL, List.getElem?_cons_zero, Option.some.injEq, exists_eq_left', List.getElem?_cons_succ, and_true, Rep] at hr
        obtain ⟨rfl, rfl⟩ := hr
        rcases hb with rfl | rfl
        · simp only [Option.some.injEq] at h; subst h
          exact ⟨_, fun cs => by simp [builtin, Builtin.min_, Builtin.min2], rfl⟩
        · simp only [Option.some.injEq] at h; subst h
          exact ⟨_, fun cs => by simp [builtin, Builtin.max_, Builtin.max2], rfl⟩
    · cases h
  · cases h
end
end Go.Pg

namespace Go.Pg
open Go Go.RowKit
def spliceL (cs : List AV) (off : Nat) (ds : List AV) : List AV := cs.take off ++ ds ++ cs.drop (off + ds.length)
def fillA (place : Nat → Option (Nat × Nat)) : List AV → List (Nat × AV) → Option (List AV)
  | cs, [] => some cs
  | cs, (i, x) :: rest => match place i, cellsA x with
    | some (off, size), some ds => if ds.length = size ∧ off + size ≤ cs.length then fillA place (spliceL cs off ds) rest else none
    | _, _ => none
def normC : AV → AV
  | .v (.slice none 0 0) => .lst []
  | x => x
theorem normC_rep {σ : Sg} {w : World} {c : AV} {u : Value} (h : Rep σ w c u) : Rep σ w (normC c) u := by
  unfold normC
  split
  · simp only [Rep] at h ⊢; subst h
    exact ⟨none, 0, 0, rfl, by simp, by simp [maxLen], by simp, by simp⟩
  · exact h
theorem normC_cell {c : AV} (h : c.cell = true) : (normC c).cell = true := by
  unfold normC
  split
  · rfl
  · exact h
theorem normL_rep {σ : Sg} {w : World} {cs : List AV} {f : Nat → Option Value} (h : RepL σ w cs f) : RepL σ w (cs.map normC) f := by
  rw [repL_iff'] at h ⊢
  intro i c hc
  simp only [List.getElem?_map, Option.map_eq_some_iff] at hc
  obtain ⟨d, hd, rfl⟩ := hc
  obtain ⟨u, hu, hr⟩ := h i d hd
  exact ⟨u, hu, normC_rep hr⟩
def fillE (size : Nat) : List (List AV) → List (Nat × AV) → Option (List (List AV))
  | es, [] => some es
  | es, (i, x) :: rest => match cellsA x with
    | some ds => if ds.length = size ∧ i < es.length then fillE size (es.set i (ds.map normC)) rest else none
    | none => none
theorem spliceL_get (cs : List AV) (off : Nat) (ds : List AV) (h : off + ds.length ≤ cs.length) (j : Nat) :
    (spliceL cs off ds)[j]? = if off ≤ j ∧ j < off + ds.length then ds[j - off]? else cs[j]? := by
  have ht : (cs.take off).length = off := by simp; omega
  unfold spliceL
  rw [List.append_assoc, List.getElem?_append, ht]
  by_cases h1 : j < off
  · rw [if_pos h1, if_neg (by omega), List.getElem?_take, if_pos h1]
  · rw [if_neg h1, List.getElem?_append]
    by_cases h2 : j < off + ds.length
    · rw [if_pos (by omega), if_pos (by omega)]
    · rw [if_neg (by omega), if_neg (by omega), List.getElem?_drop]
      congr 1; omega
theorem fold_set (off : Nat) : ∀ (l : List Value) (s : Nat) (cells : Array Value),
    ((l.zipIdx s).foldl (fun (cs : Array Value) p => cs.setIfInBounds (off + p.2) p.1) cells).size = cells.size ∧
    ∀ i, ((l.zipIdx s).foldl (fun (cs : Array Value) p => cs.setIfInBounds (off + p.2) p.1) cells)[i]? = if off + s ≤ i ∧ i < off + s + l.length ∧ i < cells.size then l[i - (off + s)]? else cells[i]? := by
  intro l
  induction l with
  | nil => intro s cells; exact ⟨rfl, fun i => by simp; omega⟩
  | cons v l ih =>
    intro s cells
    simp only [List.zipIdx_cons, List.foldl_cons]
    obtain ⟨h1, h2⟩ := ih (s + 1) (cells.setIfInBounds (off + s) v)
    refine ⟨by rw [h1]; simp, fun i => ?_⟩
    rw [h2]
    simp only [Array.size_setIfInBounds, Array.getElem?_setIfInBounds, List.length_cons]
    by_cases hi : i < cells.size
    · by_cases h3 : i = off + s
      · subst h3
        rw [if_neg (by omega), if_pos (by omega), if_pos (by omega)]
        simp [hi]
      · by_cases h4 : off + s ≤ i ∧ i < off + s + (l.length + 1)
        · rw [if_pos (by omega), if_pos (by omega)]
          have : i - (off + s) = (i - (off + (s + 1))) + 1 := by omega
          rw [this, List.getElem?_cons_succ]
        · rw [if_neg (by omega), if_neg (by omega), if_neg (by omega)]
    · have hn : cells[i]? = none := Array.getElem?_eq_none (by omega)
      simp only [hi, and_false, if_false, hn]
      split
      · rw [if_neg (by omega)]
      · rfl
theorem foldCells (v : Value) (off : Nat) (cells : Array Value) :
    (v.cells.zipIdx.foldl (fun cs (c, j) => cs.setIfInBounds (off + j) c) cells).size = cells.size ∧
    ∀ i, (v.cells.zipIdx.foldl (fun cs (c, j) => cs.setIfInBounds (off + j) c) cells)[i]? = if off ≤ i ∧ i < off + v.cells.size ∧ i < cells.size then v.cells[i - off]? else cells[i]? := by
  have h := fold_set off v.cells.toList 0 cells
  have e : v.cells.zipIdx.foldl (fun cs (c, j) => cs.setIfInBounds (off + j) c) cells = (v.cells.toList.zipIdx 0).foldl (fun (cs : Array Value) p => cs.setIfInBounds (off + p.2) p.1) cells := by
    rw [← Array.foldl_toList, Array.toList_zipIdx]
  rw [e]
  simpa using h
section
variable {P : Program} {T : TypeId → Option Ty} {B0 : Nat} {S0 : Fr} {w : World} {H : Nat → Option AO} {σ : Sg}
theorem fillA_sound {place : Nat → Option (Nat × Nat)} : ∀ (parts : List (Nat × AV)) (vs : List (Nat × Value)) (cs : List AV) (arr : Array Value) (r : List AV),
    vs.length = parts.length → (∀ i (h : i < parts.length) (h' : i < vs.length), vs[i].1 = parts[i].1 ∧ Rep σ w parts[i].2 vs[i].2) →
    arr.size = cs.length → (∀ c ∈ cs, c.cell = true) → RepL σ w cs (fun i => arr[i]?) → fillA place cs parts = some r →
    ∃ arr' : Array Value, Instr.fill place arr vs = some arr' ∧ arr'.size = r.length ∧ (∀ c ∈ r, c.cell = true) ∧ RepL σ w r (fun i => arr'[i]?)
  | [], [], cs, arr, r, _, _, h1, h2, h3, h => by
    simp only [fillA, Option.some.injEq] at h; subst h
    exact ⟨arr, rfl, h1, h2, h3⟩
  | (i, x) :: parts, (i', v) :: vs, cs, arr, r, hlen, hv, h1, h2, h3, h => by
    have h0 := hv 0 (by simp) (by simp)
    simp only [List.getElem_cons_zero] at h0
    obtain ⟨rfl, hrx⟩ := h0
    simp only [fillA] at h
    split at h
    · rename_i off size ds hpl hds
      split at h
      · rename_i hc
        obtain ⟨e1, e2, e3, e4⟩ := cellsA_spec hds hrx
        obtain ⟨f1, f2⟩ := foldCells v off arr
        have hsz : (spliceL cs off ds).length = cs.length := by simp [spliceL]; omega
        obtain ⟨arr', g1, g2, g3, g4⟩ := fillA_sound parts vs (spliceL cs off ds) (v.cells.zipIdx.foldl (fun cs (c, j) => cs.setIfInBounds (off + j) c) arr) r (by simpa using hlen)
          (fun j a b => by have := hv (j + 1) (by simp; omega) (by simp; omega); simpa using this)
          (by rw [f1, hsz, h1])
          (fun c hcm => by
            simp only [spliceL, List.mem_append] at hcm
            rcases hcm with (hcm | hcm) | hcm
            · exact h2 c (List.mem_of_mem_take hcm)
            · exact e2 c hcm
            · exact h2 c (List.mem_of_mem_drop hcm))
          (by
            rw [repL_iff'] at h3 e3 ⊢
            intro j c hj
            rw [spliceL_get cs off ds (by omega)] at hj
            rw [f2]
            split at hj
            · rename_i hin
              obtain ⟨u, hu, hr⟩ := e3 _ c hj
              exact ⟨u, by rw [if_pos ⟨hin.1, by omega, by omega⟩]; exact hu, hr⟩
            · rename_i hin
              obtain ⟨u, hu, hr⟩ := h3 _ c hj
              exact ⟨u, by rw [if_neg (by omega)]; exact hu, hr⟩)
          h
        refine ⟨arr', ?_, g2, g3, g4⟩
        simp only [Instr.fill, hpl]
        rw [if_neg (by simp; omega)]
        exact g1
      · cases h
    · cases h
  | [], _ :: _, _, _, _, hl, _, _, _, _, _ => by simp at hl
  | _ :: _, [], _, _, _, hl, _, _, _, _, _ => by simp at hl
def ElemsIn (σ : Sg) (w : World) (k : Nat) (es : List (List AV)) (arr : Array Value) : Prop :=
  arr.size = es.length * k ∧ (∀ e ∈ es, e.length = k ∧ ∀ c ∈ e, c.cell = true) ∧ ∀ i (h : i < es.length), RepL σ w es[i] (fun j => arr[i * k + j]?)
theorem fillE_sound {k : Nat} (hk : 0 < k) : ∀ (parts : List (Nat × AV)) (vs : List (Nat × Value)) (es : List (List AV)) (arr : Array Value) (r : List (List AV)),
    vs.length = parts.length → (∀ i (h : i < parts.length) (h' : i < vs.length), vs[i].1 = parts[i].1 ∧ Rep σ w parts[i].2 vs[i].2) →
    ElemsIn σ w k es arr → fillE k es parts = some r →
    ∃ arr' : Array Value, Instr.fill (fun i => some (i * k, k)) arr vs = some arr' ∧ ElemsIn σ w k r arr' ∧ r.length = es.length
  | [], [], es, arr, r, _, _, h1, h => by
    simp only [fillE, Option.some.injEq] at h; subst h
    exact ⟨arr, rfl, h1, rfl⟩
  | (i, x) :: parts, (i', v) :: vs, es, arr, r, hlen, hv, ⟨h1, h2, h3⟩, h => by
    have h0 := hv 0 (by simp) (by simp)
    simp only [List.getElem_cons_zero] at h0
    obtain ⟨rfl, hrx⟩ := h0
    simp only [fillE] at h
    split at h
    · rename_i ds hds
      split at h
      · rename_i hc
        obtain ⟨e1, e2, e3, e4⟩ := cellsA_spec hds hrx
        obtain ⟨f1, f2⟩ := foldCells v (i' * k) arr
        have hle : i' * k + k ≤ arr.size := by
          rw [h1]
          have : (i' + 1) * k ≤ es.length * k := Nat.mul_le_mul_right _ (by omega)
          rw [Nat.add_mul] at this; omega
        obtain ⟨arr', g1, g2, g3⟩ := fillE_sound hk parts vs (es.set i' (ds.map normC)) (v.cells.zipIdx.foldl (fun cs (c, j) => cs.setIfInBounds (i' * k + j) c) arr) r (by simpa using hlen)
          (fun j a b => by have := hv (j + 1) (by simp; omega) (by simp; omega); simpa using this)
          ⟨by rw [f1]; simpa using h1, fun e he => by
              rcases List.mem_or_eq_of_mem_set he with he | rfl
              · exact h2 e he
              · exact ⟨by simpa using hc.1, fun c hc' => by
                  simp only [List.mem_map] at hc'
                  obtain ⟨d, hd, rfl⟩ := hc'
                  exact normC_cell (e2 d hd)⟩, fun j hj => by
              simp only [List.length_set] at hj
              rw [List.getElem_set]
              split
              · rename_i he
                subst he
                refine RepL.congr (fun m hm => ?_) (normL_rep e3)
                rw [List.length_map] at hm
                rw [f2, if_pos ⟨by omega, by omega, by omega⟩]
                congr 1; omega
              · rename_i hne
                refine RepL.congr (fun m hm => ?_) (h3 j hj)
                rw [(h2 _ (List.getElem_mem hj)).1] at hm
                rw [f2, if_neg]
                intro ⟨a1, a2, _⟩
                have : v.cells.size = k := by omega
                rcases Nat.lt_or_gt_of_ne hne with hlt | hgt
                · have : (i' + 1) * k ≤ j * k := Nat.mul_le_mul_right _ hlt
                  rw [Nat.add_mul] at this; omega
                · have : (j + 1) * k ≤ i' * k := Nat.mul_le_mul_right _ hgt
                  rw [Nat.add_mul] at this; omega⟩
          h
        refine ⟨arr', ?_, g2, by simpa using g3⟩
        simp only [Instr.fill]
        rw [if_neg (by simp; omega)]
        exact g1
      · cases h
    · cases h
  | [], _ :: _, _, _, _, hl, _, _, _ => by simp at hl
  | _ :: _, [], _, _, _, hl, _, _, _ => by simp at hl
theorem made_at (z : Array Value) (n k i j : Nat) (hz : z.size = k) (hi : i < n) (hj : j < k) :
    (((Array.range (n * k)).map (z[· % z.size]!) : Array Value)[i * k + j]?) = z[j]? := by
  have hlt : i * k + j < n * k := by
    have : (i + 1) * k ≤ n * k := Nat.mul_le_mul_right _ hi
    rw [Nat.add_mul] at this; omega
  have hmod : (i * k + j) % z.size = j := by rw [hz, Nat.mul_comm, Nat.mul_add_mod]; exact Nat.mod_eq_of_lt hj
  rw [Array.getElem?_eq_getElem (by simpa using hlt), Array.getElem?_eq_getElem (by omega)]
  simp only [Array.getElem_map, Array.getElem_range, hmod]
  rw [getElem!_pos z j (by omega)]
theorem made_elems {t : TypeId} {y : Ty} (hf : TyFact P t y) {z : Value} (hz : z.cells.toList.map const1 = y.zero) (n : Nat) :
    ElemsIn σ w y.size (List.replicate n y.zero) ((Array.range (n * y.size)).map (z.cells[· % z.cells.size]!)) := by
  have hzs : z.cells.size = y.size := by rw [← hf.size, ← hz]; simp
  refine ⟨by simp, fun e he => ?_, fun i hi => ?_⟩
  · rw [List.mem_replicate] at he
    rw [he.2]
    exact ⟨hf.size, fun c hc => List.all_eq_true.1 hf.cell c hc⟩
  · simp only [List.length_replicate] at hi
    rw [List.getElem_replicate]
    have h0 := repL_const1 σ w z.cells.toList
    rw [hz] at h0
    refine RepL.congr (fun j hj => ?_) h0
    rw [hf.size] at hj
    rw [made_at _ _ _ _ _ hzs hi hj]
    simp
def putH (H : Nat → Option AO) (key : Nat) : Option Row → Nat → Option AO
  | none => H
  | some r => updH H key (.row r)
def Does (P : Program) (B0 : Nat) (S0 : Fr) (w : World) (H : Nat → Option AO) (σ : Sg) (key : Nat) (x : Sem Value) (r : AV) (nr : Option Row) : Prop :=
  ∃ v w' σ', x.run P w = .ok v w' ∧ Below B0 w w' ∧ Le σ σ' w w' ∧ Inv B0 S0 w' (putH H key nr) σ' ∧ Rep σ' w' r v
theorem Does.quiet (hi : Inv B0 S0 w H σ) {key : Nat} {x : Sem Value} {r : AV} (h : ∃ v, x.run P w = .ok v w ∧ Rep σ w r v) : Does P B0 S0 w H σ key x r none := by
  obtain ⟨v, h1, h2⟩ := h
  exact ⟨v, w, σ, h1, Below.refl _ _, hi.le_heap (fun _ _ => rfl), hi, h2⟩
theorem Does.push (hi : Inv B0 S0 w H σ) (hB : B0 ≤ w.heap.size) {key : Nat} (hf : H key = none) {k : Nat} {es : List (List AV)} {t : TypeId} {arr : Array Value} {x : Sem Value} {r : AV} {v : Value}
    (hE : ElemsIn σ w k es arr) (hlen : es.length ≤ maxLen)
    (hrun : x.run P w = .ok v (w.alloc (.cells arr t)))
    (hv : (r = .ref key 0 es.length ∧ v = .slice (some ⟨w.heap.size, 0, none⟩) es.length es.length) ∨ (r = .ptr key 0 0 1 ∧ es.length = 1 ∧ v = .pointer (some ⟨w.heap.size, 0, none⟩))) :
    Does P B0 S0 w H σ key x r (some { k := k, es := es, ty := t }) := by
  obtain ⟨h1, h2, h3⟩ := hE
  have hinv := hi.push hf hB { k := k, es := es, ty := t } es.length arr (Nat.le_refl _) hlen h1 rfl rfl h2 h3
  refine ⟨v, w.alloc (.cells arr t), _, hrun, (Below.refl _ _).alloc hB _, hi.le_push hf _, hinv, ?_⟩
  rcases hv with ⟨rfl, rfl⟩ | ⟨rfl, hone, rfl⟩
  · simp only [Rep]
    refine ⟨.inl rfl, some ⟨w.heap.size, 0, none⟩, es.length, rfl, Nat.le_refl _, hlen, fun hn => ⟨w.heap.size, by simp [Sg.push], by simp [Sg.push], by simp [Sg.push]⟩, fun _ _ => .inr ⟨w.heap.size, by simp [Sg.push], rfl, by simp [Sg.push]⟩⟩
  · simp only [Rep]
    exact ⟨w.heap.size, by simp [Sg.push], by simp [Sg.push], by omega, by simp [Sg.push, hone]⟩
end
end Go.Pg
