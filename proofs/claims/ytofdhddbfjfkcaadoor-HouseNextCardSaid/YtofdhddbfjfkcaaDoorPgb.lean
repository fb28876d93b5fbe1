/-
  append as a step; a function's beginning and end. Conditions: the table of types is the program's.
-/
import Derived.OrdersIn
import Derived.ChangeMaps5
import Derived.LoopNIn
import Derived.Lib.AppendStr
import Derived.Test.YtofdhddbfjfkcaaDoorPga
set_option linter.unusedVariables false
set_option linter.unusedSimpArgs false
namespace Go.Pg
open Go Go.RowKit

section
variable {C : Cx} {N : Nat} {Q : Exit → St → Prop} {s : St} {ops : Array Oper} {rest : List Oper} {o : Oper}

def appRow (r : Row) (n : Nat) (news : List (List AV)) : Row := { r with es := r.es ++ news, lo := if news.isEmpty then r.lo else r.es.length + n }

theorem frz'_row {H : Nat → Option AO} {ids : List Nat} {id : Nat} (h : id ∉ ids) : frz' H ids id = H id := by
  unfold frz'
  split
  · rfl
  · unfold frz; rw [if_neg h]

theorem AWL.append (hC : C.OK) (hg : o.guard = none) {d : Nat} (hd : o.dst = some d) (hN : d < N) {x1 x2 : Operand} {t : TypeId} (ho : o.op = .call { callee := .builtin .append, args := #[x1, x2], argTypes := #[t, t] })
    {e : TypeId} {ty y : Ty} (ht : C.T t = some ty) (hte : ty.d = .slice e) (hy : C.T e = some y) (hk0 : 0 < y.size) {key id nx : Nat} {r : Row} (hkey : key = s.nx ∨ s.H key = none) (hdst : dstA s key (s.ev x1) y e = some (id, r, nx))
    {es news : List (List AV)} (hsrc : srcA s.H (s.ev x2) = some es) (hlen : ∀ e ∈ es, e.length = y.size) (hv : viewLL s.H es = some news) (hid : id ∉ idsLL es)
    (hb : (r.es.length + es.length) * y.bytes ≤ 140737488355328) (hm : r.es.length + es.length ≤ 140737488355328)
    (k : AWL C N ops Q rest { tm := upd s.tm d (.ref id 0 (r.es.length + es.length)), H := updH (frz' s.H (idsLL es)) id (.row (appRow r es.length news)), nx := nx }) : AWL C N ops Q (o :: rest) s := by
  rintro S0 w0 a w hE ⟨σ, hσ⟩
  have hd1 := hσ.ev x1
  -- the destination's row is there
  have hstep1 : ∃ σ1 H1, Le σ σ1 w w ∧ Inv w0.heap.size S0 w H1 σ1 ∧ (∀ i, i ≠ id → H1 i = s.H i) ∧ (H1 id = some (.row r)) ∧ Rep σ1 w (.ref id 0 r.es.length) (a.eval x1) ∧ r.fro = false ∧ r.k = y.size ∧ r.ty = e ∧ (∀ i, nx ≤ i → H1 i = none) := by
    unfold dstA at hdst
    split at hdst
    · rename_i hx
      injection hdst with hdst
      simp only [Prod.mk.injEq] at hdst
      obtain ⟨rfl, rfl, rfl⟩ := hdst
      rw [hx] at hd1
      simp only [Rep] at hd1
      have hf : s.H key = none := by
        rcases hkey with h | h
        · rw [h]; exact hσ.nx s.nx (Nat.le_refl _)
        · exact h
      have had := hσ.inv.adopt hf { k := y.size, es := [], ty := e } rfl rfl rfl
      refine ⟨_, _, had.1, had.2, fun i hi => by simp only [updH]; rw [if_neg hi], by simp [updH], ?_, rfl, rfl, rfl, fun i hi => ?_⟩
      · rw [hd1]
        simp only [Rep]
        exact ⟨.inl rfl, none, 0, rfl, Nat.le_refl _, by simp [maxLen], fun h => absurd rfl h, fun _ _ => .inl ⟨by simp [Sg.adopt], rfl, rfl, rfl⟩⟩
      · simp only [updH]; rw [if_neg (by omega)]; exact hσ.nx i (by omega)
    · rename_i id' n hx
      split at hdst
      · rename_i r' hrow
        split at hdst
        · rename_i hc
          obtain ⟨c1, c2, c3, c4⟩ := hc
          injection hdst with hdst
          simp only [Prod.mk.injEq] at hdst
          obtain ⟨rfl, rfl, rfl⟩ := hdst
          rw [hx, c1] at hd1
          exact ⟨σ, s.H, hσ.inv.le_heap (fun _ _ => rfl), hσ.inv, fun _ _ => rfl, rowAt_eq hrow, hd1, c2, c3, c4, hσ.nx⟩
        · cases hdst
      · cases hdst
    · cases hdst
  obtain ⟨σ1, H1, l1, i1, ho1, hH1, hr1, hf1, hk1, hty1, hnx1⟩ := hstep1
  obtain ⟨A, c, k', hx2, hea, hss⟩ := srcA_sound hσ.inv (hσ.ev x2) hsrc
  -- what the elements name is frozen
  have hrows : ∀ i ∈ idsLL es, ∃ r, rowAt H1 i = some r := fun i hi => by
    obtain ⟨r', hr'⟩ := idsLL_row _ _ hv i hi
    have hne : i ≠ id := fun e => hid (e ▸ hi)
    refine ⟨r', ?_⟩
    unfold rowAt at hr' ⊢
    rw [ho1 i hne]; exact hr'
  obtain ⟨hvl, hvg⟩ := viewLL_get _ _ hv
  let σ2 := σ1.frz (idsLL es)
  have i2' := i1.frz hrows
  have l2' := i1.le_frz (idsLL es)
  have i2 : Inv w0.heap.size S0 w (frz' H1 (idsLL es)) σ2 := by
    unfold frz'
    split
    · rename_i he
      have : idsLL es = [] := by simpa using he
      have e1 : σ2 = σ1 := by
        show σ1.frz (idsLL es) = σ1
        rw [this]
        unfold Sg.frz
        congr 1
        funext b; simp
      rw [e1]; exact i1
    · exact i2'
  have l12 : Le σ σ2 w w := ⟨fun b h => .inl (l1.S b h), fun _ _ => rfl, fun b i h => ⟨(l1.own b i h).1, (l1.own b i h).2⟩, l1.al, l1.obj⟩
  have hH2 : frz' H1 (idsLL es) id = some (.row r) := by rw [frz'_row hid]; exact hH1
  have hr2 : Rep σ2 w (.ref id 0 r.es.length) (a.eval x1) := Rep.mono l2' _ _ hr1
  have heach : ∀ e ∈ news, e.length = y.size ∧ ∀ c ∈ e, c.cell = true := by
    intro e' he'
    obtain ⟨i, hi, rfl⟩ := List.getElem_of_mem he'
    have hi' : i < es.length := by omega
    have hve := hvg i hi' hi
    have hmem := List.getElem_mem hi'
    by_cases hne : es = []
    · subst hne; simp at hi'
    · obtain ⟨b, o', _, hR⟩ := hss hne
      obtain ⟨g1, g2, _⟩ := viewL_sound hσ.inv (S' := fun _ => True) (fun _ _ => trivial) _ _ _ hve (fun _ _ _ _ => trivial) (hR i hi')
      exact ⟨by rw [← g1]; exact hlen _ hmem, g2 (hea _ hmem).2⟩
  have hsrc2 : news ≠ [] → ∃ b o, A = some ⟨b, o, none⟩ ∧ ∀ i (h : i < news.length), RepL σ2 w news[i] (fun j => w.cell? ⟨b, o + i * y.size + j, none⟩) := by
    intro hne
    have hne' : es ≠ [] := fun e => by subst e; simp at hvl; exact hne (List.eq_nil_of_length_eq_zero hvl.symm)
    obtain ⟨b, o', rfl, hR⟩ := hss hne'
    have hk' : k' = y.size := by
      obtain ⟨x, xs, rfl⟩ := List.exists_cons_of_ne_nil hne'
      rw [← (hea x (by simp)).1, hlen x (by simp)]
    refine ⟨b, o', rfl, fun i hi => ?_⟩
    have hi' : i < es.length := by omega
    have hve := hvg i hi' hi
    obtain ⟨_, _, g3⟩ := viewL_sound hσ.inv (S' := fun b => σ.S b ∨ ∃ id, id ∈ idsLL es ∧ σ.own b = some id) (fun b h => .inl h) _ _ _ hve (fun id hid b hb => .inr ⟨id, idsLL_mem (List.getElem_mem hi') hid, hb⟩) (hR i hi')
    rw [hk'] at g3
    refine RepL.mono (Le.of_pure σ2 w) _ _ _ (fun _ _ h => h) (RepL.mono (Le.pure_ (fun b h => ?_) (fun _ _ => rfl)) _ _ _ (fun _ _ h => h) g3)
    rcases h with h | ⟨id', h1, h2⟩
    · exact .inl (l1.S b h)
    · exact .inr ⟨id', h1, (l1.own b id' h2).2.1⟩
  have hln : es.length = news.length := hvl
  obtain ⟨v, w', σ', hrun, hb', hle', hinv', hrep'⟩ := append_core (T := C.T) (ty := o.type) (A := A) (c := c) (es := news) hC.T i2 hσ.size hH2 hf1 ((hC.T t _ ht).slice hte) hy hk0 hk1 hty1 hr2 heach hsrc2 (by rw [← hln]; exact hb) (by rw [← hln]; simp only [maxLen]; omega)
  refine wpListIn_plain hg fun K hK => Oper.wpIn_of_wp C.hF (fun c e => by rw [ho] at e; cases e) ?_
  have hexec : (execOp a.eval o).run C.P w = .ok (.value v) w' := by
    rw [← hln] at hrun
    simp only [execOp, ho, resolve, invoke, builtin, Sem.run_bind, Sem.run_pure, Result.andThen_ok, List.map_toArray, List.map_cons, List.map_nil, hx2, hrun]
  simp only [Oper.wp, hexec, Oper.upon]
  rw [hd]
  refine hK _ _ (k S0 w0 _ w' hE ⟨σ', ?_⟩)
  have hlt : Le σ σ' w w' := ⟨fun b h => hle'.S b (l12.S b h), fun b h => hle'.heap b (l12.S b h), fun b i h => ?_, fun i h => hle'.al i (l12.al i h), fun i h => ?_⟩
  · refine hσ.put hN (s' := { tm := upd s.tm d (.ref id 0 (r.es.length + es.length)), H := updH (frz' s.H (idsLL es)) id (.row (appRow r es.length news)), nx := nx }) ?_ (fun i hi => ?_) hlt hb' (by rw [hln]; exact hrep') rfl
    · have : updH (frz' s.H (idsLL es)) id (.row (appRow r es.length news)) = updH (frz' H1 (idsLL es)) id (.row { r with es := r.es ++ news, lo := if news.isEmpty then r.lo else r.es.length + news.length }) := by
        funext i
        simp only [updH, appRow, hln]
        split
        · rfl
        · rename_i hne
          unfold frz'
          split
          · exact (ho1 i hne).symm
          · unfold frz; rw [ho1 i hne]
      show Inv w0.heap.size S0 w' (updH (frz' s.H (idsLL es)) id (.row (appRow r es.length news))) σ'
      rw [this]; exact hinv'
    · show updH (frz' s.H (idsLL es)) id (.row (appRow r es.length news)) i = none
      have hii : H1 i = none := hnx1 i hi
      have hne : i ≠ id := fun e => by subst e; rw [hH1] at hii; cases hii
      simp only [updH]; rw [if_neg hne]
      have hsn : s.H i = none := by rw [← ho1 i hne]; exact hii
      unfold frz'
      split
      · exact hsn
      · unfold frz; split
        · rw [hsn]
        · exact hsn
  · obtain ⟨h1, h2, h3, h4⟩ := l12.own b i h
    obtain ⟨_, g2, g3, g4⟩ := hle'.own b i h2
    exact ⟨h1, g2, g3.trans h3, Nat.le_trans h4 g4⟩
  · rcases l12.obj i h with ⟨a1, a2, a3⟩ | ⟨a1, a2⟩ <;> rcases hle'.obj i (l12.al i h) with ⟨b1, b2, b3⟩ | ⟨b1, b2⟩
    · exact .inl ⟨b1.trans a1, b2.trans a2, fun b hb => (b3 b (by rw [a2]; exact hb)).trans (a3 b hb)⟩
    · refine .inr ⟨by omega, fun b hb => ?_⟩
      have := b2 b (l12.own b i hb).2.1
      have := (l12.own b i hb).2.2.2
      omega
    · exact .inr ⟨by omega, a2⟩
    · exact .inr ⟨by omega, a2⟩
end

/-- The results of a function, told. -/
def resA (s : St) : List ResultVar → Option AV
  | [.tmp t] => some (s.tm t)
  | l => (l.mapM fun (v : ResultVar) => match v with | .tmp t => some (s.tm t) | .cell _ _ => none).map .tup

section
variable {C : Cx} {Q : AV → Prop}

theorem results_tmps {fn : Func} {ts : List Nat} (h : fn.results = (ts.map ResultVar.tmp).toArray) (hl : ts.length ≠ 1) (tmps : Array Value) (P : Program) (w : World) :
    (results fn tmps).run P w = .ok (.tuple ((ts.map fun t => tmps.getD t undef).toArray)) w := by
  have key : ∀ ts : List Nat, ((ts.map ResultVar.tmp).mapM fun (x : ResultVar) => (match x with | .tmp t => pure (tmps.getD t undef) | .cell a t => do loadVar t (← asAddr (tmps.getD a undef)) : Sem Value)).run P w = .ok (ts.map fun t => tmps.getD t undef) w := by
    intro ts
    induction ts with
    | nil => simp
    | cons t ts ih => simp only [List.map_cons, List.mapM_cons, Sem.run_bind, Sem.run_pure, Result.andThen_ok, ih]
  simp only [results, h, Array.mapM_eq_mapM_toList, Sem.run_bind, Sem.run_map, Sem.run_pure]
  refine (congrArg (fun r => (Result.andThen (Result.andThen r fun a w' => Result.ok a.toArray w') fun a w' => Result.ok (if h : a.size = 1 then a[0] else Value.tuple a) w')) (key ts)).trans ?_
  simp [hl]

/-- What the end of a function's body must tell: its results, as a caller sees them. -/
def endQ (rs : List Nat) (Q : AV → Prop) : Exit → St → Prop
  | .normal, s => ∃ r', viewA s.H (match rs with | [t] => s.tm t | ts => .tup (ts.map s.tm)) = some r' ∧ Q r'
  | .ret, s => ∃ r', viewA s.H (match rs with | [t] => s.tm t | ts => .tup (ts.map s.tm)) = some r' ∧ Q r'
  | _, _ => False

def startSt (args : List AV) : St := { tm := fun t => args.getD t .junk, H := fun _ => none, nx := 0 }

theorem start_sim {w : World} {S : Nat → Prop} {vals : Array Value} {args : List AV} {N : Nat} (hS : ∀ b, S b → b < w.heap.size) (hsz : vals.size = args.length) (hr : RepL (pureSg S) w args (fun i => vals[i]?)) (hN : args.length ≤ N) :
    Sim (Fr.of S) w N { tmps := vals ++ Array.replicate (N - vals.size) undef, defers := [] } w (startSt args) := by
  refine ⟨pureSg S, ⟨⟨fun id => by simp [pureSg, startSt], fun id _ => ⟨rfl, fun b h => by simp [pureSg] at h⟩, fun b h => ⟨hS b h, .inl h⟩, fun b id h => by simp [pureSg] at h, fun id r h => by simp [startSt] at h, fun id kt et es h => by simp [startSt] at h, trivial⟩, fun _ _ => rfl, fun t => ?_, by simp; omega, rfl, Below.refl _ _⟩⟩
  show Rep (pureSg S) w (args.getD t .junk) ((vals ++ Array.replicate (N - vals.size) undef).getD t undef)
  by_cases ht : t < args.length
  · rw [repL_iff] at hr
    obtain ⟨u, hu, hru⟩ := hr t ht
    have : (vals ++ Array.replicate (N - vals.size) undef).getD t undef = u := by
      rw [Array.getD_eq_getD_getElem?, Array.getElem?_append_left (by omega), hu]; rfl
    rw [this, List.getD_eq_getElem?_getD, List.getElem?_eq_getElem ht]; exact hru
  · have : args.getD t .junk = .junk := by rw [List.getD_eq_getElem?_getD, List.getElem?_eq_none (by omega)]; rfl
    rw [this]; trivial

/-- A function meets its contract where its body is gone through so. -/
theorem OKat.of_body [hW : C.Wide] {f : FuncId} {fn : Func} {c : Code} {args : List AV} {rs : List Nat} (hf : C.P.funcs[f]? = some fn) (hb : fn.body = some c) (hn : (fn.name == "runtime.NumGoroutine") = false) (hr : fn.results = (rs.map ResultVar.tmp).toArray)
    (hN : args.length ≤ fn.ntmps) (h : AW C fn.ntmps c (endQ rs Q) (startSt args)) : OKat C f args Q := by
  refine ⟨⟨fn, hf, hn, by rw [hb]; rfl⟩, fun w S vals hE hS hsz hrep => ?_⟩
  refine calls_of_wp hf hb ?_
  have hs := start_sim (N := fn.ntmps) hS hsz hrep hN
  have h2 := h (Fr.of S) w _ w hE hs
  rw [hW.h] at h2
  refine wp_mono (wpIn_wide.1 h2) ?_
  have fin : ∀ a' w' s', Sim (Fr.of S) w fn.ntmps a' w' s' → (∃ r', viewA s'.H (match rs with | [t] => s'.tm t | ts => .tup (ts.map s'.tm)) = some r' ∧ Q r') →
      a'.defers = [] ∧ ∃ v, (results fn a'.tmps).run C.P w' = .ok v w' ∧ (Below w.heap.size w w' ∧ ∃ v2 r, Ending.returned v = .returned v2 ∧ Q r ∧ Rep (pureSg fun b => S b ∨ (w.heap.size ≤ b ∧ b < w'.heap.size)) w' r v2) := by
    rintro a' w' s' ⟨σ, hσ⟩ ⟨r', hv, hq⟩
    have hview : ∀ (c : AV) (u : Value), viewA s'.H c = some r' → Rep σ w' c u → Rep (pureSg fun b => S b ∨ (w.heap.size ≤ b ∧ b < w'.heap.size)) w' r' u := by
      intro c u hc hu
      refine viewA_sound hσ.inv (fun b hb => ?_) c u r' hc (fun id _ b hb => .inr (hσ.inv.own_lt b id hb)) hu
      have := hσ.inv.S_lt b hb
      rcases this.2 with h | h
      · exact .inl h
      · exact .inr ⟨h, this.1⟩
    refine ⟨hσ.d, ?_⟩
    by_cases hl : ∃ t, rs = [t]
    · obtain ⟨t, rfl⟩ := hl
      exact ⟨_, results_tmp (by simpa using hr) _ _ _, hσ.below, _, r', rfl, hq, hview _ _ hv (hσ.tm t)⟩
    · have hne : rs.length ≠ 1 := fun h => by
        match rs, h with
        | [t], _ => exact hl ⟨t, rfl⟩
      refine ⟨_, results_tmps hr hne _ _ _, hσ.below, _, r', rfl, hq, ?_⟩
      have hm : (match rs with | [t] => s'.tm t | ts => AV.tup (ts.map s'.tm)) = .tup (rs.map s'.tm) := by
        match rs, hl with
        | [], _ => rfl
        | [t], h => exact absurd ⟨t, rfl⟩ h
        | _ :: _ :: _, _ => rfl
      rw [hm] at hv
      refine hview _ _ hv ?_
      simp only [Rep]
      refine ⟨_, rfl, by simp, ?_⟩
      rw [repL_iff']
      intro i c hc
      simp only [List.getElem?_map, Option.map_eq_some_iff] at hc
      obtain ⟨t, ht, rfl⟩ := hc
      exact ⟨a'.tmps.getD t undef, by simp [ht], hσ.tm t⟩
  rintro e a' w' ⟨s', hs', hq⟩
  cases e with
  | normal => exact fin a' w' s' hs' hq
  | ret => exact fin a' w' s' hs' hq
  | exit id => exact hq.elim
  | goto l => exact hq.elim
  | panic c => exact hq.elim
  | outgrown => exact hq.elim
end
end Go.Pg

/-
  Equations by which a state is looked into. No conditions.
-/
namespace Go.Pg
open Go Go.RowKit

theorem put_tm (s : St) (d : Nat) (r : AV) (nr : Option Row) (t : Nat) : (s.put d r nr).tm t = if t = d then r else s.tm t := rfl
theorem put_H0 (s : St) (d : Nat) (r : AV) : (s.put d r none).H = s.H := rfl
theorem put_H1 (s : St) (d : Nat) (r : AV) (row : Row) : (s.put d r (some row)).H = updH s.H s.nx (.row row) := rfl
theorem put_nx0 (s : St) (d : Nat) (r : AV) : (s.put d r none).nx = s.nx := rfl
theorem put_nx1 (s : St) (d : Nat) (r : AV) (row : Row) : (s.put d r (some row)).nx = s.nx + 1 := rfl
theorem back_tm (s : St) (d : Nat) (r : AV) (ids : List Nat) (t : Nat) : (s.back d r ids).tm t = if t = d then r else s.tm t := rfl
theorem back_nx (s : St) (d : Nat) (r : AV) (ids : List Nat) : (s.back d r ids).nx = s.nx := rfl
theorem back_H (s : St) (d : Nat) (r : AV) (ids : List Nat) : (s.back d r ids).H = afterH s.H ids r := rfl
theorem upd_at (f : Nat → AV) (d : Nat) (r : AV) (t : Nat) : upd f d r t = if t = d then r else f t := rfl
theorem start_tm (args : List AV) (t : Nat) : (startSt args).tm t = args.getD t .junk := rfl
theorem start_H (args : List AV) : (startSt args).H = fun _ => none := rfl
theorem start_nx (args : List AV) : (startSt args).nx = 0 := rfl
theorem rowAt_upd (H : Nat → Option AO) (i : Nat) (r : Row) (j : Nat) : rowAt (updH H i (.row r)) j = if j = i then some r else rowAt H j := by
  unfold rowAt updH
  split <;> rename_i h <;> split at h <;> simp_all
theorem rowAt_none (j : Nat) : rowAt (fun _ => none) j = none := rfl
theorem afterH_flat (H : Nat → Option AO) (ids : List Nat) (r : AV) (h : flatA r = true) : afterH H ids r = H := by simp [afterH, h]
theorem afterH_nil (H : Nat → Option AO) (r : AV) : afterH H [] r = H := by simp [afterH]
theorem ev_tmp (s : St) (t : Nat) : s.ev (.tmp t) = s.tm t := rfl
theorem ev_const (s : St) (x : Value) : s.ev (.const x) = constA x := rfl
theorem ev_func (s : St) (f : FuncId) : s.ev (.func f) = .clo f [] := rfl
theorem constA_int (k : IntKind) (n : Int) : constA (.int k n) = .v (.int k n) := rfl
theorem constA_bool (b : Bool) : constA (.bool b) = .v (.bool b) := rfl
theorem constA_str (b : ByteArray) : constA (.string b) = .v (.string b) := rfl
theorem constA_nil : constA (.slice none 0 0) = .v (.slice none 0 0) := rfl
theorem stepA_move (T : TypeId → Option Ty) (eqT : TypeId → Bool) (H : Nat → Option AO) (ev : Operand → AV) (key : Nat) (x : Operand) : stepA T eqT H ev key (.move x) = some (ev x, none) := rfl
theorem stepA_assign (T : TypeId → Option Ty) (eqT : TypeId → Bool) (H : Nat → Option AO) (ev : Operand → AV) (key : Nat) (x : Operand) : stepA T eqT H ev key (.assign x) = some (ev x, none) := rfl

section
variable {C : Cx} {N : Nat} {Q : Exit → St → Prop} {s : St} {ops : Array Oper} {rest : List Oper} {o : Oper}

theorem AWL.guardY {j d t : Nat} {want : Bool} (hg : o.guard = some (j, want)) (ht : (ops[j]?).bind (·.dst) = some t) (hd : o.dst = some d) (hN : d < N) (hb : s.tm t = .v (.bool want))
    (k : AWL C N ops Q ({ o with guard := none } :: rest) s) : AWL C N ops Q (o :: rest) s :=
  AWL.guard hg ht hb hd hN (fun _ => k) (fun h => by cases want <;> cases h)

theorem AWL.guardN {j d t : Nat} {want : Bool} (hg : o.guard = some (j, want)) (ht : (ops[j]?).bind (·.dst) = some t) (hd : o.dst = some d) (hN : d < N) (hb : s.tm t = .v (.bool (!want)))
    (k : AWL C N ops Q rest (s.put d (.v undef) none)) : AWL C N ops Q (o :: rest) s :=
  AWL.guard hg ht hb hd hN (fun h => by cases want <;> cases h) (fun _ => k)

theorem put_same_tm {t : Nat} {x : AV} (h : s.tm t = x) : s.put t x none = s := by
  unfold St.put
  have : upd s.tm t x = s.tm := by funext u; unfold upd; split <;> simp_all
  rw [this]; rfl

/-- A guard that is not known yet: both ways. -/
theorem AWL.guardS {j d t : Nat} {want b : Bool} (hg : o.guard = some (j, want)) (ht : (ops[j]?).bind (·.dst) = some t) (hd : o.dst = some d) (hN : d < N) (hb : s.tm t = .v (.bool b))
    (k1 : b = want → AWL C N ops Q ({ o with guard := none } :: rest) (s.put t (.v (.bool want)) none)) (k2 : b = !want → AWL C N ops Q rest ((s.put t (.v (.bool (!want))) none).put d (.v undef) none)) : AWL C N ops Q (o :: rest) s :=
  AWL.guard hg ht hb hd hN (fun h => by have := k1 h; rwa [put_same_tm (t := t) (by rw [hb, h])] at this) (fun h => by have := k2 h; rw [put_same_tm (t := t) (x := .v (.bool (!want))) (by rw [hb, h])] at this; exact this)

variable {op : Op} {ty : TypeId} {ps : String} {af : Array Edge} {d j t : Nat} {want b : Bool}

theorem W.step (hC : C.OK) (hN : d < N) {r : AV} {nr : Option Row} (h : stepA C.T C.eqT s.H s.ev s.nx op = some (r, nr)) (k : AWL C N ops Q rest (s.put d r nr)) :
    AWL C N ops Q (⟨some d, op, ty, ps, af, none⟩ :: rest) s := AWL.step hC rfl rfl hN h k
theorem W.gY (ht : (ops[j]?).bind (·.dst) = some t) (hN : d < N) (hb : s.tm t = .v (.bool want)) (k : AWL C N ops Q (⟨some d, op, ty, ps, af, none⟩ :: rest) s) :
    AWL C N ops Q (⟨some d, op, ty, ps, af, some (j, want)⟩ :: rest) s := AWL.guardY (o := ⟨some d, op, ty, ps, af, some (j, want)⟩) rfl ht rfl hN hb k
theorem W.gN (ht : (ops[j]?).bind (·.dst) = some t) (hN : d < N) (hb : s.tm t = .v (.bool (!want))) (k : AWL C N ops Q rest (s.put d (.v undef) none)) :
    AWL C N ops Q (⟨some d, op, ty, ps, af, some (j, want)⟩ :: rest) s := AWL.guardN (o := ⟨some d, op, ty, ps, af, some (j, want)⟩) rfl ht rfl hN hb k
theorem W.gU (ht : (ops[j]?).bind (·.dst) = some t) (hN : d < N) (hb : s.tm t = .v undef) (k : AWL C N ops Q rest (s.put d (.v undef) none)) :
    AWL C N ops Q (⟨some d, op, ty, ps, af, some (j, want)⟩ :: rest) s := AWL.guardU (o := ⟨some d, op, ty, ps, af, some (j, want)⟩) rfl ht hb rfl hN k
theorem W.gS (ht : (ops[j]?).bind (·.dst) = some t) (hN : d < N) (hb : s.tm t = .v (.bool b)) (k1 : b = want → AWL C N ops Q (⟨some d, op, ty, ps, af, none⟩ :: rest) (s.put t (.v (.bool want)) none))
    (k2 : b = !want → AWL C N ops Q rest ((s.put t (.v (.bool (!want))) none).put d (.v undef) none)) :
    AWL C N ops Q (⟨some d, op, ty, ps, af, some (j, want)⟩ :: rest) s := AWL.guardS (o := ⟨some d, op, ty, ps, af, some (j, want)⟩) rfl ht rfl hN hb k1 k2
theorem W.store (hC : C.OK) {tp : TypeId} {p x : Operand} {id : Nat} {r : Row} (h : storeA C.T s.H tp (s.ev p) (s.ev x) = some (id, r)) (k : AWL C N ops Q rest { s with H := updH s.H id (.row r) }) :
    AWL C N ops Q (⟨none, .store tp p x, ty, ps, af, none⟩ :: rest) s := AWL.store hC rfl rfl rfl h k
theorem W.call (hC : C.OK) (hN : d < N) {fo : Operand} {args : Array Operand} {tys : Array TypeId} {f : FuncId} {caps vs : List AV} (hf : s.ev fo = .clo f caps) (hv : viewL s.H (evsA args.toList s.ev ++ caps) = some vs) {Qr : AV → Prop} (hok : OKat C f vs Qr)
    (k : ∀ r, Qr r → AWL C N ops Q rest (s.back d r (idsL (evsA args.toList s.ev ++ caps)))) : AWL C N ops Q (⟨some d, .call { callee := .value fo, args := args, argTypes := tys }, ty, ps, af, none⟩ :: rest) s :=
  AWL.call hC rfl rfl hN rfl hf hv hok k
/-- A call whose result is known. -/
theorem W.callv (hC : C.OK) (hN : d < N) {fo : Operand} {args : Array Operand} {tys : Array TypeId} {f : FuncId} {caps vs : List AV} {R : AV} (hf : s.ev fo = .clo f caps) (hv : viewL s.H (evsA args.toList s.ev ++ caps) = some vs) (hok : OKv C f vs R)
    (k : AWL C N ops Q rest (s.back d R (idsL (evsA args.toList s.ev ++ caps)))) : AWL C N ops Q (⟨some d, .call { callee := .value fo, args := args, argTypes := tys }, ty, ps, af, none⟩ :: rest) s :=
  AWL.call hC rfl rfl hN rfl hf hv hok (fun r hr => by subst hr; exact k)
end

section
variable {Q : AV → Prop} {s : St}
theorem W.ret1 {t : Nat} {r : AV} (hv : viewA s.H (s.tm t) = some r) (hq : Q r) : endQ [t] Q .ret s := ⟨r, hv, hq⟩
theorem W.end1 {t : Nat} {r : AV} (hv : viewA s.H (s.tm t) = some r) (hq : Q r) : endQ [t] Q .normal s := ⟨r, hv, hq⟩
theorem W.ret2 {t u : Nat} {r : AV} (hv : viewA s.H (.tup [s.tm t, s.tm u]) = some r) (hq : Q r) : endQ [t, u] Q .ret s := ⟨r, hv, hq⟩
theorem W.end2 {t u : Nat} {r : AV} (hv : viewA s.H (.tup [s.tm t, s.tm u]) = some r) (hq : Q r) : endQ [t, u] Q .normal s := ⟨r, hv, hq⟩
theorem W.ret3 {t u v : Nat} {r : AV} (hv : viewA s.H (.tup [s.tm t, s.tm u, s.tm v]) = some r) (hq : Q r) : endQ [t, u, v] Q .ret s := ⟨r, hv, hq⟩
theorem W.end3 {t u v : Nat} {r : AV} (hv : viewA s.H (.tup [s.tm t, s.tm u, s.tm v]) = some r) (hq : Q r) : endQ [t, u, v] Q .normal s := ⟨r, hv, hq⟩
theorem W.ret0 {r : AV} (hv : viewA s.H (.tup []) = some r) (hq : Q r) : endQ [] Q .ret s := ⟨r, hv, hq⟩
theorem W.end0 {r : AV} (hv : viewA s.H (.tup []) = some r) (hq : Q r) : endQ [] Q .normal s := ⟨r, hv, hq⟩
end
theorem view_v_int (H : Nat → Option AO) (k : IntKind) (n : Int) : viewA H (.v (.int k n)) = some (.v (.int k n)) := rfl
theorem view_v_bool (H : Nat → Option AO) (b : Bool) : viewA H (.v (.bool b)) = some (.v (.bool b)) := rfl
theorem view_v_str (H : Nat → Option AO) (b : ByteArray) : viewA H (.v (.string b)) = some (.v (.string b)) := rfl
theorem view_nil (H : Nat → Option AO) : viewA H (.v (.slice none 0 0)) = some (.lst []) := rfl
theorem view_lst (H : Nat → Option AO) (es : List (List AV)) : viewA H (.lst es) = some (.lst es) := rfl
theorem view_agg (H : Nat → Option AO) (cs : List AV) : viewA H (.agg cs) = (viewL H cs).map .agg := rfl
theorem view_tup (H : Nat → Option AO) (cs : List AV) : viewA H (.tup cs) = (viewL H cs).map .tup := rfl
theorem view_clo (H : Nat → Option AO) (f : FuncId) (cs : List AV) : viewA H (.clo f cs) = (viewL H cs).map (.clo f) := rfl
theorem viewL_nil (H : Nat → Option AO) : viewL H [] = some [] := rfl
theorem viewL_cons (H : Nat → Option AO) (c : AV) (cs : List AV) : viewL H (c :: cs) = (match viewA H c, viewL H cs with | some d, some ds => some (d :: ds) | _, _ => none) := rfl
theorem idsA_v (x : Value) : idsA (.v x) = [] := rfl
theorem idsA_lst (es : List (List AV)) : idsA (.lst es) = [] := rfl
theorem idsA_agg (cs : List AV) : idsA (.agg cs) = idsL cs := rfl
theorem idsL_nil : idsL [] = [] := rfl
theorem idsL_cons (c : AV) (cs : List AV) : idsL (c :: cs) = idsA c ++ idsL cs := rfl
end Go.Pg

/-
  Regions that draw their order: one walk in the order of the text serves every order. Conditions: the table of types is the program's; the operations' edges order whatever looks at one place.
-/
namespace Go.Pg
open Go Go.RowKit

section
variable {P : Program} {ops : Array Oper} {Q Q' : Exit → Act → World → Prop} {o : Oper} {a : Act} {w : World} {K K' : Act → World → Prop}

theorem Oper.wpIn_mono2 {F : Fence} {n : Nat} (hk : ∀ a w, K a w → K' a w) (hq : ∀ e a w, e ≠ .normal → Q e a w → Q' e a w) (hl : LetsOut Q → LetsOut Q') (hh : o.wpIn F n P a w K Q) : o.wpIn F n P a w K' Q' := by
  unfold Oper.wpIn at *
  refine ⟨hh.1, ?_⟩
  have hh := hh.2
  generalize (o.semAt F.round a.eval).run P w = r at *
  cases r with
  | ok n w' =>
    cases n <;> simp only [Oper.uponIn] at hh ⊢ <;>
      first
        | exact hk _ _ hh
        | exact ⟨hh.1, CallsIn.mono hh.2 (fun e w'' he => by cases e <;> first | exact hk _ _ he | exact hq _ _ _ (by simp) he | exact hl he)⟩
        | exact ⟨hh.1, RowsIn.mono hh.2 (fun _ _ he => hk _ _ he)⟩
        | exact ⟨hh.1, RoundIn.mono hh.2 (fun e w'' he => by cases e <;> first | exact hk _ _ he | exact hq _ _ _ (by simp) he | exact hl he)⟩
  | halt x w' => cases x <;> simp only [Oper.uponIn] at hh ⊢ <;> first | exact hq _ _ _ (by simp) hh | exact hh
end

/-- One operation, from one state to another, whatever comes behind. -/
def One (C : Cx) (N : Nat) (ops : Array Oper) (o : Oper) (s s' : St) : Prop :=
  ∀ (S0 : Fr) (w0 : World) (a : Act) (w : World) (K : Act → World → Prop) (Q : Exit → Act → World → Prop), C.E w0 → Sim S0 w0 N a w s → (∀ a' w', Sim S0 w0 N a' w' s' → K a' w') →
    if Region.wanted o (yielded ops a.tmps) then o.wpIn C.F 0 C.P a w K Q else K (a.put o.dst undef) w

def onlyQ (s' : St) : Exit → St → Prop := fun e s => e = .normal ∧ s = s'

theorem letsOut_sim {C : Cx} {S0 : Fr} {w0 : World} {N : Nat} {s' : St} (h : LetsOut (fun e a' w' => ∃ s, Sim S0 w0 N a' w' s ∧ onlyQ s' e s)) : False := by
  obtain ⟨a, w, h⟩ := h
  obtain ⟨_, _, h, _⟩ := h
  cases h

theorem one_of_AWL {C : Cx} {N : Nat} {ops : Array Oper} {o : Oper} {s s' : St} (h : AWL C N ops (onlyQ s') [o] s) : One C N ops o s s' := by
  intro S0 w0 a w K Q hE hs hK
  have := h S0 w0 a w hE hs
  unfold wpListIn at this
  have hk : ∀ a' w', wpListIn C.F 0 C.P ops (fun e a' w' => ∃ s, Sim S0 w0 N a' w' s ∧ onlyQ s' e s) [] a' w' → K a' w' := by
    rintro a' w' ⟨s, h1, _, rfl⟩
    exact hK _ _ h1
  split at this
  · rename_i hw
    rw [if_pos hw]
    refine Oper.wpIn_mono2 hk ?_ (fun h => (letsOut_sim (C := C) h).elim) this
    rintro e a w he ⟨_, _, h, _⟩
    exact absurd h he
  · rename_i hw
    rw [if_neg hw]
    exact hk _ _ this.2

def updO (f : Nat → AV) (d : Option Nat) (x : AV) : Nat → AV := match d with
  | some t => upd f t x
  | none => f

/-- H1's objects are H2's too. -/
def Ext (H1 H2 : Nat → Option AO) : Prop := ∀ id x, H1 id = some x → H2 id = some x

def mask (av : List Nat) (H : Nat → Option AO) : Nat → Option AO := fun id => if id ∈ av then none else H id

/-- What is asked of an operation that may come up early or late. -/
def LCert (C : Cx) (N : Nat) (ops : Array Oper) (o : Oper) (H : Nat → Option AO) (tm : Nat → AV) (key : Nat) (r : AV) (nr : Option Row) : Prop :=
  ∀ s : St, Ext H s.H → (nr = none ∨ (s.H key = none ∧ key < s.nx)) → (∀ t ∈ o.looksAt ops, s.tm t = tm t) → One C N ops o s ⟨updO s.tm o.dst r, putH s.H key nr, s.nx⟩

/-- What is asked of one that has its place. -/
def TCert (C : Cx) (N : Nat) (ops : Array Oper) (o : Oper) (H : Nat → Option AO) (nx : Nat) (tm : Nat → AV) (r : AV) (H' : Nat → Option AO) (nx' : Nat) : Prop :=
  ∀ s : St, s.H = H → s.nx = nx → (∀ t ∈ o.looksAt ops, s.tm t = tm t) → One C N ops o s ⟨updO s.tm o.dst r, H', nx'⟩

/-- The walk in the order of the text. tg: the operations that have their place; mk: those that may come up behind a write; av: what is written. -/
def DW (C : Cx) (N : Nat) (ops : Array Oper) (H0 : Nat → Option AO) (b : Nat) (tg mk av : List Nat) (Fin : St → Prop) : Nat → List Oper → St → Prop
  | _, [], s => Fin s
  | i, o :: l, s =>
    ∃ (r : AV) (s' : St), s'.tm = updO s.tm o.dst r ∧
      (if i ∈ tg then TCert C N ops o s.H s.nx s.tm r s'.H s'.nx ∧ (mk = [] ∨ ∀ id x, id ∉ av → s.H id = some x → s'.H id = some x)
       else ∃ nr, s'.H = putH s.H (b + i) nr ∧ s'.nx = s.nx ∧ (nr = none ∨ (i ∉ mk ∧ H0 (b + i) = none ∧ b + i < s.nx)) ∧ LCert C N ops o (if i ∈ mk then mask av H0 else H0) s.tm (b + i) r nr) ∧
      DW C N ops H0 b tg mk av Fin (i + 1) l s'

/-! ## The edges -/

def bnd (o : Oper) : List Nat := (o.after.toList.filter (fun e => Region.binds .any e)).map (·.on)

def ancOf (tab : List Nat) (o : Oper) : Nat := (bnd o).foldl (fun m j => m ||| (1 <<< j) ||| tab.getD j 0) 0

def ancs : List Oper → List Nat → List Nat
  | [], tab => tab
  | o :: l, tab => ancs l (tab ++ [ancOf tab o])

def dstIn (p : Option Nat) (l : List Nat) : Bool := match p with
  | some t => l.contains t
  | none => false

def pairOK (ops : Array Oper) (tab : List Nat) (tg mk : List Nat) (i : Nat) (o : Oper) (k : Nat) (p : Oper) : Bool :=
  (!(dstIn p.dst (o.looksAt ops)) || (tab.getD i 0).testBit k || (tab.getD k 0).testBit i) &&
  (k == i || p.dst == none || p.dst != o.dst) &&
  (!(tg.contains i) || (if tg.contains k then (k == i || (tab.getD i 0).testBit k || (tab.getD k 0).testBit i) else (mk.contains k || (tab.getD i 0).testBit k)))

def drawOK (ops : List Oper) (tg mk : List Nat) : Bool :=
  let tab := ancs ops []
  (ops.zipIdx).all fun (o, i) => (bnd o).all (fun j => decide (j < i)) && (ops.zipIdx).all fun (p, k) => pairOK ops.toArray tab tg mk i o k p

/-- What has been done holds all that it must come behind. -/
def Closed (ops : List Oper) (L : Nat → Bool) : Prop := ∀ i o, ops[i]? = some o → L i = true → ∀ j ∈ bnd o, L j = true

theorem testBit_foldl (tab : List Nat) (k : Nat) : ∀ (l : List Nat) (m : Nat), (l.foldl (fun m j => m ||| (1 <<< j) ||| tab.getD j 0) m).testBit k = true →
    m.testBit k = true ∨ ∃ j ∈ l, j = k ∨ (tab.getD j 0).testBit k = true
  | [], m, h => .inl h
  | j :: l, m, h => by
    simp only [List.foldl_cons] at h
    rcases testBit_foldl tab k l _ h with h | ⟨j', hj', h⟩
    · simp only [Nat.testBit_or, Bool.or_eq_true, Nat.one_shiftLeft] at h
      rcases h with (h | h) | h
      · exact .inl h
      · rw [Nat.testBit_two_pow] at h
        exact .inr ⟨j, by simp, .inl (by simpa using h)⟩
      · exact .inr ⟨j, by simp, .inr h⟩
    · exact .inr ⟨j', by simp [hj'], h⟩

theorem ancOf_spec {tab : List Nat} {o : Oper} {k : Nat} (h : (ancOf tab o).testBit k = true) : ∃ j ∈ bnd o, j = k ∨ (tab.getD j 0).testBit k = true := by
  rcases testBit_foldl tab k _ _ h with h | h
  · simp at h
  · exact h

theorem ancs_len : ∀ (l : List Oper) (tab : List Nat), (ancs l tab).length = tab.length + l.length
  | [], tab => by simp [ancs]
  | o :: l, tab => by rw [ancs, ancs_len l]; simp; omega

theorem ancs_pre : ∀ (l : List Oper) (tab : List Nat) (i : Nat), i < tab.length → (ancs l tab).getD i 0 = tab.getD i 0
  | [], tab, i, _ => rfl
  | o :: l, tab, i, h => by
    rw [ancs, ancs_pre l _ i (by simp; omega)]
    simp [List.getD_eq_getElem?_getD, List.getElem?_append_left h]

/-- The table's ancestors are done before. -/
theorem ancs_spec {ops : List Oper} {L : Nat → Bool} (hL : Closed ops L) : ∀ (l : List Oper) (tab : List Nat), ops.drop tab.length = l → tab.length ≤ ops.length →
    (∀ i, i < tab.length → ∀ o, ops[i]? = some o → ∀ k, (tab.getD i 0).testBit k = true → (∀ j ∈ bnd o, L j = true) → L k = true) →
    (∀ i o, ops[i]? = some o → ∀ j ∈ bnd o, j < i) →
    ∀ i o, ops[i]? = some o → ∀ k, ((ancs l tab).getD i 0).testBit k = true → (∀ j ∈ bnd o, L j = true) → L k = true
  | [], tab, hd, hl, hp, hb => by
    intro i o ho k hk hj
    have : i < tab.length := by
      have h1 := List.drop_eq_nil_iff.1 hd
      have h2 := (List.getElem?_eq_some_iff.1 ho).1
      omega
    exact hp i this o ho k hk hj
  | o :: l, tab, hd, hl, hp, hb => by
    have hlt : tab.length < ops.length := by
      have : (ops.drop tab.length).length = (o :: l).length := by rw [hd]
      simp at this; omega
    have hget : ops[tab.length]? = some o := by
      have : (ops.drop tab.length)[0]? = some o := by rw [hd]; rfl
      simpa using this
    refine ancs_spec hL l _ ?_ (by simp; omega) ?_ hb
    · have : ops.drop (tab.length + 1) = (ops.drop tab.length).drop 1 := by simp
      simp only [List.length_append, List.length_singleton, this, hd, List.drop_succ_cons, List.drop_zero]
    · intro i hi o' ho' k hk hj
      simp only [List.length_append, List.length_singleton] at hi
      rcases Nat.lt_or_ge i tab.length with h | h
      · refine hp i h o' ho' k ?_ hj
        rwa [List.getD_eq_getElem?_getD, List.getElem?_append_left h, ← List.getD_eq_getElem?_getD] at hk
      · have he : i = tab.length := by omega
        subst he
        rw [hget] at ho'; injection ho' with ho'; subst ho'
        rw [List.getD_eq_getElem?_getD, List.getElem?_append_right (Nat.le_refl _)] at hk
        simp only [Nat.sub_self, List.getElem?_cons_zero, Option.getD_some] at hk
        obtain ⟨j, hjm, h⟩ := ancOf_spec hk
        rcases h with rfl | h
        · exact hj _ hjm
        · have hji := hb _ _ hget j hjm
          obtain ⟨oj, hoj⟩ : ∃ oj, ops[j]? = some oj := ⟨_, List.getElem?_eq_getElem (by omega)⟩
          exact hp j hji oj hoj k h (hL j oj hoj (hj j hjm))

structure OrdOK (ops : List Oper) (tg mk : List Nat) : Prop where
  back : ∀ i o, ops[i]? = some o → ∀ j ∈ bnd o, j < i
  uses : ∀ i o k p t, ops[i]? = some o → ops[k]? = some p → p.dst = some t → t ∈ o.looksAt ops.toArray → ((ancs ops []).getD i 0).testBit k = true ∨ ((ancs ops []).getD k 0).testBit i = true
  dsts : ∀ (i : Nat) (o : Oper) (k : Nat) (p : Oper) (t : Nat), ops[i]? = some o → ops[k]? = some p → k ≠ i → p.dst = some t → o.dst ≠ some t
  tight : ∀ i o k p, ops[i]? = some o → ops[k]? = some p → i ∈ tg → k ∈ tg → k = i ∨ ((ancs ops []).getD i 0).testBit k = true ∨ ((ancs ops []).getD k 0).testBit i = true
  loose : ∀ i o k p, ops[i]? = some o → ops[k]? = some p → i ∈ tg → k ∉ tg → k ∉ mk → ((ancs ops []).getD i 0).testBit k = true

theorem ordOK_of {ops : List Oper} {tg mk : List Nat} (h : drawOK ops tg mk = true) : OrdOK ops tg mk := by
  unfold drawOK at h
  simp only [List.all_eq_true, Bool.and_eq_true, decide_eq_true_eq, Prod.forall] at h
  have hmem : ∀ {i o}, ops[i]? = some o → (o, i) ∈ ops.zipIdx := fun {i o} h => by
    rw [List.mem_zipIdx_iff_getElem?]; exact h
  have hp : ∀ i o k p, ops[i]? = some o → ops[k]? = some p → pairOK ops.toArray (ancs ops []) tg mk i o k p = true := fun i o k p h1 h2 => (h o i (hmem h1)).2 p k (hmem h2)
  refine ⟨fun i o ho j hj => (h o i (hmem ho)).1 j hj, ?_, ?_, ?_, ?_⟩
  · intro i o k p t h1 h2 h3 h4
    have := hp i o k p h1 h2
    simp only [pairOK, Bool.and_eq_true, Bool.or_eq_true, Bool.not_eq_true', h3, dstIn] at this
    rcases this.1.1 with (h | h) | h
    · simp at h; exact absurd h4 h
    · exact .inl h
    · exact .inr h
  · intro i o k p t h1 h2 h3 h4 h5
    have := hp i o k p h1 h2
    simp only [pairOK, Bool.and_eq_true, Bool.or_eq_true, beq_iff_eq, bne_iff_ne, h4, h5] at this
    rcases this.1.2 with (h | h) | h
    · exact h3 h
    · cases h
    · exact h rfl
  · intro i o k p h1 h2 h3 h4
    have := hp i o k p h1 h2
    simp only [pairOK, Bool.and_eq_true, Bool.or_eq_true, Bool.not_eq_true', List.contains_eq_mem, decide_eq_true_eq, decide_eq_false_iff_not, h3, h4, not_true, false_or, if_true, beq_iff_eq] at this
    rcases this.2 with (h | h) | h
    · exact .inl h
    · exact .inr (.inl h)
    · exact .inr (.inr h)
  · intro i o k p h1 h2 h3 h4 h5
    have := hp i o k p h1 h2
    simp only [pairOK, Bool.and_eq_true, Bool.or_eq_true, Bool.not_eq_true', List.contains_eq_mem, decide_eq_true_eq, decide_eq_false_iff_not, h3, h4, h5, not_true, false_or, if_false] at this
    exact this.2
end Go.Pg

/-
  Regions that draw their order, the rule. Conditions: as in PgN.
-/
namespace Go.Pg
open Go Go.RowKit

structure Tr where
  st : Nat → St
  r : Nat → AV
  nr : Nat → Option Row

def TrOK (C : Cx) (N : Nat) (ops : Array Oper) (H0 : Nat → Option AO) (b : Nat) (tg mk av : List Nat) (tr : Tr) (i : Nat) (o : Oper) : Prop :=
  (tr.st (i + 1)).tm = updO (tr.st i).tm o.dst (tr.r i) ∧
    (if i ∈ tg then TCert C N ops o (tr.st i).H (tr.st i).nx (tr.st i).tm (tr.r i) (tr.st (i + 1)).H (tr.st (i + 1)).nx ∧ (mk = [] ∨ ∀ id x, id ∉ av → (tr.st i).H id = some x → (tr.st (i + 1)).H id = some x)
     else (tr.st (i + 1)).H = putH (tr.st i).H (b + i) (tr.nr i) ∧ (tr.st (i + 1)).nx = (tr.st i).nx ∧ (tr.nr i = none ∨ (i ∉ mk ∧ H0 (b + i) = none ∧ b + i < (tr.st i).nx)) ∧
       LCert C N ops o (if i ∈ mk then mask av H0 else H0) (tr.st i).tm (b + i) (tr.r i) (tr.nr i))

section
variable {C : Cx} {N : Nat} {ops : Array Oper} {H0 : Nat → Option AO} {b : Nat} {tg mk av : List Nat} {Fin : St → Prop}

theorem TrOK.congr {tr tr' : Tr} {i : Nat} {o : Oper} (h : TrOK C N ops H0 b tg mk av tr i o) (h1 : tr'.st i = tr.st i) (h2 : tr'.st (i + 1) = tr.st (i + 1)) (h3 : tr'.r i = tr.r i) (h4 : tr'.nr i = tr.nr i) :
    TrOK C N ops H0 b tg mk av tr' i o := by
  unfold TrOK at h ⊢
  rw [h1, h2, h3, h4]; exact h

theorem DW.trace : ∀ (l : List Oper) (i : Nat) (s : St), DW C N ops H0 b tg mk av Fin i l s → ∃ tr : Tr, tr.st i = s ∧ (∀ j o, l[j]? = some o → TrOK C N ops H0 b tg mk av tr (i + j) o) ∧ Fin (tr.st (i + l.length))
  | [], i, s, h => ⟨⟨fun _ => s, fun _ => .junk, fun _ => none⟩, rfl, fun j o h => by simp at h, h⟩
  | o :: l, i, s, h => by
    obtain ⟨r, s', h1, h2, h3⟩ := h
    obtain ⟨tr, g1, g2, g3⟩ := DW.trace l (i + 1) s' h3
    have key : ∃ nr : Option Row, (if i ∈ tg then TCert C N ops o s.H s.nx s.tm r s'.H s'.nx ∧ (mk = [] ∨ ∀ id x, id ∉ av → s.H id = some x → s'.H id = some x)
       else s'.H = putH s.H (b + i) nr ∧ s'.nx = s.nx ∧ (nr = none ∨ (i ∉ mk ∧ H0 (b + i) = none ∧ b + i < s.nx)) ∧ LCert C N ops o (if i ∈ mk then mask av H0 else H0) s.tm (b + i) r nr) := by
      by_cases hi : i ∈ tg
      · rw [if_pos hi] at h2; exact ⟨none, by rw [if_pos hi]; exact h2⟩
      · rw [if_neg hi] at h2; obtain ⟨nr, h⟩ := h2; exact ⟨nr, by rw [if_neg hi]; exact h⟩
    obtain ⟨nr, hk⟩ := key
    refine ⟨⟨fun k => if k ≤ i then s else tr.st k, fun k => if k = i then r else tr.r k, fun k => if k = i then nr else tr.nr k⟩, by simp, ?_, ?_⟩
    · intro j o' hj
      cases j with
      | zero =>
        simp only [List.getElem?_cons_zero, Option.some.injEq] at hj
        subst hj
        unfold TrOK
        have e : ¬ (i + 1 ≤ i) := by omega
        simp only [Nat.add_zero, Nat.le_refl, if_true, if_neg e, g1]
        exact ⟨h1, hk⟩
      | succ j =>
        simp only [List.getElem?_cons_succ] at hj
        have := g2 j o' hj
        have e1 : i + 1 + j = i + (j + 1) := by omega
        rw [e1] at this
        refine this.congr ?_ ?_ ?_ ?_
        · show (if i + (j + 1) ≤ i then s else tr.st (i + (j + 1))) = _; rw [if_neg (by omega)]
        · show (if i + (j + 1) + 1 ≤ i then s else tr.st (i + (j + 1) + 1)) = _; rw [if_neg (by omega)]
        · show (if i + (j + 1) = i then r else tr.r (i + (j + 1))) = _; rw [if_neg (by omega)]
        · show (if i + (j + 1) = i then nr else tr.nr (i + (j + 1))) = _; rw [if_neg (by omega)]
    · show Fin (if i + (l.length + 1) ≤ i then s else tr.st (i + (l.length + 1)))
      rw [if_neg (by omega)]
      have e : i + 1 + l.length = i + (l.length + 1) := by omega
      rw [← e]; exact g3
end

def setL (L : Nat → Bool) (i : Nat) : Nat → Bool := fun j => if j = i then true else L j

def accT (tr : Tr) (d : Nat → Option Nat) (L : Nat → Bool) : Nat → Nat → AV
  | 0 => (tr.st 0).tm
  | k + 1 => if L k = true then updO (accT tr d L k) (d k) (tr.r k) else accT tr d L k

def accH (tr : Tr) (tg : List Nat) (b : Nat) (L : Nat → Bool) : Nat → (Nat → Option AO) × Nat
  | 0 => ((tr.st 0).H, (tr.st 0).nx)
  | k + 1 => if L k = true then (if k ∈ tg then ((tr.st (k + 1)).H, (tr.st (k + 1)).nx) else (putH (accH tr tg b L k).1 (b + k) (tr.nr k), (accH tr tg b L k).2)) else accH tr tg b L k

theorem updO_comm {f : Nat → AV} {d e : Option Nat} {x y : AV} (h : ∀ t, d = some t → e ≠ some t) : updO (updO f d x) e y = updO (updO f e y) d x := by
  cases d with
  | none => rfl
  | some t =>
    cases e with
    | none => rfl
    | some u =>
      have hne : t ≠ u := fun he => h t rfl (by rw [he])
      funext v
      simp only [updO, upd]
      by_cases h1 : v = u <;> by_cases h2 : v = t <;> simp [h1, h2] <;> first | (intro he; exact absurd he.symm hne) | (intro he; exact absurd he hne) | omega | skip

theorem updO_ne {f : Nat → AV} {d : Option Nat} {x : AV} {t : Nat} (h : d ≠ some t) : updO f d x t = f t := by
  cases d with
  | none => rfl
  | some u => simp only [updO, upd]; rw [if_neg (fun e => h (by rw [e]))]

section
variable {tr : Tr} {d : Nat → Option Nat} {L : Nat → Bool} {i : Nat} {tg : List Nat} {b : Nat}

theorem accT_set (hi : L i = false) (hd : ∀ k t, k ≠ i → d k = some t → d i ≠ some t) : ∀ k, accT tr d (setL L i) k = if k ≤ i then accT tr d L k else updO (accT tr d L k) (d i) (tr.r i)
  | 0 => by simp [accT]
  | k + 1 => by
    have ih := accT_set hi hd k
    rcases Nat.lt_trichotomy k i with h | h | h
    · rw [if_pos (by omega)]
      rw [if_pos (by omega)] at ih
      simp only [accT, setL, if_neg (show ¬ k = i by omega), ih]
    · subst h
      rw [if_neg (by omega)]
      rw [if_pos (Nat.le_refl _)] at ih
      simp only [accT, setL, if_true, ih, hi, Bool.false_eq_true, if_false]
    · rw [if_neg (by omega)]
      rw [if_neg (by omega)] at ih
      simp only [accT, setL, if_neg (show ¬ k = i by omega), ih]
      split
      · exact updO_comm (fun t h1 h2 => hd k t (by omega) h2 h1)
      · rfl

theorem accT_uses {t : Nat} {n : Nat} (hs : ∀ k, k < n → (tr.st (k + 1)).tm = updO (tr.st k).tm (d k) (tr.r k)) (h : ∀ k, k < n → d k = some t → (L k = true ↔ k < i)) :
    ∀ k, k ≤ n → i ≤ n → accT tr d L k t = (tr.st (min k i)).tm t
  | 0, _, _ => by simp [accT]
  | k + 1, hk, hin => by
    have ih := accT_uses hs h k (by omega) hin
    by_cases hd : d k = some t
    · have hL := h k (by omega) hd
      by_cases hki : k < i
      · have : L k = true := hL.2 hki
        simp only [accT, this, if_true]
        rw [show min (k + 1) i = k + 1 by omega, hs k (by omega), hd]
        simp [updO, upd]
      · have : ¬ L k = true := fun h => hki (hL.1 h)
        simp only [accT, this, if_false, Bool.false_eq_true]
        rw [ih, show min k i = min (k + 1) i by omega]
    · have e1 : accT tr d L (k + 1) t = accT tr d L k t := by
        simp only [accT]
        split
        · exact updO_ne hd
        · rfl
      rw [e1, ih]
      by_cases hki : k < i
      · rw [show min (k + 1) i = k + 1 by omega, show min k i = k by omega, hs k (by omega), updO_ne hd]
      · rw [show min k i = min (k + 1) i by omega]

theorem accT_all {n : Nat} (hs : ∀ k, k < n → (tr.st (k + 1)).tm = updO (tr.st k).tm (d k) (tr.r k)) (h : ∀ k, k < n → L k = true) : ∀ k, k ≤ n → accT tr d L k = (tr.st k).tm
  | 0, _ => rfl
  | k + 1, hk => by
    simp only [accT, h k (by omega), if_true, accT_all hs h k (by omega)]
    exact (hs k (by omega)).symm

theorem putH_comm {H : Nat → Option AO} {k1 k2 : Nat} {a c : Option Row} (h : k1 ≠ k2) : putH (putH H k1 a) k2 c = putH (putH H k2 c) k1 a := by
  cases a <;> cases c <;> simp only [putH]
  funext id
  simp only [updH]
  by_cases h1 : id = k1 <;> by_cases h2 : id = k2 <;> simp [h1, h2] <;> omega

theorem accH_pre {L' : Nat → Bool} (n : Nat) (h : ∀ k, k < n → L' k = L k) : ∀ k, k ≤ n → accH tr tg b L' k = accH tr tg b L k
  | 0, _ => rfl
  | k + 1, hk => by simp only [accH, h k (by omega), accH_pre n h k (by omega)]

/-- A loose one is done. -/
theorem accH_set_loose (hi : L i = false) (hit : i ∉ tg) (ht : tr.nr i = none ∨ ∀ k, k ∈ tg → L k = false) : ∀ k, accH tr tg b (setL L i) k = if k ≤ i then accH tr tg b L k else (putH (accH tr tg b L k).1 (b + i) (tr.nr i), (accH tr tg b L k).2)
  | 0 => by simp [accH]
  | k + 1 => by
    have ih := accH_set_loose hi hit ht k
    rcases Nat.lt_trichotomy k i with h | h | h
    · rw [if_pos (by omega)]
      rw [if_pos (by omega)] at ih
      simp only [accH, setL, if_neg (show ¬ k = i by omega), ih]
    · subst h
      rw [if_neg (by omega)]
      rw [if_pos (Nat.le_refl _)] at ih
      simp only [accH, setL, if_true, ih, hi, Bool.false_eq_true, if_false, hit]
    · rw [if_neg (by omega)]
      rw [if_neg (by omega)] at ih
      simp only [accH, setL, if_neg (show ¬ k = i by omega), ih]
      split
      · rename_i hL
        split
        · rename_i hk
          rcases ht with ht | ht
          · rw [ht]; rfl
          · rw [ht k hk] at hL; cases hL
        · rw [putH_comm (by omega)]
      · rfl

/-- One that has its place is done. -/
theorem accH_set_tight (hi : L i = false) (hit : i ∈ tg) (ht : ∀ k, i < k → L k = true → k ∉ tg ∧ tr.nr k = none) : ∀ k, i < k → accH tr tg b (setL L i) k = ((tr.st (i + 1)).H, (tr.st (i + 1)).nx)
  | 0, h => by omega
  | k + 1, h => by
    by_cases hk : k = i
    · subst hk; simp only [accH, setL, if_true, hit]
    · have ih := accH_set_tight hi hit ht k (by omega)
      simp only [accH, setL, if_neg hk, ih]
      split
      · rename_i hL
        have := ht k (by omega) hL
        rw [if_neg this.1, this.2]; rfl
      · rfl

theorem accH_at {n : Nat} (hs : ∀ k, k < n → k ∉ tg → (tr.st (k + 1)).H = putH (tr.st k).H (b + k) (tr.nr k) ∧ (tr.st (k + 1)).nx = (tr.st k).nx) (h : ∀ k, k < n → (k ∈ tg ∨ tr.nr k ≠ none) → L k = true) :
    ∀ k, k ≤ n → accH tr tg b L k = ((tr.st k).H, (tr.st k).nx)
  | 0, _ => rfl
  | k + 1, hk => by
    have ih := accH_at hs h k (by omega)
    simp only [accH, ih]
    by_cases ht : k ∈ tg
    · rw [if_pos (h k (by omega) (.inl ht)), if_pos ht]
    · have h1 := hs k (by omega) ht
      by_cases hn : tr.nr k = none
      · rw [hn] at h1 ⊢
        simp only [putH] at h1 ⊢
        rw [h1.1, h1.2]; split <;> simp
      · rw [if_pos (h k (by omega) (.inr hn)), if_neg ht, h1.1, h1.2]

theorem accH_stay {i : Nat} : ∀ k, i ≤ k → (∀ j, i ≤ j → j < k → L j = true → j ∉ tg ∧ tr.nr j = none) → accH tr tg b L k = accH tr tg b L i
  | 0, h, _ => by have : i = 0 := by omega
                  subst this; rfl
  | k + 1, h, hn => by
    by_cases hk : i = k + 1
    · rw [hk]
    · have ih := accH_stay k (by omega) (fun j h1 h2 => hn j h1 (by omega))
      simp only [accH]
      split
      · rename_i hL
        have := hn k (by omega) (by omega) hL
        rw [if_neg this.1, this.2, ← ih]; rfl
      · exact ih

/-- What was there is there. -/
theorem accH_ext {H1 : Nat → Option AO} {n : Nat} (h0 : Ext H1 (tr.st 0).H) (ha : ∀ k, k < n → k ∉ tg → tr.nr k ≠ none → H1 (b + k) = none) (ht : ∀ k, k < n → k ∈ tg → L k = true → Ext H1 (tr.st (k + 1)).H) :
    ∀ k, k ≤ n → Ext H1 (accH tr tg b L k).1
  | 0, _ => h0
  | k + 1, hk => by
    have ih := accH_ext h0 ha ht k (by omega)
    simp only [accH]
    split
    · rename_i hL
      split
      · rename_i hkt; exact ht k (by omega) hkt hL
      · rename_i hkt
        cases hn : tr.nr k with
        | none => exact ih
        | some r =>
          intro id x hx
          have := ha k (by omega) hkt (by rw [hn]; simp)
          simp only [putH, updH]
          rw [if_neg (fun e => by rw [e] at hx; rw [this] at hx; cases hx)]
          exact ih id x hx
    · exact ih

theorem accH_nx {n : Nat} (h : ∀ k, k < n → k ∈ tg → L k = false) : ∀ k, k ≤ n → (accH tr tg b L k).2 = (tr.st 0).nx
  | 0, _ => rfl
  | k + 1, hk => by
    simp only [accH]
    split
    · rename_i hL
      rw [if_neg (fun hkt => by rw [h k (by omega) hkt] at hL; cases hL)]
      exact accH_nx h k (by omega)
    · exact accH_nx h k (by omega)

theorem accH_fresh {n key : Nat} (h0 : (tr.st 0).H key = none) (h : ∀ k, k < n → k ∈ tg → L k = false) (hk : ∀ k, k < n → L k = true → b + k ≠ key) : ∀ k, k ≤ n → (accH tr tg b L k).1 key = none
  | 0, _ => h0
  | k + 1, hkn => by
    have ih := accH_fresh h0 h hk k (by omega)
    simp only [accH]
    split
    · rename_i hL
      rw [if_neg (fun hkt => by rw [h k (by omega) hkt] at hL; cases hL)]
      cases tr.nr k with
      | none => exact ih
      | some r =>
        simp only [putH, updH]
        rw [if_neg (fun e => hk k (by omega) hL e.symm)]
        exact ih
    · exact ih
end
end Go.Pg

/-
  The rule for regions that draw their order. Conditions: as in PgN.
-/
namespace Go.Pg
open Go Go.RowKit

section
variable {C : Cx} {N : Nat} {Q : Exit → St → Prop} {s : St} {l : List Oper}

theorem Sim.grow {S0 : Fr} {w0 w : World} {a : Act} {s s' : St} (h : Sim S0 w0 N a w s) {w' : World} (hb : Below w.heap.size w w') (h1 : s'.tm = s.tm) (h2 : s'.H = s.H) (h3 : s.nx ≤ s'.nx) : Sim S0 w0 N a w' s' := by
  obtain ⟨σ, hσ⟩ := h
  have hm := hσ.inv.more hσ.size hb
  have hl := hσ.inv.le_more hb
  exact ⟨_, ⟨by rw [h2]; exact hm, fun id hid => by rw [h2]; exact hσ.nx id (Nat.le_trans h3 hid), fun t => by rw [h1]; exact Rep.mono hl _ _ (hσ.tm t), hσ.N, hσ.d, hσ.below.trans (hb.mono hσ.size)⟩⟩

theorem mem_ready {listed : Array Bool} {i : Nat} (hn : listed.size = l.length) :
    i ∈ Region.ready .any l.toArray listed ↔ ∃ o, l[i]? = some o ∧ listed.getD i false = false ∧ ∀ j ∈ bnd o, listed.getD j false = true := by
  unfold Region.ready
  simp only [List.mem_filter, List.mem_range, List.size_toArray, Bool.and_eq_true, Bool.not_eq_true']
  constructor
  · rintro ⟨h1, h2, h3⟩
    have hg : l.toArray[i]? = some l[i] := by simp [h1]
    rw [hg] at h3
    simp only [Option.map_some, Option.getD_some, Array.all_eq_true, Bool.or_eq_true, Bool.not_eq_true'] at h3
    refine ⟨l[i], by simp [h1], ?_, fun j hj => ?_⟩
    · rw [Array.getD_eq_getD_getElem?] at h2 ⊢
      rw [Array.getElem?_eq_getElem (by omega)] at h2 ⊢
      exact h2
    · unfold bnd at hj
      simp only [List.mem_map, List.mem_filter, Array.mem_toList_iff] at hj
      obtain ⟨e, ⟨he, hbe⟩, rfl⟩ := hj
      obtain ⟨k, hk, rfl⟩ := Array.mem_iff_getElem.1 he
      rcases h3 k hk with h | h
      · rw [hbe] at h; cases h
      · exact h
  · rintro ⟨o, h1, h2, h3⟩
    have hlt : i < l.length := (List.getElem?_eq_some_iff.1 h1).1
    refine ⟨hlt, ?_, ?_⟩
    · rw [Array.getD_eq_getD_getElem?] at h2 ⊢
      rw [Array.getElem?_eq_getElem (by omega)] at h2 ⊢
      exact h2
    · have hg : l.toArray[i]? = some o := by simpa using h1
      rw [hg]
      simp only [Option.map_some, Option.getD_some, Array.all_eq_true, Bool.or_eq_true, Bool.not_eq_true']
      intro k hk
      by_cases hb : Region.binds .any o.after[k] = true
      · refine .inr (h3 _ ?_)
        unfold bnd
        simp only [List.mem_map, List.mem_filter, Array.mem_toList_iff]
        exact ⟨_, ⟨Array.getElem_mem hk, hb⟩, rfl⟩
      · exact .inl (by simpa using hb)

theorem filter_len_lt {α : Type} {p q : α → Bool} : ∀ (l : List α) (x : α), x ∈ l → p x = true → q x = false → (∀ y, q y = true → p y = true) → (l.filter q).length < (l.filter p).length
  | [], _, h, _, _, _ => by cases h
  | y :: l, x, h, hp, hq, hm => by
    have hle : (l.filter q).length ≤ (l.filter p).length := by
      clear h
      induction l with
      | nil => simp
      | cons z l ih =>
        simp only [List.filter_cons]
        by_cases h1 : q z = true
        · rw [if_pos h1, if_pos (hm z h1)]; simp only [List.length_cons]; omega
        · rw [if_neg h1]; split
          · simp only [List.length_cons]; omega
          · exact ih
    simp only [List.mem_cons] at h
    simp only [List.filter_cons]
    rcases h with rfl | h
    · rw [if_pos hp, if_neg (by simp [hq])]; simp; omega
    · have ih := filter_len_lt l x h hp hq hm
      by_cases h1 : q y = true
      · rw [if_pos h1, if_pos (hm y h1)]; simp only [List.length_cons]; omega
      · rw [if_neg h1]; split
        · simp only [List.length_cons]; omega
        · exact ih

theorem AW.draw (hm : C.P.follows .mixedOrders = true) {id : Nat} (tg mk av : List Nat) (x : Nat) (hok : drawOK l tg mk = true)
    (h : DW C N l.toArray s.H s.nx tg mk av (fun s' => Q .normal s') 0 l { s with nx := s.nx + x }) : AW C N (.region id l.toArray true) Q s := by
  have hO := ordOK_of hok
  obtain ⟨tr, h0, hT, hF⟩ := DW.trace l 0 _ h
  simp only [Nat.zero_add] at hT hF
  intro S0 w0 a w hE hs
  refine wpIn_region_any hm ?_
  let d : Nat → Option Nat := fun k => (l[k]?).bind (·.dst)
  let b := s.nx
  let LL : Array Bool → Nat → Bool := fun listed k => listed.getD k false
  let stD : (Nat → Bool) → St := fun L => ⟨accT tr d L l.length, (accH tr tg b L l.length).1, (accH tr tg b L l.length).2⟩
  have hs0 : (tr.st 0).H = s.H ∧ (tr.st 0).nx = s.nx + x ∧ (tr.st 0).tm = s.tm := by rw [h0]; exact ⟨rfl, rfl, rfl⟩
  have hget : ∀ {k}, k < l.length → ∃ o, l[k]? = some o := fun {k} h => ⟨_, List.getElem?_eq_getElem h⟩
  have hlt : ∀ {k o}, l[k]? = some o → k < l.length := fun {k o} h => (List.getElem?_eq_some_iff.1 h).1
  have hstep : ∀ k, k < l.length → (tr.st (k + 1)).tm = updO (tr.st k).tm (d k) (tr.r k) := fun k hk => by
    obtain ⟨o, ho⟩ := hget hk
    have := (hT k o ho).1
    rw [this]; simp [d, ho]
  have hloose : ∀ k, k < l.length → k ∉ tg → (tr.st (k + 1)).H = putH (tr.st k).H (b + k) (tr.nr k) ∧ (tr.st (k + 1)).nx = (tr.st k).nx := fun k hk hkt => by
    obtain ⟨o, ho⟩ := hget hk
    have := (hT k o ho).2
    rw [if_neg hkt] at this
    exact ⟨this.1, this.2.1⟩
  have halloc : ∀ k, k < l.length → k ∉ tg → tr.nr k ≠ none → k ∉ mk ∧ s.H (b + k) = none ∧ b + k < (tr.st k).nx := fun k hk hkt hn => by
    obtain ⟨o, ho⟩ := hget hk
    have := (hT k o ho).2
    rw [if_neg hkt] at this
    rcases this.2.2.1 with h | h
    · exact absurd h hn
    · exact h
  -- the ancestors are done
  have hanc : ∀ {L : Nat → Bool}, Closed l L → ∀ {i o k}, l[i]? = some o → ((ancs l []).getD i 0).testBit k = true → (∀ j ∈ bnd o, L j = true) → L k = true := fun {L} hL {i o k} ho hk hj =>
    ancs_spec hL l [] (by simp) (by simp) (by simp) hO.back i o ho k hk hj
  have hancL : ∀ {L : Nat → Bool}, Closed l L → ∀ {i o k}, l[i]? = some o → ((ancs l []).getD i 0).testBit k = true → L i = true → L k = true := fun {L} hL {i o k} ho hk hi =>
    hanc hL ho hk (hL i o ho hi)
  -- an ancestor comes before
  have hancLt : ∀ {i o k}, l[i]? = some o → ((ancs l []).getD i 0).testBit k = true → k < i := by
    intro i o k ho hk
    have hc : Closed l (fun j => decide (j < i)) := fun i' o' ho' hi' j hj => by
      have := hO.back i' o' ho' j hj
      simp only [decide_eq_true_eq] at hi' ⊢; omega
    have := hanc hc ho hk (fun j hj => by simpa using hO.back i o ho j hj)
    simpa using this
  have main : ∀ (fuel : Nat) (listed : Array Bool) (a : Act) (w : World), listed.size = l.length → Closed l (LL listed) → ((List.range l.length).filter (fun i => !(LL listed i))).length ≤ fuel → Sim S0 w0 N a w (stD (LL listed)) →
      wpAnyIn C.F 0 C.P .any l.toArray (fun e a' w' => ∃ s', Sim S0 w0 N a' w' s' ∧ Q e s') fuel listed a w := by
    -- all is done
    have hend : ∀ (listed : Array Bool) (a : Act) (w : World), (∀ k, k < l.length → LL listed k = true) → Sim S0 w0 N a w (stD (LL listed)) → ∃ s', Sim S0 w0 N a w s' ∧ Q .normal s' := by
      intro listed a w hall hsim
      refine ⟨_, hsim, ?_⟩
      have e1 := accT_all (L := LL listed) hstep hall l.length (Nat.le_refl _)
      have e2 := accH_at (L := LL listed) hloose (fun k hk _ => hall k hk) l.length (Nat.le_refl _)
      have : stD (LL listed) = tr.st l.length := by
        show St.mk _ _ _ = _
        rw [e1, e2]
      rw [this]; exact hF
    have hready : ∀ (listed : Array Bool), listed.size = l.length → Region.ready .any l.toArray listed = [] → ∀ k, k < l.length → LL listed k = true := by
      intro listed hsz hr k
      induction k using Nat.strongRecOn with
      | ind k ih =>
        intro hk
        obtain ⟨o, ho⟩ := hget hk
        cases hL : LL listed k with
        | true => rfl
        | false =>
          have : k ∈ Region.ready .any l.toArray listed := (mem_ready hsz).2 ⟨o, ho, hL, fun j hj => ih j (hO.back k o ho j hj) (by have := hO.back k o ho j hj; omega)⟩
          rw [hr] at this; cases this
    intro fuel
    induction fuel with
    | zero =>
      intro listed a w hsz hcl hcnt hsim
      have hall : ∀ k, k < l.length → LL listed k = true := by
        intro k hk
        cases hL : LL listed k with
        | true => rfl
        | false =>
          have : k ∈ (List.range l.length).filter (fun i => !(LL listed i)) := by simp [hk, hL]
          have := List.length_pos_of_mem this
          omega
      refine ⟨?_, hend listed a w hall hsim⟩
      apply List.eq_nil_iff_forall_not_mem.2
      intro i hi
      obtain ⟨o, h1, h2, _⟩ := (mem_ready hsz).1 hi
      have := hall i (hlt h1)
      rw [show LL listed i = listed.getD i false from rfl, h2] at this; cases this
    | succ fuel ih =>
      intro listed a w hsz hcl hcnt hsim
      refine ⟨fun hr => hend listed a w (hready listed hsz hr) hsim, fun i hi => ?_⟩
      obtain ⟨o, ho, hLi, hbo⟩ := (mem_ready hsz).1 hi
      have hil := hlt ho
      have hL' : LL (listed.setIfInBounds i true) = setL (LL listed) i := by
        funext k
        show (listed.setIfInBounds i true).getD k false = setL (LL listed) i k
        unfold setL
        rw [Array.getD_eq_getD_getElem?, Array.getElem?_setIfInBounds]
        by_cases hk : i = k
        · subst hk; simp [hsz, hil]
        · rw [if_neg hk, if_neg (fun e => hk e.symm)]; rw [← Array.getD_eq_getD_getElem?]
      have hbo' : ∀ j ∈ bnd o, LL listed j = true := hbo
      have hcl' : Closed l (LL (listed.setIfInBounds i true)) := by
        rw [hL']
        intro i' o' ho' hi' j hj
        unfold setL at hi' ⊢
        by_cases hji : j = i
        · rw [if_pos hji]
        · rw [if_neg hji]
          by_cases hii : i' = i
          · subst hii; rw [ho] at ho'; injection ho' with ho'; subst ho'; exact hbo' j hj
          · rw [if_neg hii] at hi'; exact hcl i' o' ho' hi' j hj
      have hLi' : LL listed i = false := hLi
      have hcnt' : ((List.range l.length).filter (fun k => !(LL (listed.setIfInBounds i true) k))).length ≤ fuel := by
        have := filter_len_lt (p := fun k => !(LL listed k)) (q := fun k => !(LL (listed.setIfInBounds i true) k)) (List.range l.length) i (by simp [hil]) (by simp [hLi']) (by rw [hL']; simp [setL])
          (fun y hy => by rw [hL'] at hy; unfold setL at hy; by_cases h : y = i <;> simp_all)
        omega
      -- one step
      have hone : One C N l.toArray o (stD (LL listed)) (stD (LL (listed.setIfInBounds i true))) := by
        have hTi := hT i o ho
        have hdi : d i = o.dst := by simp [d, ho]
        -- the temporaries
        have htm : accT tr d (LL (listed.setIfInBounds i true)) l.length = updO (accT tr d (LL listed) l.length) o.dst (tr.r i) := by
          rw [hL', accT_set hLi' (fun k t hk hdk hdi' => by
            have hkl : k < l.length := by
              rcases Nat.lt_or_ge k l.length with h | h
              · exact h
              · simp [d, List.getElem?_eq_none h] at hdk
            obtain ⟨p, hp⟩ := hget hkl
            have h1 : p.dst = some t := by simpa [d, hp] using hdk
            exact hO.dsts i o k p t ho hp hk h1 (by rw [← hdi]; exact hdi')), if_neg (by omega), hdi]
        have huse : ∀ t ∈ o.looksAt l.toArray, accT tr d (LL listed) l.length t = (tr.st i).tm t := by
          intro t ht
          have := accT_uses (tr := tr) (d := d) (L := LL listed) (i := i) (t := t) hstep (fun k hk hdk => by
            obtain ⟨p, hp⟩ := hget hk
            have h1 : p.dst = some t := by simpa [d, hp] using hdk
            rcases hO.uses i o k p t ho hp h1 ht with h | h
            · exact ⟨fun _ => hancLt ho h, fun _ => hanc hcl ho h hbo'⟩
            · have hik := hancLt hp h
              refine ⟨fun hLk => ?_, fun hki => by omega⟩
              have := hancL hcl hp h hLk
              rw [hLi'] at this; cases this) l.length (Nat.le_refl _) (by omega)
          rw [this, Nat.min_eq_right (by omega)]
        by_cases hit : i ∈ tg
        · -- it has its place
          obtain ⟨_, hTi⟩ := hTi
          rw [if_pos hit] at hTi
          have hbefore : ∀ k, k < l.length → k ∉ mk → k ∉ tg → LL listed k = true := fun k hk hkm hkt => by
            obtain ⟨p, hp⟩ := hget hk
            exact hanc hcl ho (hO.loose i o k p ho hp hit hkt hkm) hbo'
          have hafter : ∀ k, i ≤ k → LL listed k = true → k ∉ tg ∧ tr.nr k = none := by
            intro k hk hLk
            have hkl : k < l.length := by
              rcases Nat.lt_or_ge k l.length with h | h
              · exact h
              · have hg : listed.getD k false = true := hLk
                rw [Array.getD_eq_getD_getElem?, Array.getElem?_eq_none (by omega)] at hg; cases hg
            obtain ⟨p, hp⟩ := hget hkl
            have hkt : k ∉ tg := by
              intro hkt
              rcases hO.tight i o k p ho hp hit hkt with h | h | h
              · subst h; rw [hLi'] at hLk; cases hLk
              · have := hancLt ho h; omega
              · have := hancL hcl hp h hLk; rw [hLi'] at this; cases this
            refine ⟨hkt, ?_⟩
            cases hn : tr.nr k with
            | none => rfl
            | some r =>
              have hal := halloc k hkl hkt (by rw [hn]; simp)
              have := hancLt ho (hO.loose i o k p ho hp hit hkt hal.1)
              omega
          have hat : accH tr tg b (LL listed) l.length = ((tr.st i).H, (tr.st i).nx) := by
            rw [accH_stay (i := i) l.length (by omega) (fun j h1 h2 h3 => hafter j h1 h3)]
            exact accH_at (n := i) (fun k hk => hloose k (by omega)) (fun k hk h => by
              obtain ⟨p, hp⟩ := hget (show k < l.length by omega)
              by_cases hkt : k ∈ tg
              · rcases hO.tight i o k p ho hp hit hkt with h | h | h
                · omega
                · exact hanc hcl ho h hbo'
                · have := hancLt hp h; omega
              · rcases h with h | h
                · exact absurd h hkt
                · exact hbefore k (by omega) (halloc k (by omega) hkt h).1 hkt) i (Nat.le_refl _)
          have hset : accH tr tg b (LL (listed.setIfInBounds i true)) l.length = ((tr.st (i + 1)).H, (tr.st (i + 1)).nx) := by
            rw [hL']
            exact accH_set_tight hLi' hit (fun k hk hLk => hafter k (by omega) hLk) l.length hil
          have := hTi.1 (stD (LL listed)) (by show (accH tr tg b (LL listed) l.length).1 = _; rw [hat]) (by show (accH tr tg b (LL listed) l.length).2 = _; rw [hat]) huse
          show One C N l.toArray o (stD (LL listed)) ⟨accT tr d (LL (listed.setIfInBounds i true)) l.length, (accH tr tg b (LL (listed.setIfInBounds i true)) l.length).1, (accH tr tg b (LL (listed.setIfInBounds i true)) l.length).2⟩
          rw [htm, hset]
          exact this
        · obtain ⟨_, hTi⟩ := hTi
          rw [if_neg hit] at hTi
          obtain ⟨_, _, hnr, hcert⟩ := hTi
          -- none that has its place is done before one that they all wait for
          have hnot : i ∉ mk → ∀ k, k ∈ tg → LL listed k = false := by
            intro hmi k hkt
            cases hLk : LL listed k with
            | false => rfl
            | true =>
              have hkl : k < l.length := by
                rcases Nat.lt_or_ge k l.length with h | h
                · exact h
                · have hg : listed.getD k false = true := hLk
                  rw [Array.getD_eq_getD_getElem?, Array.getElem?_eq_none (by omega)] at hg; cases hg
              obtain ⟨p, hp⟩ := hget hkl
              have := hancL hcl hp (hO.loose k p i o hp ho hkt hit hmi) hLk
              rw [hLi'] at this; cases this
          have hset : accH tr tg b (LL (listed.setIfInBounds i true)) l.length = (putH (accH tr tg b (LL listed) l.length).1 (b + i) (tr.nr i), (accH tr tg b (LL listed) l.length).2) := by
            rw [hL', accH_set_loose hLi' hit (by
              rcases hnr with h | h
              · exact .inl h
              · exact .inr (fun k hk => hnot h.1 k hk)) l.length, if_neg (by omega)]
          have hfreshK : ∀ k, k < l.length → k ∉ tg → tr.nr k ≠ none → s.H (b + k) = none := fun k hk hkt hn => (halloc k hk hkt hn).2.1
          have hext : Ext (if i ∈ mk then mask av s.H else s.H) (accH tr tg b (LL listed) l.length).1 := by
            by_cases hmi : i ∈ mk
            · rw [if_pos hmi]
              -- what is not written stays in the order of the text
              have hst : ∀ k, k ≤ l.length → Ext (mask av s.H) (tr.st k).H := by
                intro k
                induction k with
                | zero => intro _ id x hx; rw [hs0.1]; unfold mask at hx; split at hx <;> first | cases hx | exact hx
                | succ k ih2 =>
                  intro hk
                  have ih3 := ih2 (by omega)
                  obtain ⟨p, hp⟩ := hget (show k < l.length by omega)
                  by_cases hkt : k ∈ tg
                  · have := (hT k p hp).2
                    rw [if_pos hkt] at this
                    intro id x hx
                    have hav : id ∉ av := by unfold mask at hx; split at hx <;> simp_all
                    rcases this.2 with h | h
                    · rw [h] at hmi; cases hmi
                    · exact h id x hav (ih3 id x hx)
                  · rw [(hloose k (by omega) hkt).1]
                    cases hn : tr.nr k with
                    | none => exact ih3
                    | some r =>
                      intro id x hx
                      have hf := hfreshK k (by omega) hkt (by rw [hn]; simp)
                      simp only [putH, updH]
                      rw [if_neg (fun e => by subst e; unfold mask at hx; split at hx <;> simp_all)]
                      exact ih3 id x hx
              refine accH_ext (n := l.length) (hst 0 (by omega)) (fun k hk hkt hn => ?_) (fun k hk _ _ => hst (k + 1) (by omega)) l.length (Nat.le_refl _)
              have := hfreshK k hk hkt hn
              unfold mask; split <;> first | rfl | exact this
            · rw [if_neg hmi]
              exact accH_ext (n := l.length) (fun id x hx => by rw [hs0.1]; exact hx) (fun k hk hkt hn => hfreshK k hk hkt hn) (fun k hk hkt hLk => by rw [hnot hmi k hkt] at hLk; cases hLk) l.length (Nat.le_refl _)
          have hkey : tr.nr i = none ∨ ((stD (LL listed)).H (b + i) = none ∧ b + i < (stD (LL listed)).nx) := by
            rcases hnr with h | ⟨h1, h2, h3⟩
            · exact .inl h
            · refine .inr ⟨?_, ?_⟩
              · refine accH_fresh (n := l.length) (by rw [hs0.1]; exact h2) (fun k hk hkt => hnot h1 k hkt) (fun k hk hLk e => ?_) l.length (Nat.le_refl _)
                have : k = i := by omega
                subst this; rw [hLi'] at hLk; cases hLk
              · show b + i < (accH tr tg b (LL listed) l.length).2
                rw [accH_nx (n := l.length) (fun k hk hkt => hnot h1 k hkt) l.length (Nat.le_refl _)]
                have hbefore : ∀ k, k < i → k ∉ tg := by
                  intro k hk hkt
                  obtain ⟨p, hp⟩ := hget (show k < l.length by omega)
                  have := hancLt hp (hO.loose k p i o hp ho hkt hit h1)
                  omega
                have : ∀ k, k ≤ i → (tr.st k).nx = (tr.st 0).nx := by
                  intro k
                  induction k with
                  | zero => intro _; rfl
                  | succ k ih2 => intro hk; rw [(hloose k (by omega) (hbefore k (by omega))).2]; exact ih2 (by omega)
                rw [← this i (Nat.le_refl _)]; exact h3
          have := hcert (stD (LL listed)) hext hkey huse
          show One C N l.toArray o (stD (LL listed)) ⟨accT tr d (LL (listed.setIfInBounds i true)) l.length, (accH tr tg b (LL (listed.setIfInBounds i true)) l.length).1, (accH tr tg b (LL (listed.setIfInBounds i true)) l.length).2⟩
          rw [htm, hset]
          exact this
      unfold wpOpIn
      have hg : l.toArray[i]? = some o := by simpa using ho
      rw [hg]
      dsimp only
      have h9 := hone S0 w0 a w (wpAnyIn C.F 0 C.P .any l.toArray (fun e a' w' => ∃ s', Sim S0 w0 N a' w' s' ∧ Q e s') fuel (listed.setIfInBounds i true)) (fun e a' w' => ∃ s', Sim S0 w0 N a' w' s' ∧ Q e s') hE hsim (fun a' w' hs' => ih _ a' w' (by simp [hsz]) hcl' hcnt' hs')
      split
      · rename_i hw; rw [if_pos hw] at h9; exact h9
      · rename_i hw; rw [if_neg hw] at h9; exact ⟨fun f _ => C.hF.fn f, h9⟩
  refine main _ _ _ _ (by simp) ?_ ?_ ?_
  · intro i o ho hi
    exfalso
    have : (Array.replicate l.toArray.size false).getD i false = true := hi
    rw [Array.getD_eq_getD_getElem?] at this
    simp [Array.getElem?_replicate] at this
    split at this <;> simp at this
  · refine Nat.le_trans (List.length_filter_le _ _) (by simp)
  · have hnone : ∀ k, LL (Array.replicate l.toArray.size false) k = false := fun k => by
      show (Array.replicate l.toArray.size false).getD k false = false
      rw [Array.getD_eq_getD_getElem?]
      simp only [Array.getElem?_replicate]
      split <;> rfl
    have e1 : ∀ k, accT tr d (LL (Array.replicate l.toArray.size false)) k = s.tm := by
      intro k; induction k with
      | zero => exact hs0.2.2
      | succ k ih => simp only [accT, hnone, Bool.false_eq_true, if_false, ih]
    have e2 : ∀ k, accH tr tg b (LL (Array.replicate l.toArray.size false)) k = (s.H, s.nx + x) := by
      intro k; induction k with
      | zero => show ((tr.st 0).H, (tr.st 0).nx) = _; rw [hs0.1, hs0.2.1]
      | succ k ih => simp only [accH, hnone, Bool.false_eq_true, if_false, ih]
    refine hs.grow (s' := stD _) (w' := { w with drawn := w.drawn + 1 }) ⟨rfl, rfl, rfl, Nat.le_refl _, fun _ _ => rfl⟩ (e1 _) ?_ ?_
    · show (accH tr tg b _ _).1 = _; rw [e2]
    · show s.nx ≤ (accH tr tg b _ _).2; rw [e2]; exact Nat.le_add_right _ _
end
end Go.Pg

/-
  Rules for the walk of a region that draws its order. Conditions: as in PgN.
-/
namespace Go.Pg
open Go Go.RowKit

section
variable {H H' : Nat → Option AO}

theorem rowAt_mono (h : Ext H H') {id : Nat} {r : Row} (hr : rowAt H id = some r) : rowAt H' id = some r := by
  have := h id _ (rowAt_eq hr)
  unfold rowAt; rw [this]

theorem rdPtr_mono (h : Ext H H') {p : AV} {x : List AV × Nat} (hr : rdPtr H p = some x) : rdPtr H' p = some x := by
  cases p <;> simp only [rdPtr] at hr ⊢ <;> try exact hr
  split at hr
  · rename_i r hrow; rw [rowAt_mono h hrow]; exact hr
  · cases hr

theorem loadA_mono (h : Ext H H') {T : TypeId → Option Ty} {t : TypeId} {p x : AV} (hr : loadA T H t p = some x) : loadA T H' t p = some x := by
  unfold loadA at hr ⊢
  split at hr
  · rename_i h1 h2; rw [h1, rdPtr_mono h h2]; exact hr
  · cases hr

theorem indexAddrA_mono (h : Ext H H') {T : TypeId → Option Ty} {t : TypeId} {p i x : AV} (hr : indexAddrA T H t p i = some x) : indexAddrA T H' t p i = some x := by
  cases p <;> try exact hr
  rename_i id off n
  cases hrow : rowAt H id with
  | none =>
    exfalso
    simp only [indexAddrA, hrow] at hr
    repeat' split at hr
    all_goals first | (cases hr; done) | (simp [offA] at hr; done)
  | some r =>
    simp only [indexAddrA, hrow] at hr
    simp only [indexAddrA, rowAt_mono h hrow]
    exact hr

theorem sliceA_mono (h : Ext H H') {T : TypeId → Option Ty} {t : TypeId} {p x : AV} {lo hi : Option AV} (hr : sliceA T H t p lo hi = some x) : sliceA T H' t p lo hi = some x := by
  by_cases hp : ∃ id off n, p = .ref id off n
  · obtain ⟨id, off, n, rfl⟩ := hp
    cases hT : T t with
    | none => simp [sliceA, hT] at hr
    | some y =>
      obtain ⟨sz, bs, z, d⟩ := y
      cases d <;> simp only [sliceA, hT] at hr ⊢ <;> try (cases hr; done)
      cases hrow : rowAt H id with
      | none => simp [hrow] at hr
      | some r =>
        simp only [hrow] at hr
        simp only [rowAt_mono h hrow]
        exact hr
  · unfold sliceA at hr ⊢
    split at hr <;> simp_all

theorem lookupA_mono (h : Ext H H') {T : TypeId → Option Ty} {t : TypeId} {p i x : AV} {ok : Bool} (hr : lookupA T H t p i ok = some x) : lookupA T H' t p i ok = some x := by
  unfold lookupA at hr ⊢
  split at hr
  · split at hr
    · rename_i h1 h2 h3
      simp only [h1, h2, h _ _ h3]
      exact hr
    · cases hr
  · cases hr

theorem evsA_congr {ev ev' : Operand → AV} : ∀ {l : List Operand}, (∀ x ∈ l, ev x = ev' x) → evsA l ev = evsA l ev'
  | [], _ => rfl
  | x :: l, h => by simp only [evsA]; rw [h x (by simp), evsA_congr (fun y hy => h y (by simp [hy]))]

theorem listA_congr {ev ev' : Operand → AV} : ∀ {l : List (Nat × Operand)}, (∀ x ∈ l.map (·.2), ev x = ev' x) → listA l ev = listA l ev'
  | [], _ => rfl
  | x :: l, h => by simp only [listA]; rw [h x.2 (by simp), listA_congr (fun y hy => h y (by simp only [List.map_cons, List.mem_cons]; exact .inr hy))]

theorem map_some_mono {α β : Type} {f : α → β} {x y : Option α} {z : β} (h : ∀ a, x = some a → y = some a) (hx : x.map f = some z) : y.map f = some z := by
  simp only [Option.map_eq_some_iff] at hx ⊢
  obtain ⟨a, h1, h2⟩ := hx
  exact ⟨a, h a h1, h2⟩

theorem stepA_mono {T : TypeId → Option Ty} {eqT : TypeId → Bool} {ev ev' : Operand → AV} {key : Nat} {op : Op} {res : AV × Option Row} (hH : Ext H H') (hev : ∀ x ∈ op.operands, ev x = ev' x)
    (h : stepA T eqT H ev key op = some res) : stepA T eqT H' ev' key op = some res := by
  cases op
  case slice t x lo hi mx =>
    cases mx
    · simp only [stepA] at h ⊢
      rw [← hev x (by simp [Op.operands])]
      have e1 : lo.map ev' = lo.map ev := by
        cases lo with
        | none => rfl
        | some u => rw [Option.map_some, Option.map_some, hev u (by simp [Op.operands])]
      have e2 : hi.map ev' = hi.map ev := by
        cases hi with
        | none => rfl
        | some u => rw [Option.map_some, Option.map_some, hev u (by simp [Op.operands])]
      rw [e1, e2]
      exact map_some_mono (fun _ h => sliceA_mono hH h) h
    · simp [stepA] at h
  case makeFunc f first cs =>
    cases f <;> simp only [stepA] at h ⊢ <;> try (cases h; done)
    rw [← evsA_congr (ev := ev) (ev' := ev') (l := cs.toList) (fun y hy => hev y (by simp only [Op.operands, Array.mem_append]; exact .inr (by simpa using hy)))]
    exact h
  case call c =>
    obtain ⟨callee, args, tys⟩ := c
    have hargs : evsA args.toList ev = evsA args.toList ev' := evsA_congr (fun y hy => hev y (by simp only [Op.operands, Call.operands, Array.mem_append]; exact .inr (by simpa using hy)))
    cases callee <;> simp only [stepA] at h ⊢ <;> try (cases h; done)
    rename_i b
    cases b <;> simp only at h ⊢ <;> try (cases h; done)
    · split at h
      · rename_i x t h1 h2
        rw [h1] at hargs
        simp only [evsA] at hargs
        injection hargs with hargs
        simp only [h1, h2, ← hargs]; exact h
      · cases h
    all_goals (rw [← hargs]; exact h)
  case build t ps =>
    simp only [stepA] at h ⊢
    rw [← listA_congr (ev := ev) (ev' := ev') (l := ps.toList) (fun y hy => hev y (by simpa [Op.operands] using hy))]; exact h
  case buildSlice t n ps =>
    simp only [stepA] at h ⊢
    rw [← listA_congr (ev := ev) (ev' := ev') (l := ps.toList) (fun y hy => hev y (by simpa [Op.operands] using hy))]; exact h
  case pick c x y =>
    simp only [stepA] at h ⊢
    rw [← hev c (by simp [Op.operands]), ← hev x (by simp [Op.operands]), ← hev y (by simp [Op.operands])]; exact h
  case load t x =>
    simp only [stepA] at h ⊢
    rw [← hev x (by simp [Op.operands])]
    exact map_some_mono (fun _ h => loadA_mono hH h) h
  case indexAddr t x i =>
    simp only [stepA] at h ⊢
    rw [← hev x (by simp [Op.operands]), ← hev i (by simp [Op.operands])]
    exact map_some_mono (fun _ h => indexAddrA_mono hH h) h
  case lookup t x i ok =>
    simp only [stepA] at h ⊢
    rw [← hev x (by simp [Op.operands]), ← hev i (by simp [Op.operands])]
    exact map_some_mono (fun _ h => lookupA_mono hH h) h
  case makeSlice t x i =>
    simp only [stepA] at h ⊢
    rw [← hev x (by simp [Op.operands]), ← hev i (by simp [Op.operands])]; exact h
  case binOp op t x y yt =>
    simp only [stepA] at h ⊢
    rw [← hev x (by simp [Op.operands]), ← hev y (by simp [Op.operands])]; exact h
  case index t x y =>
    simp only [stepA] at h ⊢
    rw [← hev x (by simp [Op.operands]), ← hev y (by simp [Op.operands])]; exact h
  all_goals first
    | (simp only [stepA] at h ⊢; exact h)
    | (simp only [stepA] at h ⊢; rename_i x; rw [← hev x (by simp [Op.operands])]; exact h)
    | (simp only [stepA] at h ⊢; rename_i x _; rw [← hev x (by simp [Op.operands])]; exact h)
    | (simp only [stepA] at h ⊢; rename_i x _ _; rw [← hev x (by simp [Op.operands])]; exact h)
    | (simp [stepA] at h; done)

mutual
theorem viewA_mono (h : Ext H H') : ∀ (c c' : AV), viewA H c = some c' → viewA H' c = some c'
  | .junk, c', hc => hc
  | .v x, c', hc => by
    unfold viewA at hc ⊢
    split at hc <;> try contradiction
    · rename_i he; injection he with he
    · exact hc
  | .agg cs, c', hc => by
    simp only [viewA, Option.map_eq_some_iff] at hc ⊢
    obtain ⟨ds, h1, h2⟩ := hc
    exact ⟨ds, viewL_mono h cs ds h1, h2⟩
  | .tup cs, c', hc => by
    simp only [viewA, Option.map_eq_some_iff] at hc ⊢
    obtain ⟨ds, h1, h2⟩ := hc
    exact ⟨ds, viewL_mono h cs ds h1, h2⟩
  | .clo f cs, c', hc => by
    simp only [viewA, Option.map_eq_some_iff] at hc ⊢
    obtain ⟨ds, h1, h2⟩ := hc
    exact ⟨ds, viewL_mono h cs ds h1, h2⟩
  | .lst es, c', hc => hc
  | .iptr e j, c', hc => hc
  | .ref id off n, c', hc => by
    simp only [viewA] at hc ⊢
    split at hc
    · rename_i r hr; rw [rowAt_mono h hr]; exact hc
    · cases hc
  | .ptr id i j tag, c', hc => by
    simp only [viewA] at hc ⊢
    split at hc
    · rename_i r hr; rw [rowAt_mono h hr]; exact hc
    · cases hc
  | .map id, c', hc => by simp [viewA] at hc
theorem viewL_mono (h : Ext H H') : ∀ (cs ds : List AV), viewL H cs = some ds → viewL H' cs = some ds
  | [], ds, hc => hc
  | c :: cs, ds, hc => by
    simp only [viewL] at hc ⊢
    split at hc
    · rename_i d ds' h1 h2
      rw [viewA_mono h c d h1, viewL_mono h cs ds' h2]; exact hc
    · cases hc
end

theorem viewLL_mono (h : Ext H H') : ∀ (es ds : List (List AV)), viewLL H es = some ds → viewLL H' es = some ds
  | [], ds, hc => hc
  | c :: cs, ds, hc => by
    simp only [viewLL] at hc ⊢
    split at hc
    · rename_i d ds' h1 h2
      rw [viewL_mono h c d h1, viewLL_mono h cs ds' h2]; exact hc
    · cases hc

theorem srcA_mono (h : Ext H H') {x : AV} {es : List (List AV)} (hc : srcA H x = some es) : srcA H' x = some es := by
  by_cases hp : ∃ id off n, x = .ref id off n
  · obtain ⟨id, off, n, rfl⟩ := hp
    cases hrow : rowAt H id with
    | none => simp [srcA, hrow] at hc
    | some r =>
      simp only [srcA, hrow] at hc
      simp only [srcA, rowAt_mono h hrow]
      exact hc
  · unfold srcA at hc ⊢
    split at hc <;> simp_all
end

theorem ev_congr {s s' : St} {ops : Array Oper} {o : Oper} (h : ∀ t ∈ o.looksAt ops, s.tm t = s'.tm t) : ∀ x ∈ o.op.operands, s.ev x = s'.ev x := by
  intro x hx
  cases x with
  | tmp t => exact h t (List.mem_append_left _ (List.mem_filterMap.2 ⟨.tmp t, by simpa using hx, rfl⟩))
  | _ => rfl

theorem one_guard {C : Cx} {N : Nat} {ops : Array Oper} {o : Oper} {s s' : St} {j t : Nat} {want : Bool} (hg : o.guard = some (j, want)) (ht : (ops[j]?).bind (·.dst) = some t) (hb : s.tm t = .v (.bool want)) (h : One C N ops { o with guard := none } s s') : One C N ops o s s' := by
  intro S0 w0 a w K Q hE hs hK
  have := h S0 w0 a w K Q hE hs hK
  obtain ⟨σ, hσ⟩ := hs
  have hy := yielded_of (ops := ops) hσ ht hb
  rw [if_pos (by simp [Region.wanted])] at this
  rw [if_pos (by simp [Region.wanted, hg, hy])]
  exact this

theorem one_skip {C : Cx} {N : Nat} {ops : Array Oper} {o : Oper} {s : St} {j t d : Nat} {want : Bool} (hg : o.guard = some (j, want)) (ht : (ops[j]?).bind (·.dst) = some t) (hb : s.tm t = .v (.bool (!want))) (hd : o.dst = some d) (hN : d < N) : One C N ops o s ⟨upd s.tm d (.v undef), s.H, s.nx⟩ := by
  intro S0 w0 a w K Q hE hs hK
  obtain ⟨σ, hσ⟩ := hs
  have hy := yielded_of (ops := ops) hσ ht hb
  rw [if_neg (by simp [Region.wanted, hg, hy])]
  rw [hd]
  refine hK _ _ ⟨σ, ?_⟩
  exact hσ.put hN (s' := { s with tm := upd s.tm d (.v undef) }) (r := .v undef) hσ.inv hσ.nx (hσ.inv.le_heap (fun _ _ => rfl)) (Below.refl _ _) rfl rfl

theorem one_skipU {C : Cx} {N : Nat} {ops : Array Oper} {o : Oper} {s : St} {j t d : Nat} {want : Bool} (hg : o.guard = some (j, want)) (ht : (ops[j]?).bind (·.dst) = some t) (hb : s.tm t = .v undef) (hd : o.dst = some d) (hN : d < N) : One C N ops o s ⟨upd s.tm d (.v undef), s.H, s.nx⟩ := by
  intro S0 w0 a w K Q hE hs hK
  obtain ⟨σ, hσ⟩ := hs
  have hy := yielded_undef (ops := ops) hσ ht hb
  rw [if_neg (by simp [Region.wanted, hg, hy])]
  rw [hd]
  refine hK _ _ ⟨σ, ?_⟩
  exact hσ.put hN (s' := { s with tm := upd s.tm d (.v undef) }) (r := .v undef) hσ.inv hσ.nx (hσ.inv.le_heap (fun _ _ => rfl)) (Below.refl _ _) rfl rfl

theorem looks_guard {ops : Array Oper} {o : Oper} {j t : Nat} {want : Bool} (hg : o.guard = some (j, want)) (ht : (ops[j]?).bind (·.dst) = some t) : t ∈ o.looksAt ops := by
  unfold Oper.looksAt
  rw [hg]
  simp only [ht]
  exact List.mem_append_right _ (by simp)

theorem looks_sub {ops : Array Oper} {o : Oper} {t : Nat} (h : t ∈ ({ o with guard := none } : Oper).looksAt ops) : t ∈ o.looksAt ops := by
  unfold Oper.looksAt at h ⊢
  rcases List.mem_append.1 h with h | h
  · exact List.mem_append_left _ h
  · cases h

section
variable {C : Cx} {N : Nat} {ops : Array Oper} {H0 : Nat → Option AO} {b : Nat} {tg mk av : List Nat} {Fin : St → Prop} {s : St} {i : Nat} {rest : List Oper}
variable {op : Op} {ty : TypeId} {ps : String} {af : Array Edge} {d j t : Nat} {want bb : Bool}

theorem stepA_put {T : TypeId → Option Ty} {eqT : TypeId → Bool} {H : Nat → Option AO} {ev : Operand → AV} {k1 k2 : Nat} {op : Op} {r : AV} (h : stepA T eqT H ev k1 op = some (r, none)) : stepA T eqT H ev k2 op = some (r, none) := by
  cases op <;> try exact h
  case call c => obtain ⟨callee, args, tys⟩ := c; cases callee <;> try exact h
                 rename_i b; cases b <;> exact h
  case slice t x lo hi mx => cases mx <;> exact h
  case makeFunc f first cs => cases f <;> exact h
  all_goals (simp only [stepA] at h)
  all_goals (repeat' split at h)
  all_goals (try cases h)
  all_goals (simp only [Option.map_eq_some_iff] at h; obtain ⟨_, _, h⟩ := h; cases h)

/-- A value that is read or computed. -/
theorem D.step (hC : C.OK) (hN : d < N) (hi : i ∉ tg ∧ i ∉ mk) {r : AV} (h : stepA C.T C.eqT H0 s.ev 0 op = some (r, none)) (k : DW C N ops H0 b tg mk av Fin (i + 1) rest (s.put d r none)) :
    DW C N ops H0 b tg mk av Fin i (⟨some d, op, ty, ps, af, none⟩ :: rest) s := by
  refine ⟨r, s.put d r none, rfl, ?_, k⟩
  rw [if_neg hi.1, if_neg hi.2]
  refine ⟨none, rfl, rfl, .inl rfl, fun s' hx _ ht => one_of_AWL (AWL.step (d := d) (r := r) (nr := none) hC rfl rfl hN ?_ (AWL.nil ⟨rfl, rfl⟩))⟩
  exact stepA_put (stepA_mono hx (fun x hx => (ev_congr ht x hx).symm) h)

/-- The same, where it may come up behind a write. -/
theorem D.stepm (hC : C.OK) (hN : d < N) (hi : i ∉ tg ∧ i ∈ mk) {r : AV} (h : stepA C.T C.eqT (mask av H0) s.ev 0 op = some (r, none)) (k : DW C N ops H0 b tg mk av Fin (i + 1) rest (s.put d r none)) :
    DW C N ops H0 b tg mk av Fin i (⟨some d, op, ty, ps, af, none⟩ :: rest) s := by
  refine ⟨r, s.put d r none, rfl, ?_, k⟩
  rw [if_neg hi.1, if_pos hi.2]
  refine ⟨none, rfl, rfl, .inl rfl, fun s' hx _ ht => one_of_AWL (AWL.step (d := d) (r := r) (nr := none) hC rfl rfl hN ?_ (AWL.nil ⟨rfl, rfl⟩))⟩
  exact stepA_put (stepA_mono hx (fun x hx => (ev_congr ht x hx).symm) h)

/-- A value that has its place. -/
theorem D.stept (hC : C.OK) (hN : d < N) (hi : i ∈ tg) {r : AV} (h : stepA C.T C.eqT s.H s.ev 0 op = some (r, none)) (k : DW C N ops H0 b tg mk av Fin (i + 1) rest (s.put d r none)) :
    DW C N ops H0 b tg mk av Fin i (⟨some d, op, ty, ps, af, none⟩ :: rest) s := by
  refine ⟨r, s.put d r none, rfl, ?_, k⟩
  rw [if_pos hi]
  refine ⟨fun s' h1 h2 ht => one_of_AWL (AWL.step (d := d) (r := r) (nr := none) hC rfl rfl hN ?_ (AWL.nil ⟨rfl, ?_⟩)), .inr fun id x _ hx => hx⟩
  · have := stepA_put (k2 := s'.nx) (stepA_mono (H' := s'.H) (fun id x hx => by rw [h1]; exact hx) (fun x hx => (ev_congr ht x hx).symm) h)
    exact this
  · show St.mk _ _ _ = _
    rw [show putH s'.H s'.nx none = s'.H from rfl, h1, h2]; rfl

theorem one_alloc (hC : C.OK) (hN : d < N) {s' : St} {key : Nat} {r : AV} {row : Row} (h : stepA C.T C.eqT s'.H s'.ev key op = some (r, some row)) (hH : s'.H key = none) (hn : key < s'.nx) :
    One C N ops ⟨some d, op, ty, ps, af, none⟩ s' ⟨upd s'.tm d r, updH s'.H key (.row row), s'.nx⟩ := by
  rintro S0 w0 a w K Q hE ⟨σ, hσ⟩ hK
  obtain ⟨v, w', σ', h1, h2, h3, h4, h5⟩ := stepA_sound (o := ⟨some d, op, ty, ps, af, none⟩) hC.T hC.eqT hσ.inv hσ.size hH (fun x => hσ.ev x) h
  rw [if_pos (by simp [Region.wanted])]
  refine Oper.wpIn_of_wp C.hF (stepA_nodefer h) ?_
  simp only [Oper.wp, Oper.upon, h1]
  refine hK _ _ ⟨σ', hσ.put hN (s' := ⟨upd s'.tm d r, updH s'.H key (.row row), s'.nx⟩) h4 (fun id hid => ?_) h3 h2 h5 rfl⟩
  show updH s'.H key _ id = none
  simp only [updH]
  rw [if_neg (by have : s'.nx ≤ id := hid; omega)]
  exact hσ.nx id hid

/-- A new object. -/
theorem D.alloc (hC : C.OK) (hN : d < N) (hi : i ∉ tg ∧ i ∉ mk) {r : AV} {row : Row} (h : stepA C.T C.eqT H0 s.ev (b + i) op = some (r, some row)) (hH : H0 (b + i) = none) (hn : b + i < s.nx)
    (k : DW C N ops H0 b tg mk av Fin (i + 1) rest ⟨upd s.tm d r, updH s.H (b + i) (.row row), s.nx⟩) :
    DW C N ops H0 b tg mk av Fin i (⟨some d, op, ty, ps, af, none⟩ :: rest) s := by
  refine ⟨r, ⟨upd s.tm d r, updH s.H (b + i) (.row row), s.nx⟩, rfl, ?_, k⟩
  rw [if_neg hi.1, if_neg hi.2]
  refine ⟨some row, rfl, rfl, .inr ⟨hi.2, hH, hn⟩, fun s' hx hk ht => ?_⟩
  rcases hk with hk | hk
  · cases hk
  · exact one_alloc hC hN (stepA_mono hx (fun x hx => (ev_congr ht x hx).symm) h) hk.1 hk.2

theorem D.gY (hj : (ops[j]?).bind (·.dst) = some t) (hb : s.tm t = .v (.bool want)) (k : DW C N ops H0 b tg mk av Fin i (⟨some d, op, ty, ps, af, none⟩ :: rest) s) :
    DW C N ops H0 b tg mk av Fin i (⟨some d, op, ty, ps, af, some (j, want)⟩ :: rest) s := by
  obtain ⟨r, s', h1, h2, h3⟩ := k
  have ht := looks_guard (o := ⟨some d, op, ty, ps, af, some (j, want)⟩) rfl hj
  refine ⟨r, s', h1, ?_, h3⟩
  by_cases hi : i ∈ tg
  · rw [if_pos hi] at h2 ⊢
    refine ⟨fun s1 g1 g2 g3 => ?_, h2.2⟩
    exact one_guard rfl hj (by rw [g3 t ht]; exact hb) (h2.1 s1 g1 g2 (fun u hu => g3 u (looks_sub hu)))
  · rw [if_neg hi] at h2 ⊢
    obtain ⟨nr, g1, g2, g3, g4⟩ := h2
    refine ⟨nr, g1, g2, g3, fun s1 e1 e2 e3 => ?_⟩
    exact one_guard rfl hj (by rw [e3 t ht]; exact hb) (g4 s1 e1 e2 (fun u hu => e3 u (looks_sub hu)))

theorem D.gN (hj : (ops[j]?).bind (·.dst) = some t) (hN : d < N) (hi : i ∉ tg) (hb : s.tm t = .v (.bool (!want))) (k : DW C N ops H0 b tg mk av Fin (i + 1) rest (s.put d (.v undef) none)) :
    DW C N ops H0 b tg mk av Fin i (⟨some d, op, ty, ps, af, some (j, want)⟩ :: rest) s := by
  have ht := looks_guard (o := ⟨some d, op, ty, ps, af, some (j, want)⟩) rfl hj
  refine ⟨.v undef, s.put d (.v undef) none, rfl, ?_, k⟩
  rw [if_neg hi]
  exact ⟨none, rfl, rfl, .inl rfl, fun s1 _ _ e3 => one_skip rfl hj (by rw [e3 t ht]; exact hb) rfl hN⟩

theorem D.gU (hj : (ops[j]?).bind (·.dst) = some t) (hN : d < N) (hi : i ∉ tg) (hb : s.tm t = .v undef) (k : DW C N ops H0 b tg mk av Fin (i + 1) rest (s.put d (.v undef) none)) :
    DW C N ops H0 b tg mk av Fin i (⟨some d, op, ty, ps, af, some (j, want)⟩ :: rest) s := by
  have ht := looks_guard (o := ⟨some d, op, ty, ps, af, some (j, want)⟩) rfl hj
  refine ⟨.v undef, s.put d (.v undef) none, rfl, ?_, k⟩
  rw [if_neg hi]
  exact ⟨none, rfl, rfl, .inl rfl, fun s1 _ _ e3 => one_skipU rfl hj (by rw [e3 t ht]; exact hb) rfl hN⟩

theorem D.gS (hj : (ops[j]?).bind (·.dst) = some t) (hN : d < N) (hi : i ∉ tg) (hb : s.tm t = .v (.bool bb)) (k1 : bb = want → DW C N ops H0 b tg mk av Fin i (⟨some d, op, ty, ps, af, none⟩ :: rest) (s.put t (.v (.bool want)) none))
    (k2 : bb = !want → DW C N ops H0 b tg mk av Fin (i + 1) rest ((s.put t (.v (.bool (!want))) none).put d (.v undef) none)) :
    DW C N ops H0 b tg mk av Fin i (⟨some d, op, ty, ps, af, some (j, want)⟩ :: rest) s := by
  by_cases hw : bb = want
  · have := k1 hw
    rw [put_same_tm (by rw [hb, hw])] at this
    exact D.gY hj (by rw [hb, hw]) this
  · have hw' : bb = !want := by cases bb <;> cases want <;> simp_all
    have := k2 hw'
    rw [put_same_tm (t := t) (by rw [hb, hw'])] at this
    exact D.gN hj hN hi (by rw [hb, hw']) this

/-- A call whose result is known. -/
theorem D.callv (hC : C.OK) (hN : d < N) (hi : i ∉ tg ∧ i ∉ mk) {fo : Operand} {args : Array Operand} {tys : Array TypeId} {f : FuncId} {caps vs : List AV} {R : AV} (hf : s.ev fo = .clo f caps) (hv : viewL H0 (evsA args.toList s.ev ++ caps) = some vs) (hok : OKv C f vs R)
    (hfl : (flatA R || (idsL (evsA args.toList s.ev ++ caps)).isEmpty) = true) (k : DW C N ops H0 b tg mk av Fin (i + 1) rest (s.put d R none)) :
    DW C N ops H0 b tg mk av Fin i (⟨some d, .call { callee := .value fo, args := args, argTypes := tys }, ty, ps, af, none⟩ :: rest) s := by
  refine ⟨R, s.put d R none, rfl, ?_, k⟩
  rw [if_neg hi.1, if_neg hi.2]
  refine ⟨none, rfl, rfl, .inl rfl, fun s' hx _ ht => ?_⟩
  have hev := ev_congr ht
  have e1 : s'.ev fo = .clo f caps := by rw [hev fo (by simp [Op.operands, Call.operands])]; exact hf
  have e2 : evsA args.toList s'.ev = evsA args.toList s.ev := evsA_congr (fun x hx => hev x (by simp only [Op.operands, Call.operands, Array.mem_append]; exact .inr (by simpa using hx)))
  refine one_of_AWL (W.callv (R := R) hC hN e1 (by rw [e2]; exact viewL_mono hx _ _ hv) hok (AWL.nil ⟨rfl, ?_⟩))
  rw [e2]
  unfold St.back
  have : afterH s'.H (idsL (evsA args.toList s.ev ++ caps)) R = s'.H := by
    cases hq : flatA R <;> simp_all [afterH]
  rw [this]; rfl

/-- A store, which has its place. -/
theorem D.store (hC : C.OK) (hi : i ∈ tg) {tp : TypeId} {p x : Operand} {id : Nat} {r : Row} (h : storeA C.T s.H tp (s.ev p) (s.ev x) = some (id, r)) (hav : mk = [] ∨ id ∈ av)
    (k : DW C N ops H0 b tg mk av Fin (i + 1) rest { s with H := updH s.H id (.row r) }) : DW C N ops H0 b tg mk av Fin i (⟨none, .store tp p x, ty, ps, af, none⟩ :: rest) s := by
  refine ⟨.junk, { s with H := updH s.H id (.row r) }, rfl, ?_, k⟩
  rw [if_pos hi]
  refine ⟨fun s' h1 h2 ht => ?_, ?_⟩
  · have hev := ev_congr ht
    refine one_of_AWL (W.store (id := id) (r := r) hC (by rw [hev p (by simp [Op.operands]), hev x (by simp [Op.operands]), h1]; exact h) (AWL.nil ⟨rfl, ?_⟩))
    rw [h1, h2]; rfl
  · rcases hav with h | h
    · exact .inl h
    · refine .inr fun id' x hid hx => ?_
      show updH s.H id _ id' = some x
      simp only [updH]
      rw [if_neg (fun e => by rw [e] at hid; exact hid h)]; exact hx

theorem D.nil (h : Fin s) : DW C N ops H0 b tg mk av Fin i [] s := h
end
end Go.Pg

/-
  The equations by which a state is looked into, as one. No conditions.
-/
namespace Go.Pg
open Go Go.RowKit

theorem back_H0 (s : St) (d : Nat) (x : Value) (ids : List Nat) : (s.back d (.v x) ids).H = s.H := rfl
theorem back_H1 (s : St) (d : Nat) (r : AV) : (s.back d r []).H = s.H := by simp [St.back, afterH]
theorem afterH_v (H : Nat → Option AO) (x : Value) (ids : List Nat) : afterH H ids (.v x) = H := rfl
theorem idsA_ref (id off n : Nat) : idsA (.ref id off n) = [id] := rfl
theorem idsA_ptr (id i j n : Nat) : idsA (.ptr id i j n) = [id] := rfl
theorem idsA_iptr (e : List AV) (j : Nat) : idsA (.iptr e j) = [] := rfl
theorem idsA_tup (cs : List AV) : idsA (.tup cs) = idsL cs := rfl
theorem idsA_clo (f : FuncId) (cs : List AV) : idsA (.clo f cs) = idsL cs := rfl
theorem view_iptr (H : Nat → Option AO) (e : List AV) (j : Nat) : viewA H (.iptr e j) = some (.iptr e j) := rfl
theorem view_ref (H : Nat → Option AO) (id off n : Nat) : viewA H (.ref id off n) = (match rowAt H id with
    | some r => if r.lo ≤ off + n ∧ off + n ≤ r.es.length ∧ r.es.all pureL = true then some (.lst ((r.es.drop off).take n)) else none
    | none => none) := rfl
theorem view_ptr (H : Nat → Option AO) (id i j tag : Nat) : viewA H (.ptr id i j tag) = (match rowAt H id with
    | some r => if r.lo ≤ tag ∧ i < r.es.length ∧ pureL (r.es.getD i []) = true then some (.iptr (r.es.getD i []) j) else none
    | none => none) := rfl

theorem nxL (a b : Nat) : (a = a + b) = (b = 0) := by rw [eq_iff_iff]; omega
theorem nxR (a b : Nat) : (a + b = a) = (b = 0) := by rw [eq_iff_iff]; omega
theorem nxC (a b c : Nat) : (a + b = a + c) = (b = c) := by rw [eq_iff_iff]; omega
theorem nxA (a : Nat) : a + 1 + 1 = a + 2 := rfl

theorem EVS : 
    ((∀ (s : St) (d : Nat) (r : AV) (nr : Option Row) (t : Nat), (s.put d r nr).tm t = if t = d then r else s.tm t) ∧
    (∀ (s : St) (d : Nat) (r : AV), (s.put d r none).H = s.H) ∧
    (∀ (s : St) (d : Nat) (r : AV) (row : Row), (s.put d r (some row)).H = updH s.H s.nx (.row row)) ∧
    (∀ (s : St) (d : Nat) (r : AV), (s.put d r none).nx = s.nx) ∧
    (∀ (s : St) (d : Nat) (r : AV) (row : Row), (s.put d r (some row)).nx = s.nx + 1) ∧
    (∀ (s : St) (d : Nat) (r : AV) (ids : List Nat) (t : Nat), (s.back d r ids).tm t = if t = d then r else s.tm t) ∧
    (∀ (s : St) (d : Nat) (r : AV) (ids : List Nat), (s.back d r ids).nx = s.nx) ∧
    (∀ (s : St) (d : Nat) (x : Value) (ids : List Nat), (s.back d (.v x) ids).H = s.H) ∧
    (∀ (s : St) (d : Nat) (r : AV) (ids : List Nat), (s.back d r ids).H = afterH s.H ids r) ∧
    (∀ (H : Nat → Option AO) (r : AV), afterH H [] r = H) ∧
    (∀ (f : Nat → AV) (d : Nat) (r : AV) (t : Nat), upd f d r t = if t = d then r else f t) ∧
    (∀ (args : List AV) (t : Nat), (startSt args).tm t = args.getD t .junk) ∧
    (∀ (args : List AV), (startSt args).H = fun _ => none) ∧
    (∀ (args : List AV), (startSt args).nx = 0)) ∧
    ((∀ (H : Nat → Option AO) (i : Nat) (r : Row) (j : Nat), rowAt (updH H i (.row r)) j = if j = i then some r else rowAt H j) ∧
    (∀ (j : Nat), rowAt (fun _ => none) j = none) ∧
    (∀ (s : St) (t : Nat), s.ev (.tmp t) = s.tm t) ∧
    (∀ (s : St) (x : Value), s.ev (.const x) = constA x) ∧
    (∀ (s : St) (f : FuncId), s.ev (.func f) = .clo f []) ∧
    (∀ (k : IntKind) (n : Int), constA (.int k n) = .v (.int k n)) ∧
    (∀ (b : Bool), constA (.bool b) = .v (.bool b)) ∧
    (∀ (b : ByteArray), constA (.string b) = .v (.string b)) ∧
    (constA (.slice none 0 0) = .v (.slice none 0 0))) ∧
    ((∀ (H : Nat → Option AO) (k : IntKind) (n : Int), viewA H (.v (.int k n)) = some (.v (.int k n))) ∧
    (∀ (H : Nat → Option AO) (b : Bool), viewA H (.v (.bool b)) = some (.v (.bool b))) ∧
    (∀ (H : Nat → Option AO) (b : ByteArray), viewA H (.v (.string b)) = some (.v (.string b))) ∧
    (∀ (H : Nat → Option AO), viewA H (.v (.slice none 0 0)) = some (.lst [])) ∧
    (∀ (H : Nat → Option AO) (es : List (List AV)), viewA H (.lst es) = some (.lst es)) ∧
    (∀ (H : Nat → Option AO) (cs : List AV), viewA H (.agg cs) = (viewL H cs).map .agg) ∧
    (∀ (H : Nat → Option AO) (cs : List AV), viewA H (.tup cs) = (viewL H cs).map .tup) ∧
    (∀ (H : Nat → Option AO) (f : FuncId) (cs : List AV), viewA H (.clo f cs) = (viewL H cs).map (.clo f)) ∧
    (∀ (H : Nat → Option AO) (e : List AV) (j : Nat), viewA H (.iptr e j) = some (.iptr e j)) ∧
    (∀ (H : Nat → Option AO), viewL H [] = some []) ∧
    (∀ (H : Nat → Option AO) (c : AV) (cs : List AV), viewL H (c :: cs) = (match viewA H c, viewL H cs with | some d, some ds => some (d :: ds) | _, _ => none))) ∧
    ((∀ (x : Value), idsA (.v x) = []) ∧
    (∀ (es : List (List AV)), idsA (.lst es) = []) ∧
    (∀ (cs : List AV), idsA (.agg cs) = idsL cs) ∧
    (∀ (cs : List AV), idsA (.tup cs) = idsL cs) ∧
    (∀ (f : FuncId) (cs : List AV), idsA (.clo f cs) = idsL cs) ∧
    (∀ (id off n : Nat), idsA (.ref id off n) = [id]) ∧
    (∀ (id i j n : Nat), idsA (.ptr id i j n) = [id]) ∧
    (∀ (e : List AV) (j : Nat), idsA (.iptr e j) = []) ∧
    (idsL [] = []) ∧
    (∀ (c : AV) (cs : List AV), idsL (c :: cs) = idsA c ++ idsL cs)) :=
  ⟨⟨put_tm, put_H0, put_H1, put_nx0, put_nx1, back_tm, back_nx, back_H0, back_H, afterH_nil, upd_at, start_tm, start_H, start_nx⟩,
   ⟨rowAt_upd, rowAt_none, ev_tmp, ev_const, ev_func, constA_int, constA_bool, constA_str, constA_nil⟩,
   ⟨view_v_int, view_v_bool, view_v_str, view_nil, view_lst, view_agg, view_tup, view_clo, view_iptr, viewL_nil, viewL_cons⟩,
   ⟨idsA_v, idsA_lst, idsA_agg, idsA_tup, idsA_clo, idsA_ref, idsA_ptr, idsA_iptr, idsL_nil, idsL_cons⟩⟩

theorem LST : 
    ((∀ (α : Type) (a d : α) (l : List α), (a :: l).getD 0 d = a) ∧ (∀ (α : Type) (a d : α) (l : List α) (n : Nat), (a :: l).getD (n + 1) d = l.getD n d) ∧ (∀ (α : Type) (d : α) (n : Nat), ([] : List α).getD n d = d) ∧
    (∀ (α β : Type) (f : α → β) (a : α), Option.map f (some a) = some (f a)) ∧ (∀ (α β : Type) (f : α → β), Option.map f none = none) ∧
    (∀ (α : Type) (a : α) (l : List α), (a :: l)[0]? = some a) ∧ (∀ (α : Type) (a : α) (l : List α) (n : Nat), (a :: l)[n + 1]? = l[n]?) ∧ (∀ (α : Type) (n : Nat), ([] : List α)[n]? = none)) ∧
    ((∀ (α : Type) (a : α) (l : List α), (a :: l).length = l.length + 1) ∧ (∀ (α : Type), ([] : List α).length = 0) ∧ (∀ (α : Type) (a : α) (l : List α) (n : Nat), (a :: l).drop (n + 1) = l.drop n) ∧ (∀ (α : Type) (l : List α), l.drop 0 = l) ∧
    (∀ (α : Type) (a : α) (l : List α) (n : Nat), (a :: l).take (n + 1) = a :: l.take n) ∧ (∀ (α : Type) (l : List α), l.take 0 = []) ∧ (∀ (α : Type) (n : Nat), ([] : List α).drop n = []) ∧ (∀ (α : Type) (n : Nat), ([] : List α).take n = []) ∧
    (∀ (α : Type) (l : List α), l ++ [] = l) ∧ (∀ (α : Type) (l : List α), [] ++ l = l) ∧ (∀ (α : Type) (a : α) (l m : List α), (a :: l) ++ m = a :: (l ++ m)) ∧
    (∀ (α : Type) (p : α → Bool) (a : α) (l : List α), (a :: l).all p = (p a && l.all p)) ∧ (∀ (α : Type) (p : α → Bool), [].all p = true) ∧
    (∀ (α β : Type) (f : α → β) (a : α) (l : List α), (a :: l).map f = f a :: l.map f) ∧ (∀ (α β : Type) (f : α → β), [].map f = []) ∧
    (∀ (α : Type) (a b : α) (l : List α), (a :: l).set 0 b = b :: l) ∧ (∀ (α : Type) (a b : α) (l : List α) (n : Nat), (a :: l).set (n + 1) b = a :: l.set n b)) :=
  ⟨⟨fun _ _ _ _ => rfl, fun _ _ _ _ _ => rfl, fun _ _ _ => rfl, fun _ _ _ _ => rfl, fun _ _ _ => rfl, fun _ _ _ => rfl, fun _ _ _ _ => rfl, fun _ _ => rfl⟩,
   ⟨fun _ _ _ => rfl, fun _ => rfl, fun _ _ _ _ => rfl, fun _ _ => rfl, fun _ _ _ _ => rfl, fun _ _ => rfl, fun _ n => by cases n <;> rfl, fun _ n => by cases n <;> rfl, fun _ _ => List.append_nil _, fun _ _ => rfl, fun _ _ _ _ => rfl,
    fun _ _ _ _ => rfl, fun _ _ => rfl, fun _ _ _ _ _ => rfl, fun _ _ _ => rfl, fun _ _ _ _ => rfl, fun _ _ _ _ _ => rfl⟩⟩

/-- The same walk through a region that draws its order, where nothing has its place. -/
theorem W.draw {C : Cx} {N : Nat} {Q : Exit → St → Prop} {s : St} {l : List Oper} {id : Nat} (hm : C.P.follows .mixedOrders = true) (hok : drawOK l [] [] = true)
    (h : DW C N l.toArray s.H s.nx [] [] [] (fun s' => Q .normal s') 0 l s) : AW C N (.region id l.toArray true) Q s := AW.draw hm [] [] [] 0 hok h
/-- .. where the last has it. -/
theorem W.draw1 {C : Cx} {N : Nat} {Q : Exit → St → Prop} {s : St} {l : List Oper} {id : Nat} (k : Nat) (hm : C.P.follows .mixedOrders = true) (hok : drawOK l [k] [] = true)
    (h : DW C N l.toArray s.H s.nx [k] [] [] (fun s' => Q .normal s') 0 l s) : AW C N (.region id l.toArray true) Q s := AW.draw hm [k] [] [] 0 hok h
end Go.Pg

/-
  A function's end where a result lies in memory. Conditions: the table of types is the program's.
-/
namespace Go.Pg
open Go Go.RowKit

def resV (T : TypeId → Option Ty) (s : St) : ResultVar → Option AV
  | .tmp t => some (s.tm t)
  | .cell a t => loadA T s.H t (s.tm a)

def resVs (T : TypeId → Option Ty) (s : St) : List ResultVar → Option (List AV)
  | [] => some []
  | r :: rs => match resV T s r, resVs T s rs with
    | some x, some xs => some (x :: xs)
    | _, _ => none

def endC (C : Cx) (rs : List ResultVar) (Q : AV → Prop) : Exit → St → Prop
  | .normal, s => ∃ vs, resVs C.T s rs = some vs ∧ ∃ r', viewA s.H (.tup vs) = some r' ∧ Q r'
  | .ret, s => ∃ vs, resVs C.T s rs = some vs ∧ ∃ r', viewA s.H (.tup vs) = some r' ∧ Q r'
  | _, _ => False

section
variable {C : Cx} {Q : AV → Prop}

theorem W.retC {rs : List ResultVar} {s : St} {vs : List AV} {r : AV} (h1 : resVs C.T s rs = some vs) (h2 : viewA s.H (.tup vs) = some r) (hq : Q r) : endC C rs Q .ret s := ⟨vs, h1, r, h2, hq⟩
theorem W.endC' {rs : List ResultVar} {s : St} {vs : List AV} {r : AV} (h1 : resVs C.T s rs = some vs) (h2 : viewA s.H (.tup vs) = some r) (hq : Q r) : endC C rs Q .normal s := ⟨vs, h1, r, h2, hq⟩

theorem run_resVs (hC : C.OK) {S0 : Fr} {w0 w : World} {N : Nat} {a : Act} {s : St} {σ : Sg} (hσ : SimG S0 w0 N a w s σ) : ∀ (rs : List ResultVar) (vs : List AV), resVs C.T s rs = some vs →
    ∃ us : List Value, (rs.mapM fun (x : ResultVar) => (match x with | .tmp t => pure (a.tmps.getD t undef) | .cell b t => do loadVar t (← asAddr (a.tmps.getD b undef)) : Sem Value)).run C.P w = .ok us w ∧
      us.length = vs.length ∧ RepL σ w vs (fun i => us[i]?)
  | [], vs, h => by
    simp only [resVs, Option.some.injEq] at h; subst h
    exact ⟨[], by simp, rfl, trivial⟩
  | r :: rs, vs, h => by
    simp only [resVs] at h
    split at h
    · rename_i x xs h1 h2
      injection h with h; subst h
      obtain ⟨us, g1, g2, g3⟩ := run_resVs hC hσ rs xs h2
      have hone : ∃ u, ((match r with | .tmp t => pure (a.tmps.getD t undef) | .cell b t => do loadVar t (← asAddr (a.tmps.getD b undef)) : Sem Value)).run C.P w = .ok u w ∧ Rep σ w x u := by
        cases r with
        | tmp t =>
          simp only [resV, Option.some.injEq] at h1; subst h1
          exact ⟨_, rfl, hσ.tm t⟩
        | cell b t =>
          simp only [resV] at h1
          obtain ⟨v, hv, hr⟩ := loadA_sound (P := C.P) hC.T hσ.inv (hσ.tm b) h1
          refine ⟨v, ?_, hr⟩
          have hp : ∃ ad, a.tmps.getD b undef = .pointer (some ad) := by
            unfold loadA at h1
            split at h1
            · rename_i y e j hy hp
              obtain ⟨b', o, hh, _⟩ := rdPtr_sound hσ.inv (hσ.tm b) hp
              exact ⟨_, hh⟩
            · cases h1
          obtain ⟨ad, hp⟩ := hp
          rw [hp] at hv
          show ((asAddr (a.tmps.getD b undef) >>= fun x => loadVar t x : Sem Value)).run C.P w = .ok v w
          rw [hp]
          simpa [Instr.loadAt, Instr.sureAddr, asAddr] using hv
      obtain ⟨u, hu, hur⟩ := hone
      refine ⟨u :: us, ?_, by simp [g2], ?_⟩
      · simp only [List.mapM_cons, Sem.run_bind, hu, Result.andThen_ok, g1, Sem.run_pure]
      · simp only [RepL]
        exact ⟨⟨u, rfl, hur⟩, g3⟩
    · cases h

theorem OKat.of_bodyC [hW : C.Wide] (hC : C.OK) {f : FuncId} {fn : Func} {c : Code} {args : List AV} {rs : List ResultVar} (hf : C.P.funcs[f]? = some fn) (hb : fn.body = some c) (hn : (fn.name == "runtime.NumGoroutine") = false) (hr : fn.results = rs.toArray) (hl : rs.length ≠ 1)
    (hN : args.length ≤ fn.ntmps) (h : AW C fn.ntmps c (endC C rs Q) (startSt args)) : OKat C f args Q := by
  refine ⟨⟨fn, hf, hn, by rw [hb]; rfl⟩, fun w S vals hE hS hsz hrep => ?_⟩
  refine calls_of_wp hf hb ?_
  have hs := start_sim (N := fn.ntmps) hS hsz hrep hN
  have h2 := h (Fr.of S) w _ w hE hs
  rw [hW.h] at h2
  refine wp_mono (wpIn_wide.1 h2) ?_
  have fin : ∀ a' w' s', Sim (Fr.of S) w fn.ntmps a' w' s' → (∃ vs, resVs C.T s' rs = some vs ∧ ∃ r', viewA s'.H (.tup vs) = some r' ∧ Q r') →
      a'.defers = [] ∧ ∃ v, (results fn a'.tmps).run C.P w' = .ok v w' ∧ (Below w.heap.size w w' ∧ ∃ v2 r, Ending.returned v = .returned v2 ∧ Q r ∧ Rep (pureSg fun b => S b ∨ (w.heap.size ≤ b ∧ b < w'.heap.size)) w' r v2) := by
    rintro a' w' s' ⟨σ, hσ⟩ ⟨vs, hvs, r', hv, hq⟩
    have hview : ∀ (c : AV) (u : Value), viewA s'.H c = some r' → Rep σ w' c u → Rep (pureSg fun b => S b ∨ (w.heap.size ≤ b ∧ b < w'.heap.size)) w' r' u := by
      intro c u hc hu
      refine viewA_sound hσ.inv (fun b hb => ?_) c u r' hc (fun id _ b hb => .inr (hσ.inv.own_lt b id hb)) hu
      have := hσ.inv.S_lt b hb
      rcases this.2 with h | h
      · exact .inl h
      · exact .inr ⟨h, this.1⟩
    obtain ⟨us, g1, g2, g3⟩ := run_resVs hC hσ rs vs hvs
    have hul : us.length = rs.length := by
      have : ∀ (rs : List ResultVar) (vs : List AV), resVs C.T s' rs = some vs → vs.length = rs.length := by
        intro rs
        induction rs with
        | nil => intro vs h; simp only [resVs, Option.some.injEq] at h; subst h; rfl
        | cons r rs ih =>
          intro vs h
          simp only [resVs] at h
          split at h
          · rename_i h1 h2; injection h with h; subst h; simp [ih _ h2]
          · cases h
      rw [g2, this rs vs hvs]
    refine ⟨hσ.d, .tuple us.toArray, ?_, hσ.below, _, r', rfl, hq, ?_⟩
    · simp only [results, hr, Array.mapM_eq_mapM_toList, Sem.run_bind, Sem.run_map, Sem.run_pure]
      refine (congrArg (fun r => (Result.andThen (Result.andThen r fun a w' => Result.ok a.toArray w') fun a w' => Result.ok (if h : a.size = 1 then a[0] else Value.tuple a) w')) g1).trans ?_
      simp [hul, hl]
    · refine hview _ _ hv ?_
      simp only [Rep]
      exact ⟨us.toArray, rfl, by simp [g2], by simpa using g3⟩
  rintro e a' w' ⟨s', hs', hq⟩
  cases e with
  | normal => exact fin a' w' s' hs' hq
  | ret => exact fin a' w' s' hs' hq
  | exit id => exact hq.elim
  | goto l => exact hq.elim
  | panic c => exact hq.elim
  | outgrown => exact hq.elim
end
end Go.Pg

/-
  Maps of the call's own with keys that are strings. Conditions: the table of types is the program's.
-/
namespace Go.Pg
open Go Go.RowKit

section
variable {B0 : Nat} {S0 : Fr} {w w' : World} {H : Nat → Option AO} {σ : Sg}

/-- A new map in a new block. -/
theorem Inv.pushM (hi : Inv B0 S0 w H σ) {id : Nat} (hf : H id = none) (hB : B0 ≤ w.heap.size) :
    Le σ (σ.push w.heap.size id 0 0 0) w (w.alloc (.map #[] 0)) ∧ Inv B0 S0 (w.alloc (.map #[] 0)) (updH H id (.mp .map 0 [])) (σ.push w.heap.size id 0 0 0) := by
  have hle := hi.le_push (n := 0) (k := 0) (cap := 0) hf (.map #[] 0)
  have hS : ¬ σ.S w.heap.size := fun h => by have := (hi.S_lt _ h).1; omega
  have hheap : ∀ b, b < w.heap.size → (w.alloc (.map #[] 0)).heap[b]? = w.heap[b]? := fun b hb => Below.heap_alloc w _ b hb
  refine ⟨hle, fun i => ?_, fun i hn => ?_, fun b h => ⟨by have := (hi.S_lt b h).1; simp; omega, (hi.S_lt b h).2⟩, fun b i h => ?_, fun i r' h => ?_, fun i kt et es h => ?_, S0.mono _ _ _ _ hle hi.fr⟩
  · simp only [Sg.push, updH]
    by_cases e : i = id
    · simp [e]
    · simp [e, hi.al]
  · simp only [updH] at hn
    have e : i ≠ id := fun e => by simp [e] at hn
    rw [if_neg e] at hn
    obtain ⟨h1, h2⟩ := hi.fresh i hn
    refine ⟨by simp only [Sg.push]; rw [if_neg e]; exact h1, fun b hb => ?_⟩
    simp only [Sg.push] at hb
    split at hb
    · injection hb with hb; exact e hb.symm
    · exact h2 b hb
  · simp only [Sg.push] at h
    split at h
    · subst b; exact ⟨hB, by simp⟩
    · have := hi.own_lt b i h; exact ⟨this.1, by simp; omega⟩
  · simp only [updH] at h
    by_cases e : i = id
    · subst e; simp at h
    · rw [if_neg e] at h
      have hr := hi.row i r' h
      have hown : ∀ b, (σ.push w.heap.size id 0 0 0).own b = some i → σ.own b = some i ∧ b ≠ w.heap.size := fun b hb => by
        simp only [Sg.push] at hb
        split at hb
        · injection hb with hb; exact absurd hb.symm e
        · exact ⟨hb, by assumption⟩
      have hx : ∀ b, b ≠ w.heap.size → (σ.push w.heap.size id 0 0 0).ext b = σ.ext b := fun b hb => by simp only [Sg.push]; rw [if_neg hb]
      have hcx : (σ.push w.heap.size id 0 0 0).cur i = σ.cur i := by simp only [Sg.push]; rw [if_neg e]
      have hax : ∀ b, b ≠ w.heap.size → (σ.push w.heap.size id 0 0 0).cap b = σ.cap b := fun b hb => by simp only [Sg.push]; rw [if_neg hb]
      refine ⟨by simp only [Sg.push]; rw [if_neg e]; exact hr.len, by simp only [Sg.push]; rw [if_neg e]; exact hr.k, hr.each, hr.lo, fun b hb => ?_, fun hc => hr.empty (by rw [← hcx]; exact hc), fun b hb => ?_, fun b hb j h1 => ?_⟩
      · rw [hcx] at hb
        obtain ⟨a1, a2, a3, a4, ar, a5, a6⟩ := hr.cur b hb
        have hlt := (hi.own_lt b i a1).2
        exact ⟨by simp only [Sg.push]; rw [if_neg (by omega)]; exact a1, by rw [hx b (by omega)]; exact a2, by rw [hax b (by omega)]; exact a3, by rw [hax b (by omega)]; exact a4, ar, (hheap b hlt).trans a5, by rw [hax b (by omega)]; exact a6⟩
      · obtain ⟨h1, h2⟩ := hown b hb
        rw [hx b h2, hcx]; exact hr.own b h1
      · rw [hcx] at hb
        refine RepL.mono hle _ _ _ (fun m u hu => ?_) (hr.con b hb j h1)
        rw [cell_of_heap (w := w) (hheap b (hi.own_lt b i (hr.cur b hb).1).2)]; exact hu
  · simp only [updH] at h
    by_cases e : i = id
    · subst e
      rw [if_pos rfl] at h; injection h with h; injection h with h1 h2 h3; subst h1; subst h3
      refine ⟨by simp [Sg.push], ⟨w.heap.size, 0, #[], by simp [Sg.push], by simp [Sg.push], hS, (MapKept.heap_alloc w _).1, ⟨rfl, trivial⟩, by simp [RepL]⟩, fun b hb => ?_⟩
      simp only [Sg.push] at hb
      split at hb
      · rename_i he; subst he; exact ⟨by simp [Sg.push], by simp [Sg.push]⟩
      · exact absurd hb ((hi.fresh i hf).2 b)
    · rw [if_neg e] at h
      have hm := hi.mp i kt et es h
      obtain ⟨b, clock, xs, a1, a2, a3, a4, a5, a6⟩ := hm.cur
      have hlt := (hi.own_lt b i a2).2
      refine ⟨by simp only [Sg.push]; rw [if_neg e]; exact hm.len, ⟨b, clock, xs, by simp only [Sg.push]; rw [if_neg e]; exact a1, by simp only [Sg.push]; rw [if_neg (by omega)]; exact a2, a3, (hheap b hlt).trans a4, a5, RepL.mono hle _ _ _ (fun _ _ h => h) a6⟩, fun b hb => ?_⟩
      simp only [Sg.push] at hb
      split at hb
      · injection hb with hb; exact absurd hb.symm e
      · rename_i hne
        obtain ⟨h1, h2⟩ := hm.one b hb
        exact ⟨by simp only [Sg.push]; rw [if_neg e]; exact h1, by simp only [Sg.push]; rw [if_neg hne]; exact h2⟩

/-- A map has been written. -/
theorem Inv.remap (hi : Inv B0 S0 w H σ) {id : Nat} {kt kt' : MK} {et : TypeId} {es es' : List (ByteArray × AV)} (hH : H id = some (.mp kt et es)) (hat : kt'.at = kt.at) {b clock : Nat} {xs : Array MapEntry} (hc : σ.cur id = some b)
    (hb : w'.heap[b]? = some (kt'.obj xs clock)) (hsz : w'.heap.size = w.heap.size) (hother : ∀ k, k ≠ b → w'.heap[k]? = w.heap[k]?) (hk : xs.toList.map (·.key) = es'.map (fun e => Value.string e.1))
    (hv : RepL σ w (es'.map (·.2)) (fun i => (xs[i]?).map (·.val))) : Le σ σ w w' ∧ Inv B0 S0 w' (updH H id (.mp kt' et es')) σ := by
  have hm := hi.mp id kt et es hH
  obtain ⟨b', clock', xs', a1, a2, a3, a4, a5, a6⟩ := hm.cur
  rw [hc] at a1; injection a1 with a1; subst a1
  have hne : ∀ k i, i ≠ id → σ.own k = some i → k ≠ b := fun k i e hk hkb => by subst hkb; rw [a2] at hk; injection hk with hk; exact e hk.symm
  have hle : Le σ σ w w' := ⟨fun _ h => h, fun k h => hother k (fun e => a3 (e ▸ h)), fun _ _ h => ⟨hi.al_of_own h, h, rfl, Nat.le_refl _⟩, fun _ h => h, fun _ _ => .inl ⟨rfl, rfl, fun _ _ => rfl⟩⟩
  refine ⟨hle, fun i => ?_, fun i hn => ?_, fun k h => ?_, fun k i h => ?_, fun i r' h => ?_, fun i kt2 et' es2 h => ?_, S0.mono _ _ _ _ hle hi.fr⟩
  · rw [hi.al]
    unfold updH
    split
    · rename_i e; subst e; simp [hH]
    · rfl
  · refine hi.fresh i ?_
    unfold updH at hn
    split at hn
    · cases hn
    · exact hn
  · rw [hsz]; exact hi.S_lt k h
  · rw [hsz]; exact hi.own_lt k i h
  · unfold updH at h
    split at h
    · cases h
    · rename_i e
      have hr := hi.row i r' h
      refine ⟨hr.len, hr.k, hr.each, hr.lo, fun k hk => ?_, hr.empty, hr.own, fun k hk j h1 => ?_⟩
      · obtain ⟨c1, c2, c3, c4, ar, c5, c6⟩ := hr.cur k hk
        exact ⟨c1, c2, c3, c4, ar, (hother k (hne k i e c1)).trans c5, c6⟩
      · refine RepL.mono hle _ _ _ (fun m u hu => ?_) (hr.con k hk j h1)
        rw [cell_of_heap (w := w) (hother k (hne k i e (hr.cur k hk).1))]; exact hu
  · unfold updH at h
    split at h
    · rename_i e; subst e
      injection h with h; injection h with h1 h2 h3; subst h1; subst h3
      exact ⟨hm.len, ⟨b, clock, xs, hc, a2, a3, hb, ⟨hk, by rw [hat]; exact a5.2⟩, RepL.mono hle _ _ _ (fun _ _ h => h) hv⟩, hm.one⟩
    · rename_i e
      have hm2 := hi.mp i kt2 et' es2 h
      obtain ⟨b2, clock2, xs2, c1, c2, c3, c4, c5, c6⟩ := hm2.cur
      exact ⟨hm2.len, ⟨b2, clock2, xs2, c1, c2, c3, (hother b2 (hne b2 i e c2)).trans c4, c5, RepL.mono hle _ _ _ (fun _ _ h => h) c6⟩, hm2.one⟩
end

def mapUpdA (T : TypeId → Option Ty) (H : Nat → Option AO) (t : TypeId) (m k x : AV) : Option (Nat × AO) :=
  match T t, m, k with
  | some { d := .map kt _, .. }, .map id, .v (.string s) => match T kt, H id with
    | some { d := .str, .. }, some (.mp .map b es) => some (id, .mp .map b (putM s x es))
    | _, _ => none
  | _, _, _ => none

section
variable {C : Cx} {N : Nat} {Q : Exit → St → Prop} {s : St} {ops : Array Oper} {rest : List Oper} {o : Oper}

theorem AWL.makeMap (hC : C.OK) (hg : o.guard = none) {d : Nat} (hd : o.dst = some d) (hN : d < N) {t : TypeId} (ho : o.op = .makeMap t none)
    (k : AWL C N ops Q rest { tm := upd s.tm d (.map s.nx), H := updH s.H s.nx (.mp .map 0 []), nx := s.nx + 1 }) : AWL C N ops Q (o :: rest) s := by
  rintro S0 w0 a w hE ⟨σ, hσ⟩
  obtain ⟨hle, hinv⟩ := hσ.inv.pushM (hσ.nx s.nx (Nat.le_refl _)) hσ.size
  refine wpListIn_plain hg fun K hK => Oper.wpIn_of_wp C.hF (fun c e => by rw [ho] at e; cases e) ?_
  have hrun : (execOp a.eval o).run C.P w = .ok (.value (.map (some w.heap.size))) (w.alloc (.map #[] 0)) := by
    simp only [execOp, ho, Option.map_none, Sem.run_bind, run_makeMap, Result.andThen_ok, Sem.run_pure]
  simp only [Oper.wp, hrun, Oper.upon]
  rw [hd]
  refine hK _ _ (k S0 w0 _ _ hE ⟨σ.push w.heap.size s.nx 0 0 0, hσ.put hN (s' := { tm := upd s.tm d (.map s.nx), H := updH s.H s.nx (.mp .map 0 []), nx := s.nx + 1 }) hinv (fun id hid => ?_) hle ((Below.refl _ _).alloc hσ.size _) ?_ rfl⟩)
  · have hid' : s.nx + 1 ≤ id := hid
    simp only [updH]; rw [if_neg (by omega)]; exact hσ.nx id (by omega)
  · simp only [Rep]; exact ⟨_, rfl, by simp [Sg.push]⟩

theorem AWL.mapUpdate (hC : C.OK) (hg : o.guard = none) (hd : o.dst = none) {t : TypeId} {m kk x : Operand} (ho : o.op = .mapUpdate t m kk x) {id : Nat} {ao : AO} (h : mapUpdA C.T s.H t (s.ev m) (s.ev kk) (s.ev x) = some (id, ao))
    (k : AWL C N ops Q rest { s with H := updH s.H id ao }) : AWL C N ops Q (o :: rest) s := by
  rintro S0 w0 a w hE ⟨σ, hσ⟩
  unfold mapUpdA at h
  split at h
  · rename_i sz by_ z kt et id' s0 ht hm hkk
    split at h
    · rename_i _ _ _ kb es hkt hH
      injection h with h; injection h with h1 h2; subst h1; subst h2
      have hmv := hσ.ev m
      rw [hm] at hmv
      have hkv := hσ.ev kk
      rw [hkk] at hkv
      simp only [Rep] at hkv
      obtain ⟨b, clock, xs, hmb, a1, a2, a3, a4, a5, a6⟩ := map_block hσ.inv hH hmv
      have hu := (hC.T t _ ht).map rfl
      have hku := (hC.T kt _ hkt).str rfl
      have hobj : (getObj b).run C.P w = .ok (.map xs clock) w := MapKept.run_getObj_map a4
      have key : ∃ (xs' : Array MapEntry) (clock' : Nat), (Instr.mapUpdate t (a.eval m) (a.eval kk) (a.eval x)).run C.P w = .ok () (ChangeMaps.setBlock w b (.map xs' clock')) ∧
          xs'.toList.map (·.key) = (putM s0 (s.ev x) es).map (fun e => Value.string e.1) ∧ RepL σ w ((putM s0 (s.ev x) es).map (·.2)) (fun i => (xs'[i]?).map (·.val)) := by
        rcases findNow_sound s0 (s.ev x) xs.toList es 0 a5 with ⟨_, b2, b3⟩ | ⟨j, y, e, _, b2, b3, b4, b5, b6, b7⟩
        · refine ⟨xs.push ⟨.string s0, a.eval x, clock⟩, clock + 1, ?_, by rw [b3]; simp [a5], ?_⟩
          · have hf : (Instr.findKey kt (.string s0) xs.toList).run C.P w = .ok none w := by
              simp [Instr.findKey, run_underlying hku, b2]
            rw [hmb, hkv]
            simp [Instr.mapUpdate, run_underlying hu, hobj, checkKey_str hku, hf, MapKept.run_setObj_map _ a4, ChangeMaps.setBlock]
          · rw [b3, List.map_append]
            have hl : xs.size = (es.map (·.2)).length := by
              have := congrArg List.length a5
              simpa using this
            rw [repL_iff'] at a6 ⊢
            intro i c hc
            rw [List.getElem?_append] at hc
            rw [Array.getElem?_push]
            split at hc
            · rename_i hi
              rw [if_neg (by omega)]; exact a6 i c hc
            · rename_i hi
              have hi0 : i = (es.map (·.2)).length := by
                have := (List.getElem?_eq_some_iff.1 hc).1
                simp at this; simp; simp at hi; omega
              subst hi0
              simp only [Nat.sub_self, List.map_cons, List.map_nil, List.getElem?_cons_zero, Option.some.injEq] at hc
              subst hc
              rw [if_pos (by omega)]
              exact ⟨_, rfl, hσ.ev x⟩
        · refine ⟨xs.modify j fun e => { e with key := .string s0, val := a.eval x }, clock, ?_, ?_, ?_⟩
          · have hf : (Instr.findKey kt (.string s0) xs.toList).run C.P w = .ok (some (0 + j, e.val)) w := by
              simp [Instr.findKey, run_underlying hku, b2]
            have hj : xs[j]? = some e := by simpa using b3
            have hss : (s0 == s0) = true := by rw [beq_bytes]; simp
            rw [hmb, hkv]
            simp [Instr.mapUpdate, run_underlying hu, hobj, checkKey_str hku, hf, hj, b5, hss, Instr.keyThatStays, Instr.sameBits, MapKept.run_setObj_map _ a4, ChangeMaps.setBlock]
          · have hj : xs[j]? = some e := by simpa using b3
            rw [b6, ← a5]
            apply List.ext_getElem?
            intro i
            simp only [List.getElem?_map, Array.getElem?_toList, Array.getElem?_modify]
            split
            · rename_i hi; subst hi; simp [hj, b5]
            · rfl
          · have hj : xs[j]? = some e := by simpa using b3
            rw [b7]
            rw [repL_iff'] at a6 ⊢
            intro i c hc
            rw [List.getElem?_set] at hc
            rw [Array.getElem?_modify]
            split at hc
            · rename_i hi
              subst hi
              split at hc
              · injection hc with hc; subst hc
                rw [if_pos rfl]
                exact ⟨_, by rw [hj]; rfl, hσ.ev x⟩
              · cases hc
            · rename_i hi
              rw [if_neg hi]; exact a6 i c hc
      obtain ⟨xs', clock', hrun, hk1, hk2⟩ := key
      have hsame : (ChangeMaps.setBlock w b (.map xs' clock')).heap[b]? = some (.map xs' clock') := ChangeMaps.heap_setBlock_same a4 _
      have hoth : ∀ k, k ≠ b → (ChangeMaps.setBlock w b (.map xs' clock')).heap[k]? = w.heap[k]? := fun k hk => ChangeMaps.heap_setBlock_other a4 _ hk
      have hsz : (ChangeMaps.setBlock w b (.map xs' clock')).heap.size = w.heap.size := by simp [ChangeMaps.setBlock]
      obtain ⟨hle, hinv⟩ := hσ.inv.remap (kt' := .map) hH rfl a1 hsame hsz hoth hk1 hk2
      refine wpListIn_plain hg fun K hK => Oper.wpIn_of_wp C.hF (fun c e => by rw [ho] at e; cases e) ?_
      have hrun' : (execOp a.eval o).run C.P w = .ok .skip (ChangeMaps.setBlock w b (.map xs' clock')) := by
        simp only [execOp, ho, Sem.run_bind, hrun, Result.andThen_ok, Sem.run_pure]
      simp only [Oper.wp, hrun', Oper.upon, hd]
      refine hK _ _ (k S0 w0 _ _ hE ⟨σ, hinv, fun i' hi' => ?_, fun t' => Rep.mono hle _ _ (hσ.tm t'), hσ.N, hσ.d, hσ.below.trans ⟨rfl, rfl, rfl, by rw [hsz]; exact Nat.le_refl _, fun k' hk' => hoth k' (fun e => ?_)⟩⟩)
      · simp only [updH]
        split
        · rename_i e; subst e; rw [hσ.nx i' hi'] at hH; cases hH
        · exact hσ.nx i' hi'
      · subst e; have := (hσ.inv.own_lt k' id' a2).1; omega
    · cases h
  · cases h

variable {ty : TypeId} {ps : String} {af : Array Edge} {d : Nat}
theorem W.makeMap (hC : C.OK) (hN : d < N) {t : TypeId} (k : AWL C N ops Q rest { tm := upd s.tm d (.map s.nx), H := updH s.H s.nx (.mp .map 0 []), nx := s.nx + 1 }) :
    AWL C N ops Q (⟨some d, .makeMap t none, ty, ps, af, none⟩ :: rest) s := AWL.makeMap hC rfl rfl hN rfl k
theorem W.mapUpdate (hC : C.OK) {t : TypeId} {m kk x : Operand} {id : Nat} {ao : AO} (h : mapUpdA C.T s.H t (s.ev m) (s.ev kk) (s.ev x) = some (id, ao)) (k : AWL C N ops Q rest { s with H := updH s.H id ao }) :
    AWL C N ops Q (⟨none, .mapUpdate t m kk x, ty, ps, af, none⟩ :: rest) s := AWL.mapUpdate hC rfl rfl rfl h k
end
end Go.Pg

/-
  Calls that write the caller's own objects; loops gone through round by round. Conditions: the table of types is the program's.
-/
namespace Go.Pg
open Go Go.RowKit

/-- The contract of a function that may write the objects it is handed: H and nx are the objects and the next free name at the call. -/
def OKm (C : Cx) (f : FuncId) (args : List AV) (H : Nat → Option AO) (nx : Nat) (Q : AV → (Nat → Option AO) → Nat → Prop) : Prop :=
  Enters C.P f ∧ ∀ (S0 : Fr) (w0 w : World) (σ : Sg) (vals : Array Value), C.E w0 → Inv w0.heap.size S0 w H σ → (∀ id, nx ≤ id → H id = none) → Below w0.heap.size w0 w → vals.size = args.length → RepL σ w args (fun i => vals[i]?) →
    Calls C.P f vals w fun e w' => ∃ v r σ' H' nx', e = .returned v ∧ Q r H' nx' ∧ Below w0.heap.size w0 w' ∧ Inv w0.heap.size S0 w' H' σ' ∧ (∀ id, nx' ≤ id → H' id = none) ∧ Le σ σ' w w' ∧ Rep σ' w' r v

def bundle : List AV → AV
  | [x] => x
  | xs => .tup xs

/-- What the end of such a function's body must tell. -/
def endM (C : Cx) (rs : List ResultVar) (Q : AV → (Nat → Option AO) → Nat → Prop) : Exit → St → Prop
  | .normal, s => ∃ vs, resVs C.T s rs = some vs ∧ Q (bundle vs) s.H s.nx
  | .ret, s => ∃ vs, resVs C.T s rs = some vs ∧ Q (bundle vs) s.H s.nx
  | _, _ => False

/-- Where a run is seen against one more thing: what was there when it began. -/
def Fr.from (S0 : Fr) (σ : Sg) (w : World) : Fr :=
  ⟨S0.S, fun σ' w' => S0.K σ' w' ∧ Le σ σ' w w', fun _ _ _ _ hle h => ⟨S0.mono _ _ _ _ hle h.1, h.2.trans hle⟩, []⟩

theorem Inv.from {B0 : Nat} {S0 : Fr} {w : World} {H : Nat → Option AO} {σ : Sg} (h : Inv B0 S0 w H σ) : Inv B0 (S0.from σ w) w H σ :=
  ⟨h.al, h.fresh, h.S_lt, h.own_lt, h.row, h.mp, ⟨h.fr, Le.refl _ _ fun _ _ ho => h.al_of_own ho⟩⟩

theorem Inv.unfrom {B0 : Nat} {S0 : Fr} {w w' : World} {H : Nat → Option AO} {σ σ' : Sg} (h : Inv B0 (S0.from σ w) w' H σ') : Inv B0 S0 w' H σ' ∧ Le σ σ' w w' :=
  ⟨⟨h.al, h.fresh, h.S_lt, h.own_lt, h.row, h.mp, h.fr.1⟩, h.fr.2⟩

theorem resVs_len {T : TypeId → Option Ty} {s : St} : ∀ (rs : List ResultVar) (vs : List AV), resVs T s rs = some vs → vs.length = rs.length
  | [], vs, h => by simp only [resVs, Option.some.injEq] at h; subst h; rfl
  | r :: rs, vs, h => by
    simp only [resVs] at h
    split at h
    · rename_i h1 h2; injection h with h; subst h; simp [resVs_len rs _ h2]
    · cases h

section
variable {C : Cx}

theorem run_results_of (hC : C.OK) {S0 : Fr} {w0 w : World} {N : Nat} {a : Act} {s : St} {σ : Sg} (hσ : SimG S0 w0 N a w s σ) {fn : Func} {rs : List ResultVar} {vs : List AV} (hr : fn.results = rs.toArray) (h : resVs C.T s rs = some vs) :
    ∃ v, (results fn a.tmps).run C.P w = .ok v w ∧ Rep σ w (bundle vs) v := by
  obtain ⟨us, g1, g2, g3⟩ := run_resVs hC hσ rs vs h
  have hl := resVs_len rs vs h
  refine ⟨if h : us.toArray.size = 1 then us.toArray[0] else .tuple us.toArray, ?_, ?_⟩
  · simp only [results, hr, Array.mapM_eq_mapM_toList, Sem.run_bind, Sem.run_map, Sem.run_pure]
    exact (congrArg (fun r => (Result.andThen (Result.andThen r fun a w' => Result.ok a.toArray w') fun a w' => Result.ok (if h : a.size = 1 then a[0] else Value.tuple a) w')) g1).trans rfl
  · match vs, us, g2 with
    | [x], [u], _ => simpa [RepL, bundle] using g3
    | [], [], _ => simp only [bundle]; simp [Rep, RepL]
    | x :: y :: vs, u :: v :: us, g2 =>
      have : ¬ ((u :: v :: us).toArray.size = 1) := by simp
      rw [dif_neg this]
      simp only [bundle, Rep]
      exact ⟨_, rfl, by simpa using g2, by simpa using g3⟩
    | [x], u :: v :: us, g2 => simp at g2
    | x :: y :: vs, [u], g2 => simp at g2

theorem OKm.of_body [hW : C.Wide] (hC : C.OK) {f : FuncId} {fn : Func} {c : Code} {args : List AV} {rs : List ResultVar} {H : Nat → Option AO} {nx : Nat} {Q : AV → (Nat → Option AO) → Nat → Prop} (hf : C.P.funcs[f]? = some fn) (hb : fn.body = some c) (hn : (fn.name == "runtime.NumGoroutine") = false)
    (hr : fn.results = rs.toArray) (hN : args.length ≤ fn.ntmps) (h : AW C fn.ntmps c (endM C rs Q) { tm := fun t => args.getD t .junk, H := H, nx := nx }) : OKm C f args H nx Q := by
  refine ⟨⟨fn, hf, hn, by rw [hb]; rfl⟩, fun S0 w0 w σ vals hE hi hnx hbel hsz hrep => ?_⟩
  refine calls_of_wp hf hb ?_
  have hs : Sim (S0.from σ w) w0 fn.ntmps { tmps := vals ++ Array.replicate (fn.ntmps - vals.size) undef, defers := [] } w { tm := fun t => args.getD t .junk, H := H, nx := nx } := by
    refine ⟨σ, hi.from, hnx, fun t => ?_, by simp; omega, rfl, hbel⟩
    show Rep σ w (args.getD t .junk) ((vals ++ Array.replicate (fn.ntmps - vals.size) undef).getD t undef)
    by_cases ht : t < args.length
    · rw [repL_iff] at hrep
      obtain ⟨u, hu, hru⟩ := hrep t ht
      have : (vals ++ Array.replicate (fn.ntmps - vals.size) undef).getD t undef = u := by
        rw [Array.getD_eq_getD_getElem?, Array.getElem?_append_left (by omega), hu]; rfl
      rw [this, List.getD_eq_getElem?_getD, List.getElem?_eq_getElem ht]; exact hru
    · have : args.getD t .junk = .junk := by rw [List.getD_eq_getElem?_getD, List.getElem?_eq_none (by omega)]; rfl
      rw [this]; trivial
  have h2 := h (S0.from σ w) w0 _ w hE hs
  rw [hW.h] at h2
  refine wp_mono (wpIn_wide.1 h2) ?_
  have fin : ∀ a' w' s', Sim (S0.from σ w) w0 fn.ntmps a' w' s' → (∃ vs, resVs C.T s' rs = some vs ∧ Q (bundle vs) s'.H s'.nx) →
      a'.defers = [] ∧ ∃ v, (results fn a'.tmps).run C.P w' = .ok v w' ∧ (∃ v1 r σ' H' nx', Ending.returned v = .returned v1 ∧ Q r H' nx' ∧ Below w0.heap.size w0 w' ∧ Inv w0.heap.size S0 w' H' σ' ∧ (∀ id, nx' ≤ id → H' id = none) ∧ Le σ σ' w w' ∧ Rep σ' w' r v1) := by
    rintro a' w' s' ⟨σ', hσ'⟩ ⟨vs, hvs, hq⟩
    obtain ⟨v, hv, hrv⟩ := run_results_of hC hσ' hr hvs
    obtain ⟨hi', hle⟩ := hσ'.inv.unfrom
    exact ⟨hσ'.d, v, hv, v, _, σ', s'.H, s'.nx, rfl, hq, hσ'.below, hi', hσ'.nx, hle, hrv⟩
  rintro e a' w' ⟨s', hs', hq⟩
  cases e with
  | normal => exact fin a' w' s' hs' hq
  | ret => exact fin a' w' s' hs' hq
  | exit id => exact hq.elim
  | goto l => exact hq.elim
  | panic c => exact hq.elim
  | outgrown => exact hq.elim

/-- Such a contract where nothing is handed but lists is an ordinary one. -/
theorem OKm.toAt {f : FuncId} {args : List AV} {Q : AV → (Nat → Option AO) → Nat → Prop} {Q' : AV → Prop} (h : OKm C f args (fun _ => none) 0 Q) (hq : ∀ r H nx, Q r H nx → ∃ r', viewA H r = some r' ∧ Q' r') : OKat C f args Q' := by
  refine ⟨h.1, fun w S vals hE hS hsz hrep => ?_⟩
  have hi : Inv w.heap.size (Fr.of S) w (fun _ => none) (pureSg S) :=
    ⟨fun id => by simp [pureSg], fun id _ => ⟨rfl, fun b h => by simp [pureSg] at h⟩, fun b h => ⟨hS b h, .inl h⟩, fun b id h => by simp [pureSg] at h, fun id r h => by simp at h, fun id kt et es h => by simp at h, trivial⟩
  refine (h.2 (Fr.of S) w w (pureSg S) vals hE hi (fun _ _ => rfl) (Below.refl _ _) hsz hrep).mono ?_
  rintro e w' ⟨v, r, σ', H', nx', rfl, hQ, hb, hi', _, _, hr⟩
  obtain ⟨r', hv, hq'⟩ := hq r H' nx' hQ
  refine ⟨hb, v, r', rfl, hq', ?_⟩
  refine viewA_sound hi' (fun b hb => ?_) r v r' hv (fun id _ b hb => .inr (hi'.own_lt b id hb)) hr
  have := hi'.S_lt b hb
  rcases this.2 with h | h
  · exact .inl h
  · exact .inr ⟨h, this.1⟩

theorem OKm.mono {f : FuncId} {args : List AV} {H : Nat → Option AO} {nx : Nat} {Q Q' : AV → (Nat → Option AO) → Nat → Prop} (h : OKm C f args H nx Q) (hq : ∀ r H nx, Q r H nx → Q' r H nx) : OKm C f args H nx Q' :=
  ⟨h.1, fun S0 w0 w σ vals hE hi hnx hbel hsz hrep => (h.2 S0 w0 w σ vals hE hi hnx hbel hsz hrep).mono (fun _ _ ⟨v, r, σ', H', nx', h1, h2, h3⟩ => ⟨v, r, σ', H', nx', h1, hq _ _ _ h2, h3⟩)⟩

variable {N : Nat} {Q : Exit → St → Prop} {s : St} {ops : Array Oper} {rest : List Oper} {o : Oper}

/-- A call of a function that may write the call's own objects. -/
theorem AWL.callm (hC : C.OK) (hg : o.guard = none) {d : Nat} (hd : o.dst = some d) (hN : d < N) {fo : Operand} {args : Array Operand} {tys : Array TypeId} (ho : o.op = .call { callee := .value fo, args := args, argTypes := tys })
    {f : FuncId} {caps : List AV} (hf : s.ev fo = .clo f caps) {Qr : AV → (Nat → Option AO) → Nat → Prop} (hok : OKm C f (evsA args.toList s.ev ++ caps) s.H s.nx Qr)
    (k : ∀ r H' nx', Qr r H' nx' → AWL C N ops Q rest { tm := upd s.tm d r, H := H', nx := nx' }) : AWL C N ops Q (o :: rest) s := by
  rintro S0 w0 a w hE ⟨σ, hσ⟩
  obtain ⟨⟨fn, hfn, hname, hbody⟩, hcall⟩ := hok
  have hfo := hσ.ev fo
  rw [hf] at hfo
  simp only [Rep] at hfo
  obtain ⟨ca, hca, hcs, hcr⟩ := hfo
  have hargs : RepL σ w (evsA args.toList s.ev ++ caps) (fun i => ((args.map a.eval) ++ ca)[i]?) := by
    have h1 := repL_evs (σ := σ) (w := w) (fun x => hσ.ev x) args
    rw [repL_iff'] at h1 hcr ⊢
    intro i c hc
    rw [List.getElem?_append] at hc
    rw [Array.getElem?_append]
    have hl : (evsA args.toList s.ev).length = (args.map a.eval).size := by simp [evsA_map]
    rw [hl] at hc
    split at hc
    · rename_i hi; rw [if_pos hi]; exact h1 i c hc
    · rename_i hi; rw [if_neg hi]; exact hcr _ c hc
  have hsz : ((args.map a.eval) ++ ca).size = (evsA args.toList s.ev ++ caps).length := by simp [evsA_map, hcs]
  have hc := hcall S0 w0 w σ ((args.map a.eval) ++ ca) hE hσ.inv hσ.nx hσ.below hsz hargs
  refine wpListIn_plain hg fun K hK => Oper.wpIn_of_wp C.hF (fun c e => by rw [ho] at e; cases e) ?_
  have hexec : (execOp a.eval o).run C.P w = .ok (.enter f ((args.map a.eval) ++ ca)) w := by
    have hb : (fn.name == "runtime.NumGoroutine") ≠ true := by simp [hname]
    simp only [execOp, ho, resolve, hca, Deferred.ofValue, Sem.run_bind, Sem.run_pure, Result.andThen_ok, invoke, callFunc, run_program, hfn, if_neg hb, hbody, Bool.false_eq_true, if_false]
    simp
  simp only [Oper.wp, hexec, Oper.upon]
  refine hc.mono ?_
  rintro e w' ⟨v, r, σ', H', nx', rfl, hQ, hb, hi', hn', hle, hr⟩
  dsimp only
  rw [hd]
  refine hK _ _ (k r H' nx' hQ S0 w0 _ w' hE ⟨σ', hi', hn', fun t => ?_, by simp [Act.put, hσ.N], hσ.d, hb⟩)
  simp only [Act.put]
  rw [getD_set _ _ _ _ (by rw [hσ.N]; exact hN)]
  show Rep σ' w' (upd s.tm d r t) _
  unfold upd
  split
  · exact hr
  · exact Rep.mono hle _ _ (hσ.tm t)

variable {ty : TypeId} {ps : String} {af : Array Edge} {d : Nat}
theorem W.callm (hC : C.OK) (hN : d < N) {fo : Operand} {args : Array Operand} {tys : Array TypeId} {f : FuncId} {caps : List AV} (hf : s.ev fo = .clo f caps) {Qr : AV → (Nat → Option AO) → Nat → Prop} (hok : OKm C f (evsA args.toList s.ev ++ caps) s.H s.nx Qr)
    (k : ∀ r H' nx', Qr r H' nx' → AWL C N ops Q rest { tm := upd s.tm d r, H := H', nx := nx' }) : AWL C N ops Q (⟨some d, .call { callee := .value fo, args := args, argTypes := tys }, ty, ps, af, none⟩ :: rest) s :=
  AWL.callm hC rfl rfl hN rfl hf hok k

/-- A loop gone through round by round. -/
def AWr (C : Cx) (N : Nat) (c : Code) (Q : Exit → St → Prop) : Nat → St → Prop
  | 0, _ => False
  | n + 1, s => AW C N c (thenQ (AWr C N c Q n) Q) s

theorem AW.rounds {c : Code} (n : Nat) (h : AWr C N c Q n s) : AW C N (.loop c) Q s := by
  intro S0 w0 a w hE hs
  refine wpIn_loop_rounds n ?_
  have key : ∀ n s a w, AWr C N c Q n s → Sim S0 w0 N a w s → Code.roundsIn C.F 0 C.P c (fun e a' w' => ∃ s', Sim S0 w0 N a' w' s' ∧ Q e s') n a w := by
    intro n
    induction n with
    | zero => intro s a w h _; exact h.elim
    | succ n ih =>
      intro s a w h hs
      rw [roundsIn_succ]
      refine wpIn_mono (h S0 w0 a w hE hs) ?_
      rintro e a' w' ⟨s', h1, h3⟩
      cases e <;> simp only [thenQ, Exit.then] at h3 ⊢
      · exact ih s' a' w' h3 h1
      all_goals exact ⟨s', h1, h3⟩
  exact key n s a w h hs
end
end Go.Pg

/-
  append, maps and calls that write, as explicit rules; a nil slice that will grow. Conditions: the table of types is the program's.
-/
namespace Go.Pg
open Go Go.RowKit

section
variable {C : Cx} {N : Nat} {Q : Exit → St → Prop} {s : St} {ops : Array Oper} {rest : List Oper} {o : Oper}

/-- A nil slice is told as a new, empty row. -/
theorem AW.adopt {c : Code} (t k : Nat) (e : TypeId) (ht : s.tm t = .v (.slice none 0 0)) (h : AW C N c Q { tm := upd s.tm t (.ref s.nx 0 0), H := updH s.H s.nx (.row { k := k, es := [], ty := e }), nx := s.nx + 1 }) : AW C N c Q s := by
  rintro S0 w0 a w hE ⟨σ, hσ⟩
  obtain ⟨hle, hinv⟩ := hσ.inv.adopt (hσ.nx s.nx (Nat.le_refl _)) { k := k, es := [], ty := e } rfl rfl rfl
  refine h S0 w0 a w hE ⟨σ.adopt s.nx k, hinv, fun id hid => ?_, fun u => ?_, hσ.N, hσ.d, hσ.below⟩
  · have hid' : s.nx + 1 ≤ id := hid
    simp only [updH]; rw [if_neg (by omega)]; exact hσ.nx id (by omega)
  · show Rep _ w (upd s.tm t (.ref s.nx 0 0) u) _
    unfold upd
    split
    · rename_i he
      subst he
      have hr := hσ.tm u
      rw [ht] at hr
      simp only [Rep] at hr
      rw [hr]
      simp only [Rep]
      exact ⟨.inl rfl, none, 0, rfl, Nat.le_refl _, by simp [maxLen], fun h => absurd rfl h, fun _ _ => .inl (by simp [Sg.adopt])⟩
    · exact Rep.mono hle _ _ (hσ.tm u)

/-- What is not there yet is told. -/
theorem AW.fresh {c : Code} (h : (∀ id, s.nx ≤ id → s.H id = none) → AW C N c Q s) : AW C N c Q s := by
  rintro S0 w0 a w hE ⟨σ, hσ⟩
  exact h hσ.nx S0 w0 a w hE ⟨σ, hσ⟩

variable {op : Op} {ty : TypeId} {ps : String} {af : Array Edge} {d j t : Nat} {want bb : Bool}

/-- append of elements that name none of the call's own objects. -/
theorem W.append (hC : C.OK) (hN : d < N) {x1 x2 : Operand} {t e : TypeId} {tt y : Ty} (ht : C.T t = some tt) (hte : tt.d = .slice e) (hy : C.T e = some y) (hk0 : 0 < y.size) {id nx : Nat} {r : Row}
    (hdst : dstA s s.nx (s.ev x1) y e = some (id, r, nx)) {es news : List (List AV)} (hsrc : srcA s.H (s.ev x2) = some es) (hv : viewLL s.H es = some news) (hlen : ∀ e ∈ es, e.length = y.size) (hid : idsLL es = [])
    (hb : (r.es.length + es.length) * y.bytes ≤ 140737488355328) (hm : r.es.length + es.length ≤ 140737488355328)
    (k : AWL C N ops Q rest { tm := upd s.tm d (.ref id 0 (r.es.length + es.length)), H := updH s.H id (.row (appRow r es.length news)), nx := nx }) :
    AWL C N ops Q (⟨some d, .call { callee := .builtin .append, args := #[x1, x2], argTypes := #[t, t] }, ty, ps, af, none⟩ :: rest) s := by
  refine AWL.append hC rfl rfl hN rfl ht hte hy hk0 (.inl rfl) hdst hsrc hlen hv (by rw [hid]; simp) hb hm ?_
  have : frz' s.H (idsLL es) = s.H := by rw [hid]; rfl
  rw [this]; exact k

/-- append of elements that name some: these are written no more. -/
theorem W.appendF (hC : C.OK) (hN : d < N) {x1 x2 : Operand} {t e : TypeId} {tt y : Ty} (ht : C.T t = some tt) (hte : tt.d = .slice e) (hy : C.T e = some y) (hk0 : 0 < y.size) {id nx : Nat} {r : Row}
    (hdst : dstA s s.nx (s.ev x1) y e = some (id, r, nx)) {es news : List (List AV)} (hsrc : srcA s.H (s.ev x2) = some es) (hv : viewLL s.H es = some news) (hlen : ∀ e ∈ es, e.length = y.size) {ids : List Nat} (hid : idsLL es = ids) (hn : id ∉ ids)
    (hb : (r.es.length + es.length) * y.bytes ≤ 140737488355328) (hm : r.es.length + es.length ≤ 140737488355328)
    (k : AWL C N ops Q rest { tm := upd s.tm d (.ref id 0 (r.es.length + es.length)), H := updH (frz' s.H ids) id (.row (appRow r es.length news)), nx := nx }) :
    AWL C N ops Q (⟨some d, .call { callee := .builtin .append, args := #[x1, x2], argTypes := #[t, t] }, ty, ps, af, none⟩ :: rest) s := by
  subst hid
  exact AWL.append hC rfl rfl hN rfl ht hte hy hk0 (.inl rfl) hdst hsrc hlen hv hn hb hm k

theorem dstA_congr {s s' : St} (h1 : s'.H = s.H) (h2 : s'.nx = s.nx) (key : Nat) (x : AV) (y : Ty) (e : TypeId) : dstA s' key x y e = dstA s key x y e := by
  unfold dstA; rw [h1, h2]

variable {H0 : Nat → Option AO} {b : Nat} {tg mk av : List Nat} {Fin : St → Prop} {i : Nat}

/-- append, which has its place. -/
theorem D.append (hC : C.OK) (hN : d < N) (hi : i ∈ tg) {x1 x2 : Operand} {t e : TypeId} {tt y : Ty} (ht : C.T t = some tt) (hte : tt.d = .slice e) (hy : C.T e = some y) (hk0 : 0 < y.size) {id nx : Nat} {r : Row}
    (hdst : dstA s s.nx (s.ev x1) y e = some (id, r, nx)) {es news : List (List AV)} (hsrc : srcA s.H (s.ev x2) = some es) (hv : viewLL s.H es = some news) (hlen : ∀ e ∈ es, e.length = y.size) (hid : idsLL es = [])
    (hb : (r.es.length + es.length) * y.bytes ≤ 140737488355328) (hm : r.es.length + es.length ≤ 140737488355328) (hav : mk = [] ∨ id ∈ av)
    (k : DW C N ops H0 b tg mk av Fin (i + 1) rest { tm := upd s.tm d (.ref id 0 (r.es.length + es.length)), H := updH s.H id (.row (appRow r es.length news)), nx := nx }) :
    DW C N ops H0 b tg mk av Fin i (⟨some d, .call { callee := .builtin .append, args := #[x1, x2], argTypes := #[t, t] }, ty, ps, af, none⟩ :: rest) s := by
  refine ⟨.ref id 0 (r.es.length + es.length), { tm := upd s.tm d (.ref id 0 (r.es.length + es.length)), H := updH s.H id (.row (appRow r es.length news)), nx := nx }, rfl, ?_, k⟩
  rw [if_pos hi]
  refine ⟨fun s' h1 h2 hl => ?_, ?_⟩
  · have hev := ev_congr hl
    have e1 : s'.ev x1 = s.ev x1 := hev x1 (by simp [Op.operands, Call.operands])
    have e2 : s'.ev x2 = s.ev x2 := hev x2 (by simp [Op.operands, Call.operands])
    refine one_of_AWL (W.append (id := id) (r := r) (nx := nx) (es := es) (news := news) hC hN ht hte hy hk0 (by rw [dstA_congr h1 h2, h2, e1]; exact hdst) (by rw [h1, e2]; exact hsrc) (by rw [h1]; exact hv) hlen hid hb hm (AWL.nil ⟨rfl, ?_⟩))
    rw [h1]; rfl
  · rcases hav with h | h
    · exact .inl h
    · refine .inr fun id' x hid' hx => ?_
      show updH s.H id _ id' = some x
      simp only [updH]
      rw [if_neg (fun e => by rw [e] at hid'; exact hid' h)]; exact hx

/-- A call that writes, which has its place. -/
theorem D.callm (hC : C.OK) (hN : d < N) (hi : i ∈ tg) {fo : Operand} {args : Array Operand} {tys : Array TypeId} {f : FuncId} {caps : List AV} (hf : s.ev fo = .clo f caps) {R : AV} {H' : Nat → Option AO} {nx' : Nat}
    (hok : OKm C f (evsA args.toList s.ev ++ caps) s.H s.nx (fun r h n => r = R ∧ h = H' ∧ n = nx')) (hav : mk = [] ∨ ∀ id x, id ∉ av → s.H id = some x → H' id = some x)
    (k : DW C N ops H0 b tg mk av Fin (i + 1) rest { tm := upd s.tm d R, H := H', nx := nx' }) :
    DW C N ops H0 b tg mk av Fin i (⟨some d, .call { callee := .value fo, args := args, argTypes := tys }, ty, ps, af, none⟩ :: rest) s := by
  refine ⟨R, { tm := upd s.tm d R, H := H', nx := nx' }, rfl, ?_, k⟩
  rw [if_pos hi]
  refine ⟨fun s' h1 h2 hl => ?_, hav⟩
  have hev := ev_congr hl
  have e1 : s'.ev fo = .clo f caps := by rw [hev fo (by simp [Op.operands, Call.operands])]; exact hf
  have e2 : evsA args.toList s'.ev = evsA args.toList s.ev := evsA_congr (fun x hx => hev x (by simp only [Op.operands, Call.operands, Array.mem_append]; exact .inr (by simpa using hx)))
  refine one_of_AWL (W.callm hC hN e1 (Qr := fun r h n => r = R ∧ h = H' ∧ n = nx') (by rw [e2, h1, h2]; exact hok) ?_)
  rintro r h n ⟨rfl, rfl, rfl⟩
  exact AWL.nil ⟨rfl, rfl⟩

/-- A map is written, at its place. -/
theorem D.mapUpdate (hC : C.OK) (hi : i ∈ tg) {t : TypeId} {m kk x : Operand} {id : Nat} {ao : AO} (h : mapUpdA C.T s.H t (s.ev m) (s.ev kk) (s.ev x) = some (id, ao)) (hav : mk = [] ∨ id ∈ av)
    (k : DW C N ops H0 b tg mk av Fin (i + 1) rest { s with H := updH s.H id ao }) : DW C N ops H0 b tg mk av Fin i (⟨none, .mapUpdate t m kk x, ty, ps, af, none⟩ :: rest) s := by
  refine ⟨.junk, { s with H := updH s.H id ao }, rfl, ?_, k⟩
  rw [if_pos hi]
  refine ⟨fun s' h1 h2 ht => ?_, ?_⟩
  · have hev := ev_congr ht
    refine one_of_AWL (W.mapUpdate (id := id) (ao := ao) hC (by rw [hev m (by simp [Op.operands]), hev kk (by simp [Op.operands]), hev x (by simp [Op.operands]), h1]; exact h) (AWL.nil ⟨rfl, ?_⟩))
    rw [h1, h2]; rfl
  · rcases hav with h | h
    · exact .inl h
    · refine .inr fun id' x hid hx => ?_
      show updH s.H id _ id' = some x
      simp only [updH]
      rw [if_neg (fun e => by rw [e] at hid; exact hid h)]; exact hx

/-- An object is made, at its place. -/
theorem D.alloct (hC : C.OK) (hN : d < N) (hi : i ∈ tg) {r : AV} {row : Row} (h : stepA C.T C.eqT s.H s.ev s.nx op = some (r, some row)) (hav : mk = [] ∨ s.nx ∈ av)
    (k : DW C N ops H0 b tg mk av Fin (i + 1) rest ⟨upd s.tm d r, updH s.H s.nx (.row row), s.nx + 1⟩) :
    DW C N ops H0 b tg mk av Fin i (⟨some d, op, ty, ps, af, none⟩ :: rest) s := by
  refine ⟨r, ⟨upd s.tm d r, updH s.H s.nx (.row row), s.nx + 1⟩, rfl, ?_, k⟩
  rw [if_pos hi]
  refine ⟨fun s' h1 h2 ht => ?_, ?_⟩
  · have := stepA_mono (H := s.H) (H' := s'.H) (fun id x hx => by rw [h1]; exact hx) (fun x hx => (ev_congr ht x hx).symm) h
    refine one_of_AWL (AWL.step (d := d) (r := r) (nr := some row) hC rfl rfl hN (by rw [h2]; exact this) (AWL.nil ⟨rfl, ?_⟩))
    show St.mk _ _ _ = _
    rw [show putH s'.H s'.nx (some row) = updH s'.H s'.nx (.row row) from rfl, h1, h2]; rfl
  · rcases hav with h | h
    · exact .inl h
    · refine .inr fun id' x hid hx => ?_
      show updH s.H s.nx _ id' = some x
      simp only [updH]
      rw [if_neg (fun e => by rw [e] at hid; exact hid h)]; exact hx
end

/-- A function whose one result lies in a cell, or that is seen so. -/
theorem OKat.of_bodyM {C : Cx} [hW : C.Wide] {Q : AV → Prop} (hC : C.OK) {f : FuncId} {fn : Func} {c : Code} {args : List AV} {rs : List ResultVar} (hf : C.P.funcs[f]? = some fn) (hb : fn.body = some c) (hn : (fn.name == "runtime.NumGoroutine") = false)
    (hr : fn.results = rs.toArray) (hN : args.length ≤ fn.ntmps) (h : AW C fn.ntmps c (endM C rs (fun r H _ => ∃ r', viewA H r = some r' ∧ Q r')) (startSt args)) : OKat C f args Q :=
  OKm.toAt (OKm.of_body hC hf hb hn hr hN h) (fun _ _ _ h => h)
theorem W.retM {C : Cx} {Q : AV → Prop} {rs : List ResultVar} {s : St} {vs : List AV} {r : AV} (h1 : resVs C.T s rs = some vs) (h2 : viewA s.H (bundle vs) = some r) (hq : Q r) : endM C rs (fun r H _ => ∃ r', viewA H r = some r' ∧ Q r') .ret s := ⟨vs, h1, r, h2, hq⟩
theorem W.endM' {C : Cx} {Q : AV → Prop} {rs : List ResultVar} {s : St} {vs : List AV} {r : AV} (h1 : resVs C.T s rs = some vs) (h2 : viewA s.H (bundle vs) = some r) (hq : Q r) : endM C rs (fun r H _ => ∃ r', viewA H r = some r' ∧ Q r') .normal s := ⟨vs, h1, r, h2, hq⟩

/-! Equations by which maps and new rows are looked into. -/
theorem updH_at (H : Nat → Option AO) (i : Nat) (o : AO) (j : Nat) : updH H i o j = if j = i then some o else H j := rfl
theorem rowAt_updM (H : Nat → Option AO) (i : Nat) (k : MK) (e : TypeId) (es : List (ByteArray × AV)) (j : Nat) : rowAt (updH H i (.mp k e es)) j = if j = i then none else rowAt H j := by
  unfold rowAt updH
  split <;> rename_i h <;> split at h <;> simp_all
theorem viewLL_nil (H : Nat → Option AO) : viewLL H [] = some [] := rfl
theorem viewLL_cons (H : Nat → Option AO) (e : List AV) (es : List (List AV)) : viewLL H (e :: es) = (match viewL H e, viewLL H es with | some d, some ds => some (d :: ds) | _, _ => none) := rfl
theorem idsLL_nil : idsLL [] = [] := rfl
theorem idsLL_cons (e : List AV) (es : List (List AV)) : idsLL (e :: es) = idsL e ++ idsLL es := rfl
theorem frz'_nil (H : Nat → Option AO) : frz' H [] = H := rfl

/-- Elements that name nothing of the call's own are seen as they are. -/
theorem viewLL_map {α : Type} (H : Nat → Option AO) (f : α → List AV) (h : ∀ a, viewL H (f a) = some (f a)) : ∀ l : List α, viewLL H (l.map f) = some (l.map f)
  | [] => rfl
  | a :: l => by simp only [List.map_cons, viewLL_cons, h a, viewLL_map H f h l]
theorem idsLL_map {α : Type} (f : α → List AV) (h : ∀ a, idsL (f a) = []) : ∀ l : List α, idsLL (l.map f) = []
  | [] => rfl
  | a :: l => by simp only [List.map_cons, idsLL_cons, h a, idsLL_map f h l, List.append_nil]
end Go.Pg

/-
  append of a string's bytes; an operation by its meaning; a function's end behind which nothing is told any more. Conditions: the table of types is the program's.
-/
namespace Go.Pg
open Go Go.RowKit

section
variable {P : Program} {B0 : Nat} {S0 : Fr} {w : World} {H : Nat → Option AO} {σ : Sg}

theorem rowAt_frz1 (H : Nat → Option AO) (i j : Nat) : rowAt (frz' H [i]) j = if j = i then (rowAt H j).map (fun r => { r with fro := true }) else rowAt H j := by
  unfold frz' frz rowAt
  simp only [List.isEmpty_cons, Bool.false_eq_true, if_false, List.mem_singleton]
  by_cases h : j = i
  · simp only [h, if_true]
    cases hh : H i with
    | none => rfl
    | some o => cases o <;> rfl
  · simp only [h, if_false]
theorem rowAt_mask (av : List Nat) (H : Nat → Option AO) (j : Nat) : rowAt (mask av H) j = if j ∈ av then none else rowAt H j := by
  unfold rowAt mask
  split <;> rename_i h <;> split at h <;> simp_all
theorem upd_keep {H : Nat → Option AO} {av : List Nat} {a c : Nat} {u v : AO} (h1 : a ∈ av) (h2 : c ∈ av) (j : Nat) (x : AO) (hj : j ∉ av) (hx : H j = some x) : updH (updH H a u) c v j = some x := by
  have n1 : j ≠ c := fun e => by subst e; exact hj h2
  have n2 : j ≠ a := fun e => by subst e; exact hj h1
  simp only [updH]
  rw [if_neg n1, if_neg n2]; exact hx
theorem upd_twice (H : Nat → Option AO) (id n : Nat) (a b c : AO) : updH (updH (updH H id a) n b) id c = updH (updH H n b) id c := by
  funext i
  simp only [updH]
  split
  · rfl
  · split
    · rfl
    · rfl

/-- A string's bytes as elements. -/
def strE (s : ByteArray) : List (List AV) := s.data.toList.map fun b => [AV.v (.int .u8 b.toNat)]
theorem strE_length (s : ByteArray) : (strE s).length = s.size := by unfold strE; rw [List.length_map, Array.length_toList]; rfl

/-- Where the row lies behind an append of a string. -/
theorem append_str_where (base : Nat) (t u ty e : TypeId) (i : TypeInfo) (ht : P.underlying t = some (.slice e)) (hu : P.underlying u = some .string) (hi : P.info? e = some i) (hz : i.zero = some (.int .u8 0))
    (hsize : i.size = 1) (hby : i.bytes = 1) (v : Value) (n : Nat) (xs : List Value) (hown : w.ownsRow base e 1 v n xs) (s : ByteArray) (hs : 0 < s.size)
    (h63 : n + s.size ≤ maxLen) (hbytes : n + s.size ≤ 140737488355328) {v' : Value} {w' : World} (hrun : (Builtin.append_ #[t, u] ty #[v, .string s]).run P w = .ok v' w') :
    v'.ownBlock = v.ownBlock ∨ v'.ownBlock = some w.heap.size := by
  have hxl : xs.length = n := by simpa using hown.1
  have hsmall : n + s.size ≤ 9223372036854775807 := by simp only [maxLen] at h63; omega
  rcases hown.2 with ⟨rfl, rfl⟩ | ⟨g, cap, cur, rfl, hbg, hg, hnc, hcm, hcs, htake⟩
  · have hr := run_append_nil_string (P := P) w t u ty e i (.int .u8 0) ht hu hi hz s hs (by omega) (by rw [hby]; omega)
    rw [hr] at hrun
    injection hrun with h1 h2
    right; rw [← h1]; rfl
  · by_cases hroom : n + s.size ≤ cap
    · have hr := Lib.run_append_room_string (P := P) w t u ty e i ht hu hi hsize g n cap cur hg s hroom (by rw [hcs]; omega)
      rw [hr] at hrun
      injection hrun with h1 h2
      left; rw [← h1]; rfl
    · have holds : ∀ j x, xs[j]? = some x → w.cell? ((⟨g, 0, none⟩ : Addr).add j) = some x := hown.cells (g := g) rfl
      have hr := Lib.run_append_grow_string (P := P) w t u ty e i (.int .u8 0) ht hu hi hz ⟨g, 0, none⟩ n cap xs (by rw [hsize]; omega) holds s (by omega) (by omega) (growslice_fits (by omega) (by rw [hby]; omega))
      rw [hr] at hrun
      injection hrun with h1 h2
      right; rw [← h1]; rfl

theorem append_coreS {T : TypeId → Option Ty} (hT : TyOK P T) (hi : Inv B0 S0 w H σ) (hB : B0 ≤ w.heap.size) {id : Nat} {r : Row} (hH : H id = some (.row r)) (hf : r.fro = false) {t u ty e : TypeId} {y : Ty} (ht : P.underlying t = some (.slice e)) (hu : P.underlying u = some .string) (hy : T e = some y)
    (hy1 : y.size = 1) (hyb : y.bytes = 1) (hyz : ∀ i, P.info? e = some i → i.zero = some (.int .u8 0)) (hk : r.k = 1) (hty : r.ty = e) {uv : Value} (hr : Rep σ w (.ref id 0 r.es.length) uv) (s : ByteArray) (hs : 0 < s.size) (hb : r.es.length + s.size ≤ 140737488355328) :
    ∃ v w' σ', (Builtin.append_ #[t, u] ty #[uv, .string s]).run P w = .ok v w' ∧ Below B0 w w' ∧ Le σ σ' w w' ∧
      Inv B0 S0 w' (updH H id (.row { r with es := r.es ++ strE s, lo := r.es.length + s.size })) σ' ∧ Rep σ' w' (.ref id 0 (r.es.length + s.size)) v := by
  have hR := hi.row id r hH
  obtain ⟨i, z, f1, f2, f3, f4, f5⟩ := (hT e y hy).get
  simp only [Rep] at hr
  obtain ⟨hal, A', cap, rfl, g1, g2, g3, g4⟩ := hr
  have hlS := strE_length s
  have hown : ∃ xs, w.ownsRow B0 e 1 (.slice A' r.es.length cap) r.es.length xs ∧ (∀ b', σ.cur id = some b' → ∃ arr : Array Value, w.heap[b']? = some (.cells arr r.ty (0, 0)) ∧ xs = arr.toList.take r.es.length) ∧ (Value.slice A' r.es.length cap).ownBlock = σ.cur id := by
    rcases g4 trivial hR.len.symm with ⟨h1, h2, rfl, rfl⟩ | ⟨b', h1, rfl, h3⟩
    · refine ⟨[], ⟨by simp [h2], .inl ⟨by rw [h2], h2⟩⟩, fun b' hb' => (by rw [h1] at hb'; cases hb'), by rw [h1]; rfl⟩
    · obtain ⟨a1, a2, a3, a4, arr, a5, a6⟩ := hR.cur b' h1
      refine ⟨arr.toList.take r.es.length, ⟨?_, .inr ⟨b', cap, arr, rfl, (hi.own_lt b' id a1).1, by rw [← hty]; exact a5, g1, g2, by rw [a6, h3, hk], by rw [Nat.mul_one]⟩⟩, fun b'' hb'' => ?_, by rw [h1]; rfl⟩
      · rw [List.length_take, Array.length_toList, a6, hk, Nat.mul_one, Nat.mul_one]
        exact Nat.min_eq_left a3
      · rw [h1] at hb''; injection hb'' with hb''; subst hb''; exact ⟨arr, a5, rfl⟩
  obtain ⟨xs, hown, hxs, hblk⟩ := hown
  obtain ⟨v', w', hrun, hown', hgrow, hnil⟩ := Lib.run_append_own_string (P := P) w B0 t u ty e i ht hu f1 (hyz i f1) (by rw [f2, hy1]) (by rw [f3, hyb]) _ _ xs hown s (by unfold maxLen; omega) hb hB
  have hwhere := append_str_where B0 t u ty e i ht hu f1 (hyz i f1) (by rw [f2, hy1]) (by rw [f3, hyb]) _ _ xs hown s hs (by unfold maxLen; omega) hb hrun
  rcases hown'.2 with ⟨_, h0⟩ | ⟨g, cap', cur', rfl, hBg, hg', hnc, hcm, hcs, htake⟩
  · omega
  · have hgc : σ.cur id = some g ∨ (w.heap.size ≤ g ∧ B0 ≤ g) := by
      rcases hwhere with h | h
      · rw [hblk] at h; exact .inl h.symm
      · simp only [Value.ownBlock, Option.some.injEq] at h; exact .inr ⟨by omega, hBg⟩
    have hlen' : (r.es ++ strE s).length = r.es.length + s.size := by simp [hlS]
    have hxl : xs.length = r.es.length := by simpa using hown.1
    have hcg : ∀ m, m < r.es.length + s.size → cur'[m]? = (xs ++ Lib.strCells s)[m]? := by
      intro m hm'
      rw [← htake, List.getElem?_take, if_pos (by omega), Array.getElem?_toList]
    have hres := hi.renew (w' := w') (r' := { r with es := r.es ++ strE s, lo := r.es.length + s.size }) (g := g) (cap := cap') (arr := cur') hH rfl hf hf hgc (by rw [hty]; exact hg') hgrow.size
      (fun k' hk' hc' hne => hgrow.block k' hk' (by rw [hblk]; exact fun e => hc' e.symm)) (.inl ⟨by rw [hlen']; omega, by rw [hlen']⟩) (by rw [hlen']; exact hnc) hcm (by rw [hcs, hk])
      (fun e' he' => by
        rcases List.mem_append.1 he' with he' | he'
        · exact hR.each e' he'
        · unfold strE at he'
          obtain ⟨b, _, rfl⟩ := List.mem_map.1 he'
          rw [hk]; exact ⟨rfl, by simp [AV.cell, Value.oneCell']⟩)
      (fun m hm' => by
        rw [hlen'] at hm'
        simp only [hk, Nat.mul_one]
        by_cases hlt : m < r.es.length
        · rw [List.getElem_append_left hlt]
          have hne : σ.cur id ≠ none := fun hc => by have := hR.empty hc; rw [this] at hlt; simp at hlt
          obtain ⟨b', hb'⟩ := Option.ne_none_iff_exists'.1 hne
          obtain ⟨arr, a5, hxa⟩ := hxs b' hb'
          refine RepL.congr (fun q hq => ?_) (hR.con b' hb' m hlt)
          rw [(hR.each _ (List.getElem_mem hlt)).1, hk] at hq
          have hq0 : q = 0 := by omega
          subst hq0
          rw [hcg _ (by omega), List.getElem?_append_left (by omega), hxa, List.getElem?_take, if_pos (by omega), Array.getElem?_toList, hk, Nat.mul_one]
          exact cell_of_row w b' _ arr r.ty (0, 0) a5
        · rw [List.getElem_append_right (by omega)]
          have hms : m - r.es.length < s.data.toList.length := by rw [← hlS] at hm'; unfold strE at hm'; rw [List.length_map] at hm'; omega
          have he : (strE s)[m - r.es.length]'(by rw [hlS]; omega) = [AV.v (.int .u8 (s.data.toList[m - r.es.length]).toNat)] := by unfold strE; simp
          rw [he]
          simp only [RepL, Nat.add_zero, and_true]
          refine ⟨_, ?_, rfl⟩
          rw [hcg _ hm', List.getElem?_append_right (by omega), hxl]
          unfold Lib.strCells
          rw [List.getElem?_map, List.getElem?_eq_getElem hms]; rfl)
    refine ⟨_, w', _, hrun, ⟨hgrow.os, hgrow.tape, hgrow.output, hgrow.size, fun k' hk' => hgrow.block k' (by omega) (fun e => ?_)⟩, hres.1, hres.2, ?_⟩
    · rw [hblk] at e
      have := (hi.own_lt k' id (hR.cur k' e.symm).1).1; omega
    · simp only [Rep]
      rw [hlen']
      refine ⟨hres.1.al id hal, some ⟨g, 0, none⟩, cap', rfl, hnc, hcm, fun _ => ⟨g, by simp, by simp [Sg.renew], by simp [Sg.renew]⟩, fun _ _ => .inr ⟨g, by simp [Sg.renew], rfl, by simp [Sg.renew]⟩⟩
end

section
variable {C : Cx} {N : Nat} {Q : Exit → St → Prop} {s : St} {ops : Array Oper} {rest : List Oper} {o : Oper}

/-- An operation by what it means. -/
theorem AWL.pureOp (hg : o.guard = none) {d : Nat} (hd : o.dst = some d) (hN : d < N) {r : AV}
    (h : ∀ (S0 : Fr) (w0 : World) (a : Act) (w : World) (σ : Sg), SimG S0 w0 N a w s σ → ∃ v, (execOp a.eval o).run C.P w = .ok (.value v) w ∧ Rep σ w r v) (k : AWL C N ops Q rest (s.put d r none)) (hnd : ∀ c, o.op ≠ .defer c := by intro c e; cases e) : AWL C N ops Q (o :: rest) s := by
  rintro S0 w0 a w hE ⟨σ, hσ⟩
  obtain ⟨v, h1, h5⟩ := h S0 w0 a w σ hσ
  refine wpListIn_plain hg fun K hK => Oper.wpIn_of_wp C.hF hnd ?_
  simp only [Oper.wp, Oper.upon, h1]
  rw [hd]
  exact hK _ _ (k S0 w0 _ w hE ⟨σ, hσ.put hN (s' := s.put d r none) hσ.inv hσ.nx (hσ.inv.le_heap (fun _ _ => rfl)) (Below.refl _ _) h5 rfl⟩)

/-- append of a string's bytes. -/
theorem AWL.appendS (hC : C.OK) (hg : o.guard = none) {d : Nat} (hd : o.dst = some d) (hN : d < N) {x1 x2 : Operand} {t u : TypeId} (ho : o.op = .call { callee := .builtin .append, args := #[x1, x2], argTypes := #[t, u] })
    {e : TypeId} {ty y yu : Ty} (ht : C.T t = some ty) (hte : ty.d = .slice e) (hu : C.T u = some yu) (hud : yu.d = .str) (hy : C.T e = some y) (hy1 : y.size = 1) (hyb : y.bytes = 1) (hyz : ∀ i, C.P.info? e = some i → i.zero = some (.int .u8 0))
    {id nx : Nat} {r : Row} (hdst : dstA s s.nx (s.ev x1) y e = some (id, r, nx)) {b : ByteArray} (hx2 : s.ev x2 = .v (.string b)) (hb0 : 0 < b.size) (hb : r.es.length + b.size ≤ 140737488355328)
    (k : AWL C N ops Q rest { tm := upd s.tm d (.ref id 0 (r.es.length + b.size)), H := updH s.H id (.row { r with es := r.es ++ strE b, lo := r.es.length + b.size }), nx := nx }) : AWL C N ops Q (o :: rest) s := by
  rintro S0 w0 a w hE ⟨σ, hσ⟩
  have hd1 := hσ.ev x1
  have hstep1 : ∃ σ1 H1, Le σ σ1 w w ∧ Inv w0.heap.size S0 w H1 σ1 ∧ (∀ i, i ≠ id → H1 i = s.H i) ∧ (H1 id = some (.row r)) ∧ Rep σ1 w (.ref id 0 r.es.length) (a.eval x1) ∧ r.fro = false ∧ r.k = y.size ∧ r.ty = e ∧ (∀ i, nx ≤ i → H1 i = none) := by
    unfold dstA at hdst
    split at hdst
    · rename_i hx
      injection hdst with hdst
      simp only [Prod.mk.injEq] at hdst
      obtain ⟨rfl, rfl, rfl⟩ := hdst
      rw [hx] at hd1
      simp only [Rep] at hd1
      have had := hσ.inv.adopt (hσ.nx s.nx (Nat.le_refl _)) { k := y.size, es := [], ty := e } rfl rfl rfl
      refine ⟨_, _, had.1, had.2, fun i hi => by simp only [updH]; rw [if_neg hi], by simp [updH], ?_, rfl, rfl, rfl, fun i hi => ?_⟩
      · rw [hd1]
        simp only [Rep]
        exact ⟨.inl rfl, none, 0, rfl, Nat.le_refl _, by simp [maxLen], fun h => absurd rfl h, fun _ _ => .inl ⟨by simp [Sg.adopt], rfl, rfl, rfl⟩⟩
      · simp only [updH]; rw [if_neg (by omega)]; exact hσ.nx i (by omega)
    · rename_i id' n hx
      split at hdst
      · rename_i r' hrow
        split at hdst
        · rename_i hc
          obtain ⟨c1, c2, c3, c4⟩ := hc
          injection hdst with hdst
          simp only [Prod.mk.injEq] at hdst
          obtain ⟨rfl, rfl, rfl⟩ := hdst
          rw [hx, c1] at hd1
          exact ⟨σ, s.H, hσ.inv.le_heap (fun _ _ => rfl), hσ.inv, fun _ _ => rfl, rowAt_eq hrow, hd1, c2, c3, c4, hσ.nx⟩
        · cases hdst
      · cases hdst
    · cases hdst
  obtain ⟨σ1, H1, l1, i1, ho1, hH1, hr1, hf1, hk1, hty1, hnx1⟩ := hstep1
  have hxv := hσ.ev x2
  rw [hx2] at hxv
  simp only [Rep] at hxv
  obtain ⟨v, w', σ', hrun, hb', hle', hinv', hrep'⟩ := append_coreS (T := C.T) (ty := o.type) (u := u) hC.T i1 hσ.size hH1 hf1 ((hC.T t _ ht).slice hte) ((hC.T u _ hu).str hud) hy hy1 hyb hyz (hk1.trans hy1) hty1 hr1 b hb0 hb
  refine wpListIn_plain hg fun K hK => Oper.wpIn_of_wp C.hF (fun c e => by rw [ho] at e; cases e) ?_
  have hexec : (execOp a.eval o).run C.P w = .ok (.value v) w' := by
    simp only [execOp, ho, resolve, invoke, builtin, Sem.run_bind, Sem.run_pure, Result.andThen_ok, List.map_toArray, List.map_cons, List.map_nil, hxv, hrun]
  simp only [Oper.wp, hexec, Oper.upon]
  rw [hd]
  refine hK _ _ (k S0 w0 _ w' hE ⟨σ', ?_⟩)
  refine hσ.put hN (s' := { tm := upd s.tm d (.ref id 0 (r.es.length + b.size)), H := updH s.H id (.row { r with es := r.es ++ strE b, lo := r.es.length + b.size }), nx := nx }) ?_ (fun i hi => ?_) (l1.trans hle') hb' hrep' rfl
  · have : updH s.H id (.row { r with es := r.es ++ strE b, lo := r.es.length + b.size }) = updH H1 id (.row { r with es := r.es ++ strE b, lo := r.es.length + b.size }) := by
      funext i
      simp only [updH]
      split
      · rfl
      · rename_i hne; exact (ho1 i hne).symm
    show Inv w0.heap.size S0 w' (updH s.H id (.row { r with es := r.es ++ strE b, lo := r.es.length + b.size })) σ'
    rw [this]; exact hinv'
  · show updH s.H id _ i = none
    have hii : H1 i = none := hnx1 i hi
    have hne : i ≠ id := fun e => by subst e; rw [hH1] at hii; cases hii
    simp only [updH]; rw [if_neg hne, ← ho1 i hne]; exact hii

/-- What a name is, is told where it is a slice of the call's own: it is written no more. -/
theorem AWL.freeze {t : Nat} {v : AV} (hv : viewA s.H (s.tm t) = some v) (k : AWL C N ops Q rest { tm := upd s.tm t v, H := frz' s.H (idsA (s.tm t)), nx := s.nx }) : AWL C N ops Q rest s := by
  rintro S0 w0 a w hE ⟨σ, hσ⟩
  have hrows := idsA_row _ _ hv
  have hinv := hσ.inv.frz hrows
  have hle := hσ.inv.le_frz (idsA (s.tm t))
  have hinv' : Inv w0.heap.size S0 w (frz' s.H (idsA (s.tm t))) (σ.frz (idsA (s.tm t))) := by
    unfold frz'
    split
    · rename_i he
      have h0 : idsA (s.tm t) = [] := by simpa using he
      have e1 : σ.frz (idsA (s.tm t)) = σ := by
        rw [h0]
        unfold Sg.frz
        congr 1
        funext b; simp
      rw [e1]; exact hσ.inv
    · exact hinv
  refine k S0 w0 a w hE ⟨σ.frz (idsA (s.tm t)), hinv', fun id hid => ?_, fun u => ?_, hσ.N, hσ.d, hσ.below⟩
  · have h0 := hσ.nx id hid
    show frz' s.H _ id = none
    unfold frz'
    split
    · exact h0
    · unfold frz; split
      · rw [h0]
      · exact h0
  · show Rep _ w (upd s.tm t v u) _
    unfold upd
    split
    · rename_i he
      subst he
      exact Rep.lift (viewA_sound hσ.inv (S' := (σ.frz (idsA (s.tm u))).S) (fun b h => .inl h) _ _ _ hv (fun id hid b hb => .inr ⟨id, hid, hb⟩) (hσ.tm u))
    · exact Rep.mono hle _ _ (hσ.tm u)

variable {op : Op} {ty : TypeId} {ps : String} {af : Array Edge} {d j t : Nat} {want bb : Bool} {H0 : Nat → Option AO} {b : Nat} {tg mk av : List Nat} {Fin : St → Prop} {i : Nat}

/-- A call that has its place. -/
theorem D.callvt (hC : C.OK) (hN : d < N) (hi : i ∈ tg) {fo : Operand} {args : Array Operand} {tys : Array TypeId} {f : FuncId} {caps vs : List AV} {R : AV} (hf : s.ev fo = .clo f caps) (hv : viewL s.H (evsA args.toList s.ev ++ caps) = some vs) (hok : OKv C f vs R)
    (hfl : (flatA R || (idsL (evsA args.toList s.ev ++ caps)).isEmpty) = true) (k : DW C N ops H0 b tg mk av Fin (i + 1) rest (s.put d R none)) :
    DW C N ops H0 b tg mk av Fin i (⟨some d, .call { callee := .value fo, args := args, argTypes := tys }, ty, ps, af, none⟩ :: rest) s := by
  refine ⟨R, s.put d R none, rfl, ?_, k⟩
  rw [if_pos hi]
  refine ⟨fun s' h1 h2 ht => ?_, .inr fun id x _ hx => hx⟩
  have hev := ev_congr ht
  have e1 : s'.ev fo = .clo f caps := by rw [hev fo (by simp [Op.operands, Call.operands])]; exact hf
  have e2 : evsA args.toList s'.ev = evsA args.toList s.ev := evsA_congr (fun x hx => hev x (by simp only [Op.operands, Call.operands, Array.mem_append]; exact .inr (by simpa using hx)))
  refine one_of_AWL (W.callv (R := R) hC hN e1 (by rw [e2, h1]; exact hv) hok (AWL.nil ⟨rfl, ?_⟩))
  rw [e2]
  unfold St.back
  have : afterH s'.H (idsL (evsA args.toList s.ev ++ caps)) R = s'.H := by
    cases hq : flatA R <;> simp_all [afterH]
  rw [this, h1, h2]; rfl

/-- The end of a function that may write what it is handed. -/
theorem W.retX {rs : List ResultVar} {Qx : AV → (Nat → Option AO) → Nat → Prop} {vs : List AV} (h1 : resVs C.T s rs = some vs) (hq : Qx (bundle vs) s.H s.nx) : endM C rs Qx .ret s := ⟨vs, h1, hq⟩
theorem W.endX {rs : List ResultVar} {Qx : AV → (Nat → Option AO) → Nat → Prop} {vs : List AV} (h1 : resVs C.T s rs = some vs) (hq : Qx (bundle vs) s.H s.nx) : endM C rs Qx .normal s := ⟨vs, h1, hq⟩

/-- The same triple, where nothing is held of the ghost side at the function's start. -/
def AWs (C : Cx) (N : Nat) (c : Code) (Q : Exit → St → Prop) (s : St) : Prop :=
  ∀ (S : Nat → Prop) w0 a w, C.E w0 → Sim (Fr.of S) w0 N a w s → c.wpIn C.F 0 C.P (fun e a' w' => ∃ s', Sim (Fr.of S) w0 N a' w' s' ∧ Q e s') a w

theorem thenQ_n {K : St → Prop} (h : K s) : thenQ K Q .normal s := h
theorem AWs.of {c : Code} (h : AW C N c Q s) : AWs C N c Q s := fun S w0 a w hE hs => h (Fr.of S) w0 a w hE hs
theorem AWs.seq {x y : Code} (h : AW C N x (thenQ (AWs C N y Q) Q) s) : AWs C N (.seq x y) Q s := by
  intro S w0 a w hE hs
  refine wpIn_seq (wpIn_mono (h (Fr.of S) w0 a w hE hs) ?_)
  rintro e a' w' ⟨s', h1, h3⟩
  cases e <;> simp only [thenQ, Exit.then] at h3 ⊢
  · exact h3 S w0 a' w' hE h1
  all_goals exact ⟨s', h1, h3⟩

/-- The last call of a function: of what there is behind it, only the result is told. -/
theorem AWs.last {id d : Nat} {fo : Operand} {args : Array Operand} {tys : Array TypeId} {ty : TypeId} {ps : String} {af : Array Edge} {l : List Oper} (hN : d < N) {f : FuncId} (hf : s.ev fo = .clo f []) (hent : Enters C.P f) {r : AV}
    (hcall : ∀ (S0 : Fr) (w0 w : World) (σ : Sg) (vals : Array Value), C.E w0 → Inv w0.heap.size S0 w s.H σ → Below w0.heap.size w0 w → vals.size = (evsA args.toList s.ev).length → RepL σ w (evsA args.toList s.ev) (fun i => vals[i]?) →
      Calls C.P f vals w fun e w' => Below w0.heap.size w0 w' ∧ ∃ v, e = .returned v ∧ Rep (pureSg fun _ => False) w' r v)
    (k : AWL C N ((⟨some d, .call { callee := .value fo, args := args, argTypes := tys }, ty, ps, af, none⟩ : Oper) :: l).toArray (thenQ (AW C N .ret Q) Q) l { tm := upd (fun _ => .junk) d r, H := fun _ => none, nx := 0 }) :
    AWs C N (.seq (.region id ((⟨some d, .call { callee := .value fo, args := args, argTypes := tys }, ty, ps, af, none⟩ : Oper) :: l).toArray false) .ret) Q s := by
  rintro S w0 a w hE ⟨σ, hσ⟩
  obtain ⟨fn, hfn, hname, hbody⟩ := hent
  have hfo := hσ.ev fo
  rw [hf] at hfo
  simp only [Rep] at hfo
  obtain ⟨ca, hca, hcs, _⟩ := hfo
  have hca0 : ca = #[] := Array.eq_empty_of_size_eq_zero (by simpa using hcs)
  subst hca0
  have hc := hcall (Fr.of S) w0 w σ (args.map a.eval) hE hσ.inv hσ.below (by simp [evsA_map]) (repL_evs (fun x => hσ.ev x) args)
  refine wpIn_seq ?_
  have hreg : (Code.region id ((⟨some d, .call { callee := .value fo, args := args, argTypes := tys }, ty, ps, af, none⟩ : Oper) :: l).toArray false).wpIn C.F 0 C.P (fun e a' w' => ∃ s', Sim (Fr.of S) w0 N a' w' s' ∧ (thenQ (AW C N .ret Q) Q) e s') a w := by
    refine wpIn_region_lit ?_
    refine wpListIn_plain rfl fun K hK => Oper.wpIn_of_wp C.hF (fun c e => by cases e) ?_
    have hexec : (execOp a.eval ⟨some d, .call { callee := .value fo, args := args, argTypes := tys }, ty, ps, af, none⟩).run C.P w = .ok (.enter f (args.map a.eval)) w := by
      have hb : (fn.name == "runtime.NumGoroutine") ≠ true := by simp [hname]
      simp only [execOp, resolve, hca, Deferred.ofValue, Sem.run_bind, Sem.run_pure, Result.andThen_ok, invoke, callFunc, run_program, hfn, if_neg hb, hbody, Bool.false_eq_true, if_false]
      simp
    simp only [Oper.wp, hexec, Oper.upon]
    refine hc.mono ?_
    rintro e w' ⟨hb, v, rfl, hr⟩
    dsimp only
    refine hK _ _ (k (Fr.of S) w0 _ w' hE ⟨pureSg fun _ => False, ⟨fun i => by simp [pureSg], fun i _ => ⟨rfl, fun b h => by simp [pureSg] at h⟩, fun b h => h.elim, fun b i h => by simp [pureSg] at h, fun i r h => (by cases h), fun i kt et es h => (by cases h), trivial⟩, fun _ _ => rfl, fun t => ?_, by simp [Act.put, hσ.N], hσ.d, hb⟩)
    simp only [Act.put]
    rw [getD_set _ _ _ _ (by rw [hσ.N]; exact hN)]
    show Rep _ w' (upd (fun _ => .junk) d r t) _
    unfold upd
    split
    · exact hr
    · trivial
  refine wpIn_mono hreg ?_
  rintro e a' w' ⟨s', h1, h3⟩
  cases e <;> simp only [thenQ, Exit.then] at h3 ⊢
  · exact h3 (Fr.of S) w0 a' w' hE h1
  all_goals exact ⟨s', h1, h3⟩

/-- A function's contract from such a walk of its body. -/
theorem OKat.of_bodyS [hW : C.Wide] {Qr : AV → Prop} {f : FuncId} {fn : Func} {c : Code} {args : List AV} {rs : List Nat} (hf : C.P.funcs[f]? = some fn) (hb : fn.body = some c) (hn : (fn.name == "runtime.NumGoroutine") = false) (hr : fn.results = (rs.map ResultVar.tmp).toArray)
    (hN : args.length ≤ fn.ntmps) (h : AWs C fn.ntmps c (endQ rs Qr) (startSt args)) : OKat C f args Qr := by
  refine ⟨⟨fn, hf, hn, by rw [hb]; rfl⟩, fun w S vals hE hS hsz hrep => ?_⟩
  have hbig : AW { C with E := fun w' => w' = w } fn.ntmps c (endQ rs Qr) (startSt args) → True := fun _ => trivial
  refine calls_of_wp hf hb ?_
  have hs := start_sim (N := fn.ntmps) hS hsz hrep hN
  have h2 := h S w _ w hE hs
  rw [hW.h] at h2
  refine wp_mono (wpIn_wide.1 h2) ?_
  have fin : ∀ a' w' s', Sim (Fr.of S) w fn.ntmps a' w' s' → (∃ r', viewA s'.H (match rs with | [t] => s'.tm t | ts => .tup (ts.map s'.tm)) = some r' ∧ Qr r') →
      a'.defers = [] ∧ ∃ v, (results fn a'.tmps).run C.P w' = .ok v w' ∧ (Below w.heap.size w w' ∧ ∃ v2 r, Ending.returned v = .returned v2 ∧ Qr r ∧ Rep (pureSg fun b => S b ∨ (w.heap.size ≤ b ∧ b < w'.heap.size)) w' r v2) := by
    rintro a' w' s' ⟨σ, hσ⟩ ⟨r', hv, hq⟩
    have hview : ∀ (c : AV) (u : Value), viewA s'.H c = some r' → Rep σ w' c u → Rep (pureSg fun b => S b ∨ (w.heap.size ≤ b ∧ b < w'.heap.size)) w' r' u := by
      intro c u hc hu
      refine viewA_sound hσ.inv (fun b hb => ?_) c u r' hc (fun id _ b hb => .inr (hσ.inv.own_lt b id hb)) hu
      have := hσ.inv.S_lt b hb
      rcases this.2 with h | h
      · exact .inl h
      · exact .inr ⟨h, this.1⟩
    refine ⟨hσ.d, ?_⟩
    by_cases hl : ∃ t, rs = [t]
    · obtain ⟨t, rfl⟩ := hl
      exact ⟨_, results_tmp (by simpa using hr) _ _ _, hσ.below, _, r', rfl, hq, hview _ _ hv (hσ.tm t)⟩
    · have hne : rs.length ≠ 1 := fun h => by
        match rs, h with
        | [t], _ => exact hl ⟨t, rfl⟩
      refine ⟨_, results_tmps hr hne _ _ _, hσ.below, _, r', rfl, hq, ?_⟩
      have hm : (match rs with | [t] => s'.tm t | ts => AV.tup (ts.map s'.tm)) = .tup (rs.map s'.tm) := by
        match rs, hl with
        | [], _ => rfl
        | [t], h => exact absurd ⟨t, rfl⟩ h
        | _ :: _ :: _, _ => rfl
      rw [hm] at hv
      refine hview _ _ hv ?_
      simp only [Rep]
      refine ⟨_, rfl, by simp, ?_⟩
      rw [repL_iff']
      intro i c hc
      simp only [List.getElem?_map, Option.map_eq_some_iff] at hc
      obtain ⟨t, ht, rfl⟩ := hc
      exact ⟨a'.tmps.getD t undef, by simp [ht], hσ.tm t⟩
  rintro e a' w' ⟨s', hs', hq⟩
  cases e with
  | normal => exact fin a' w' s' hs' hq
  | ret => exact fin a' w' s' hs' hq
  | exit id => exact hq.elim
  | goto l => exact hq.elim
  | panic c => exact hq.elim
  | outgrown => exact hq.elim
end
end Go.Pg

/-
  The equations by which a state is looked into, under one name. No conditions.
-/
namespace Go.Pg
open Go Go.RowKit
section
variable {C : Cx} {N : Nat} {Q : Exit → St → Prop} {s : St} {ops : Array Oper} {rest : List Oper}
variable {ty : TypeId} {ps : String} {af : Array Edge} {d : Nat} {H0 : Nat → Option AO} {b : Nat} {tg mk av : List Nat} {Fin : St → Prop} {i : Nat}

/-- append to nil: a new object, wherever it comes up. -/
theorem D.appendN (hC : C.OK) (hN : d < N) (hi : i ∉ tg ∧ i ∉ mk) {x1 x2 : Operand} {t e : TypeId} {tt y : Ty} (ht : C.T t = some tt) (hte : tt.d = .slice e) (hy : C.T e = some y) (hk0 : 0 < y.size)
    (hx1 : s.ev x1 = .v (.slice none 0 0)) {es news : List (List AV)} (hsrc : srcA H0 (s.ev x2) = some es) (hv : viewLL H0 es = some news) (hlen : ∀ e ∈ es, e.length = y.size) (hid : idsLL es = [])
    (hb : es.length * y.bytes ≤ 140737488355328) (hm : es.length ≤ 140737488355328) (hH : H0 (b + i) = none) (hn : b + i < s.nx)
    (k : DW C N ops H0 b tg mk av Fin (i + 1) rest { tm := upd s.tm d (.ref (b + i) 0 es.length), H := updH s.H (b + i) (.row { k := y.size, es := news, ty := e, lo := if news.isEmpty then 0 else es.length }), nx := s.nx }) :
    DW C N ops H0 b tg mk av Fin i (⟨some d, .call { callee := .builtin .append, args := #[x1, x2], argTypes := #[t, t] }, ty, ps, af, none⟩ :: rest) s := by
  refine ⟨.ref (b + i) 0 es.length, { tm := upd s.tm d (.ref (b + i) 0 es.length), H := updH s.H (b + i) (.row { k := y.size, es := news, ty := e, lo := if news.isEmpty then 0 else es.length }), nx := s.nx }, rfl, ?_, k⟩
  rw [if_neg hi.1, if_neg hi.2]
  refine ⟨some { k := y.size, es := news, ty := e, lo := if news.isEmpty then 0 else es.length }, rfl, rfl, .inr ⟨hi.2, hH, hn⟩, fun s' hx hk ht' => ?_⟩
  rcases hk with hk | ⟨hk1, hk2⟩
  · cases hk
  · have hev := ev_congr ht'
    have e1 : s'.ev x1 = .v (.slice none 0 0) := by rw [hev x1 (by simp [Op.operands, Call.operands])]; exact hx1
    have e2 : s'.ev x2 = s.ev x2 := hev x2 (by simp [Op.operands, Call.operands])
    refine one_of_AWL (AWL.append (key := b + i) (id := b + i) (nx := s'.nx) (r := { k := y.size, es := [], ty := e }) (es := es) (news := news) hC rfl rfl hN rfl ht hte hy hk0 (.inr hk1) ?_ (by rw [e2]; exact srcA_mono hx hsrc) hlen (viewLL_mono hx _ _ hv)
      (by rw [hid]; simp) (by simpa using hb) (by simpa using hm) (AWL.nil ⟨rfl, ?_⟩))
    · have hmx : max s'.nx (b + i + 1) = s'.nx := by omega
      simp [dstA, e1, hmx]
    · have : frz' s'.H (idsLL es) = s'.H := by rw [hid]; rfl
      rw [this]
      simp [appRow, updO, putH]
end

theorem INTS : ((!true) = false ∧ (!false) = true ∧ (∀ b : Bool, ((!b) = true) = (b = false)) ∧ (∀ b : Bool, ((!b) = false) = (b = true)) ∧ (∀ (p : Prop) [Decidable p], (decide p = true) = p) ∧ (∀ (p : Prop) [Decidable p], (decide p = false) = ¬ p)) ∧
    ((∀ a b : Bool, ((a && b) = true) = (a = true ∧ b = true)) ∧ (∀ a b : Bool, ((a && b) = false) = (a = false ∨ b = false)) ∧ (∀ a b : Bool, ((a || b) = true) = (a = true ∨ b = true)) ∧ (∀ a b : Bool, ((a || b) = false) = (a = false ∧ b = false))) ∧
    ((∀ a b : Int, (¬ a < b) = (b ≤ a)) ∧ (∀ a b : Int, (¬ a ≤ b) = (b < a)) ∧ (∀ (α : Type) [BEq α] [LawfulBEq α] (a b : α), ((a == b) = true) = (a = b)) ∧ (∀ (α : Type) [BEq α] [LawfulBEq α] (a b : α), ((a == b) = false) = (a ≠ b)) ∧
      (∀ (α : Type) [BEq α] [LawfulBEq α] (a b : α), ((a != b) = true) = (a ≠ b)) ∧ (∀ (α : Type) [BEq α] [LawfulBEq α] (a b : α), ((a != b) = false) = (a = b)) ∧ (∀ (α : Type) (a b : α), (a ≠ b) = ¬ (a = b)) ∧ (∀ (p : Prop) [Decidable p], (¬ ¬ p) = p)) := by
  refine ⟨⟨rfl, rfl, ?_, ?_, ?_, ?_⟩, ⟨?_, ?_, ?_, ?_⟩, ⟨?_, ?_, ?_, ?_, ?_, ?_, ?_, ?_⟩⟩ <;> intros <;> first | (simp [Int.not_lt, Int.not_le]; done) | (rename_i a b; cases a <;> cases b <;> simp)

attribute [push_cast] EVS LST stepA binA intBinA strBinA unA convA loadA rdPtr partA TyD.isAgg fieldAddrA fieldA offA extractA lenA minA cellsA Value.oneCell' builtA fillA fillE listA evsA spliceL normC sliceA boundA indexAddrA indexA storeA appRow view_ref view_ptr pureL pureA
attribute [push_cast] nxL nxR nxC nxA if_true if_false Bool.false_eq_true Bool.not_true Bool.not_false Bool.and_true Bool.true_and Bool.and_self Option.isSome_some Option.getD_some Nat.zero_add Nat.add_zero Nat.lt_irrefl Nat.le_refl and_self and_true true_and List.replicate_one List.replicate_zero List.replicate_succ
attribute [push_cast] dstA srcA viewLL_nil viewLL_cons idsLL_nil idsLL_cons lookupA mapUpdA findM putM updH_at rowAt_updM resVs resV bundle
attribute [push_cast] List.length_map Int.natCast_nonneg Int.toNat_natCast decide_true decide_false ne_eq eq_self not_false_eq_true not_true_eq_false Bool.cond_true Bool.cond_false
end Go.Pg

/-
  A row's elements told anew; a nil slice in a cell that will grow. Conditions: the table of types is the program's.
-/
namespace Go.Pg
open Go Go.RowKit

section
variable {B0 : Nat} {S0 : Fr} {w : World} {H : Nat → Option AO} {σ : Sg}

theorem Inv.retell (hi : Inv B0 S0 w H σ) {id : Nat} {r : Row} {es' : List (List AV)} (hH : H id = some (.row r)) (hl : es'.length = r.es.length) (each : ∀ e ∈ es', e.length = r.k ∧ ∀ c ∈ e, c.cell = true)
    (hcon : ∀ b, σ.cur id = some b → ∀ i (h : i < es'.length), RepL σ w es'[i] (fun j => w.cell? ⟨b, i * r.k + j, none⟩)) : Inv B0 S0 w (updH H id (.row { r with es := es' })) σ := by
  have hr := hi.row id r hH
  refine ⟨fun i => ?_, fun i hn => ?_, hi.S_lt, hi.own_lt, fun i r' h => ?_, fun i kt et es h => ?_, hi.fr⟩
  · rw [hi.al]
    simp only [updH]
    split
    · rename_i e; subst e; simp [hH]
    · rfl
  · simp only [updH] at hn
    split at hn
    · cases hn
    · exact hi.fresh i hn
  · simp only [updH] at h
    split at h
    · rename_i e; subst e
      injection h with h; injection h with h; subst h
      refine ⟨by rw [hr.len]; exact hl.symm, hr.k, each, by show r.lo ≤ es'.length; rw [hl]; exact hr.lo, fun b hb => ?_, fun hc => ?_, fun b hb => ?_, fun b hb j hj => hcon b hb j hj⟩
      · obtain ⟨a1, a2, a3, a4, arr, a5, a6⟩ := hr.cur b hb
        exact ⟨a1, by show σ.ext b = es'.length; rw [hl]; exact a2, by show es'.length ≤ _; rw [hl]; exact a3, a4, arr, a5, a6⟩
      · have := hr.empty hc
        show es' = []
        rw [this] at hl
        exact List.eq_nil_of_length_eq_zero (by simpa using hl)
      · obtain ⟨a1, a2, a3, a4⟩ := hr.own b hb
        exact ⟨a1, by show σ.ext b ≤ es'.length; rw [hl]; exact a2, a3, a4⟩
    · exact hi.row i r' h
  · simp only [updH] at h
    split at h
    · cases h
    · exact hi.mp i kt et es h
end

section
variable {C : Cx} {N : Nat} {Q : Exit → St → Prop} {s : St}

/-- A nil slice in a cell of an object is told as a new, empty row. -/
theorem AW.adoptCell {c : Code} (B i j k : Nat) (e : TypeId) {r : Row} (hr : rowAt s.H B = some r) (hc : (r.es[i]?).bind (·[j]?) = some (.v (.slice none 0 0)))
    (h : AW C N c Q { tm := s.tm, H := updH (updH s.H s.nx (.row { k := k, es := [], ty := e })) B (.row { r with es := r.es.set i ((r.es.getD i []).set j (.ref s.nx 0 0)) }), nx := s.nx + 1 }) : AW C N c Q s := by
  rintro S0 w0 a w hE ⟨σ, hσ⟩
  have hH := rowAt_eq hr
  obtain ⟨hle, hinv⟩ := hσ.inv.adopt (hσ.nx s.nx (Nat.le_refl _)) { k := k, es := [], ty := e } rfl rfl rfl
  have hne : B ≠ s.nx := fun e => by have := hσ.nx s.nx (Nat.le_refl _); rw [e, this] at hH; cases hH
  have hH' : updH s.H s.nx (.row { k := k, es := [], ty := e }) B = some (.row r) := by simp only [updH]; rw [if_neg hne]; exact hH
  obtain ⟨ei, hei, hej⟩ := Option.bind_eq_some_iff.1 hc
  obtain ⟨hil, rfl⟩ := List.getElem?_eq_some_iff.1 hei
  have hgd : r.es.getD i [] = r.es[i] := by rw [List.getD_eq_getElem?_getD, List.getElem?_eq_getElem hil]; rfl
  have hR := hinv.row B r hH'
  have hnew : ∀ (w : World), Rep (σ.adopt s.nx k) w (.ref s.nx 0 0) (.slice none 0 0) := fun w => by
    simp only [Rep]
    exact ⟨.inl rfl, none, 0, rfl, Nat.le_refl _, by simp [maxLen], fun h => absurd rfl h, fun _ _ => .inl (by simp [Sg.adopt])⟩
  have hinv2 := hinv.retell (es' := r.es.set i ((r.es.getD i []).set j (.ref s.nx 0 0))) hH' (by simp) (fun x hx => by
    rcases List.mem_or_eq_of_mem_set hx with hx | rfl
    · exact hR.each x hx
    · rw [hgd]
      obtain ⟨e1, e2⟩ := hR.each _ (List.getElem_mem hil)
      refine ⟨by simpa using e1, fun c hc => ?_⟩
      rcases List.mem_or_eq_of_mem_set hc with hc | rfl
      · exact e2 c hc
      · rfl) (fun b hb i' hi' => by
    have hi2 : i' < r.es.length := by simpa using hi'
    have hcon := hR.con b hb i' hi2
    rw [List.getElem_set]
    split
    · rename_i he; subst he
      rw [hgd]
      rw [repL_iff'] at hcon ⊢
      intro m c hm
      rw [List.getElem?_set] at hm
      split at hm
      · rename_i hjm; subst hjm
        split at hm
        · injection hm with hm; subst hm
          obtain ⟨u, hu, hru⟩ := hcon j _ hej
          simp only [Rep] at hru
          subst hru
          exact ⟨_, hu, hnew w⟩
        · cases hm
      · exact hcon m c hm
    · exact hcon)
  refine h S0 w0 a w hE ⟨σ.adopt s.nx k, hinv2, fun id hid => ?_, fun u => Rep.mono hle _ _ (hσ.tm u), hσ.N, hσ.d, hσ.below⟩
  have hid' : s.nx + 1 ≤ id := hid
  have h0 := hσ.nx id (by omega)
  show updH (updH s.H s.nx _) B _ id = none
  simp only [updH]
  rw [if_neg (fun e => by subst e; rw [hH] at h0; cases h0), if_neg (by omega)]; exact h0

theorem AW.freeze {c : Code} {t : Nat} {v : AV} (hv : viewA s.H (s.tm t) = some v) (k : AW C N c Q { tm := upd s.tm t v, H := frz' s.H (idsA (s.tm t)), nx := s.nx }) : AW C N c Q s := by
  rintro S0 w0 a w hE ⟨σ, hσ⟩
  have hrows := idsA_row _ _ hv
  have hinv := hσ.inv.frz hrows
  have hle := hσ.inv.le_frz (idsA (s.tm t))
  have hinv' : Inv w0.heap.size S0 w (frz' s.H (idsA (s.tm t))) (σ.frz (idsA (s.tm t))) := by
    unfold frz'
    split
    · rename_i he
      have h0 : idsA (s.tm t) = [] := by simpa using he
      have e1 : σ.frz (idsA (s.tm t)) = σ := by
        rw [h0]
        unfold Sg.frz
        congr 1
        funext b; simp
      rw [e1]; exact hσ.inv
    · exact hinv
  refine k S0 w0 a w hE ⟨σ.frz (idsA (s.tm t)), hinv', fun id hid => ?_, fun u => ?_, hσ.N, hσ.d, hσ.below⟩
  · have h0 := hσ.nx id hid
    show frz' s.H _ id = none
    unfold frz'
    split
    · exact h0
    · unfold frz; split
      · rw [h0]
      · exact h0
  · show Rep _ w (upd s.tm t v u) _
    unfold upd
    split
    · rename_i he
      subst he
      exact Rep.lift (viewA_sound hσ.inv (S' := (σ.frz (idsA (s.tm u))).S) (fun b h => .inl h) _ _ _ hv (fun id hid b hb => .inr ⟨id, hid, hb⟩) (hσ.tm u))
    · exact Rep.mono hle _ _ (hσ.tm u)

end
end Go.Pg

/-
  Least labels of a network: what is found by settling the best first, by improving till nothing improves, and by rounds. No conditions.
-/
set_option linter.unusedSimpArgs false
set_option linter.unusedVariables false
namespace Go.Proofs.Lab

/-- Gates lead from a node to a node; f: what one has behind a gate; μ: how bad a label is; inf: no label. -/
structure Net (γ : Type) where
  μ : Int → Int
  inf : Int
  src : γ → Nat
  dst : γ → Nat
  f : γ → Int → Int
  gs : List γ
  In : Int → Prop

variable {γ : Type}

structure Net.OK (N : Net γ) (n : Nat) : Prop where
  inj : ∀ x y, N.In x → N.In y → N.μ x = N.μ y → x = y
  inIn : N.In N.inf
  le : ∀ x, N.In x → N.μ x ≤ N.μ N.inf
  src : ∀ g ∈ N.gs, N.src g < n
  dst : ∀ g ∈ N.gs, N.dst g < n
  In : ∀ g ∈ N.gs, ∀ x, N.In x → N.μ x < N.μ N.inf → N.In (N.f g x)
  mono : ∀ g ∈ N.gs, ∀ x y, N.In x → N.In y → N.μ x ≤ N.μ y → N.μ y < N.μ N.inf → N.μ (N.f g x) ≤ N.μ (N.f g y)
  worse : ∀ g ∈ N.gs, ∀ x, N.In x → N.μ x < N.μ N.inf → N.μ x < N.μ (N.f g x)

def Net.lab (N : Net γ) (row : List Int) (r : Nat) : Int := row.getD r N.inf

structure Closed (N : Net γ) (M : Nat → Int) : Prop where
  In : ∀ r, N.In (M r)
  rel : ∀ g ∈ N.gs, N.μ (M (N.src g)) < N.μ N.inf → N.μ (M (N.dst g)) ≤ N.μ (N.f g (M (N.src g)))

def Low (N : Net γ) (a : Nat) (t : Int) (r : Nat) (s : Int) : Prop := ∀ M, Closed N M → N.μ (M a) ≤ N.μ t → N.μ (M r) ≤ N.μ s

structure IsArr (N : Net γ) (a : Nat) (t : Int) (R : Nat → Int) : Prop where
  closed : Closed N R
  start : N.μ (R a) ≤ N.μ t
  low : ∀ r, N.μ (R r) < N.μ N.inf → Low N a t r (R r)

section
variable {N : Net γ} {n : Nat} {a : Nat} {t : Int}

theorem IsArr.most (hN : N.OK n) {R M : Nat → Int} (h : IsArr N a t R) (hM : Closed N M) (hs : N.μ (M a) ≤ N.μ t) (r : Nat) : N.μ (M r) ≤ N.μ (R r) := by
  have h1 := hN.le _ (h.closed.In r)
  have h2 := hN.le _ (hM.In r)
  by_cases hr : N.μ (R r) < N.μ N.inf
  · exact h.low r hr M hM hs
  · omega

theorem IsArr.unique (hN : N.OK n) {R R' : Nat → Int} (h : IsArr N a t R) (h' : IsArr N a t R') (r : Nat) : R r = R' r :=
  hN.inj _ _ (h.closed.In r) (h'.closed.In r) (by
    have := h.most hN h'.closed h'.start r
    have := h'.most hN h.closed h.start r
    omega)

theorem low_self : Low N a t a t := fun _ _ hs => hs

theorem low_step (hN : N.OK n) {g : γ} (hg : g ∈ N.gs) {s : Int} (hs : N.In s) (hi : N.μ s < N.μ N.inf) (h : Low N a t (N.src g) s) : Low N a t (N.dst g) (N.f g s) := by
  intro M hM hst
  have h1 := h M hM hst
  have h2 := hM.rel g hg (by omega)
  have h3 := hN.mono g hg _ _ (hM.In _) hs h1 hi
  omega

theorem lab_set (row : List Int) (i : Nat) (x : Int) (r : Nat) : N.lab (row.set i x) r = if i = r ∧ r < row.length then x else N.lab row r := by
  unfold Net.lab
  rw [List.getD_eq_getElem?_getD, List.getD_eq_getElem?_getD, List.getElem?_set]
  by_cases h : i = r
  · subst h
    by_cases h2 : i < row.length
    · simp [h2]
    · simp [h2, List.getElem?_eq_none (Nat.le_of_not_lt h2)]
  · simp [h]

theorem lab_in {row : List Int} (hN : N.OK n) (h : ∀ x ∈ row, N.In x) (r : Nat) : N.In (N.lab row r) := by
  unfold Net.lab
  rw [List.getD_eq_getElem?_getD]
  cases hr : row[r]? with
  | none => exact hN.inIn
  | some x => exact h x (List.mem_of_getElem? hr)

theorem list_of_lab {l l' : List Int} (hl : l.length = l'.length) (h : ∀ r, N.lab l r = N.lab l' r) : l = l' := by
  apply List.ext_getElem hl
  intro i h1 h2
  have := h i
  unfold Net.lab at this
  rw [List.getD_eq_getElem?_getD, List.getD_eq_getElem?_getD, List.getElem?_eq_getElem h1, List.getElem?_eq_getElem h2] at this
  exact this

/-! ## The best first -/
def Net.best (N : Net γ) (x y : Int) : Int := if N.μ y < N.μ x then y else x
def Net.relax (N : Net γ) (c : Nat) (out : List Int) (g : γ) : List Int :=
  if N.src g = c then out.set (N.dst g) (N.best (N.lab out (N.dst g)) (N.f g (N.lab out c))) else out
def dn (done : List Bool) (r : Nat) : Bool := done.getD r false
def Net.selC (N : Net γ) (out : List Int) (done : List Bool) (i : Nat) (at' : Int) : Bool :=
  !dn done i && (decide (N.μ (N.lab out i) < N.μ N.inf) && (decide (at' < 0) || decide (N.μ (N.lab out i) < N.μ (N.lab out at'.toNat))))
def Net.selL (N : Net γ) (out : List Int) (done : List Bool) : Nat → Nat → Int → Int
  | 0, _, at' => at'
  | k + 1, i, at' => N.selL out done k (i + 1) (if N.selC out done i at' = true then (i : Int) else at')
def Net.sel (N : Net γ) (out : List Int) (done : List Bool) : Int := N.selL out done out.length 0 (-1)
def Net.dijF (N : Net γ) : Nat → List Int → List Bool → List Int
  | 0, out, _ => out
  | k + 1, out, done => if N.sel out done < 0 then out else N.dijF k (N.gs.foldl (N.relax (N.sel out done).toNat) out) (done.set (N.sel out done).toNat true)

def undone : List Bool → Nat
  | [] => 0
  | b :: l => (if b = true then 0 else 1) + undone l
theorem undone_set : ∀ (l : List Bool) (i : Nat), i < l.length → dn l i = false → undone (l.set i true) + 1 = undone l
  | b :: l, 0, _, h => by
    have : b = false := by simpa [dn] using h
    subst this; simp [undone]; omega
  | b :: l, i + 1, hl, h => by
    have := undone_set l i (by simpa using hl) (by simpa [dn] using h)
    simp only [List.set_cons_succ, undone]; omega
theorem undone_zero : ∀ (l : List Bool), undone l = 0 → ∀ i, i < l.length → dn l i = true
  | b :: l, h, 0, _ => by
    simp only [undone] at h
    cases b with
    | true => rfl
    | false => simp at h
  | b :: l, h, i + 1, hl => by
    have := undone_zero l (by simp only [undone] at h; omega) i (by simpa using hl)
    simpa [dn] using this
theorem undone_rep (n : Nat) : undone (List.replicate n false) = n := by
  induction n with
  | zero => rfl
  | succ n ih => rw [List.replicate_succ, undone, ih]; simp; omega

structure SelOK (N : Net γ) (out : List Int) (done : List Bool) (k : Nat) (c : Int) : Prop where
  none : c < 0 → ∀ i, i < k → dn done i = false → ¬ N.μ (N.lab out i) < N.μ N.inf
  some : 0 ≤ c → c < k ∧ dn done c.toNat = false ∧ N.μ (N.lab out c.toNat) < N.μ N.inf ∧ ∀ i, i < k → dn done i = false → N.μ (N.lab out c.toNat) ≤ N.μ (N.lab out i)

theorem selL_ok (hN : N.OK n) {out : List Int} {done : List Bool} : ∀ (k i : Nat) (c : Int), SelOK N out done i c → SelOK N out done (i + k) (N.selL out done k i c)
  | 0, i, c, h => h
  | k + 1, i, c, h => by
    have e : i + (k + 1) = i + 1 + k := by omega
    rw [e]
    unfold Net.selL
    apply selL_ok hN k (i + 1)
    by_cases hc : N.selC out done i c = true
    · rw [if_pos hc]
      simp only [Net.selC, Bool.and_eq_true, Bool.not_eq_true', Bool.or_eq_true, decide_eq_true_eq] at hc
      obtain ⟨h1, h2, h3⟩ := hc
      refine ⟨fun h0 => absurd h0 (by omega), fun _ => ⟨by omega, by simpa using h1, by simpa using h2, fun j hj hd => ?_⟩⟩
      rw [Int.toNat_natCast]
      by_cases hji : j = i
      · subst hji; omega
      · by_cases hc0 : c < 0
        · have := h.none hc0 j (by omega) hd
          omega
        · have := (h.some (by omega)).2.2.2 j (by omega) hd
          omega
    · rw [if_neg hc]
      simp only [Net.selC, Bool.and_eq_true, Bool.not_eq_true', Bool.or_eq_true, decide_eq_true_eq] at hc
      refine ⟨fun h0 j hj hd hl => ?_, fun h0 => ?_⟩
      · by_cases hji : j = i
        · subst hji; exact hc ⟨hd, hl, .inl h0⟩
        · exact h.none h0 j (by omega) hd hl
      · obtain ⟨a1, a2, a3, a4⟩ := h.some h0
        refine ⟨by omega, a2, a3, fun j hj hd => ?_⟩
        by_cases hji : j = i
        · subst hji
          by_cases hl : N.μ (N.lab out j) < N.μ N.inf
          · by_cases hlt : N.μ (N.lab out j) < N.μ (N.lab out c.toNat)
            · exact absurd ⟨hd, hl, .inr hlt⟩ hc
            · omega
          · omega
        · exact a4 j (by omega) hd

theorem sel_ok (hN : N.OK n) (out : List Int) (done : List Bool) : SelOK N out done out.length (N.sel out done) := by
  have := selL_ok (N := N) hN (out := out) (done := done) out.length 0 (-1) ⟨fun _ i hi => by omega, fun h => absurd h (by omega)⟩
  rw [Nat.zero_add] at this
  exact this

structure RowOK (N : Net γ) (n : Nat) (a : Nat) (t : Int) (out : List Int) : Prop where
  len : out.length = n
  In : ∀ x ∈ out, N.In x
  start : N.μ (N.lab out a) ≤ N.μ t
  low : ∀ r, N.μ (N.lab out r) < N.μ N.inf → Low N a t r (N.lab out r)

theorem RowOK.put (hN : N.OK n) {out : List Int} (h : RowOK N n a t out) {g : γ} (hg : g ∈ N.gs) (hs : N.μ (N.lab out (N.src g)) < N.μ N.inf) (hb : N.μ (N.f g (N.lab out (N.src g))) ≤ N.μ (N.lab out (N.dst g))) :
    RowOK N n a t (out.set (N.dst g) (N.f g (N.lab out (N.src g)))) := by
  refine ⟨by simp [h.len], fun x hx => ?_, ?_, fun r => ?_⟩
  · rcases List.mem_or_eq_of_mem_set hx with hx | rfl
    · exact h.In x hx
    · exact hN.In g hg _ (lab_in hN h.In _) hs
  · rw [lab_set]
    have := h.start
    split
    · rename_i he; obtain ⟨rfl, _⟩ := he; omega
    · exact this
  · rw [lab_set]
    split
    · rename_i he; obtain ⟨rfl, _⟩ := he
      intro _
      exact low_step hN hg (lab_in hN h.In _) hs (h.low _ hs)
    · exact h.low r

theorem relax_ok (hN : N.OK n) (c : Nat) (v : Int) (hv : N.μ v < N.μ N.inf) : ∀ (l : List γ) (out : List Int), (∀ g ∈ l, g ∈ N.gs) → RowOK N n a t out → N.lab out c = v →
    RowOK N n a t (l.foldl (N.relax c) out) ∧ N.lab (l.foldl (N.relax c) out) c = v ∧ (∀ r, N.μ (N.lab (l.foldl (N.relax c) out) r) ≤ N.μ (N.lab out r)) ∧
    (∀ g ∈ l, N.src g = c → N.μ (N.lab (l.foldl (N.relax c) out) (N.dst g)) ≤ N.μ (N.f g v)) ∧
    (∀ r, N.μ (N.lab (l.foldl (N.relax c) out) r) < N.μ (N.lab out r) → N.μ v < N.μ (N.lab (l.foldl (N.relax c) out) r))
  | [], out, _, h, hc => ⟨h, hc, fun _ => Int.le_refl _, (fun _ h => by cases h), fun r h => absurd h (Int.lt_irrefl _)⟩
  | g :: l, out, hl, h, hc => by
    have hg := hl g (by simp)
    have hlt := hN.dst g hg
    simp only [List.foldl_cons]
    by_cases hs : N.src g = c
    · subst hs
      have hIn := lab_in hN h.In (N.src g)
      have hw := hN.worse g hg _ hIn (by rw [hc]; exact hv)
      by_cases hb : N.μ (N.f g (N.lab out (N.src g))) < N.μ (N.lab out (N.dst g))
      · have hr : N.relax (N.src g) out g = out.set (N.dst g) (N.f g (N.lab out (N.src g))) := by
          unfold Net.relax Net.best; rw [if_pos rfl, if_pos hb]
        rw [hr]
        have h1 := h.put hN hg (by rw [hc]; exact hv) (by omega)
        have hne : ¬ (N.dst g = N.src g) := fun e => by rw [e] at hb; omega
        have hc1 : N.lab (out.set (N.dst g) (N.f g (N.lab out (N.src g)))) (N.src g) = v := by rw [lab_set, if_neg (fun e => hne e.1)]; exact hc
        have hle : ∀ r, N.μ (N.lab (out.set (N.dst g) (N.f g (N.lab out (N.src g)))) r) ≤ N.μ (N.lab out r) := fun r => by
          rw [lab_set]; split
          · rename_i e; obtain ⟨rfl, _⟩ := e; omega
          · exact Int.le_refl _
        obtain ⟨i1, i2, i3, i4, i5⟩ := relax_ok hN (N.src g) v hv l _ (fun x hx => hl x (by simp [hx])) h1 hc1
        refine ⟨i1, i2, fun r => Int.le_trans (i3 r) (hle r), fun x hx hxs => ?_, fun r hr => ?_⟩
        · rcases List.mem_cons.1 hx with rfl | hx
          · have := i3 (N.dst x)
            rw [lab_set, if_pos ⟨rfl, by rw [h.len]; exact hlt⟩] at this
            rw [← hc]; exact this
          · exact i4 x hx hxs
        · by_cases hlt2 : N.μ (N.lab (l.foldl (N.relax (N.src g)) (out.set (N.dst g) (N.f g (N.lab out (N.src g))))) r) < N.μ (N.lab (out.set (N.dst g) (N.f g (N.lab out (N.src g)))) r)
          · exact i5 r hlt2
          · have h3 := i3 r
            have he : N.μ (N.lab (l.foldl (N.relax (N.src g)) (out.set (N.dst g) (N.f g (N.lab out (N.src g))))) r) = N.μ (N.lab (out.set (N.dst g) (N.f g (N.lab out (N.src g)))) r) := by omega
            rw [he] at hr ⊢
            rw [lab_set] at hr ⊢
            split at hr
            · rename_i e
              rw [if_pos e, ← hc]; exact hw
            · exact absurd hr (Int.lt_irrefl _)
      · have hlen : N.dst g < out.length := by rw [h.len]; exact hlt
        have hr : N.relax (N.src g) out g = out := by
          unfold Net.relax Net.best; rw [if_pos rfl, if_neg hb]
          unfold Net.lab
          rw [List.getD_eq_getElem?_getD, List.getElem?_eq_getElem hlen]
          simp
        rw [hr]
        obtain ⟨i1, i2, i3, i4, i5⟩ := relax_ok hN (N.src g) v hv l out (fun x hx => hl x (by simp [hx])) h hc
        refine ⟨i1, i2, i3, fun x hx hxs => ?_, i5⟩
        rcases List.mem_cons.1 hx with rfl | hx
        · have := i3 (N.dst x); rw [hc] at hb; omega
        · exact i4 x hx hxs
    · have hr : N.relax c out g = out := by unfold Net.relax; rw [if_neg hs]
      rw [hr]
      obtain ⟨i1, i2, i3, i4, i5⟩ := relax_ok hN c v hv l out (fun x hx => hl x (by simp [hx])) h hc
      refine ⟨i1, i2, i3, fun x hx hxs => ?_, i5⟩
      rcases List.mem_cons.1 hx with rfl | hx
      · exact absurd hxs hs
      · exact i4 x hx hxs

structure DijOK (N : Net γ) (n : Nat) (a : Nat) (t : Int) (out : List Int) (done : List Bool) : Prop where
  row : RowOK N n a t out
  len : done.length = n
  fin : ∀ g ∈ N.gs, dn done (N.src g) = true → N.μ (N.lab out (N.src g)) < N.μ N.inf → N.μ (N.lab out (N.dst g)) ≤ N.μ (N.f g (N.lab out (N.src g)))
  ord : ∀ r s, dn done r = true → s < n → dn done s = false → N.μ (N.lab out r) ≤ N.μ (N.lab out s)

theorem dn_set (done : List Bool) (i r : Nat) (hi : i < done.length) : dn (done.set i true) r = if i = r then true else dn done r := by
  unfold dn
  rw [List.getD_eq_getElem?_getD, List.getD_eq_getElem?_getD, List.getElem?_set]
  by_cases h : i = r
  · subst h; simp [hi]
  · simp [h]

theorem dijF_is (hN : N.OK n) : ∀ (k : Nat) (out : List Int) (done : List Bool), DijOK N n a t out done → undone done = k → (N.dijF k out done).length = n ∧ IsArr N a t (N.lab (N.dijF k out done))
  | 0, out, done, h, hu => by
    refine ⟨h.row.len, ⟨⟨lab_in hN h.row.In, fun g hg hl => ?_⟩, h.row.start, h.row.low⟩⟩
    exact h.fin g hg (undone_zero done hu _ (by rw [h.len]; exact hN.src g hg)) hl
  | k + 1, out, done, h, hu => by
    have hsel := sel_ok (N := N) hN out done
    rw [h.row.len] at hsel
    unfold Net.dijF
    by_cases hc : N.sel out done < 0
    · rw [if_pos hc]
      refine ⟨h.row.len, ⟨⟨lab_in hN h.row.In, fun g hg hl => ?_⟩, h.row.start, h.row.low⟩⟩
      cases hd : dn done (N.src g) with
      | true => exact h.fin g hg hd hl
      | false => exact absurd hl (hsel.none hc _ (hN.src g hg) hd)
    · rw [if_neg hc]
      obtain ⟨s1, s2, s3, s4⟩ := hsel.some (by omega)
      generalize hcn : (N.sel out done).toNat = c at *
      have hcl : c < n := by omega
      obtain ⟨i1, i2, i3, i4, i5⟩ := relax_ok (a := a) (t := t) hN c (N.lab out c) s3 N.gs out (fun _ h => h) h.row rfl
      have hcd : c < done.length := by rw [h.len]; exact hcl
      -- a label that is settled stays
      have stay : ∀ r, dn done r = true → N.lab (N.gs.foldl (N.relax c) out) r = N.lab out r := fun r hr => by
        refine hN.inj _ _ (lab_in hN i1.In r) (lab_in hN h.row.In r) ?_
        have h1 := i3 r
        have h2 := h.ord r c hr hcl s2
        by_cases hlt : N.μ (N.lab (N.gs.foldl (N.relax c) out) r) < N.μ (N.lab out r)
        · have := i5 r hlt; omega
        · omega
      refine dijF_is hN k _ _ ⟨i1, by simp [h.len], fun g hg hd hl => ?_, fun r s hr hs hd => ?_⟩ ?_
      · rw [dn_set _ _ _ hcd] at hd
        by_cases he : c = N.src g
        · have := i4 g hg he.symm
          rw [← he, i2]; exact this
        · rw [if_neg he] at hd
          rw [stay _ hd] at hl ⊢
          have := h.fin g hg hd hl
          have := i3 (N.dst g)
          omega
      · rw [dn_set _ _ _ hcd] at hr hd
        have hsv : N.μ (N.lab out c) ≤ N.μ (N.lab (N.gs.foldl (N.relax c) out) s) := by
          have hne : c ≠ s := fun e => by rw [if_pos e] at hd; cases hd
          rw [if_neg hne] at hd
          have h1 := i3 s
          have h2 := s4 s hs hd
          by_cases hlt : N.μ (N.lab (N.gs.foldl (N.relax c) out) s) < N.μ (N.lab out s)
          · have := i5 s hlt; omega
          · omega
        by_cases he : c = r
        · subst he; rw [i2]; exact hsv
        · rw [if_neg he] at hr
          rw [stay r hr]
          have := h.ord r c hr hcl s2
          omega
      · have := undone_set done c hcd s2
        omega

/-- The row that one begins with. -/
theorem rowOK_init (hN : N.OK n) (ha : a < n) (ht : N.In t) : RowOK N n a t ((List.replicate n N.inf).set a t) := by
  have hlab : ∀ r, N.lab ((List.replicate n N.inf).set a t) r = if a = r ∧ r < n then t else N.inf := fun r => by
    rw [lab_set]
    simp only [List.length_replicate]
    split
    · rfl
    · unfold Net.lab
      rw [List.getD_eq_getElem?_getD, List.getElem?_replicate]
      split <;> rfl
  refine ⟨by simp, fun x hx => ?_, ?_, fun r hr => ?_⟩
  · rcases List.mem_or_eq_of_mem_set hx with hx | rfl
    · rw [List.mem_replicate] at hx; rw [hx.2]; exact hN.inIn
    · exact ht
  · rw [hlab, if_pos ⟨rfl, ha⟩]; exact Int.le_refl _
  · rw [hlab] at hr ⊢
    split
    · rename_i e; obtain ⟨rfl, _⟩ := e; exact low_self
    · rename_i e; rw [if_neg e] at hr; exact absurd hr (Int.lt_irrefl _)

theorem dij_is (hN : N.OK n) (ha : a < n) (ht : N.In t) :
    (N.dijF n ((List.replicate n N.inf).set a t) (List.replicate n false)).length = n ∧ IsArr N a t (N.lab (N.dijF n ((List.replicate n N.inf).set a t) (List.replicate n false))) := by
  have hd : ∀ r, dn (List.replicate n false) r = false := fun r => by
    unfold dn
    rw [List.getD_eq_getElem?_getD, List.getElem?_replicate]
    split <;> rfl
  exact dijF_is hN n _ _ ⟨rowOK_init hN ha ht, by simp, (fun g _ h => by rw [hd] at h; cases h), (fun r s h => by rw [hd] at h; cases h)⟩ (undone_rep n)

/-- What improves no more is the whole. -/
theorem RowOK.is (hN : N.OK n) {row : List Int} (h : RowOK N n a t row) (hno : ∀ g ∈ N.gs, N.μ (N.lab row (N.src g)) < N.μ N.inf → ¬ N.μ (N.f g (N.lab row (N.src g))) < N.μ (N.lab row (N.dst g))) : IsArr N a t (N.lab row) :=
  ⟨⟨lab_in hN h.In, fun g hg hl => by have := hno g hg hl; omega⟩, h.start, h.low⟩

theorem RowOK.mu_le (hN : N.OK n) {row : List Int} (h : RowOK N n a t row) (r : Nat) : N.μ (N.lab row r) ≤ N.μ N.inf := hN.le _ (lab_in hN h.In r)

/-- What one begins with is at the start; a row that has been improved is no worse there. -/
theorem dij_eq (hN : N.OK n) (ha : a < n) (ht : N.In t) {row : List Int} (hl : row.length = n) (h : IsArr N a t (N.lab row)) :
    row = N.dijF n ((List.replicate n N.inf).set a t) (List.replicate n false) := by
  obtain ⟨h1, h2⟩ := dij_is hN ha ht
  exact list_of_lab (by rw [hl, h1]) (fun r => h.unique hN h2 r)
end

/-! ## A sum that falls -/
def sumN : List Int → Nat
  | [] => 0
  | x :: l => x.toNat + sumN l
theorem sumN_set : ∀ (l : List Int) (i : Nat) (x y : Int), l[i]? = some y → 0 ≤ x → x < y → sumN (l.set i x) < sumN l
  | a :: l, 0, x, y, h, h0, hl => by
    simp only [List.getElem?_cons_zero, Option.some.injEq] at h
    subst h
    simp only [List.set_cons_zero, sumN]; omega
  | a :: l, i + 1, x, y, h, h0, hl => by
    have := sumN_set l i x y (by simpa using h) h0 hl
    simp only [List.set_cons_succ, sumN]; omega
end Go.Proofs.Lab
