/-
  Contracts of functions, proved by going through their code. No conditions.
-/
import Derived.Test.YtbeiiipphicdlaaGreatDoorProg
import Derived.KernelRfl
import Derived.OrdersIn
import Derived.Test.YtbeiiipphicdlaaGreatDoorTaf
set_option linter.unusedVariables false
set_option linter.unusedSimpArgs false
namespace Go.Pg
open Go Go.RowKit
section
variable {C : Cx} {N : Nat} {Q : Exit → St → Prop} {s : St} {ops : Array Oper} {rest : List Oper} {o : Oper}
def appRow (r : Row) (n : Nat) (news : List (List AV)) : Row := { r with es := r.es ++ news, lo := if news.isEmpty then r.lo else r.es.length + n }
theorem frz'_row {H : Nat → Option AO} {ids : List Nat} {id : Nat} (h : id ∉ ids) : frz' H ids id = H id := by
  unfold frz'
  split
  · rfl
  · unfold frz; rw [if_neg h]
theorem AWL.append (hC : C.OK) (hg : o.guard = none) {d : Nat} (hd : o.dst = some d) (hN : d < N) {x1 x2 : Operand} {t : TypeId} (ho : o.op = .call { callee := .builtin .append, args := #[x1, x2], argTypes := #[t, t] })
    {e : TypeId} {ty y : Ty} (ht : C.T t = some ty) (hte : ty.d = .slice e) (hy : C.T e = some y) (hk0 : 0 < y.size) {key id nx : Nat} {r : Row} (hkey : key = s.nx ∨ s.H key = none) (hdst : dstA s key (s.ev x1) y e = some (id, r, nx))
    {es news : List (List AV)} (hsrc : srcA s.H (s.ev x2) = some es) (hlen : ∀ e ∈ es, e.length = y.size) (hv : viewLL s.H es = some news) (hid : id ∉ idsLL es)
    (hb : (r.es.length + es.length) * y.bytes ≤ 140737488355328) (hm : r.es.length + es.length ≤ 140737488355328)
    (k : AWL C N ops Q rest { tm := upd s.tm d (.ref id 0 (r.es.length + es.length)), H := updH (frz' s.H (idsLL es)) id (.row (appRow r es.length news)), nx := nx }) : AWL C N ops Q (o :: rest) s := by
  rintro S0 w0 a w hE ⟨σ, hσ⟩
  have hd1 := hσ.ev x1
  -- the destination's row is there
  have hstep1 : ∃ σ1 H1, Le σ σ1 w w ∧ Inv w0.heap.size S0 w H1 σ1 ∧ (∀ i, i ≠ id → H1 i = s.H i) ∧ (H1 id = some (.row r)) ∧ Rep σ1 w (.ref id 0 r.es.length) (a.eval x1) ∧ r.fro = false ∧ r.k = y.size ∧ r.ty = e ∧ (∀ i, nx ≤ i → H1 i = none) := by
    unfold dstA at hdst
    split at hdst
    · rename_i hx
      injection hdst with hdst
      simp only [Prod.mk.injEq] at hdst
      obtain ⟨rfl, rfl, rfl⟩ := hdst
      rw [hx] at hd1
      simp only [Rep] at hd1
      have hf : s.H key = none := by
        rcases hkey with h | h
        · rw [h]; exact hσ.nx s.nx (Nat.le_refl _)
        · exact h
      have had := hσ.inv.adopt hf { k := y.size, es := [], ty := e } rfl rfl rfl
      refine ⟨_, _, had.1, had.2, fun i hi => by simp only [updH]; rw [if_neg hi], by simp [updH], ?_, rfl, rfl, rfl, fun i hi => ?_⟩
      · rw [hd1]
        simp only [Rep]
        exact ⟨.inl rfl, none, 0, rfl, Nat.le_refl _, by simp [maxLen], fun h => absurd rfl h, fun _ _ => .inl ⟨by simp [Sg.adopt], rfl, rfl, rfl⟩⟩
      · simp only [updH]; rw [if_neg (by omega)]; exact hσ.nx i (by omega)
    · rename_i id' n hx
      split at hdst
      · rename_i r' hrow
        split at hdst
        · rename_i hc
          obtain ⟨c1, c2, c3, c4⟩ := hc
          injection hdst with hdst
          simp only [Prod.mk.injEq] at hdst
          obtain ⟨rfl, rfl, rfl⟩ := hdst
          rw [hx, c1] at hd1
          exact ⟨σ, s.H, hσ.inv.le_heap (fun _ _ => rfl), hσ.inv, fun _ _ => rfl, rowAt_eq hrow, hd1, c2, c3, c4, hσ.nx⟩
        · cases hdst
      · cases hdst
    · cases hdst
  obtain ⟨σ1, H1, l1, i1, ho1, hH1, hr1, hf1, hk1, hty1, hnx1⟩ := hstep1
  obtain ⟨A, c, k', hx2, hea, hss⟩ := srcA_sound hσ.inv (hσ.ev x2) hsrc
  -- what the elements name is frozen
  have hrows : ∀ i ∈ idsLL es, ∃ r, rowAt H1 i = some r := fun i hi => by
    obtain ⟨r', hr'⟩ := idsLL_row _ _ hv i hi
    have hne : i ≠ id := fun e => hid (e ▸ hi)
    refine ⟨r', ?_⟩
    unfold rowAt at hr' ⊢
    rw [ho1 i hne]; exact hr'
  obtain ⟨hvl, hvg⟩ := viewLL_get _ _ hv
  let σ2 := σ1.frz (idsLL es)
  have i2' := i1.frz hrows
  have l2' := i1.le_frz (idsLL es)
  have i2 : Inv w0.heap.size S0 w (frz' H1 (idsLL es)) σ2 := by
    unfold frz'
    split
    · rename_i he
      have : idsLL es = [] := by simpa using he
      have e1 : σ2 = σ1 := by
        show σ1.frz (idsLL es) = σ1
        rw [this]
        unfold Sg.frz
        congr 1
        funext b; simp
      rw [e1]; exact i1
    · exact i2'
  have l12 : Le σ σ2 w w := ⟨fun b h => .inl (l1.S b h), fun _ _ => rfl, fun b i h => ⟨(l1.own b i h).1, (l1.own b i h).2⟩, l1.al, l1.obj⟩
  have hH2 : frz' H1 (idsLL es) id = some (.row r) := by rw [frz'_row hid]; exact hH1
  have hr2 : Rep σ2 w (.ref id 0 r.es.length) (a.eval x1) := Rep.mono l2' _ _ hr1
  have heach : ∀ e ∈ news, e.length = y.size ∧ ∀ c ∈ e, c.cell = true := by
    intro e' he'
    obtain ⟨i, hi, rfl⟩ := List.getElem_of_mem he'
    have hi' : i < es.length := by omega
    have hve := hvg i hi' hi
    have hmem := List.getElem_mem hi'
    by_cases hne : es = []
    · subst hne; simp at hi'
    · obtain ⟨b, o', _, hR⟩ := hss hne
      obtain ⟨g1, g2, _⟩ := viewL_sound hσ.inv (S' := fun _ => True) (fun _ _ => trivial) _ _ _ hve (fun _ _ _ _ => trivial) (hR i hi')
      exact ⟨by rw [← g1]; exact hlen _ hmem, g2 (hea _ hmem).2⟩
  have hsrc2 : news ≠ [] → ∃ b o, A = some ⟨b, o, none⟩ ∧ ∀ i (h : i < news.length), RepL σ2 w news[i] (fun j => w.cell? ⟨b, o + i * y.size + j, none⟩) := by
    intro hne
    have hne' : es ≠ [] := fun e => by subst e; simp at hvl; exact hne (List.eq_nil_of_length_eq_zero hvl.symm)
    obtain ⟨b, o', rfl, hR⟩ := hss hne'
    have hk' : k' = y.size := by
      obtain ⟨x, xs, rfl⟩ := List.exists_cons_of_ne_nil hne'
      rw [← (hea x (by simp)).1, hlen x (by simp)]
    refine ⟨b, o', rfl, fun i hi => ?_⟩
    have hi' : i < es.length := by omega
    have hve := hvg i hi' hi
    obtain ⟨_, _, g3⟩ := viewL_sound hσ.inv (S' := fun b => σ.S b ∨ ∃ id, id ∈ idsLL es ∧ σ.own b = some id) (fun b h => .inl h) _ _ _ hve (fun id hid b hb => .inr ⟨id, idsLL_mem (List.getElem_mem hi') hid, hb⟩) (hR i hi')
    rw [hk'] at g3
    refine RepL.mono (Le.of_pure σ2 w) _ _ _ (fun _ _ h => h) (RepL.mono (Le.pure_ (fun b h => ?_) (fun _ _ => rfl)) _ _ _ (fun _ _ h => h) g3)
    rcases h with h | ⟨id', h1, h2⟩
    · exact .inl (l1.S b h)
    · exact .inr ⟨id', h1, (l1.own b id' h2).2.1⟩
  have hln : es.length = news.length := hvl
  obtain ⟨v, w', σ', hrun, hb', hle', hinv', hrep'⟩ := append_core (T := C.T) (ty := o.type) (A := A) (c := c) (es := news) hC.T i2 hσ.size hH2 hf1 ((hC.T t _ ht).slice hte) hy hk0 hk1 hty1 hr2 heach hsrc2 (by rw [← hln]; exact hb) (by rw [← hln]; simp only [maxLen]; omega)
  refine wpListIn_plain hg fun K hK => Oper.wpIn_of_wp C.hF (fun c e => by rw [ho] at e; cases e) ?_
  have hexec : (execOp a.eval o).run C.P w = .ok (.value v) w' := by
    rw [← hln] at hrun
    simp only [execOp, ho, resolve, invoke, builtin, Sem.run_bind, Sem.run_pure, Result.andThen_ok, List.map_toArray, List.map_cons, List.map_nil, hx2, hrun]
  simp only [Oper.wp, hexec, Oper.upon]
  rw [hd]
  refine hK _ _ (k S0 w0 _ w' hE ⟨σ', ?_⟩)
  have hlt : Le σ σ' w w' := ⟨fun b h => hle'.S b (l12.S b h), fun b h => hle'.heap b (l12.S b h), fun b i h => ?_, fun i h => hle'.al i (l12.al i h), fun i h => ?_⟩
  · refine hσ.put hN (s' := { tm := upd s.tm d (.ref id 0 (r.es.length + es.length)), H := updH (frz' s.H (idsLL es)) id (.row (appRow r es.length news)), nx := nx }) ?_ (fun i hi => ?_) hlt hb' (by rw [hln]; exact hrep') rfl
    · have : updH (frz' s.H (idsLL es)) id (.row (appRow r es.length news)) = updH (frz' H1 (idsLL es)) id (.row { r with es := r.es ++ news, lo := if news.isEmpty then r.lo else r.es.length + news.length }) := by
        funext i
        simp only [updH, appRow, hln]
        split
        · rfl
        · rename_i hne
          unfold frz'
          split
          · exact (ho1 i hne).symm
          · unfold frz; rw [ho1 i hne]
      show Inv w0.heap.size S0 w' (updH (frz' s.H (idsLL es)) id (.row (appRow r es.length news))) σ'
      rw [this]; exact hinv'
    · show updH (frz' s.H (idsLL es)) id (.row (appRow r es.length news)) i = none
      have hii : H1 i = none := hnx1 i hi
      have hne : i ≠ id := fun e => by subst e; rw [hH1] at hii; cases hii
      simp only [updH]; rw [if_neg hne]
      have hsn : s.H i = none := by rw [← ho1 i hne]; exact hii
      unfold frz'
      split
      · exact hsn
      · unfold frz; split
        · rw [hsn]
        · exact hsn
  · obtain ⟨h1, h2, h3, h4⟩ := l12.own b i h
    obtain ⟨_, g2, g3, g4⟩ := hle'.own b i h2
    exact ⟨h1, g2, g3.trans h3, Nat.le_trans h4 g4⟩
  · rcases l12.obj i h with ⟨a1, a2, a3⟩ | ⟨a1, a2⟩ <;> rcases hle'.obj i (l12.al i h) with ⟨b1, b2, b3⟩ | ⟨b1, b2⟩
    · exact .inl ⟨b1.trans a1, b2.trans a2, fun b hb => (b3 b (by rw [a2]; exact hb)).trans (a3 b hb)⟩
    · refine .inr ⟨by omega, fun b hb => ?_⟩
      have := b2 b (l12.own b i hb).2.1
      have := (l12.own b i hb).2.2.2
      omega
    · exact .inr ⟨by omega, a2⟩
    · exact .inr ⟨by omega, a2⟩
end
section
variable {C : Cx} {Q : AV → Prop}
theorem results_tmps {fn : Func} {ts : List Nat} (h : fn.results = (ts.map ResultVar.tmp).toArray) (hl : ts.length ≠ 1) (tmps : Array Value) (P : Program) (w : World) :
    (results fn tmps).run P w = .ok (.tuple ((ts.map fun t => tmps.getD t undef).toArray)) w := by
  have key : ∀ ts : List Nat, ((ts.map ResultVar.tmp).mapM fun (x : ResultVar) => (match x with | .tmp t => pure (tmps.getD t undef) | .cell a t => do loadVar t (← asAddr (tmps.getD a undef)) : Sem Value)).run P w = .ok (ts.map fun t => tmps.getD t undef) w := by
    intro ts
    induction ts with
    | nil => simp
    | cons t ts ih => simp only [List.map_cons, List.mapM_cons, Sem.run_bind, Sem.run_pure, Result.andThen_ok, ih]
  simp only [results, h, Array.mapM_eq_mapM_toList, Sem.run_bind, Sem.run_map, Sem.run_pure]
  refine (congrArg (fun r => (Result.andThen (Result.andThen r fun a w' => Result.ok a.toArray w') fun a w' => Result.ok (if h : a.size = 1 then a[0] else Value.tuple a) w')) (key ts)).trans ?_
  simp [hl]
def endQ (rs : List Nat) (Q : AV → Prop) : Exit → St → Prop
  | .normal, s => ∃ r', viewA s.H (match rs with | [t] => s.tm t | ts => .tup (ts.map s.tm)) = some r' ∧ Q r'
  | .ret, s => ∃ r', viewA s.H (match rs with | [t] => s.tm t | ts => .tup (ts.map s.tm)) = some r' ∧ Q r'
  | _, _ => False
def startSt (args : List AV) : St := { tm := fun t => args.getD t .junk, H := fun _ => none, nx := 0 }
theorem start_sim {w : World} {S : Nat → Prop} {vals : Array Value} {args : List AV} {N : Nat} (hS : ∀ b, S b → b < w.heap.size) (hsz : vals.size = args.length) (hr : RepL (pureSg S) w args (fun i => vals[i]?)) (hN : args.length ≤ N) :
    Sim (Fr.of S) w N { tmps := vals ++ Array.replicate (N - vals.size) undef, defers := [] } w (startSt args) := by
  refine ⟨pureSg S, ⟨⟨fun id => by simp [pureSg, startSt], fun id _ => ⟨rfl, fun b h => by simp [pureSg] at h⟩, fun b h => ⟨hS b h, .inl h⟩, fun b id h => by simp [pureSg] at h, fun id r h => by simp [startSt] at h, fun id kt et es h => by simp [startSt] at h, trivial⟩, fun _ _ => rfl, fun t => ?_, by simp; omega, rfl, Below.refl _ _⟩⟩
  show Rep (pureSg S) w (args.getD t .junk) ((vals ++ Array.replicate (N - vals.size) undef).getD t undef)
  by_cases ht : t < args.length
  · rw [repL_iff] at hr
    obtain ⟨u, hu, hru⟩ := hr t ht
    have : (vals ++ Array.replicate (N - vals.size) undef).getD t undef = u := by
      rw [Array.getD_eq_getD_getElem?, Array.getElem?_append_left (by omega), hu]; rfl
    rw [this, List.getD_eq_getElem?_getD, List.getElem?_eq_getElem ht]; exact hru
  · have : args.getD t .junk = .junk := by rw [List.getD_eq_getElem?_getD, List.getElem?_eq_none (by omega)]; rfl
    rw [this]; trivial
theorem OKat.of_body [hW : C.Wide] {f : FuncId} {fn : Func} {c : Code} {args : List AV} {rs : List Nat} (hf : C.P.funcs[f]? = some fn) (hb : fn.body = some c) (hn : (fn.name == "runtime.NumGoroutine") = false) (hr : fn.results = (rs.map ResultVar.tmp).toArray)
    (hN : args.length ≤ fn.ntmps) (h : AW C fn.ntmps c (endQ rs Q) (startSt args)) : OKat C f args Q := by
  refine ⟨⟨fn, hf, hn, by rw [hb]; rfl⟩, fun w S vals hE hS hsz hrep => ?_⟩
  refine calls_of_wp hf hb ?_
  have hs := start_sim (N := fn.ntmps) hS hsz hrep hN
  have h2 := h (Fr.of S) w _ w hE hs
  rw [hW.h] at h2
  refine wp_mono (wpIn_wide.1 h2) ?_
  have fin : ∀ a' w' s', Sim (Fr.of S) w fn.ntmps a' w' s' → (∃ r', viewA s'.H (match rs with | [t] => s'.tm t | ts => .tup (ts.map s'.tm)) = some r' ∧ Q r') →
      a'.defers = [] ∧ ∃ v, (results fn a'.tmps).run C.P w' = .ok v w' ∧ (Below w.heap.size w w' ∧ ∃ v2 r, Ending.returned v = .returned v2 ∧ Q r ∧ Rep (pureSg fun b => S b ∨ (w.heap.size ≤ b ∧ b < w'.heap.size)) w' r v2) := by
    rintro a' w' s' ⟨σ, hσ⟩ ⟨r', hv, hq⟩
    have hview : ∀ (c : AV) (u : Value), viewA s'.H c = some r' → Rep σ w' c u → Rep (pureSg fun b => S b ∨ (w.heap.size ≤ b ∧ b < w'.heap.size)) w' r' u := by
      intro c u hc hu
      refine viewA_sound hσ.inv (fun b hb => ?_) c u r' hc (fun id _ b hb => .inr (hσ.inv.own_lt b id hb)) hu
      have := hσ.inv.S_lt b hb
      rcases this.2 with h | h
      · exact .inl h
      · exact .inr ⟨h, this.1⟩
    refine ⟨hσ.d, ?_⟩
    by_cases hl : ∃ t, rs = [t]
    · obtain ⟨t, rfl⟩ := hl
      exact ⟨_, results_tmp (by simpa using hr) _ _ _, hσ.below, _, r', rfl, hq, hview _ _ hv (hσ.tm t)⟩
    · have hne : rs.length ≠ 1 := fun h => by
        match rs, h with
        | [t], _ => exact hl ⟨t, rfl⟩
      refine ⟨_, results_tmps hr hne _ _ _, hσ.below, _, r', rfl, hq, ?_⟩
      have hm : (match rs with | [t] => s'.tm t | ts => AV.tup (ts.map s'.tm)) = .tup (rs.map s'.tm) := by
        match rs, hl with
        | [], _ => rfl
        | [t], h => exact absurd ⟨t, rfl⟩ h
        | _ :: _ :: _, _ => rfl
      rw [hm] at hv
      refine hview _ _ hv ?_
      simp only [Rep]
      refine ⟨_, rfl, by simp, ?_⟩
      rw [repL_iff']
      intro i c hc
      simp only [List.getElem?_map, Option.map_eq_some_iff] at hc
      obtain ⟨t, ht, rfl⟩ := hc
      exact ⟨a'.tmps.getD t undef, by simp [ht], hσ.tm t⟩
  rintro e a' w' ⟨s', hs', hq⟩
  cases e with
  | normal => exact fin a' w' s' hs' hq
  | ret => exact fin a' w' s' hs' hq
  | exit id => exact hq.elim
  | goto l => exact hq.elim
  | panic c => exact hq.elim
  | outgrown => exact hq.elim
end
end Go.Pg

namespace Go.Proofs.Hz
open Go Go.Pg Go.Proofs
def T : TypeId → Option Ty
  | 2 => some { size := 1, bytes := 8, zero := [.v (.int .i64 0)], d := .int .i64 }
  | 3 => some { size := 1, bytes := 8, zero := [.v (.int .i64 0)], d := .int .i64 }
  | 4 => some { size := 1, bytes := 1, zero := [.v (.bool false)], d := .bool }
  | 5 => some { size := 1, bytes := 1, zero := [.v (.int .u8 0)], d := .int .u8 }
  | 9 => some { size := 1, bytes := 16, zero := [.v (.string ByteArray.empty)], d := .str }
  | 22 => some { size := 1, bytes := 24, zero := [.v (.slice none 0 0)], d := .slice 62 }
  | 23 => some { size := 1, bytes := 24, zero := [.v (.slice none 0 0)], d := .slice 38 }
  | 24 => some { size := 1, bytes := 24, zero := [.v (.slice none 0 0)], d := .slice 72 }
  | 26 => some { size := 3, bytes := 72, zero := [.v (.slice none 0 0), .v (.slice none 0 0), .v (.slice none 0 0)], d := .st [(0, 22), (1, 23), (2, 24)] }
  | 29 => some { size := 1, bytes := 8, zero := [.v (.int .i64 0)], d := .int .i64 }
  | 36 => some { size := 1, bytes := 24, zero := [.v (.slice none 0 0)], d := .slice 51 }
  | 38 => some { size := 2, bytes := 48, zero := [.v (.slice none 0 0), .v (.slice none 0 0)], d := .st [(0, 36), (1, 36)] }
  | 40 => some { size := 1, bytes := 24, zero := [.v (.slice none 0 0)], d := .slice 3 }
  | 46 => some { size := 3, bytes := 24, zero := [.v (.int .i64 0), .v (.bool false), .v (.int .i64 0)], d := .st [(0, 3), (1, 4), (2, 3)] }
  | 47 => some { size := 1, bytes := 24, zero := [.v (.slice none 0 0)], d := .slice 46 }
  | 51 => some { size := 2, bytes := 16, zero := [.v (.int .i64 0), .v (.int .i64 0)], d := .st [(0, 3), (1, 3)] }
  | 57 => some { size := 1, bytes := 8, zero := [.v (.pointer none)], d := .other }
  | 58 => some { size := 1, bytes := 24, zero := [.v (.slice none 0 0)], d := .slice 5 }
  | 60 => some { size := 2, bytes := 32, zero := [.v (.pointer none), .v (.slice none 0 0)], d := .st [(0, 57), (1, 58)] }
  | 62 => some { size := 2, bytes := 24, zero := [.v (.string ByteArray.empty), .v (.int .i64 0)], d := .st [(0, 9), (1, 3)] }
  | 69 => some { size := 1, bytes := 24, zero := [.v (.slice none 0 0)], d := .slice 9 }
  | 72 => some { size := 5, bytes := 40, zero := [.v (.int .i64 0), .v (.int .i64 0), .v (.int .i64 0), .v (.int .i64 0), .v (.int .i64 0)], d := .st [(0, 3), (1, 3), (2, 3), (3, 3), (4, 3)] }
  | 82 => some { size := 1, bytes := 8, zero := [.v (.pointer none)], d := .other }
  | 89 => some { size := 1, bytes := 24, zero := [.v (.slice none 0 0)], d := .slice 94 }
  | 94 => some { size := 6, bytes := 48, zero := [.v (.int .i64 0), .v (.bool false), .v (.int .i64 0), .v (.int .i64 0), .v (.int .i64 0), .v (.int .i64 0)], d := .st [(0, 3), (1, 4), (2, 3), (3, 3), (4, 3), (5, 3)] }
  | 101 => some { size := 1, bytes := 8, zero := [.v (.map none)], d := .map 9 4 }
  | 135 => some { size := 2, bytes := 16, zero := [.v (.int .i64 0), .v (.int .i64 0)], d := .arr 2 3 }
  | 137 => some { size := 1, bytes := 8, zero := [.v (.int .u64 0)], d := .int .u64 }
  | _ => none
theorem T2 : TyFact Tryz.prog 2 { size := 1, bytes := 8, zero := [.v (.int .i64 0)], d := .int .i64 } := ⟨by kernel_rfl, by kernel_rfl, by kernel_rfl, by kernel_rfl, by kernel_rfl⟩
theorem T3 : TyFact Tryz.prog 3 { size := 1, bytes := 8, zero := [.v (.int .i64 0)], d := .int .i64 } := ⟨by kernel_rfl, by kernel_rfl, by kernel_rfl, by kernel_rfl, by kernel_rfl⟩
theorem T4 : TyFact Tryz.prog 4 { size := 1, bytes := 1, zero := [.v (.bool false)], d := .bool } := ⟨by kernel_rfl, by kernel_rfl, by kernel_rfl, by kernel_rfl, by kernel_rfl⟩
theorem T5 : TyFact Tryz.prog 5 { size := 1, bytes := 1, zero := [.v (.int .u8 0)], d := .int .u8 } := ⟨by kernel_rfl, by kernel_rfl, by kernel_rfl, by kernel_rfl, by kernel_rfl⟩
theorem T9 : TyFact Tryz.prog 9 { size := 1, bytes := 16, zero := [.v (.string ByteArray.empty)], d := .str } := ⟨by kernel_rfl, by kernel_rfl, by kernel_rfl, by kernel_rfl, by kernel_rfl⟩
theorem T22 : TyFact Tryz.prog 22 { size := 1, bytes := 24, zero := [.v (.slice none 0 0)], d := .slice 62 } := ⟨by kernel_rfl, by kernel_rfl, by kernel_rfl, by kernel_rfl, by kernel_rfl⟩
theorem T23 : TyFact Tryz.prog 23 { size := 1, bytes := 24, zero := [.v (.slice none 0 0)], d := .slice 38 } := ⟨by kernel_rfl, by kernel_rfl, by kernel_rfl, by kernel_rfl, by kernel_rfl⟩
theorem T24 : TyFact Tryz.prog 24 { size := 1, bytes := 24, zero := [.v (.slice none 0 0)], d := .slice 72 } := ⟨by kernel_rfl, by kernel_rfl, by kernel_rfl, by kernel_rfl, by kernel_rfl⟩
theorem T26 : TyFact Tryz.prog 26 { size := 3, bytes := 72, zero := [.v (.slice none 0 0), .v (.slice none 0 0), .v (.slice none 0 0)], d := .st [(0, 22), (1, 23), (2, 24)] } := ⟨by kernel_rfl, by kernel_rfl, by kernel_rfl, by kernel_rfl, by kernel_rfl⟩
theorem T29 : TyFact Tryz.prog 29 { size := 1, bytes := 8, zero := [.v (.int .i64 0)], d := .int .i64 } := ⟨by kernel_rfl, by kernel_rfl, by kernel_rfl, by kernel_rfl, by kernel_rfl⟩
theorem T36 : TyFact Tryz.prog 36 { size := 1, bytes := 24, zero := [.v (.slice none 0 0)], d := .slice 51 } := ⟨by kernel_rfl, by kernel_rfl, by kernel_rfl, by kernel_rfl, by kernel_rfl⟩
theorem T38 : TyFact Tryz.prog 38 { size := 2, bytes := 48, zero := [.v (.slice none 0 0), .v (.slice none 0 0)], d := .st [(0, 36), (1, 36)] } := ⟨by kernel_rfl, by kernel_rfl, by kernel_rfl, by kernel_rfl, by kernel_rfl⟩
theorem T40 : TyFact Tryz.prog 40 { size := 1, bytes := 24, zero := [.v (.slice none 0 0)], d := .slice 3 } := ⟨by kernel_rfl, by kernel_rfl, by kernel_rfl, by kernel_rfl, by kernel_rfl⟩
theorem T46 : TyFact Tryz.prog 46 { size := 3, bytes := 24, zero := [.v (.int .i64 0), .v (.bool false), .v (.int .i64 0)], d := .st [(0, 3), (1, 4), (2, 3)] } := ⟨by kernel_rfl, by kernel_rfl, by kernel_rfl, by kernel_rfl, by kernel_rfl⟩
theorem T47 : TyFact Tryz.prog 47 { size := 1, bytes := 24, zero := [.v (.slice none 0 0)], d := .slice 46 } := ⟨by kernel_rfl, by kernel_rfl, by kernel_rfl, by kernel_rfl, by kernel_rfl⟩
theorem T51 : TyFact Tryz.prog 51 { size := 2, bytes := 16, zero := [.v (.int .i64 0), .v (.int .i64 0)], d := .st [(0, 3), (1, 3)] } := ⟨by kernel_rfl, by kernel_rfl, by kernel_rfl, by kernel_rfl, by kernel_rfl⟩
theorem T57 : TyFact Tryz.prog 57 { size := 1, bytes := 8, zero := [.v (.pointer none)], d := .other } := ⟨by kernel_rfl, by kernel_rfl, by kernel_rfl, by kernel_rfl, by kernel_rfl⟩
theorem T58 : TyFact Tryz.prog 58 { size := 1, bytes := 24, zero := [.v (.slice none 0 0)], d := .slice 5 } := ⟨by kernel_rfl, by kernel_rfl, by kernel_rfl, by kernel_rfl, by kernel_rfl⟩
theorem T60 : TyFact Tryz.prog 60 { size := 2, bytes := 32, zero := [.v (.pointer none), .v (.slice none 0 0)], d := .st [(0, 57), (1, 58)] } := ⟨by kernel_rfl, by kernel_rfl, by kernel_rfl, by kernel_rfl, by kernel_rfl⟩
theorem T62 : TyFact Tryz.prog 62 { size := 2, bytes := 24, zero := [.v (.string ByteArray.empty), .v (.int .i64 0)], d := .st [(0, 9), (1, 3)] } := ⟨by kernel_rfl, by kernel_rfl, by kernel_rfl, by kernel_rfl, by kernel_rfl⟩
theorem T69 : TyFact Tryz.prog 69 { size := 1, bytes := 24, zero := [.v (.slice none 0 0)], d := .slice 9 } := ⟨by kernel_rfl, by kernel_rfl, by kernel_rfl, by kernel_rfl, by kernel_rfl⟩
theorem T72 : TyFact Tryz.prog 72 { size := 5, bytes := 40, zero := [.v (.int .i64 0), .v (.int .i64 0), .v (.int .i64 0), .v (.int .i64 0), .v (.int .i64 0)], d := .st [(0, 3), (1, 3), (2, 3), (3, 3), (4, 3)] } := ⟨by kernel_rfl, by kernel_rfl, by kernel_rfl, by kernel_rfl, by kernel_rfl⟩
theorem T82 : TyFact Tryz.prog 82 { size := 1, bytes := 8, zero := [.v (.pointer none)], d := .other } := ⟨by kernel_rfl, by kernel_rfl, by kernel_rfl, by kernel_rfl, by kernel_rfl⟩
theorem T89 : TyFact Tryz.prog 89 { size := 1, bytes := 24, zero := [.v (.slice none 0 0)], d := .slice 94 } := ⟨by kernel_rfl, by kernel_rfl, by kernel_rfl, by kernel_rfl, by kernel_rfl⟩
theorem T94 : TyFact Tryz.prog 94 { size := 6, bytes := 48, zero := [.v (.int .i64 0), .v (.bool false), .v (.int .i64 0), .v (.int .i64 0), .v (.int .i64 0), .v (.int .i64 0)], d := .st [(0, 3), (1, 4), (2, 3), (3, 3), (4, 3), (5, 3)] } := ⟨by kernel_rfl, by kernel_rfl, by kernel_rfl, by kernel_rfl, by kernel_rfl⟩
theorem T101 : TyFact Tryz.prog 101 { size := 1, bytes := 8, zero := [.v (.map none)], d := .map 9 4 } := ⟨by kernel_rfl, by kernel_rfl, by kernel_rfl, by kernel_rfl, by kernel_rfl⟩
theorem T135 : TyFact Tryz.prog 135 { size := 2, bytes := 16, zero := [.v (.int .i64 0), .v (.int .i64 0)], d := .arr 2 3 } := ⟨by kernel_rfl, by kernel_rfl, by kernel_rfl, by kernel_rfl, by kernel_rfl⟩
theorem T137 : TyFact Tryz.prog 137 { size := 1, bytes := 8, zero := [.v (.int .u64 0)], d := .int .u64 } := ⟨by kernel_rfl, by kernel_rfl, by kernel_rfl, by kernel_rfl, by kernel_rfl⟩
theorem T_ok : TyOK Tryz.prog T := by
  intro t ty h
  unfold T at h
  split at h
  · injection h with h; subst h; exact T2
  · injection h with h; subst h; exact T3
  · injection h with h; subst h; exact T4
  · injection h with h; subst h; exact T5
  · injection h with h; subst h; exact T9
  · injection h with h; subst h; exact T22
  · injection h with h; subst h; exact T23
  · injection h with h; subst h; exact T24
  · injection h with h; subst h; exact T26
  · injection h with h; subst h; exact T29
  · injection h with h; subst h; exact T36
  · injection h with h; subst h; exact T38
  · injection h with h; subst h; exact T40
  · injection h with h; subst h; exact T46
  · injection h with h; subst h; exact T47
  · injection h with h; subst h; exact T51
  · injection h with h; subst h; exact T57
  · injection h with h; subst h; exact T58
  · injection h with h; subst h; exact T60
  · injection h with h; subst h; exact T62
  · injection h with h; subst h; exact T69
  · injection h with h; subst h; exact T72
  · injection h with h; subst h; exact T82
  · injection h with h; subst h; exact T89
  · injection h with h; subst h; exact T94
  · injection h with h; subst h; exact T101
  · injection h with h; subst h; exact T135
  · injection h with h; subst h; exact T137
  · cases h
def eqT : TypeId → Bool
  | 51 => true
  | 62 => true
  | 72 => true
  | _ => false
theorem E51 : EqFact Tryz.prog 51 := ⟨by kernel_rfl, by kernel_rfl, by kernel_rfl⟩
theorem E62 : EqFact Tryz.prog 62 := ⟨by kernel_rfl, by kernel_rfl, by kernel_rfl⟩
theorem E72 : EqFact Tryz.prog 72 := ⟨by kernel_rfl, by kernel_rfl, by kernel_rfl⟩
theorem eqT_ok : ∀ t, eqT t = true → EqFact Tryz.prog t := by
  intro t h
  unfold eqT at h
  split at h
  · exact E51
  · exact E62
  · exact E72
  · cases h
end Go.Proofs.Hz

namespace Go.Pg
open Go Go.RowKit
theorem put_tm (s : St) (d : Nat) (r : AV) (nr : Option Row) (t : Nat) : (s.put d r nr).tm t = if t = d then r else s.tm t := rfl
theorem put_H0 (s : St) (d : Nat) (r : AV) : (s.put d r none).H = s.H := rfl
theorem put_H1 (s : St) (d : Nat) (r : AV) (row : Row) : (s.put d r (some row)).H = updH s.H s.nx (.row row) := rfl
theorem put_nx0 (s : St) (d : Nat) (r : AV) : (s.put d r none).nx = s.nx := rfl
theorem put_nx1 (s : St) (d : Nat) (r : AV) (row : Row) : (s.put d r (some row)).nx = s.nx + 1 := rfl
theorem back_tm (s : St) (d : Nat) (r : AV) (ids : List Nat) (t : Nat) : (s.back d r ids).tm t = if t = d then r else s.tm t := rfl
theorem back_nx (s : St) (d : Nat) (r : AV) (ids : List Nat) : (s.back d r ids).nx = s.nx := rfl
theorem back_H (s : St) (d : Nat) (r : AV) (ids : List Nat) : (s.back d r ids).H = afterH s.H ids r := rfl
theorem upd_at (f : Nat → AV) (d : Nat) (r : AV) (t : Nat) : upd f d r t = if t = d then r else f t := rfl
theorem start_tm (args : List AV) (t : Nat) : (startSt args).tm t = args.getD t .junk := rfl
theorem start_H (args : List AV) : (startSt args).H = fun _ => none := rfl
theorem start_nx (args : List AV) : (startSt args).nx = 0 := rfl
theorem rowAt_upd (H : Nat → Option AO) (i : Nat) (r : Row) (j : Nat) : rowAt (updH H i (.row r)) j = if j = i then some r else rowAt H j := by
  unfold rowAt updH
  split <;> rename_i h <;> split at h <;> simp_all
theorem rowAt_none (j : Nat) : rowAt (fun _ => none) j = none := rfl
theorem afterH_nil (H : Nat → Option AO) (r : AV) : afterH H [] r = H := by simp [afterH]
theorem ev_tmp (s : St) (t : Nat) : s.ev (.tmp t) = s.tm t := rfl
theorem ev_const (s : St) (x : Value) : s.ev (.const x) = constA x := rfl
theorem ev_func (s : St) (f : FuncId) : s.ev (.func f) = .clo f [] := rfl
theorem constA_int (k : IntKind) (n : Int) : constA (.int k n) = .v (.int k n) := rfl
theorem constA_bool (b : Bool) : constA (.bool b) = .v (.bool b) := rfl
theorem constA_str (b : ByteArray) : constA (.string b) = .v (.string b) := rfl
theorem constA_nil : constA (.slice none 0 0) = .v (.slice none 0 0) := rfl
section
variable {C : Cx} {N : Nat} {Q : Exit → St → Prop} {s : St} {ops : Array Oper} {rest : List Oper} {o : Oper}
theorem AWL.guardY {j d t : Nat} {want : Bool} (hg : o.guard = some (j, want)) (ht : (ops[j]?).bind (·.dst) = some t) (hd : o.dst = some d) (hN : d < N) (hb : s.tm t = .v (.bool want))
    (k : AWL C N ops Q ({ o with guard := none } :: rest) s) : AWL C N ops Q (o :: rest) s :=
  AWL.guard hg ht hb hd hN (fun _ => k) (fun h => by cases want <;> cases h)
theorem AWL.guardN {j d t : Nat} {want : Bool} (hg : o.guard = some (j, want)) (ht : (ops[j]?).bind (·.dst) = some t) (hd : o.dst = some d) (hN : d < N) (hb : s.tm t = .v (.bool (!want)))
    (k : AWL C N ops Q rest (s.put d (.v undef) none)) : AWL C N ops Q (o :: rest) s :=
  AWL.guard hg ht hb hd hN (fun h => by cases want <;> cases h) (fun _ => k)
theorem put_same_tm {t : Nat} {x : AV} (h : s.tm t = x) : s.put t x none = s := by
  unfold St.put
  have : upd s.tm t x = s.tm := by funext u; unfold upd; split <;> simp_all
  rw [this]; rfl
theorem AWL.guardS {j d t : Nat} {want b : Bool} (hg : o.guard = some (j, want)) (ht : (ops[j]?).bind (·.dst) = some t) (hd : o.dst = some d) (hN : d < N) (hb : s.tm t = .v (.bool b))
    (k1 : b = want → AWL C N ops Q ({ o with guard := none } :: rest) (s.put t (.v (.bool want)) none)) (k2 : b = !want → AWL C N ops Q rest ((s.put t (.v (.bool (!want))) none).put d (.v undef) none)) : AWL C N ops Q (o :: rest) s :=
  AWL.guard hg ht hb hd hN (fun h => by have := k1 h; rwa [put_same_tm (t := t) (by rw [hb, h])] at this) (fun h => by have := k2 h; rw [put_same_tm (t := t) (x := .v (.bool (!want))) (by rw [hb, h])] at this; exact this)
variable {op : Op} {ty : TypeId} {ps : String} {af : Array Edge} {d j t : Nat} {want b : Bool}
theorem W.step (hC : C.OK) (hN : d < N) {r : AV} {nr : Option Row} (h : stepA C.T C.eqT s.H s.ev s.nx op = some (r, nr)) (k : AWL C N ops Q rest (s.put d r nr)) :
    AWL C N ops Q (⟨some d, op, ty, ps, af, none⟩ :: rest) s := AWL.step hC rfl rfl hN h k
theorem W.gY (ht : (ops[j]?).bind (·.dst) = some t) (hN : d < N) (hb : s.tm t = .v (.bool want)) (k : AWL C N ops Q (⟨some d, op, ty, ps, af, none⟩ :: rest) s) :
    AWL C N ops Q (⟨some d, op, ty, ps, af, some (j, want)⟩ :: rest) s := AWL.guardY (o := ⟨some d, op, ty, ps, af, some (j, want)⟩) rfl ht rfl hN hb k
theorem W.gN (ht : (ops[j]?).bind (·.dst) = some t) (hN : d < N) (hb : s.tm t = .v (.bool (!want))) (k : AWL C N ops Q rest (s.put d (.v undef) none)) :
    AWL C N ops Q (⟨some d, op, ty, ps, af, some (j, want)⟩ :: rest) s := AWL.guardN (o := ⟨some d, op, ty, ps, af, some (j, want)⟩) rfl ht rfl hN hb k
theorem W.gU (ht : (ops[j]?).bind (·.dst) = some t) (hN : d < N) (hb : s.tm t = .v undef) (k : AWL C N ops Q rest (s.put d (.v undef) none)) :
    AWL C N ops Q (⟨some d, op, ty, ps, af, some (j, want)⟩ :: rest) s := AWL.guardU (o := ⟨some d, op, ty, ps, af, some (j, want)⟩) rfl ht hb rfl hN k
theorem W.gS (ht : (ops[j]?).bind (·.dst) = some t) (hN : d < N) (hb : s.tm t = .v (.bool b)) (k1 : b = want → AWL C N ops Q (⟨some d, op, ty, ps, af, none⟩ :: rest) (s.put t (.v (.bool want)) none))
    (k2 : b = !want → AWL C N ops Q rest ((s.put t (.v (.bool (!want))) none).put d (.v undef) none)) :
    AWL C N ops Q (⟨some d, op, ty, ps, af, some (j, want)⟩ :: rest) s := AWL.guardS (o := ⟨some d, op, ty, ps, af, some (j, want)⟩) rfl ht rfl hN hb k1 k2
theorem W.store (hC : C.OK) {tp : TypeId} {p x : Operand} {id : Nat} {r : Row} (h : storeA C.T s.H tp (s.ev p) (s.ev x) = some (id, r)) (k : AWL C N ops Q rest { s with H := updH s.H id (.row r) }) :
    AWL C N ops Q (⟨none, .store tp p x, ty, ps, af, none⟩ :: rest) s := AWL.store hC rfl rfl rfl h k
theorem W.call (hC : C.OK) (hN : d < N) {fo : Operand} {args : Array Operand} {tys : Array TypeId} {f : FuncId} {caps vs : List AV} (hf : s.ev fo = .clo f caps) (hv : viewL s.H (evsA args.toList s.ev ++ caps) = some vs) {Qr : AV → Prop} (hok : OKat C f vs Qr)
    (k : ∀ r, Qr r → AWL C N ops Q rest (s.back d r (idsL (evsA args.toList s.ev ++ caps)))) : AWL C N ops Q (⟨some d, .call { callee := .value fo, args := args, argTypes := tys }, ty, ps, af, none⟩ :: rest) s :=
  AWL.call hC rfl rfl hN rfl hf hv hok k
theorem W.callv (hC : C.OK) (hN : d < N) {fo : Operand} {args : Array Operand} {tys : Array TypeId} {f : FuncId} {caps vs : List AV} {R : AV} (hf : s.ev fo = .clo f caps) (hv : viewL s.H (evsA args.toList s.ev ++ caps) = some vs) (hok : OKv C f vs R)
    (k : AWL C N ops Q rest (s.back d R (idsL (evsA args.toList s.ev ++ caps)))) : AWL C N ops Q (⟨some d, .call { callee := .value fo, args := args, argTypes := tys }, ty, ps, af, none⟩ :: rest) s :=
  AWL.call hC rfl rfl hN rfl hf hv hok (fun r hr => by subst hr; exact k)
end
section
variable {Q : AV → Prop} {s : St}
theorem W.ret1 {t : Nat} {r : AV} (hv : viewA s.H (s.tm t) = some r) (hq : Q r) : endQ [t] Q .ret s := ⟨r, hv, hq⟩
theorem W.end1 {t : Nat} {r : AV} (hv : viewA s.H (s.tm t) = some r) (hq : Q r) : endQ [t] Q .normal s := ⟨r, hv, hq⟩
theorem W.ret2 {t u : Nat} {r : AV} (hv : viewA s.H (.tup [s.tm t, s.tm u]) = some r) (hq : Q r) : endQ [t, u] Q .ret s := ⟨r, hv, hq⟩
theorem W.end2 {t u : Nat} {r : AV} (hv : viewA s.H (.tup [s.tm t, s.tm u]) = some r) (hq : Q r) : endQ [t, u] Q .normal s := ⟨r, hv, hq⟩
theorem W.ret3 {t u v : Nat} {r : AV} (hv : viewA s.H (.tup [s.tm t, s.tm u, s.tm v]) = some r) (hq : Q r) : endQ [t, u, v] Q .ret s := ⟨r, hv, hq⟩
theorem W.end3 {t u v : Nat} {r : AV} (hv : viewA s.H (.tup [s.tm t, s.tm u, s.tm v]) = some r) (hq : Q r) : endQ [t, u, v] Q .normal s := ⟨r, hv, hq⟩
theorem W.ret0 {r : AV} (hv : viewA s.H (.tup []) = some r) (hq : Q r) : endQ [] Q .ret s := ⟨r, hv, hq⟩
theorem W.end0 {r : AV} (hv : viewA s.H (.tup []) = some r) (hq : Q r) : endQ [] Q .normal s := ⟨r, hv, hq⟩
end
theorem view_v_int (H : Nat → Option AO) (k : IntKind) (n : Int) : viewA H (.v (.int k n)) = some (.v (.int k n)) := rfl
theorem view_v_bool (H : Nat → Option AO) (b : Bool) : viewA H (.v (.bool b)) = some (.v (.bool b)) := rfl
theorem view_v_str (H : Nat → Option AO) (b : ByteArray) : viewA H (.v (.string b)) = some (.v (.string b)) := rfl
theorem view_nil (H : Nat → Option AO) : viewA H (.v (.slice none 0 0)) = some (.lst []) := rfl
theorem view_lst (H : Nat → Option AO) (es : List (List AV)) : viewA H (.lst es) = some (.lst es) := rfl
theorem view_agg (H : Nat → Option AO) (cs : List AV) : viewA H (.agg cs) = (viewL H cs).map .agg := rfl
theorem view_tup (H : Nat → Option AO) (cs : List AV) : viewA H (.tup cs) = (viewL H cs).map .tup := rfl
theorem view_clo (H : Nat → Option AO) (f : FuncId) (cs : List AV) : viewA H (.clo f cs) = (viewL H cs).map (.clo f) := rfl
theorem viewL_nil (H : Nat → Option AO) : viewL H [] = some [] := rfl
theorem viewL_cons (H : Nat → Option AO) (c : AV) (cs : List AV) : viewL H (c :: cs) = (match viewA H c, viewL H cs with | some d, some ds => some (d :: ds) | _, _ => none) := rfl
theorem idsA_v (x : Value) : idsA (.v x) = [] := rfl
theorem idsA_lst (es : List (List AV)) : idsA (.lst es) = [] := rfl
theorem idsA_agg (cs : List AV) : idsA (.agg cs) = idsL cs := rfl
theorem idsL_nil : idsL [] = [] := rfl
theorem idsL_cons (c : AV) (cs : List AV) : idsL (c :: cs) = idsA c ++ idsL cs := rfl
end Go.Pg

namespace Go.Pg
open Go Go.RowKit
section
variable {P : Program} {ops : Array Oper} {Q Q' : Exit → Act → World → Prop} {o : Oper} {a : Act} {w : World} {K K' : Act → World → Prop}
theorem Oper.wpIn_mono2 {F : Fence} {n : Nat} (hk : ∀ a w, K a w → K' a w) (hq : ∀ e a w, e ≠ .normal → Q e a w → Q' e a w) (hl : LetsOut Q → LetsOut Q') (hh : o.wpIn F n P a w K Q) : o.wpIn F n P a w K' Q' := by
  unfold Oper.wpIn at *
  refine ⟨hh.1, ?_⟩
  have hh := hh.2
  generalize (o.semAt F.round a.eval).run P w = r at *
  cases r with
  | ok n w' =>
    cases n <;> simp only [Oper.uponIn] at hh ⊢ <;>
      first
        | exact hk _ _ hh
        | exact ⟨hh.1, CallsIn.mono hh.2 (fun e w'' he => by cases e <;> first | exact hk _ _ he | exact hq _ _ _ (by simp) he | exact hl he)⟩
        | exact ⟨hh.1, RowsIn.mono hh.2 (fun _ _ he => hk _ _ he)⟩
        | exact ⟨hh.1, RoundIn.mono hh.2 (fun e w'' he => by cases e <;> first | exact hk _ _ he | exact hq _ _ _ (by simp) he | exact hl he)⟩
  | halt x w' => cases x <;> simp only [Oper.uponIn] at hh ⊢ <;> first | exact hq _ _ _ (by simp) hh | exact hh
end
def One (C : Cx) (N : Nat) (ops : Array Oper) (o : Oper) (s s' : St) : Prop :=
  ∀ (S0 : Fr) (w0 : World) (a : Act) (w : World) (K : Act → World → Prop) (Q : Exit → Act → World → Prop), C.E w0 → Sim S0 w0 N a w s → (∀ a' w', Sim S0 w0 N a' w' s' → K a' w') →
    if Region.wanted o (yielded ops a.tmps) then o.wpIn C.F 0 C.P a w K Q else K (a.put o.dst undef) w
def onlyQ (s' : St) : Exit → St → Prop := fun e s => e = .normal ∧ s = s'
theorem letsOut_sim {C : Cx} {S0 : Fr} {w0 : World} {N : Nat} {s' : St} (h : LetsOut (fun e a' w' => ∃ s, Sim S0 w0 N a' w' s ∧ onlyQ s' e s)) : False := by
  obtain ⟨a, w, h⟩ := h
  obtain ⟨_, _, h, _⟩ := h
  cases h
theorem one_of_AWL {C : Cx} {N : Nat} {ops : Array Oper} {o : Oper} {s s' : St} (h : AWL C N ops (onlyQ s') [o] s) : One C N ops o s s' := by
  intro S0 w0 a w K Q hE hs hK
  have := h S0 w0 a w hE hs
  unfold wpListIn at this
  have hk : ∀ a' w', wpListIn C.F 0 C.P ops (fun e a' w' => ∃ s, Sim S0 w0 N a' w' s ∧ onlyQ s' e s) [] a' w' → K a' w' := by
    rintro a' w' ⟨s, h1, _, rfl⟩
    exact hK _ _ h1
  split at this
  · rename_i hw
    rw [if_pos hw]
    refine Oper.wpIn_mono2 hk ?_ (fun h => (letsOut_sim (C := C) h).elim) this
    rintro e a w he ⟨_, _, h, _⟩
    exact absurd h he
  · rename_i hw
    rw [if_neg hw]
    exact hk _ _ this.2
def updO (f : Nat → AV) (d : Option Nat) (x : AV) : Nat → AV := match d with
  | some t => upd f t x
  | none => f
def Ext (H1 H2 : Nat → Option AO) : Prop := ∀ id x, H1 id = some x → H2 id = some x
def mask (av : List Nat) (H : Nat → Option AO) : Nat → Option AO := fun id => if id ∈ av then none else H id
def LCert (C : Cx) (N : Nat) (ops : Array Oper) (o : Oper) (H : Nat → Option AO) (tm : Nat → AV) (key : Nat) (r : AV) (nr : Option Row) : Prop :=
  ∀ s : St, Ext H s.H → (nr = none ∨ (s.H key = none ∧ key < s.nx)) → (∀ t ∈ o.looksAt ops, s.tm t = tm t) → One C N ops o s ⟨updO s.tm o.dst r, putH s.H key nr, s.nx⟩
def TCert (C : Cx) (N : Nat) (ops : Array Oper) (o : Oper) (H : Nat → Option AO) (nx : Nat) (tm : Nat → AV) (r : AV) (H' : Nat → Option AO) (nx' : Nat) : Prop :=
  ∀ s : St, s.H = H → s.nx = nx → (∀ t ∈ o.looksAt ops, s.tm t = tm t) → One C N ops o s ⟨updO s.tm o.dst r, H', nx'⟩
def DW (C : Cx) (N : Nat) (ops : Array Oper) (H0 : Nat → Option AO) (b : Nat) (tg mk av : List Nat) (Fin : St → Prop) : Nat → List Oper → St → Prop
  | _, [], s => Fin s
  | i, o :: l, s =>
    ∃ (r : AV) (s' : St), s'.tm = updO s.tm o.dst r ∧
      (if i ∈ tg then TCert C N ops o s.H s.nx s.tm r s'.H s'.nx ∧ (mk = [] ∨ ∀ id x, id ∉ av → s.H id = some x → s'.H id = some x)
       else ∃ nr, s'.H = putH s.H (b + i) nr ∧ s'.nx = s.nx ∧ (nr = none ∨ (i ∉ mk ∧ H0 (b + i) = none ∧ b + i < s.nx)) ∧ LCert C N ops o (if i ∈ mk then mask av H0 else H0) s.tm (b + i) r nr) ∧
      DW C N ops H0 b tg mk av Fin (i + 1) l s'
def bnd (o : Oper) : List Nat := (o.after.toList.filter (fun e => Region.binds .any e)).map (·.on)
def ancOf (tab : List Nat) (o : Oper) : Nat := (bnd o).foldl (fun m j => m ||| (1 <<< j) ||| tab.getD j 0) 0
def ancs : List Oper → List Nat → List Nat
  | [], tab => tab
  | o :: l, tab => ancs l (tab ++ [ancOf tab o])
def dstIn (p : Option Nat) (l : List Nat) : Bool := match p with
  | some t => l.contains t
  | none => false
def pairOK (ops : Array Oper) (tab : List Nat) (tg mk : List Nat) (i : Nat) (o : Oper) (k : Nat) (p : Oper) : Bool :=
  (!(dstIn p.dst (o.looksAt ops)) || (tab.getD i 0).testBit k || (tab.getD k 0).testBit i) &&
  (k == i || p.dst == none || p.dst != o.dst) &&
  (!(tg.contains i) || (if tg.contains k then (k == i || (tab.getD i 0).testBit k || (tab.getD k 0).testBit i) else (mk.contains k || (tab.getD i 0).testBit k)))
def drawOK (ops : List Oper) (tg mk : List Nat) : Bool :=
  let tab := ancs ops []
  (ops.zipIdx).all fun (o, i) => (bnd o).all (fun j => decide (j < i)) && (ops.zipIdx).all fun (p, k) => pairOK ops.toArray tab tg mk i o k p
def Closed (ops : List Oper) (L : Nat → Bool) : Prop := ∀ i o, ops[i]? = some o → L i = true → ∀ j ∈ bnd o, L j = true
theorem testBit_foldl (tab : List Nat) (k : Nat) : ∀ (l : List Nat) (m : Nat), (l.foldl (fun m j => m ||| (1 <<< j) ||| tab.getD j 0) m).testBit k = true →
    m.testBit k = true ∨ ∃ j ∈ l, j = k ∨ (tab.getD j 0).testBit k = true
  | [], m, h => .inl h
  | j :: l, m, h => by
    simp only [List.foldl_cons] at h
    rcases testBit_foldl tab k l _ h with h | ⟨j', hj', h⟩
    · simp only [Nat.testBit_or, Bool.or_eq_true, Nat.one_shiftLeft] at h
      rcases h with (h | h) | h
      · exact .inl h
      · rw [Nat.testBit_two_pow] at h
        exact .inr ⟨j, by simp, .inl (by simpa using h)⟩
      · exact .inr ⟨j, by simp, .inr h⟩
    · exact .inr ⟨j', by simp [hj'], h⟩
theorem ancOf_spec {tab : List Nat} {o : Oper} {k : Nat} (h : (ancOf tab o).testBit k = true) : ∃ j ∈ bnd o, j = k ∨ (tab.getD j 0).testBit k = true := by
  rcases testBit_foldl tab k _ _ h with h | h
  · simp at h
  · exact h
theorem ancs_spec {ops : List Oper} {L : Nat → Bool} (hL : Closed ops L) : ∀ (l : List Oper) (tab : List Nat), ops.drop tab.length = l → tab.length ≤ ops.length →
    (∀ i, i < tab.length → ∀ o, ops[i]? = some o → ∀ k, (tab.getD i 0).testBit k = true → (∀ j ∈ bnd o, L j = true) → L k = true) →
    (∀ i o, ops[i]? = some o → ∀ j ∈ bnd o, j < i) →
    ∀ i o, ops[i]? = some o → ∀ k, ((ancs l tab).getD i 0).testBit k = true → (∀ j ∈ bnd o, L j = true) → L k = true
  | [], tab, hd, hl, hp, hb => by
    intro i o ho k hk hj
    have : i < tab.length := by
      have h1 := List.drop_eq_nil_iff.1 hd
      have h2 := (List.getElem?_eq_some_iff.1 ho).1
      omega
    exact hp i this o ho k hk hj
  | o :: l, tab, hd, hl, hp, hb => by
    have hlt : tab.length < ops.length := by
      have : (ops.drop tab.length).length = (o :: l).length := by rw [hd]
      simp at this; omega
    have hget : ops[tab.length]? = some o := by
      have : (ops.drop tab.length)[0]? = some o := by rw [hd]; rfl
      simpa using this
    refine ancs_spec hL l _ ?_ (by simp; omega) ?_ hb
    · have : ops.drop (tab.length + 1) = (ops.drop tab.length).drop 1 := by simp
      simp only [List.length_append, List.length_singleton, this, hd, List.drop_succ_cons, List.drop_zero]
    · intro i hi o' ho' k hk hj
      simp only [List.length_append, List.length_singleton] at hi
      rcases Nat.lt_or_ge i tab.length with h | h
      · refine hp i h o' ho' k ?_ hj
        rwa [List.getD_eq_getElem?_getD, List.getElem?_append_left h, ← List.getD_eq_getElem?_getD] at hk
      · have he : i = tab.length := by omega
        subst he
        rw [hget] at ho'; injection ho' with ho'; subst ho'
        rw [List.getD_eq_getElem?_getD, List.getElem?_append_right (Nat.le_refl _)] at hk
        simp only [Nat.sub_self, List.getElem?_cons_zero, Option.getD_some] at hk
        obtain ⟨j, hjm, h⟩ := ancOf_spec hk
        rcases h with rfl | h
        · exact hj _ hjm
        · have hji := hb _ _ hget j hjm
          obtain ⟨oj, hoj⟩ : ∃ oj, ops[j]? = some oj := ⟨_, List.getElem?_eq_getElem (by omega)⟩
          exact hp j hji oj hoj k h (hL j oj hoj (hj j hjm))
structure OrdOK (ops : List Oper) (tg mk : List Nat) : Prop where
  back : ∀ i o, ops[i]? = some o → ∀ j ∈ bnd o, j < i
  uses : ∀ i o k p t, ops[i]? = some o → ops[k]? = some p → p.dst = some t → t ∈ o.looksAt ops.toArray → ((ancs ops []).getD i 0).testBit k = true ∨ ((ancs ops []).getD k 0).testBit i = true
  dsts : ∀ (i : Nat) (o : Oper) (k : Nat) (p : Oper) (t : Nat), ops[i]? = some o → ops[k]? = some p → k ≠ i → p.dst = some t → o.dst ≠ some t
  tight : ∀ i o k p, ops[i]? = some o → ops[k]? = some p → i ∈ tg → k ∈ tg → k = i ∨ ((ancs ops []).getD i 0).testBit k = true ∨ ((ancs ops []).getD k 0).testBit i = true
  loose : ∀ i o k p, ops[i]? = some o → ops[k]? = some p → i ∈ tg → k ∉ tg → k ∉ mk → ((ancs ops []).getD i 0).testBit k = true
theorem ordOK_of {ops : List Oper} {tg mk : List Nat} (h : drawOK ops tg mk = true) : OrdOK ops tg mk := by
  unfold drawOK at h
  simp only [List.all_eq_true, Bool.and_eq_true, decide_eq_true_eq, Prod.forall] at h
  have hmem : ∀ {i o}, ops[i]? = some o → (o, i) ∈ ops.zipIdx := fun {i o} h => by
    rw [List.mem_zipIdx_iff_getElem?]; exact h
  have hp : ∀ i o k p, ops[i]? = some o → ops[k]? = some p → pairOK ops.toArray (ancs ops []) tg mk i o k p = true := fun i o k p h1 h2 => (h o i (hmem h1)).2 p k (hmem h2)
  refine ⟨fun i o ho j hj => (h o i (hmem ho)).1 j hj, ?_, ?_, ?_, ?_⟩
  · intro i o k p t h1 h2 h3 h4
    have := hp i o k p h1 h2
    simp only [pairOK, Bool.and_eq_true, Bool.or_eq_true, Bool.not_eq_true', h3, dstIn] at this
    rcases this.1.1 with (h | h) | h
    · simp at h; exact absurd h4 h
    · exact .inl h
    · exact .inr h
  · intro i o k p t h1 h2 h3 h4 h5
    have := hp i o k p h1 h2
    simp only [pairOK, Bool.and_eq_true, Bool.or_eq_true, beq_iff_eq, bne_iff_ne, h4, h5] at this
    rcases this.1.2 with (h | h) | h
    · exact h3 h
    · cases h
    · exact h rfl
  · intro i o k p h1 h2 h3 h4
    have := hp i o k p h1 h2
    simp only [pairOK, Bool.and_eq_true, Bool.or_eq_true, Bool.not_eq_true', List.contains_eq_mem, decide_eq_true_eq, decide_eq_false_iff_not, h3, h4, not_true, false_or, if_true, beq_iff_eq] at this
    rcases this.2 with (h | h) | h
    · exact .inl h
    · exact .inr (.inl h)
    · exact .inr (.inr h)
  · intro i o k p h1 h2 h3 h4 h5
    have := hp i o k p h1 h2
    simp only [pairOK, Bool.and_eq_true, Bool.or_eq_true, Bool.not_eq_true', List.contains_eq_mem, decide_eq_true_eq, decide_eq_false_iff_not, h3, h4, h5, not_true, false_or, if_false] at this
    exact this.2
end Go.Pg
