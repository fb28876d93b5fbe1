/-
  Contracts of functions, proved by going through their code. No conditions.
-/
import Derived.Test.YtdlflcambboojaaVaa
import Derived.Test.YtdlflcambboojaaVba
set_option linter.unusedVariables false
set_option linter.unusedSimpArgs false
namespace Go.Pg
open Go Go.RowKit
mutual
def mvA (n : Nat) : AV → AV
  | .ref id off m => .ref (n + id) off m
  | .ptr id i j t => .ptr (n + id) i j t
  | .map id => .map (n + id)
  | .agg cs => .agg (mvL n cs)
  | .tup cs => .tup (mvL n cs)
  | .clo f cs => .clo f (mvL n cs)
  | .bnd f cs => .bnd f (mvL n cs)
  | x => x
def mvL (n : Nat) : List AV → List AV
  | [] => []
  | c :: cs => mvA n c :: mvL n cs
end
theorem mvL_map (n : Nat) : ∀ cs : List AV, mvL n cs = cs.map (mvA n)
  | [] => rfl
  | c :: cs => by rw [mvL, mvL_map n cs, List.map_cons]
theorem mvL_len (n : Nat) (cs : List AV) : (mvL n cs).length = cs.length := by rw [mvL_map, List.length_map]
theorem mvA_cell (n : Nat) (c : AV) : (mvA n c).cell = c.cell := by cases c <;> simp only [mvA] <;> rfl
mutual
theorem mvA_pure (n : Nat) : ∀ c : AV, pureA c = true → mvA n c = c
  | .junk, _ => rfl
  | .v _, _ => rfl
  | .agg cs, h => by rw [mvA, mvL_pure n cs (by simpa [pureA] using h)]
  | .tup cs, h => by rw [mvA, mvL_pure n cs (by simpa [pureA] using h)]
  | .clo f cs, h => by rw [mvA, mvL_pure n cs (by simpa [pureA] using h)]
  | .bnd f cs, h => by rw [mvA, mvL_pure n cs (by simpa [pureA] using h)]
  | .lst _, _ => rfl
  | .iptr _ _, _ => rfl
  | .ref _ _ _, h => by simp [pureA] at h
  | .ptr _ _ _ _, h => by simp [pureA] at h
  | .map _, h => by simp [pureA] at h
  | .lmap _ _ _, _ => rfl
theorem mvL_pure (n : Nat) : ∀ cs : List AV, pureL cs = true → mvL n cs = cs
  | [], _ => rfl
  | c :: cs, h => by
    simp only [pureL, Bool.and_eq_true] at h
    rw [mvL, mvA_pure n c h.1, mvL_pure n cs h.2]
end
theorem mvLL_pure (n : Nat) {es : List (List AV)} (h : es.all pureL = true) : es.map (mvL n) = es := by
  rw [List.all_eq_true] at h
  conv => rhs; rw [← List.map_id es]
  exact List.map_congr_left fun e he => mvL_pure n e (h e he)
theorem mvA_v (n : Nat) (x : Value) : mvA n (.v x) = .v x := rfl
theorem mvA_lst (n : Nat) (es : List (List AV)) : mvA n (.lst es) = .lst es := rfl
theorem mvA_ref (n id off m : Nat) : mvA n (.ref id off m) = .ref (n + id) off m := rfl
theorem mvA_agg (n : Nat) (cs : List AV) : mvA n (.agg cs) = .agg (mvL n cs) := rfl
theorem mvA_tup (n : Nat) (cs : List AV) : mvA n (.tup cs) = .tup (mvL n cs) := rfl
theorem mvL_nil (n : Nat) : mvL n [] = [] := rfl
theorem mvL_cons (n : Nat) (c : AV) (cs : List AV) : mvL n (c :: cs) = mvA n c :: mvL n cs := rfl
theorem lt_of_row {H : Nat → Option AO} {nx i : Nat} {r : Row} (hn : ∀ id, nx ≤ id → H id = none) (h : rowAt H i = some r) : i < nx := by
  rcases Nat.lt_or_ge i nx with h1 | h1
  · exact h1
  · unfold rowAt at h; rw [hn i h1] at h; cases h
def mvR (n : Nat) (r : Row) : Row := { r with es := r.es.map (mvL n) }
def mvO (n : Nat) : AO → AO
  | .row r => .row (mvR n r)
  | .mp kt et es => .mp kt et (es.map fun e => (e.1, mvA n e.2))
def mergeH (n : Nat) (H H' : Nat → Option AO) : Nat → Option AO := fun i => if i < n then H i else (H' (i - n)).map (mvO n)
theorem rowAt_merge1 {n i : Nat} (H H' : Nat → Option AO) (h : i < n) : rowAt (mergeH n H H') i = rowAt H i := by
  unfold rowAt mergeH; rw [if_pos h]
theorem rowAt_merge2 (n i : Nat) (H H' : Nat → Option AO) : rowAt (mergeH n H H') (n + i) = (rowAt H' i).map (mvR n) := by
  unfold rowAt mergeH
  rw [if_neg (by omega), Nat.add_sub_cancel_left]
  cases H' i with
  | none => rfl
  | some o => cases o <;> rfl
def sgM (B n : Nat) (σ σ' : Sg) : Sg where
  S := σ'.S
  own := fun b => if b < B then σ.own b else (σ'.own b).map (n + ·)
  ext := fun b => if b < B then σ.ext b else σ'.ext b
  al := fun i => if i < n then σ.al i else σ'.al (i - n)
  cur := fun i => if i < n then σ.cur i else σ'.cur (i - n)
  len := fun i => if i < n then σ.len i else σ'.len (i - n)
  k := fun i => if i < n then σ.k i else σ'.k (i - n)
  cap := fun b => if b < B then σ.cap b else σ'.cap b
section
variable {B0 : Nat} {S0 S1 : Fr} {w w' : World} {H H' : Nat → Option AO} {σ σ' : Sg} {n : Nat}
theorem Inv.cur_own (hi : Inv B0 S0 w H σ) {id b : Nat} (h : σ.cur id = some b) : σ.own b = some id := by
  cases ho : H id with
  | none => rw [(hi.fresh id ho).1] at h; cases h
  | some o =>
    cases o with
    | row r => exact ((hi.row id r ho).cur b h).1
    | mp kt et es =>
      obtain ⟨b2, _, _, a1, a2, _⟩ := (hi.mp id kt et es ho).cur
      rw [a1] at h; cases h; exact a2
theorem le_merge (hi : Inv B0 S0 w H σ) (hn : ∀ id, n ≤ id → H id = none) (hb : Below w.heap.size w w') (hS : ∀ b, σ.S b → σ'.S b) : Le σ (sgM w.heap.size n σ σ') w w' := by
  have lt : ∀ id, σ.al id → id < n := fun id h => by
    rcases Nat.lt_or_ge id n with h1 | h1
    · exact h1
    · exact absurd (hn id h1) ((hi.al id).1 h)
  refine ⟨hS, fun b h => hb.block b (hi.S_lt b h).1, fun b id h => ?_, fun id h => ?_, fun id h => .inl ⟨?_, ?_, fun b hc => ?_⟩⟩
  · have h1 := (hi.own_lt b id h).2
    have h2 := lt id (hi.al_of_own h)
    exact ⟨hi.al_of_own h, by simp only [sgM]; rw [if_pos h1]; exact h, by simp only [sgM]; rw [if_pos h2], by simp only [sgM]; rw [if_pos h1]; exact Nat.le_refl _⟩
  · simp only [sgM]; rw [if_pos (lt id h)]; exact h
  · simp only [sgM]; rw [if_pos (lt id h)]
  · simp only [sgM]; rw [if_pos (lt id h)]
  · simp only [sgM]; rw [if_pos (hi.own_lt b id (hi.cur_own hc)).2]
mutual
theorem Rep.shift (hi : Inv w.heap.size S1 w' H' σ') : ∀ (c : AV) (u : Value), Rep σ' w' c u → Rep (sgM w.heap.size n σ σ') w' (mvA n c) u
  | .junk, _, _ => trivial
  | .v _, _, h => h
  | .agg cs, u, h => by
    simp only [mvA, Rep] at h ⊢
    obtain ⟨arr, rfl, h1, h2, h3⟩ := h
    refine ⟨arr, rfl, by rw [mvL_len]; exact h1, fun c hc => ?_, RepL.shift hi cs _ h3⟩
    rw [mvL_map] at hc
    obtain ⟨d, hd, rfl⟩ := List.mem_map.1 hc
    rw [mvA_cell]; exact h2 d hd
  | .tup cs, u, h => by
    simp only [mvA, Rep] at h ⊢
    obtain ⟨arr, rfl, h1, h3⟩ := h
    exact ⟨arr, rfl, by rw [mvL_len]; exact h1, RepL.shift hi cs _ h3⟩
  | .clo f cs, u, h => by
    simp only [mvA, Rep] at h ⊢
    obtain ⟨arr, rfl, h1, h3⟩ := h
    exact ⟨arr, rfl, by rw [mvL_len]; exact h1, RepL.shift hi cs _ h3⟩
  | .bnd f cs, u, h => by
    simp only [mvA, Rep] at h ⊢
    obtain ⟨arr, rfl, h1, h3⟩ := h
    exact ⟨arr, rfl, by rw [mvL_len]; exact h1, RepL.shift hi cs _ h3⟩
  | .lst es, u, h => by simp only [mvA, Rep] at h ⊢; exact h
  | .iptr e j, u, h => by simp only [mvA, Rep] at h ⊢; exact h
  | .lmap sh ks vs, u, h => by simp only [mvA, Rep] at h ⊢; exact h
  | .ref id off m, u, h => by
    simp only [mvA, Rep] at h ⊢
    obtain ⟨h0, A, cap, rfl, h1, h2, h3, h4⟩ := h
    have hlt : ¬ n + id < n := by omega
    refine ⟨by simp only [sgM]; rw [if_neg hlt, Nat.add_sub_cancel_left]; exact h0, A, cap, rfl, h1, h2, fun hm => ?_, fun h5 h6 => ?_⟩
    · obtain ⟨b, rfl, g1, g2⟩ := h3 hm
      have hb := (hi.own_lt b id g1).1
      have hbn : ¬ b < w.heap.size := by omega
      refine ⟨b, by simp only [sgM]; rw [if_neg hlt, Nat.add_sub_cancel_left], by simp only [sgM]; rw [if_neg hbn, g1]; rfl, by simp only [sgM]; rw [if_neg hbn]; exact g2⟩
    · simp only [sgM] at h6 ⊢
      rw [if_neg hlt, Nat.add_sub_cancel_left] at h6 ⊢
      rcases h4 h5 h6 with h | ⟨b, g1, g2, g3⟩
      · exact .inl h
      · have hb := (hi.own_lt b id (hi.cur_own g1)).1
        exact .inr ⟨b, g1, g2, by rw [if_neg (by omega)]; exact g3⟩
  | .ptr id i j tag, u, h => by
    simp only [mvA, Rep] at h ⊢
    obtain ⟨b, rfl, g1, g2, g3⟩ := h
    have hb := (hi.own_lt b id g1).1
    have hbn : ¬ b < w.heap.size := by omega
    refine ⟨b, by simp only [sgM]; rw [if_neg (by omega), Nat.add_sub_cancel_left], by simp only [sgM]; rw [if_neg hbn, g1]; rfl, g2, by simp only [sgM]; rw [if_neg hbn]; exact g3⟩
  | .map id, u, h => by
    simp only [mvA, Rep] at h ⊢
    obtain ⟨b, rfl, g1⟩ := h
    have hb := (hi.own_lt b id g1).1
    exact ⟨b, rfl, by simp only [sgM]; rw [if_neg (by omega), g1]; rfl⟩
theorem RepL.shift (hi : Inv w.heap.size S1 w' H' σ') : ∀ (cs : List AV) (f : Nat → Option Value), RepL σ' w' cs f → RepL (sgM w.heap.size n σ σ') w' (mvL n cs) f
  | [], _, _ => trivial
  | c :: cs, f, h => by
    simp only [mvL, RepL] at h ⊢
    obtain ⟨⟨u, hu, hr⟩, ht⟩ := h
    exact ⟨⟨u, hu, Rep.shift hi c u hr⟩, RepL.shift hi cs _ ht⟩
end
theorem inv_merge (hi : Inv B0 S0 w H σ) (hn : ∀ id, n ≤ id → H id = none) (hB : B0 ≤ w.heap.size) (hb : Below w.heap.size w w') (hi' : Inv w.heap.size (Fr.of σ.S) w' H' σ') (hS : ∀ b, σ.S b → σ'.S b) :
    Inv B0 S0 w' (mergeH n H H') (sgM w.heap.size n σ σ') := by
  have hle : Le σ (sgM w.heap.size n σ σ') w w' := le_merge hi hn hb hS
  have hsize := hb.size
  have lt : ∀ id, H id ≠ none → id < n := fun id h => by
    rcases Nat.lt_or_ge id n with h1 | h1
    · exact h1
    · exact absurd (hn id h1) h
  have own1 : ∀ {b id}, id < n → (sgM w.heap.size n σ σ').own b = some id → b < w.heap.size ∧ σ.own b = some id := fun {b id} hid h => by
    simp only [sgM] at h
    split at h
    · rename_i hlt; exact ⟨hlt, h⟩
    · obtain ⟨j, _, hj⟩ := Option.map_eq_some_iff.1 h; omega
  have own2 : ∀ {b id}, ¬ id < n → (sgM w.heap.size n σ σ').own b = some id → ¬ b < w.heap.size ∧ σ'.own b = some (id - n) := fun {b id} hid h => by
    simp only [sgM] at h
    split at h
    · exact absurd (lt id ((hi.al id).1 (hi.al_of_own h))) hid
    · rename_i hlt
      obtain ⟨j, h1, hj⟩ := Option.map_eq_some_iff.1 h
      exact ⟨hlt, by rw [h1, ← hj, Nat.add_sub_cancel_left]⟩
  have notS : ∀ {b}, b < w.heap.size → ¬ σ.S b → ¬ σ'.S b := fun {b} h1 h2 h3 => by
    rcases (hi'.S_lt b h3).2 with h | h
    · exact h2 h
    · omega
  refine ⟨fun id => ?_, fun id h => ?_, fun b h => ⟨(hi'.S_lt b h).1, ?_⟩, fun b id h => ?_, fun id r h => ?_, fun id kt et es h => ?_, S0.mono _ _ _ _ hle hi.fr⟩
  · simp only [sgM, mergeH]
    split
    · exact hi.al id
    · rw [hi'.al]; simp
  · simp only [mergeH] at h
    split at h
    · rename_i hid
      refine ⟨by simp only [sgM]; rw [if_pos hid]; exact (hi.fresh id h).1, fun b hbo => (hi.fresh id h).2 b (own1 hid hbo).2⟩
    · rename_i hid
      have h' : H' (id - n) = none := by simpa using h
      refine ⟨by simp only [sgM]; rw [if_neg hid]; exact (hi'.fresh _ h').1, fun b hbo => (hi'.fresh _ h').2 b (own2 hid hbo).2⟩
  · rcases (hi'.S_lt b h).2 with g | g
    · exact (hi.S_lt b g).2
    · exact .inr (by omega)
  · by_cases hid : id < n
    · have := hi.own_lt b id (own1 hid h).2
      exact ⟨this.1, by omega⟩
    · have := hi'.own_lt b _ (own2 hid h).2
      exact ⟨by omega, this.2⟩
  · simp only [mergeH] at h
    split at h
    · rename_i hid
      have hr := hi.row id r h
      refine ⟨by simp only [sgM]; rw [if_pos hid]; exact hr.len, by simp only [sgM]; rw [if_pos hid]; exact hr.k, hr.each, hr.lo, fun b hc => ?_, fun hc => ?_, fun b hbo => ?_, fun b hc i h1 => ?_⟩
      · simp only [sgM] at hc
        rw [if_pos hid] at hc
        obtain ⟨a1, a2, a3, a4, arr, a5, a6⟩ := hr.cur b hc
        have hlt := (hi.own_lt b id a1).2
        simp only [sgM]
        rw [if_pos hlt, if_pos hlt, if_pos hlt]
        exact ⟨a1, a2, a3, a4, arr, (hb.block b hlt).trans a5, a6⟩
      · simp only [sgM] at hc
        rw [if_pos hid] at hc
        exact hr.empty hc
      · obtain ⟨hlt, ho⟩ := own1 hid hbo
        obtain ⟨a1, a2, a3, a4⟩ := hr.own b ho
        simp only [sgM]
        rw [if_pos hid, if_pos hlt]
        exact ⟨a1, a2, fun hf => hS b (a3 hf), fun hf => notS hlt (a4 hf)⟩
      · simp only [sgM] at hc
        rw [if_pos hid] at hc
        refine RepL.mono hle _ _ _ (fun j u hu => ?_) (hr.con b hc i h1)
        rw [cell_of_heap (w := w) (hb.block b (hi.own_lt b id (hr.cur b hc).1).2)]
        exact hu
    · rename_i hid
      obtain ⟨o, ho, hoe⟩ := Option.map_eq_some_iff.1 h
      cases o with
      | mp kt et es => simp [mvO] at hoe
      | row r' =>
        simp only [mvO, AO.row.injEq] at hoe
        subst hoe
        have hr := hi'.row _ r' ho
        have hlen : (mvR n r').es.length = r'.es.length := by simp [mvR]
        refine ⟨by simp only [sgM]; rw [if_neg hid, hlen]; exact hr.len, by simp only [sgM]; rw [if_neg hid]; exact hr.k, fun e he => ?_, by rw [hlen]; exact hr.lo, fun b hc => ?_, fun hc => ?_, fun b hbo => ?_, fun b hc i h1 => ?_⟩
        · obtain ⟨e', he', rfl⟩ := List.mem_map.1 he
          obtain ⟨a1, a2⟩ := hr.each e' he'
          refine ⟨by rw [mvL_len]; exact a1, fun c hc => ?_⟩
          rw [mvL_map] at hc
          obtain ⟨c', hc', rfl⟩ := List.mem_map.1 hc
          rw [mvA_cell]; exact a2 c' hc'
        · simp only [sgM] at hc
          rw [if_neg hid] at hc
          obtain ⟨a1, a2, a3, a4, arr, a5, a6⟩ := hr.cur b hc
          have hge := (hi'.own_lt b _ a1).1
          have hnl : ¬ b < w.heap.size := by omega
          simp only [sgM]
          rw [if_neg hnl, if_neg hnl, if_neg hnl, hlen]
          exact ⟨by rw [a1]; simp; omega, a2, a3, a4, arr, a5, a6⟩
        · simp only [sgM] at hc
          rw [if_neg hid] at hc
          have := hr.empty hc
          simp [mvR, this]
        · obtain ⟨hlt, hoo⟩ := own2 hid hbo
          obtain ⟨a1, a2, a3, a4⟩ := hr.own b hoo
          simp only [sgM]
          rw [if_neg hid, if_neg hlt, hlen]
          exact ⟨a1, a2, a3, a4⟩
        · simp only [sgM] at hc
          rw [if_neg hid] at hc
          have h2 : i < r'.es.length := by rw [hlen] at h1; exact h1
          have := RepL.shift (n := n) (σ := σ) hi' _ _ (hr.con b hc i h2)
          simpa [mvR] using this
  · simp only [mergeH] at h
    split at h
    · rename_i hid
      have hm := hi.mp id kt et es h
      obtain ⟨b, clock, xs, a1, a2, a3, a4, a5, a6⟩ := hm.cur
      have hlt := (hi.own_lt b id a2).2
      refine ⟨by simp only [sgM]; rw [if_pos hid]; exact hm.len, ⟨b, clock, xs, by simp only [sgM]; rw [if_pos hid]; exact a1, by simp only [sgM]; rw [if_pos hlt]; exact a2, ⟨fun hl => notS hlt (a3.1 hl), fun hl => hS b (a3.2 hl)⟩, (hb.block b hlt).trans a4, a5, RepL.mono hle _ _ _ (fun _ _ h => h) a6⟩, fun b' hbo => ?_⟩
      obtain ⟨hlt', ho⟩ := own1 hid hbo
      obtain ⟨c1, c2⟩ := hm.one b' ho
      simp only [sgM]
      rw [if_pos hid, if_pos hlt']
      exact ⟨c1, c2⟩
    · rename_i hid
      obtain ⟨o, ho, hoe⟩ := Option.map_eq_some_iff.1 h
      cases o with
      | row r' => simp [mvO] at hoe
      | mp kt' et' es' =>
        simp only [mvO, AO.mp.injEq] at hoe
        obtain ⟨rfl, rfl, rfl⟩ := hoe
        have hm := hi'.mp _ kt' et' es' ho
        obtain ⟨b, clock, xs, a1, a2, a3, a4, a5, a6⟩ := hm.cur
        have hge := (hi'.own_lt b _ a2).1
        have hnl : ¬ b < w.heap.size := by omega
        have e1 : (es'.map fun e => (e.1, mvA n e.2)).map (fun e => e.1.val) = es'.map (fun e => e.1.val) := by rw [List.map_map]; rfl
        have e2 : (es'.map fun e => (e.1, mvA n e.2)).map (·.1) = es'.map (·.1) := by rw [List.map_map]; rfl
        have e3 : (es'.map fun e => (e.1, mvA n e.2)).map (·.2) = mvL n (es'.map (·.2)) := by rw [mvL_map, List.map_map, List.map_map]; rfl
        refine ⟨by simp only [sgM]; rw [if_neg hid]; exact hm.len, ⟨b, clock, xs, by simp only [sgM]; rw [if_neg hid]; exact a1, by simp only [sgM]; rw [if_neg hnl, a2]; simp; omega, a3, a4, by rw [e1, e2]; exact a5, by rw [e3]; exact RepL.shift hi' _ _ a6⟩, fun b' hbo => ?_⟩
        obtain ⟨hlt', hoo⟩ := own2 hid hbo
        obtain ⟨c1, c2⟩ := hm.one b' hoo
        simp only [sgM]
        rw [if_neg hid, if_neg hlt']
        exact ⟨c1, c2⟩
end
section
variable {C : Cx} {N : Nat} {Q : Exit → St → Prop} {s : St} {ops : Array Oper} {rest : List Oper} {o : Oper}
theorem AWL.calla (hC : C.OK) (hg : o.guard = none) {d : Nat} (hd : o.dst = some d) (hN : d < N) {fo : Operand} {args : Array Operand} {tys : Array TypeId} (ho : o.op = .call { callee := .value fo, args := args, argTypes := tys })
    {f : FuncId} {vs : List AV} (hf : s.ev fo = .clo f []) (hv : viewL s.H (evsA args.toList s.ev) = some vs) (hids : idsL (evsA args.toList s.ev) = []) {Qr : AV → (Nat → Option AO) → Nat → Prop} (hok : OKm C f vs (fun _ => none) 0 Qr)
    (k : ∀ r H' nx', Qr r H' nx' → (∀ id, nx' ≤ id → H' id = none) → AWL C N ops Q rest { tm := upd s.tm d (mvA s.nx r), H := mergeH s.nx s.H H', nx := s.nx + nx' }) : AWL C N ops Q (o :: rest) s := by
  rintro S0 w0 a w hE ⟨σ, hσ⟩
  obtain ⟨⟨fn, hfn, hname, hbody⟩, hcall⟩ := hok
  have hfo := hσ.ev fo
  rw [hf] at hfo
  simp only [Rep] at hfo
  obtain ⟨ca, hca, hcs, hcr⟩ := hfo
  have hce : ca = #[] := by simpa using hcs
  subst hce
  have hargs : RepL σ w (evsA args.toList s.ev) (fun i => (args.map a.eval)[i]?) := repL_evs (σ := σ) (w := w) (fun x => hσ.ev x) args
  obtain ⟨g1, _, g3⟩ := viewL_sound hσ.inv (S' := σ.S) (fun b h => h) _ _ vs hv (fun id hid b hb => by rw [hids] at hid; cases hid) hargs
  have hEw : C.E w := hC.E _ _ hσ.below hE
  have hi0 : Inv w.heap.size (Fr.of σ.S) w (fun _ => none) (pureSg σ.S) :=
    ⟨fun id => by simp [pureSg], fun id _ => ⟨rfl, fun b h => by simp [pureSg] at h⟩, fun b h => ⟨(hσ.inv.S_lt b h).1, .inl h⟩, fun b id h => by simp [pureSg] at h, fun id r h => by simp at h, fun id kt et es h => by simp at h, trivial⟩
  have hsz : (args.map a.eval).size = vs.length := by rw [← g1]; simp [evsA_map]
  have hc := hcall (Fr.of σ.S) w w (pureSg σ.S) (args.map a.eval) hEw hi0 (fun _ _ => rfl) (Below.refl _ _) hsz g3
  refine wpListIn_plain hg fun K hK => Oper.wpIn_of_wp C.hF (fun c e => by rw [ho] at e; cases e) ?_
  have hexec : (execOp a.eval o).run C.P w = .ok (.enter f (args.map a.eval)) w := by
    have hb : (fn.name == "runtime.NumGoroutine") ≠ true := by simp [hname]
    simp only [execOp, ho, resolve, hca, Deferred.ofValue, Sem.run_bind, Sem.run_pure, Result.andThen_ok, invoke, callFunc, run_program, hfn, if_neg hb, hbody, Bool.false_eq_true, if_false]
    simp
  simp only [Oper.wp, hexec, Oper.upon]
  refine hc.mono ?_
  rintro e w' ⟨v, r, σ', H', nx', rfl, hnew, hb, hi', hnx', hle', hrep⟩
  dsimp only
  rw [hd]
  have hbel : Below w0.heap.size w w' := hb.mono hσ.size
  have hSS : ∀ b, σ.S b → σ'.S b := fun b h => hle'.S b h
  have hinv := inv_merge (n := s.nx) hσ.inv hσ.nx hσ.size hb hi' hSS
  have hlem := le_merge (n := s.nx) (σ' := σ') hσ.inv hσ.nx hb hSS
  have hnxx : ∀ id, s.nx + nx' ≤ id → mergeH s.nx s.H H' id = none := fun id hid => by
    simp only [mergeH]
    rw [if_neg (by omega), hnx' _ (by omega)]; rfl
  exact hK _ _ (k r H' nx' hnew hnx' S0 w0 _ w' hE ⟨_, hσ.put hN (s' := { tm := upd s.tm d (mvA s.nx r), H := mergeH s.nx s.H H', nx := s.nx + nx' }) hinv hnxx hlem hbel (Rep.shift (n := s.nx) (σ := σ) hi' r v hrep) rfl⟩)
end
section
variable {C : Cx} {N : Nat} {Q : Exit → St → Prop} {s : St} {ops : Array Oper} {rest : List Oper} {ty : TypeId} {ps : String} {af : Array Edge} {d : Nat}
theorem W.calla (hC : C.OK) (hN : d < N) {fo : Operand} {args : Array Operand} {tys : Array TypeId} {f : FuncId} {vs : List AV} (hf : s.ev fo = .clo f []) (hv : viewL s.H (evsA args.toList s.ev) = some vs) (hids : idsL (evsA args.toList s.ev) = [])
    {Qr : AV → (Nat → Option AO) → Nat → Prop} (hok : OKm C f vs (fun _ => none) 0 Qr)
    (k : ∀ r H' nx', Qr r H' nx' → (∀ id, nx' ≤ id → H' id = none) → AWL C N ops Q rest { tm := upd s.tm d (mvA s.nx r), H := mergeH s.nx s.H H', nx := s.nx + nx' }) :
    AWL C N ops Q (⟨some d, .call { callee := .value fo, args := args, argTypes := tys }, ty, ps, af, none⟩ :: rest) s :=
  AWL.calla hC rfl rfl hN rfl hf hv hids hok k
end
end Go.Pg
