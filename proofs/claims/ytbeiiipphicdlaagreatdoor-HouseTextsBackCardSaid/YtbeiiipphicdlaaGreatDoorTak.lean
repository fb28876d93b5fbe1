/-
  Contracts of functions, proved by going through their code. No conditions.
-/
import Derived.Lib.AppendStr
import Derived.Lib.LaidTab
import Derived.Lib.ItoaNum
import Derived.Shelf.Strconv.Itoa3
import Derived.Test.YtbeiiipphicdlaaGreatDoorTag
import Derived.Test.YtbeiiipphicdlaaGreatDoorTaj
set_option linter.unusedVariables false
set_option linter.unusedSimpArgs false
namespace Go.Pg
open Go Go.RowKit
section
variable {P : Program} {B0 : Nat} {S0 : Fr} {w : World} {H : Nat → Option AO} {σ : Sg}
theorem rowAt_frz1 (H : Nat → Option AO) (i j : Nat) : rowAt (frz' H [i]) j = if j = i then (rowAt H j).map (fun r => { r with fro := true }) else rowAt H j := by
  unfold frz' frz rowAt
  simp only [List.isEmpty_cons, Bool.false_eq_true, if_false, List.mem_singleton]
  by_cases h : j = i
  · simp only [h, if_true]
    cases hh : H i with
    | none => rfl
    | some o => cases o <;> rfl
  · simp only [h, if_false]
theorem rowAt_mask (av : List Nat) (H : Nat → Option AO) (j : Nat) : rowAt (mask av H) j = if j ∈ av then none else rowAt H j := by
  unfold rowAt mask
  split <;> rename_i h <;> split at h <;> simp_all
theorem upd_keep {H : Nat → Option AO} {av : List Nat} {a c : Nat} {u v : AO} (h1 : a ∈ av) (h2 : c ∈ av) (j : Nat) (x : AO) (hj : j ∉ av) (hx : H j = some x) : updH (updH H a u) c v j = some x := by
  have n1 : j ≠ c := fun e => by subst e; exact hj h2
  have n2 : j ≠ a := fun e => by subst e; exact hj h1
  simp only [updH]
  rw [if_neg n1, if_neg n2]; exact hx
theorem upd_twice (H : Nat → Option AO) (id n : Nat) (a b c : AO) : updH (updH (updH H id a) n b) id c = updH (updH H n b) id c := by
  funext i
  simp only [updH]
  split
  · rfl
  · split
    · rfl
    · rfl
def strE (s : ByteArray) : List (List AV) := s.data.toList.map fun b => [AV.v (.int .u8 b.toNat)]
theorem strE_length (s : ByteArray) : (strE s).length = s.size := by unfold strE; rw [List.length_map, Array.length_toList]; rfl
theorem append_str_where (base : Nat) (t u ty e : TypeId) (i : TypeInfo) (ht : P.underlying t = some (.slice e)) (hu : P.underlying u = some .string) (hi : P.info? e = some i) (hz : i.zero = some (.int .u8 0))
    (hsize : i.size = 1) (hby : i.bytes = 1) (v : Value) (n : Nat) (xs : List Value) (hown : w.ownsRow base e 1 v n xs) (s : ByteArray) (hs : 0 < s.size)
    (h63 : n + s.size ≤ maxLen) (hbytes : n + s.size ≤ 140737488355328) {v' : Value} {w' : World} (hrun : (Builtin.append_ #[t, u] ty #[v, .string s]).run P w = .ok v' w') :
    v'.ownBlock = v.ownBlock ∨ v'.ownBlock = some w.heap.size := by
  have hxl : xs.length = n := by simpa using hown.1
  have hsmall : n + s.size ≤ 9223372036854775807 := by simp only [maxLen] at h63; omega
  rcases hown.2 with ⟨rfl, rfl⟩ | ⟨g, cap, cur, rfl, hbg, hg, hnc, hcm, hcs, htake⟩
  · have hr := run_append_nil_string (P := P) w t u ty e i (.int .u8 0) ht hu hi hz s hs (by omega) (by rw [hby]; omega)
    rw [hr] at hrun
    injection hrun with h1 h2
    right; rw [← h1]; rfl
  · by_cases hroom : n + s.size ≤ cap
    · have hr := Lib.run_append_room_string (P := P) w t u ty e i ht hu hi hsize g n cap cur hg s hroom (by rw [hcs]; omega)
      rw [hr] at hrun
      injection hrun with h1 h2
      left; rw [← h1]; rfl
    · have holds : ∀ j x, xs[j]? = some x → w.cell? ((⟨g, 0, none⟩ : Addr).add j) = some x := hown.cells (g := g) rfl
      have hr := Lib.run_append_grow_string (P := P) w t u ty e i (.int .u8 0) ht hu hi hz ⟨g, 0, none⟩ n cap xs (by rw [hsize]; omega) holds s (by omega) (by omega) (growslice_fits (by omega) (by rw [hby]; omega))
      rw [hr] at hrun
      injection hrun with h1 h2
      right; rw [← h1]; rfl
theorem append_coreS {T : TypeId → Option Ty} (hT : TyOK P T) (hi : Inv B0 S0 w H σ) (hB : B0 ≤ w.heap.size) {id : Nat} {r : Row} (hH : H id = some (.row r)) (hf : r.fro = false) {t u ty e : TypeId} {y : Ty} (ht : P.underlying t = some (.slice e)) (hu : P.underlying u = some .string) (hy : T e = some y)
    (hy1 : y.size = 1) (hyb : y.bytes = 1) (hyz : ∀ i, P.info? e = some i → i.zero = some (.int .u8 0)) (hk : r.k = 1) (hty : r.ty = e) {uv : Value} (hr : Rep σ w (.ref id 0 r.es.length) uv) (s : ByteArray) (hs : 0 < s.size) (hb : r.es.length + s.size ≤ 140737488355328) :
    ∃ v w' σ', (Builtin.append_ #[t, u] ty #[uv, .string s]).run P w = .ok v w' ∧ Below B0 w w' ∧ Le σ σ' w w' ∧
      Inv B0 S0 w' (updH H id (.row { r with es := r.es ++ strE s, lo := r.es.length + s.size })) σ' ∧ Rep σ' w' (.ref id 0 (r.es.length + s.size)) v := by
  have hR := hi.row id r hH
  obtain ⟨i, z, f1, f2, f3, f4, f5⟩ := (hT e y hy).get
  simp only [Rep] at hr
  obtain ⟨hal, A', cap, rfl, g1, g2, g3, g4⟩ := hr
  have hlS := strE_length s
  have hown : ∃ xs, w.ownsRow B0 e 1 (.slice A' r.es.length cap) r.es.length xs ∧ (∀ b', σ.cur id = some b' → ∃ arr : Array Value, w.heap[b']? = some (.cells arr r.ty (0, 0)) ∧ xs = arr.toList.take r.es.length) ∧ (Value.slice A' r.es.length cap).ownBlock = σ.cur id := by
    rcases g4 trivial hR.len.symm with ⟨h1, h2, rfl, rfl⟩ | ⟨b', h1, rfl, h3⟩
    · refine ⟨[], ⟨by simp [h2], .inl ⟨by rw [h2], h2⟩⟩, fun b' hb' => (by rw [h1] at hb'; cases hb'), by rw [h1]; rfl⟩
    · obtain ⟨a1, a2, a3, a4, arr, a5, a6⟩ := hR.cur b' h1
      refine ⟨arr.toList.take r.es.length, ⟨?_, .inr ⟨b', cap, arr, rfl, (hi.own_lt b' id a1).1, by rw [← hty]; exact a5, g1, g2, by rw [a6, h3, hk], by rw [Nat.mul_one]⟩⟩, fun b'' hb'' => ?_, by rw [h1]; rfl⟩
      · rw [List.length_take, Array.length_toList, a6, hk, Nat.mul_one, Nat.mul_one]
        exact Nat.min_eq_left a3
      · rw [h1] at hb''; injection hb'' with hb''; subst hb''; exact ⟨arr, a5, rfl⟩
  obtain ⟨xs, hown, hxs, hblk⟩ := hown
  obtain ⟨v', w', hrun, hown', hgrow, hnil⟩ := Lib.run_append_own_string (P := P) w B0 t u ty e i ht hu f1 (hyz i f1) (by rw [f2, hy1]) (by rw [f3, hyb]) _ _ xs hown s (by unfold maxLen; omega) hb hB
  have hwhere := append_str_where B0 t u ty e i ht hu f1 (hyz i f1) (by rw [f2, hy1]) (by rw [f3, hyb]) _ _ xs hown s hs (by unfold maxLen; omega) hb hrun
  rcases hown'.2 with ⟨_, h0⟩ | ⟨g, cap', cur', rfl, hBg, hg', hnc, hcm, hcs, htake⟩
  · omega
  · have hgc : σ.cur id = some g ∨ (w.heap.size ≤ g ∧ B0 ≤ g) := by
      rcases hwhere with h | h
      · rw [hblk] at h; exact .inl h.symm
      · simp only [Value.ownBlock, Option.some.injEq] at h; exact .inr ⟨by omega, hBg⟩
    have hlen' : (r.es ++ strE s).length = r.es.length + s.size := by simp [hlS]
    have hxl : xs.length = r.es.length := by simpa using hown.1
    have hcg : ∀ m, m < r.es.length + s.size → cur'[m]? = (xs ++ Lib.strCells s)[m]? := by
      intro m hm'
      rw [← htake, List.getElem?_take, if_pos (by omega), Array.getElem?_toList]
    have hres := hi.renew (w' := w') (r' := { r with es := r.es ++ strE s, lo := r.es.length + s.size }) (g := g) (cap := cap') (arr := cur') hH rfl hf hf hgc (by rw [hty]; exact hg') hgrow.size
      (fun k' hk' hc' hne => hgrow.block k' hk' (by rw [hblk]; exact fun e => hc' e.symm)) (.inl ⟨by rw [hlen']; omega, by rw [hlen']⟩) (by rw [hlen']; exact hnc) hcm (by rw [hcs, hk])
      (fun e' he' => by
        rcases List.mem_append.1 he' with he' | he'
        · exact hR.each e' he'
        · unfold strE at he'
          obtain ⟨b, _, rfl⟩ := List.mem_map.1 he'
          rw [hk]; exact ⟨rfl, by simp [AV.cell, Value.oneCell']⟩)
      (fun m hm' => by
        rw [hlen'] at hm'
        simp only [hk, Nat.mul_one]
        by_cases hlt : m < r.es.length
        · rw [List.getElem_append_left hlt]
          have hne : σ.cur id ≠ none := fun hc => by have := hR.empty hc; rw [this] at hlt; simp at hlt
          obtain ⟨b', hb'⟩ := Option.ne_none_iff_exists'.1 hne
          obtain ⟨arr, a5, hxa⟩ := hxs b' hb'
          refine RepL.congr (fun q hq => ?_) (hR.con b' hb' m hlt)
          rw [(hR.each _ (List.getElem_mem hlt)).1, hk] at hq
          have hq0 : q = 0 := by omega
          subst hq0
          rw [hcg _ (by omega), List.getElem?_append_left (by omega), hxa, List.getElem?_take, if_pos (by omega), Array.getElem?_toList, hk, Nat.mul_one]
          exact cell_of_row w b' _ arr r.ty (0, 0) a5
        · rw [List.getElem_append_right (by omega)]
          have hms : m - r.es.length < s.data.toList.length := by rw [← hlS] at hm'; unfold strE at hm'; rw [List.length_map] at hm'; omega
          have he : (strE s)[m - r.es.length]'(by rw [hlS]; omega) = [AV.v (.int .u8 (s.data.toList[m - r.es.length]).toNat)] := by unfold strE; simp
          rw [he]
          simp only [RepL, Nat.add_zero, and_true]
          refine ⟨_, ?_, rfl⟩
          rw [hcg _ hm', List.getElem?_append_right (by omega), hxl]
          unfold Lib.strCells
          rw [List.getElem?_map, List.getElem?_eq_getElem hms]; rfl)
    refine ⟨_, w', _, hrun, ⟨hgrow.os, hgrow.tape, hgrow.output, hgrow.size, fun k' hk' => hgrow.block k' (by omega) (fun e => ?_)⟩, hres.1, hres.2, ?_⟩
    · rw [hblk] at e
      have := (hi.own_lt k' id (hR.cur k' e.symm).1).1; omega
    · simp only [Rep]
      rw [hlen']
      refine ⟨hres.1.al id hal, some ⟨g, 0, none⟩, cap', rfl, hnc, hcm, fun _ => ⟨g, by simp, by simp [Sg.renew], by simp [Sg.renew]⟩, fun _ _ => .inr ⟨g, by simp [Sg.renew], rfl, by simp [Sg.renew]⟩⟩
end
section
variable {C : Cx} {N : Nat} {Q : Exit → St → Prop} {s : St} {ops : Array Oper} {rest : List Oper} {o : Oper}
theorem AWL.pureOp (hg : o.guard = none) {d : Nat} (hd : o.dst = some d) (hN : d < N) {r : AV}
    (h : ∀ (S0 : Fr) (w0 : World) (a : Act) (w : World) (σ : Sg), SimG S0 w0 N a w s σ → ∃ v, (execOp a.eval o).run C.P w = .ok (.value v) w ∧ Rep σ w r v) (k : AWL C N ops Q rest (s.put d r none)) (hnd : ∀ c, o.op ≠ .defer c := by intro c e; cases e) : AWL C N ops Q (o :: rest) s := by
  rintro S0 w0 a w hE ⟨σ, hσ⟩
  obtain ⟨v, h1, h5⟩ := h S0 w0 a w σ hσ
  refine wpListIn_plain hg fun K hK => Oper.wpIn_of_wp C.hF hnd ?_
  simp only [Oper.wp, Oper.upon, h1]
  rw [hd]
  exact hK _ _ (k S0 w0 _ w hE ⟨σ, hσ.put hN (s' := s.put d r none) hσ.inv hσ.nx (hσ.inv.le_heap (fun _ _ => rfl)) (Below.refl _ _) h5 rfl⟩)
theorem AWL.appendS (hC : C.OK) (hg : o.guard = none) {d : Nat} (hd : o.dst = some d) (hN : d < N) {x1 x2 : Operand} {t u : TypeId} (ho : o.op = .call { callee := .builtin .append, args := #[x1, x2], argTypes := #[t, u] })
    {e : TypeId} {ty y yu : Ty} (ht : C.T t = some ty) (hte : ty.d = .slice e) (hu : C.T u = some yu) (hud : yu.d = .str) (hy : C.T e = some y) (hy1 : y.size = 1) (hyb : y.bytes = 1) (hyz : ∀ i, C.P.info? e = some i → i.zero = some (.int .u8 0))
    {id nx : Nat} {r : Row} (hdst : dstA s s.nx (s.ev x1) y e = some (id, r, nx)) {b : ByteArray} (hx2 : s.ev x2 = .v (.string b)) (hb0 : 0 < b.size) (hb : r.es.length + b.size ≤ 140737488355328)
    (k : AWL C N ops Q rest { tm := upd s.tm d (.ref id 0 (r.es.length + b.size)), H := updH s.H id (.row { r with es := r.es ++ strE b, lo := r.es.length + b.size }), nx := nx }) : AWL C N ops Q (o :: rest) s := by
  rintro S0 w0 a w hE ⟨σ, hσ⟩
  have hd1 := hσ.ev x1
  have hstep1 : ∃ σ1 H1, Le σ σ1 w w ∧ Inv w0.heap.size S0 w H1 σ1 ∧ (∀ i, i ≠ id → H1 i = s.H i) ∧ (H1 id = some (.row r)) ∧ Rep σ1 w (.ref id 0 r.es.length) (a.eval x1) ∧ r.fro = false ∧ r.k = y.size ∧ r.ty = e ∧ (∀ i, nx ≤ i → H1 i = none) := by
    unfold dstA at hdst
    split at hdst
    · rename_i hx
      injection hdst with hdst
      simp only [Prod.mk.injEq] at hdst
      obtain ⟨rfl, rfl, rfl⟩ := hdst
      rw [hx] at hd1
      simp only [Rep] at hd1
      have had := hσ.inv.adopt (hσ.nx s.nx (Nat.le_refl _)) { k := y.size, es := [], ty := e } rfl rfl rfl
      refine ⟨_, _, had.1, had.2, fun i hi => by simp only [updH]; rw [if_neg hi], by simp [updH], ?_, rfl, rfl, rfl, fun i hi => ?_⟩
      · rw [hd1]
        simp only [Rep]
        exact ⟨.inl rfl, none, 0, rfl, Nat.le_refl _, by simp [maxLen], fun h => absurd rfl h, fun _ _ => .inl ⟨by simp [Sg.adopt], rfl, rfl, rfl⟩⟩
      · simp only [updH]; rw [if_neg (by omega)]; exact hσ.nx i (by omega)
    · rename_i id' n hx
      split at hdst
      · rename_i r' hrow
        split at hdst
        · rename_i hc
          obtain ⟨c1, c2, c3, c4⟩ := hc
          injection hdst with hdst
          simp only [Prod.mk.injEq] at hdst
          obtain ⟨rfl, rfl, rfl⟩ := hdst
          rw [hx, c1] at hd1
          exact ⟨σ, s.H, hσ.inv.le_heap (fun _ _ => rfl), hσ.inv, fun _ _ => rfl, rowAt_eq hrow, hd1, c2, c3, c4, hσ.nx⟩
        · cases hdst
      · cases hdst
    · cases hdst
  obtain ⟨σ1, H1, l1, i1, ho1, hH1, hr1, hf1, hk1, hty1, hnx1⟩ := hstep1
  have hxv := hσ.ev x2
  rw [hx2] at hxv
  simp only [Rep] at hxv
  obtain ⟨v, w', σ', hrun, hb', hle', hinv', hrep'⟩ := append_coreS (T := C.T) (ty := o.type) (u := u) hC.T i1 hσ.size hH1 hf1 ((hC.T t _ ht).slice hte) ((hC.T u _ hu).str hud) hy hy1 hyb hyz (hk1.trans hy1) hty1 hr1 b hb0 hb
  refine wpListIn_plain hg fun K hK => Oper.wpIn_of_wp C.hF (fun c e => by rw [ho] at e; cases e) ?_
  have hexec : (execOp a.eval o).run C.P w = .ok (.value v) w' := by
    simp only [execOp, ho, resolve, invoke, builtin, Sem.run_bind, Sem.run_pure, Result.andThen_ok, List.map_toArray, List.map_cons, List.map_nil, hxv, hrun]
  simp only [Oper.wp, hexec, Oper.upon]
  rw [hd]
  refine hK _ _ (k S0 w0 _ w' hE ⟨σ', ?_⟩)
  refine hσ.put hN (s' := { tm := upd s.tm d (.ref id 0 (r.es.length + b.size)), H := updH s.H id (.row { r with es := r.es ++ strE b, lo := r.es.length + b.size }), nx := nx }) ?_ (fun i hi => ?_) (l1.trans hle') hb' hrep' rfl
  · have : updH s.H id (.row { r with es := r.es ++ strE b, lo := r.es.length + b.size }) = updH H1 id (.row { r with es := r.es ++ strE b, lo := r.es.length + b.size }) := by
      funext i
      simp only [updH]
      split
      · rfl
      · rename_i hne; exact (ho1 i hne).symm
    show Inv w0.heap.size S0 w' (updH s.H id (.row { r with es := r.es ++ strE b, lo := r.es.length + b.size })) σ'
    rw [this]; exact hinv'
  · show updH s.H id _ i = none
    have hii : H1 i = none := hnx1 i hi
    have hne : i ≠ id := fun e => by subst e; rw [hH1] at hii; cases hii
    simp only [updH]; rw [if_neg hne, ← ho1 i hne]; exact hii
theorem AWL.freeze {t : Nat} {v : AV} (hv : viewA s.H (s.tm t) = some v) (k : AWL C N ops Q rest { tm := upd s.tm t v, H := frz' s.H (idsA (s.tm t)), nx := s.nx }) : AWL C N ops Q rest s := by
  rintro S0 w0 a w hE ⟨σ, hσ⟩
  have hrows := idsA_row _ _ hv
  have hinv := hσ.inv.frz hrows
  have hle := hσ.inv.le_frz (idsA (s.tm t))
  have hinv' : Inv w0.heap.size S0 w (frz' s.H (idsA (s.tm t))) (σ.frz (idsA (s.tm t))) := by
    unfold frz'
    split
    · rename_i he
      have h0 : idsA (s.tm t) = [] := by simpa using he
      have e1 : σ.frz (idsA (s.tm t)) = σ := by
        rw [h0]
        unfold Sg.frz
        congr 1
        funext b; simp
      rw [e1]; exact hσ.inv
    · exact hinv
  refine k S0 w0 a w hE ⟨σ.frz (idsA (s.tm t)), hinv', fun id hid => ?_, fun u => ?_, hσ.N, hσ.d, hσ.below⟩
  · have h0 := hσ.nx id hid
    show frz' s.H _ id = none
    unfold frz'
    split
    · exact h0
    · unfold frz; split
      · rw [h0]
      · exact h0
  · show Rep _ w (upd s.tm t v u) _
    unfold upd
    split
    · rename_i he
      subst he
      exact Rep.lift (viewA_sound hσ.inv (S' := (σ.frz (idsA (s.tm u))).S) (fun b h => .inl h) _ _ _ hv (fun id hid b hb => .inr ⟨id, hid, hb⟩) (hσ.tm u))
    · exact Rep.mono hle _ _ (hσ.tm u)
variable {op : Op} {ty : TypeId} {ps : String} {af : Array Edge} {d j t : Nat} {want bb : Bool} {H0 : Nat → Option AO} {b : Nat} {tg mk av : List Nat} {Fin : St → Prop} {i : Nat}
theorem D.callvt (hC : C.OK) (hN : d < N) (hi : i ∈ tg) {fo : Operand} {args : Array Operand} {tys : Array TypeId} {f : FuncId} {caps vs : List AV} {R : AV} (hf : s.ev fo = .clo f caps) (hv : viewL s.H (evsA args.toList s.ev ++ caps) = some vs) (hok : OKv C f vs R)
    (hfl : (flatA R || (idsL (evsA args.toList s.ev ++ caps)).isEmpty) = true) (k : DW C N ops H0 b tg mk av Fin (i + 1) rest (s.put d R none)) :
    DW C N ops H0 b tg mk av Fin i (⟨some d, .call { callee := .value fo, args := args, argTypes := tys }, ty, ps, af, none⟩ :: rest) s := by
  refine ⟨R, s.put d R none, rfl, ?_, k⟩
  rw [if_pos hi]
  refine ⟨fun s' h1 h2 ht => ?_, .inr fun id x _ hx => hx⟩
  have hev := ev_congr ht
  have e1 : s'.ev fo = .clo f caps := by rw [hev fo (by simp [Op.operands, Call.operands])]; exact hf
  have e2 : evsA args.toList s'.ev = evsA args.toList s.ev := evsA_congr (fun x hx => hev x (by simp only [Op.operands, Call.operands, Array.mem_append]; exact .inr (by simpa using hx)))
  refine one_of_AWL (W.callv (R := R) hC hN e1 (by rw [e2, h1]; exact hv) hok (AWL.nil ⟨rfl, ?_⟩))
  rw [e2]
  unfold St.back
  have : afterH s'.H (idsL (evsA args.toList s.ev ++ caps)) R = s'.H := by
    cases hq : flatA R <;> simp_all [afterH]
  rw [this, h1, h2]; rfl
theorem W.retX {rs : List ResultVar} {Qx : AV → (Nat → Option AO) → Nat → Prop} {vs : List AV} (h1 : resVs C.T s rs = some vs) (hq : Qx (bundle vs) s.H s.nx) : endM C rs Qx .ret s := ⟨vs, h1, hq⟩
theorem W.endX {rs : List ResultVar} {Qx : AV → (Nat → Option AO) → Nat → Prop} {vs : List AV} (h1 : resVs C.T s rs = some vs) (hq : Qx (bundle vs) s.H s.nx) : endM C rs Qx .normal s := ⟨vs, h1, hq⟩
def AWs (C : Cx) (N : Nat) (c : Code) (Q : Exit → St → Prop) (s : St) : Prop :=
  ∀ (S : Nat → Prop) w0 a w, C.E w0 → Sim (Fr.of S) w0 N a w s → c.wpIn C.F 0 C.P (fun e a' w' => ∃ s', Sim (Fr.of S) w0 N a' w' s' ∧ Q e s') a w
theorem thenQ_n {K : St → Prop} (h : K s) : thenQ K Q .normal s := h
theorem AWs.of {c : Code} (h : AW C N c Q s) : AWs C N c Q s := fun S w0 a w hE hs => h (Fr.of S) w0 a w hE hs
theorem AWs.seq {x y : Code} (h : AW C N x (thenQ (AWs C N y Q) Q) s) : AWs C N (.seq x y) Q s := by
  intro S w0 a w hE hs
  refine wpIn_seq (wpIn_mono (h (Fr.of S) w0 a w hE hs) ?_)
  rintro e a' w' ⟨s', h1, h3⟩
  cases e <;> simp only [thenQ, Exit.then] at h3 ⊢
  · exact h3 S w0 a' w' hE h1
  all_goals exact ⟨s', h1, h3⟩
theorem AWs.last {id d : Nat} {fo : Operand} {args : Array Operand} {tys : Array TypeId} {ty : TypeId} {ps : String} {af : Array Edge} {l : List Oper} (hN : d < N) {f : FuncId} (hf : s.ev fo = .clo f []) (hent : Enters C.P f) {r : AV}
    (hcall : ∀ (S0 : Fr) (w0 w : World) (σ : Sg) (vals : Array Value), C.E w0 → Inv w0.heap.size S0 w s.H σ → Below w0.heap.size w0 w → vals.size = (evsA args.toList s.ev).length → RepL σ w (evsA args.toList s.ev) (fun i => vals[i]?) →
      Calls C.P f vals w fun e w' => Below w0.heap.size w0 w' ∧ ∃ v, e = .returned v ∧ Rep (pureSg fun _ => False) w' r v)
    (k : AWL C N ((⟨some d, .call { callee := .value fo, args := args, argTypes := tys }, ty, ps, af, none⟩ : Oper) :: l).toArray (thenQ (AW C N .ret Q) Q) l { tm := upd (fun _ => .junk) d r, H := fun _ => none, nx := 0 }) :
    AWs C N (.seq (.region id ((⟨some d, .call { callee := .value fo, args := args, argTypes := tys }, ty, ps, af, none⟩ : Oper) :: l).toArray false) .ret) Q s := by
  rintro S w0 a w hE ⟨σ, hσ⟩
  obtain ⟨fn, hfn, hname, hbody⟩ := hent
  have hfo := hσ.ev fo
  rw [hf] at hfo
  simp only [Rep] at hfo
  obtain ⟨ca, hca, hcs, _⟩ := hfo
  have hca0 : ca = #[] := Array.eq_empty_of_size_eq_zero (by simpa using hcs)
  subst hca0
  have hc := hcall (Fr.of S) w0 w σ (args.map a.eval) hE hσ.inv hσ.below (by simp [evsA_map]) (repL_evs (fun x => hσ.ev x) args)
  refine wpIn_seq ?_
  have hreg : (Code.region id ((⟨some d, .call { callee := .value fo, args := args, argTypes := tys }, ty, ps, af, none⟩ : Oper) :: l).toArray false).wpIn C.F 0 C.P (fun e a' w' => ∃ s', Sim (Fr.of S) w0 N a' w' s' ∧ (thenQ (AW C N .ret Q) Q) e s') a w := by
    refine wpIn_region_lit ?_
    refine wpListIn_plain rfl fun K hK => Oper.wpIn_of_wp C.hF (fun c e => by cases e) ?_
    have hexec : (execOp a.eval ⟨some d, .call { callee := .value fo, args := args, argTypes := tys }, ty, ps, af, none⟩).run C.P w = .ok (.enter f (args.map a.eval)) w := by
      have hb : (fn.name == "runtime.NumGoroutine") ≠ true := by simp [hname]
      simp only [execOp, resolve, hca, Deferred.ofValue, Sem.run_bind, Sem.run_pure, Result.andThen_ok, invoke, callFunc, run_program, hfn, if_neg hb, hbody, Bool.false_eq_true, if_false]
      simp
    simp only [Oper.wp, hexec, Oper.upon]
    refine hc.mono ?_
    rintro e w' ⟨hb, v, rfl, hr⟩
    dsimp only
    refine hK _ _ (k (Fr.of S) w0 _ w' hE ⟨pureSg fun _ => False, ⟨fun i => by simp [pureSg], fun i _ => ⟨rfl, fun b h => by simp [pureSg] at h⟩, fun b h => h.elim, fun b i h => by simp [pureSg] at h, fun i r h => (by cases h), fun i kt et es h => (by cases h), trivial⟩, fun _ _ => rfl, fun t => ?_, by simp [Act.put, hσ.N], hσ.d, hb⟩)
    simp only [Act.put]
    rw [getD_set _ _ _ _ (by rw [hσ.N]; exact hN)]
    show Rep _ w' (upd (fun _ => .junk) d r t) _
    unfold upd
    split
    · exact hr
    · trivial
  refine wpIn_mono hreg ?_
  rintro e a' w' ⟨s', h1, h3⟩
  cases e <;> simp only [thenQ, Exit.then] at h3 ⊢
  · exact h3 (Fr.of S) w0 a' w' hE h1
  all_goals exact ⟨s', h1, h3⟩
theorem OKat.of_bodyS [hW : C.Wide] {Qr : AV → Prop} {f : FuncId} {fn : Func} {c : Code} {args : List AV} {rs : List Nat} (hf : C.P.funcs[f]? = some fn) (hb : fn.body = some c) (hn : (fn.name == "runtime.NumGoroutine") = false) (hr : fn.results = (rs.map ResultVar.tmp).toArray)
    (hN : args.length ≤ fn.ntmps) (h : AWs C fn.ntmps c (endQ rs Qr) (startSt args)) : OKat C f args Qr := by
  refine ⟨⟨fn, hf, hn, by rw [hb]; rfl⟩, fun w S vals hE hS hsz hrep => ?_⟩
  have hbig : AW { C with E := fun w' => w' = w } fn.ntmps c (endQ rs Qr) (startSt args) → True := fun _ => trivial
  refine calls_of_wp hf hb ?_
  have hs := start_sim (N := fn.ntmps) hS hsz hrep hN
  have h2 := h S w _ w hE hs
  rw [hW.h] at h2
  refine wp_mono (wpIn_wide.1 h2) ?_
  have fin : ∀ a' w' s', Sim (Fr.of S) w fn.ntmps a' w' s' → (∃ r', viewA s'.H (match rs with | [t] => s'.tm t | ts => .tup (ts.map s'.tm)) = some r' ∧ Qr r') →
      a'.defers = [] ∧ ∃ v, (results fn a'.tmps).run C.P w' = .ok v w' ∧ (Below w.heap.size w w' ∧ ∃ v2 r, Ending.returned v = .returned v2 ∧ Qr r ∧ Rep (pureSg fun b => S b ∨ (w.heap.size ≤ b ∧ b < w'.heap.size)) w' r v2) := by
    rintro a' w' s' ⟨σ, hσ⟩ ⟨r', hv, hq⟩
    have hview : ∀ (c : AV) (u : Value), viewA s'.H c = some r' → Rep σ w' c u → Rep (pureSg fun b => S b ∨ (w.heap.size ≤ b ∧ b < w'.heap.size)) w' r' u := by
      intro c u hc hu
      refine viewA_sound hσ.inv (fun b hb => ?_) c u r' hc (fun id _ b hb => .inr (hσ.inv.own_lt b id hb)) hu
      have := hσ.inv.S_lt b hb
      rcases this.2 with h | h
      · exact .inl h
      · exact .inr ⟨h, this.1⟩
    refine ⟨hσ.d, ?_⟩
    by_cases hl : ∃ t, rs = [t]
    · obtain ⟨t, rfl⟩ := hl
      exact ⟨_, results_tmp (by simpa using hr) _ _ _, hσ.below, _, r', rfl, hq, hview _ _ hv (hσ.tm t)⟩
    · have hne : rs.length ≠ 1 := fun h => by
        match rs, h with
        | [t], _ => exact hl ⟨t, rfl⟩
      refine ⟨_, results_tmps hr hne _ _ _, hσ.below, _, r', rfl, hq, ?_⟩
      have hm : (match rs with | [t] => s'.tm t | ts => AV.tup (ts.map s'.tm)) = .tup (rs.map s'.tm) := by
        match rs, hl with
        | [], _ => rfl
        | [t], h => exact absurd ⟨t, rfl⟩ h
        | _ :: _ :: _, _ => rfl
      rw [hm] at hv
      refine hview _ _ hv ?_
      simp only [Rep]
      refine ⟨_, rfl, by simp, ?_⟩
      rw [repL_iff']
      intro i c hc
      simp only [List.getElem?_map, Option.map_eq_some_iff] at hc
      obtain ⟨t, ht, rfl⟩ := hc
      exact ⟨a'.tmps.getD t undef, by simp [ht], hσ.tm t⟩
  rintro e a' w' ⟨s', hs', hq⟩
  cases e with
  | normal => exact fin a' w' s' hs' hq
  | ret => exact fin a' w' s' hs' hq
  | exit id => exact hq.elim
  | goto l => exact hq.elim
  | panic c => exact hq.elim
  | outgrown => exact hq.elim
end
end Go.Pg

namespace Go.Pg
open Go Go.RowKit
section
variable {C : Cx} {N : Nat} {Q : Exit → St → Prop} {s : St} {ops : Array Oper} {rest : List Oper}
variable {ty : TypeId} {ps : String} {af : Array Edge} {d : Nat} {H0 : Nat → Option AO} {b : Nat} {tg mk av : List Nat} {Fin : St → Prop} {i : Nat}
theorem D.appendN (hC : C.OK) (hN : d < N) (hi : i ∉ tg ∧ i ∉ mk) {x1 x2 : Operand} {t e : TypeId} {tt y : Ty} (ht : C.T t = some tt) (hte : tt.d = .slice e) (hy : C.T e = some y) (hk0 : 0 < y.size)
    (hx1 : s.ev x1 = .v (.slice none 0 0)) {es news : List (List AV)} (hsrc : srcA H0 (s.ev x2) = some es) (hv : viewLL H0 es = some news) (hlen : ∀ e ∈ es, e.length = y.size) (hid : idsLL es = [])
    (hb : es.length * y.bytes ≤ 140737488355328) (hm : es.length ≤ 140737488355328) (hH : H0 (b + i) = none) (hn : b + i < s.nx)
    (k : DW C N ops H0 b tg mk av Fin (i + 1) rest { tm := upd s.tm d (.ref (b + i) 0 es.length), H := updH s.H (b + i) (.row { k := y.size, es := news, ty := e, lo := if news.isEmpty then 0 else es.length }), nx := s.nx }) :
    DW C N ops H0 b tg mk av Fin i (⟨some d, .call { callee := .builtin .append, args := #[x1, x2], argTypes := #[t, t] }, ty, ps, af, none⟩ :: rest) s := by
  refine ⟨.ref (b + i) 0 es.length, { tm := upd s.tm d (.ref (b + i) 0 es.length), H := updH s.H (b + i) (.row { k := y.size, es := news, ty := e, lo := if news.isEmpty then 0 else es.length }), nx := s.nx }, rfl, ?_, k⟩
  rw [if_neg hi.1, if_neg hi.2]
  refine ⟨some { k := y.size, es := news, ty := e, lo := if news.isEmpty then 0 else es.length }, rfl, rfl, .inr ⟨hi.2, hH, hn⟩, fun s' hx hk ht' => ?_⟩
  rcases hk with hk | ⟨hk1, hk2⟩
  · cases hk
  · have hev := ev_congr ht'
    have e1 : s'.ev x1 = .v (.slice none 0 0) := by rw [hev x1 (by simp [Op.operands, Call.operands])]; exact hx1
    have e2 : s'.ev x2 = s.ev x2 := hev x2 (by simp [Op.operands, Call.operands])
    refine one_of_AWL (AWL.append (key := b + i) (id := b + i) (nx := s'.nx) (r := { k := y.size, es := [], ty := e }) (es := es) (news := news) hC rfl rfl hN rfl ht hte hy hk0 (.inr hk1) ?_ (by rw [e2]; exact srcA_mono hx hsrc) hlen (viewLL_mono hx _ _ hv)
      (by rw [hid]; simp) (by simpa using hb) (by simpa using hm) (AWL.nil ⟨rfl, ?_⟩))
    · have hmx : max s'.nx (b + i + 1) = s'.nx := by omega
      simp [dstA, e1, hmx]
    · have : frz' s'.H (idsLL es) = s'.H := by rw [hid]; rfl
      rw [this]
      simp [appRow, updO, putH]
end
theorem INTS : ((!true) = false ∧ (!false) = true ∧ (∀ b : Bool, ((!b) = true) = (b = false)) ∧ (∀ b : Bool, ((!b) = false) = (b = true)) ∧ (∀ (p : Prop) [Decidable p], (decide p = true) = p) ∧ (∀ (p : Prop) [Decidable p], (decide p = false) = ¬ p)) ∧
    ((∀ a b : Bool, ((a && b) = true) = (a = true ∧ b = true)) ∧ (∀ a b : Bool, ((a && b) = false) = (a = false ∨ b = false)) ∧ (∀ a b : Bool, ((a || b) = true) = (a = true ∨ b = true)) ∧ (∀ a b : Bool, ((a || b) = false) = (a = false ∧ b = false))) ∧
    ((∀ a b : Int, (¬ a < b) = (b ≤ a)) ∧ (∀ a b : Int, (¬ a ≤ b) = (b < a)) ∧ (∀ (α : Type) [BEq α] [LawfulBEq α] (a b : α), ((a == b) = true) = (a = b)) ∧ (∀ (α : Type) [BEq α] [LawfulBEq α] (a b : α), ((a == b) = false) = (a ≠ b)) ∧
      (∀ (α : Type) [BEq α] [LawfulBEq α] (a b : α), ((a != b) = true) = (a ≠ b)) ∧ (∀ (α : Type) [BEq α] [LawfulBEq α] (a b : α), ((a != b) = false) = (a = b)) ∧ (∀ (α : Type) (a b : α), (a ≠ b) = ¬ (a = b)) ∧ (∀ (p : Prop) [Decidable p], (¬ ¬ p) = p)) := by
  refine ⟨⟨rfl, rfl, ?_, ?_, ?_, ?_⟩, ⟨?_, ?_, ?_, ?_⟩, ⟨?_, ?_, ?_, ?_, ?_, ?_, ?_, ?_⟩⟩ <;> intros <;> first | (simp [Int.not_lt, Int.not_le]; done) | (rename_i a b; cases a <;> cases b <;> simp)
attribute [push_cast] EVS LST stepA binA intBinA strBinA unA convA loadA rdPtr partA TyD.isAgg fieldAddrA fieldA offA extractA lenA minA cellsA Value.oneCell' builtA fillA fillE listA evsA spliceL normC sliceA boundA indexAddrA indexA storeA appRow view_ref view_ptr pureL pureA
attribute [push_cast] nxL nxR nxC nxA if_true if_false Bool.false_eq_true Bool.not_true Bool.not_false Bool.and_true Bool.true_and Bool.and_self Option.isSome_some Option.getD_some Nat.zero_add Nat.add_zero Nat.lt_irrefl Nat.le_refl and_self and_true true_and List.replicate_one List.replicate_zero List.replicate_succ
attribute [push_cast] dstA srcA viewLL_nil viewLL_cons idsLL_nil idsLL_cons lookupA keyA shA makeMapA Key.sh Key.same mapUpdA findM putM updH_at rowAt_updM resVs resV bundle
attribute [push_cast] List.length_map Int.natCast_nonneg Int.toNat_natCast decide_true decide_false ne_eq eq_self not_false_eq_true not_true_eq_false Bool.cond_true Bool.cond_false
end Go.Pg

namespace Go.Proofs.Hz
open Go Go.Pg Go.Proofs
def Tabs (w : World) : Prop := Lib.TabIs Tryz.prog w "internal/strconv.uint64pow10" .u64 Lib.pow10Tab
theorem Tabs.mono {w w' : World} (hb : RowKit.Below w.heap.size w w') (h : Tabs w) : Tabs w' := by
  unfold Tabs Lib.TabIs World.var? at h ⊢
  cases hg : Tryz.prog.globalNamed "internal/strconv.uint64pow10" with
  | none => rw [hg] at h; cases h
  | some g =>
    rw [hg] at h
    simp only [Option.bind_some] at h ⊢
    have hlt : g < w.heap.size := by
      rcases Nat.lt_or_ge g w.heap.size with h' | h'
      · exact h'
      · rw [Array.getElem?_eq_none h'] at h; cases h
    rw [hb.block g hlt]; exact h
structure Env (w : World) : Prop where
  tabs : Tabs w
  max : ∃ m, w.cell? ⟨1, 0, none⟩ = some (.int .i64 m)
  syn : ∃ te pe, w.cell? ⟨2, 0, none⟩ = some (.iface te pe)
  rng : ∃ te pe, w.cell? ⟨3, 0, none⟩ = some (.iface te pe)
theorem cell_below {w w' : World} (hb : RowKit.Below w.heap.size w w') {g : Nat} {x : Value} (h : w.cell? ⟨g, 0, none⟩ = some x) : w'.cell? ⟨g, 0, none⟩ = some x :=
  (hb.cell (show (⟨g, 0, none⟩ : Addr).block < w.heap.size from World.block_lt_of_cell? _ _ h)).trans h
theorem Env.mono {w w' : World} (hb : RowKit.Below w.heap.size w w') (h : Env w) : Env w' := by
  obtain ⟨h0, ⟨m, h1⟩, ⟨t, p, h2⟩, ⟨t', p', h3⟩⟩ := h
  exact ⟨h0.mono hb, ⟨m, cell_below hb h1⟩, ⟨t, p, cell_below hb h2⟩, ⟨t', p', cell_below hb h3⟩⟩
noncomputable def cx : Cx := { P := Tryz.prog, T := T, eqT := eqT, E := Env }
instance : Cx.Wide cx := ⟨rfl⟩
theorem cx_ok : cx.OK := ⟨T_ok, eqT_ok, fun _ _ hb h => h.mono hb⟩
theorem cx_mixed : cx.P.follows .mixedOrders = true := rfl
abbrev ai (n : Int) : AV := .v (.int .i64 n)
abbrev ab (b : Bool) : AV := .v (.bool b)
abbrev at_ (b : ByteArray) : AV := .v (.string b)
structure Span where
  lo : Int
  hi : Int
  deriving DecidableEq
structure Room where
  name : ByteArray
  floor : Int
structure Door where
  hours : List Span
  shut : List Span
  deriving DecidableEq
structure Way where
  a : Int
  b : Int
  secs : Int
  back : Int
  door : Int
  deriving DecidableEq
structure House where
  rooms : List Room
  doors : List Door
  ways : List Way
structure Step where
  way : Int
  back : Bool
  at' : Int
  deriving DecidableEq
abbrev eSpan (s : Span) : List AV := [ai s.lo, ai s.hi]
abbrev lSpan (l : List Span) : AV := .lst (l.map eSpan)
abbrev eRoom (r : Room) : List AV := [at_ r.name, ai r.floor]
abbrev eDoor (d : Door) : List AV := [lSpan d.hours, lSpan d.shut]
abbrev eWay (w : Way) : List AV := [ai w.a, ai w.b, ai w.secs, ai w.back, ai w.door]
abbrev eHouse (h : House) : List AV := [.lst (h.rooms.map eRoom), .lst (h.doors.map eDoor), .lst (h.ways.map eWay)]
abbrev eStep (s : Step) : List AV := [ai s.way, ab s.back, ai s.at']
abbrev eInt (n : Int) : List AV := [ai n]
abbrev lInt (l : List Int) : AV := .lst (l.map eInt)
theorem wrapN {n : Int} (h : -9223372036854775808 ≤ n ∧ n < 9223372036854775808) : IntKind.wrap .i64 n = n := by
  have e : IntKind.wrap .i64 n = if n % 18446744073709551616 ≥ 9223372036854775808 then n % 18446744073709551616 - 18446744073709551616 else n % 18446744073709551616 := by
    simp [IntKind.wrap, IntKind.signed, IntKind.bits]
  rw [e]; split <;> omega
theorem tdivN {a b : Int} (h : 0 ≤ a) : a.tdiv b = a / b := Int.tdiv_eq_ediv_of_nonneg h
theorem tmodN {a b : Int} (h : 0 ≤ a) : a.tmod b = a % b := Int.tmod_eq_emod_of_nonneg h
theorem maxN {a b : Int} : (if b > a then b else a) = max a b := by rw [Int.max_def]; split <;> split <;> omega
theorem minN {a b : Int} : (if b < a then b else a) = min a b := by rw [Int.min_def]; split <;> split <;> omega
structure Door.OK (d : Door) : Prop where
  hours : ∀ s ∈ d.hours, 0 ≤ s.lo ∧ s.lo ≤ s.hi ∧ s.hi ≤ 86399
  shut : ∀ s ∈ d.shut, 0 ≤ s.lo ∧ s.lo ≤ s.hi ∧ s.hi ≤ 1073741823
  nh : d.hours.length ≤ 8
  ns : d.shut.length ≤ 8
theorem drop_cons {α β : Type} {l : List α} {k : Nat} {x : α} {rest : List α} (h : l.drop k = x :: rest) (e : α → β) (d : β) :
    ((k : Int) < (l.length : Int)) ∧ (l.map e).getD k d = e x ∧ l.drop (k + 1) = rest ∧ rest.length + k + 1 = l.length ∧ x ∈ l ∧ (l.map e)[k]? = some (e x) := by
  have hlt : k < l.length := by
    rcases Nat.lt_or_ge k l.length with h' | h'
    · exact h'
    · rw [List.drop_eq_nil_of_le h'] at h; cases h
  have h0 : l[k]? = some x := by
    have := congrArg (fun m => m[0]?) h
    simpa using this
  refine ⟨by omega, ?_, ?_, ?_, List.mem_of_getElem? h0, by rw [List.getElem?_map, h0]; rfl⟩
  · rw [List.getD_eq_getElem?_getD, List.getElem?_map, h0]; rfl
  · have : l.drop (k + 1) = (l.drop k).drop 1 := by simp
    rw [this, h]; rfl
  · have := congrArg List.length h
    simp at this; omega
theorem drop_rev {α β : Type} {l : List α} {k : Nat} {x : α} {rest : List α} (h : l.reverse.drop k = x :: rest) (e : α → β) (d : β) :
    ((rest.length : Int) < (l.length : Int)) ∧ (l.map e).getD rest.length d = e x ∧ l.reverse.drop (k + 1) = rest ∧ rest.length + k + 1 = l.length ∧ x ∈ l := by
  obtain ⟨_, _, h3, h4, h5, h6⟩ := drop_cons h e d
  simp only [List.length_reverse] at h4
  refine ⟨by omega, ?_, h3, h4, by simpa using h5⟩
  have : (l.reverse.map e)[k]? = some (e x) := h6
  rw [List.getD_eq_getElem?_getD]
  have h7 : l.reverse[k]? = l[l.length - 1 - k]? := by rw [List.getElem?_reverse (by omega)]
  rw [List.getElem?_map, h7] at this
  rw [List.getElem?_map, show rest.length = l.length - 1 - k by omega, this]; rfl
theorem drop_nil {α : Type} {l : List α} {k : Nat} (h : l.drop k = []) : ¬ ((k : Int) < (l.length : Int)) := by
  have := List.drop_eq_nil_iff.1 h
  omega
attribute [push_cast] cx T eqT eSpan lSpan eRoom eDoor eWay eHouse eStep eInt lInt wrapN tdivN tmodN maxN minN
end Go.Proofs.Hz
