/-
  Contracts of functions, proved by going through their code. No conditions.
-/
import Derived.Test.YtbeiiipphicdlaaGreatDoorTae
set_option linter.unusedVariables false
set_option linter.unusedSimpArgs false
namespace Go.Pg
open Go Go.RowKit
section
variable {B0 : Nat} {S0 : Fr} {w w' : World} {H : Nat → Option AO} {σ : Sg}
def Sg.renew (σ : Sg) (g id n cap : Nat) : Sg :=
  { σ with own := fun x => if x = g then some id else σ.own x, ext := fun x => if x = g then n else σ.ext x, cur := fun i => if i = id then some g else σ.cur i, len := fun i => if i = id then n else σ.len i, cap := fun x => if x = g then cap else σ.cap x }
theorem Inv.renew (hi : Inv B0 S0 w H σ) {id : Nat} {r r' : Row} (hH : H id = some (.row r)) (hk : r'.k = r.k) (hf : r.fro = false) (hf' : r'.fro = false) {g cap : Nat} {arr : Array Value}
    (hg : σ.cur id = some g ∨ (w.heap.size ≤ g ∧ B0 ≤ g)) (hgw : w'.heap[g]? = some (.cells arr r'.ty (0, 0))) (hsz : w.heap.size ≤ w'.heap.size)
    (hother : ∀ k, k < w.heap.size → σ.cur id ≠ some k → k ≠ g → w'.heap[k]? = w.heap[k]?)
    (hgrow : (r.es.length < r'.es.length ∧ r'.lo = r'.es.length) ∨ (r'.es.length = r.es.length ∧ r'.lo = r.lo ∧ σ.cur id = some g ∧ σ.cap g = cap))
    (hcap : r'.es.length ≤ cap) (hmax : cap ≤ maxLen) (harr : arr.size = cap * r'.k) (each : ∀ e ∈ r'.es, e.length = r'.k ∧ ∀ c ∈ e, c.cell = true)
    (hcon : ∀ i (h : i < r'.es.length), RepL σ w r'.es[i] (fun j => arr[i * r'.k + j]?)) :
    Le σ (σ.renew g id r'.es.length cap) w w' ∧ Inv B0 S0 w' (updH H id (.row r')) (σ.renew g id r'.es.length cap) := by
  have hR := hi.row id r hH
  have hgS : ¬ σ.S g := by
    rcases hg with h | ⟨h, _⟩
    · exact (hR.own g (hR.cur g h).1).2.2.2 hf
    · intro h'; have := (hi.S_lt g h').1; omega
  have hcS : ∀ k, σ.cur id = some k → ¬ σ.S k := fun k h => (hR.own k (hR.cur k h).1).2.2.2 hf
  have hgo : ∀ i, σ.own g = some i → i = id := fun i h => by
    rcases hg with h' | ⟨h', _⟩
    · have := (hR.cur g h').1; rw [this] at h; injection h with h; exact h.symm
    · have := (hi.own_lt g i h).2; omega
  have hgB : B0 ≤ g ∧ g < w'.heap.size := by
    refine ⟨?_, (Array.getElem?_eq_some_iff.1 hgw).1⟩
    rcases hg with h | ⟨_, h⟩
    · exact (hi.own_lt g id (hR.cur g h).1).1
    · exact h
  have hS' : ∀ k, σ.S k → w'.heap[k]? = w.heap[k]? := fun k h => hother k (hi.S_lt k h).1 (fun e => hcS k e h) (fun e => hgS (e ▸ h))
  have hal : σ.al id := by rw [hi.al, hH]; simp
  have hle : Le σ (σ.renew g id r'.es.length cap) w w' := by
    refine ⟨fun _ h => h, hS', fun b i h => ⟨hi.al_of_own h, ?_, rfl, ?_⟩, fun _ h => h, fun i ha => ?_⟩
    · simp only [Sg.renew]
      split
      · rename_i e; rw [hgo i (e ▸ h)]
      · exact h
    · simp only [Sg.renew]
      split
      · rename_i e; subst e
        have := hgo i h; subst this
        have := (hR.own b h).2.1
        rcases hgrow with ⟨h1, _⟩ | ⟨h1, _⟩ <;> omega
      · exact Nat.le_refl _
    · by_cases e : i = id
      · subst e
        rcases hgrow with ⟨h1, _⟩ | ⟨h1, _, h2, h3⟩
        · right
          refine ⟨by simp only [Sg.renew, if_true]; rw [hR.len]; exact h1, fun b hb => by rw [hR.len]; exact (hR.own b hb).2.1⟩
        · left
          refine ⟨by simp only [Sg.renew, if_true]; rw [hR.len, h1], by simp only [Sg.renew, if_true]; rw [h2], fun b hb => ?_⟩
          rw [h2] at hb; injection hb with hb; subst hb
          simp only [Sg.renew, if_true]; exact h3.symm
      · left
        refine ⟨by simp only [Sg.renew]; rw [if_neg e], by simp only [Sg.renew]; rw [if_neg e], fun b hb => ?_⟩
        have hbg : b ≠ g := by
          intro hbg; subst hbg
          cases ho : H i with
          | none => exact (hi.al i).1 ha ho
          | some o =>
            cases o with
            | row r2 => exact e (hgo i ((hi.row i r2 ho).cur b hb).1)
            | mp kt et es =>
              obtain ⟨b', _, _, a1, a2, _⟩ := (hi.mp i kt et es ho).cur
              rw [a1] at hb; injection hb with hb; subst hb
              exact e (hgo i a2)
        simp only [Sg.renew]; rw [if_neg hbg]
  refine ⟨hle, ?_⟩
  refine ⟨fun i => ?_, fun i hn => ?_, fun b h => ⟨Nat.lt_of_lt_of_le (hi.S_lt b h).1 hsz, (hi.S_lt b h).2⟩, fun b i h => ?_, fun i r2 h => ?_, fun i kt et es h => ?_, S0.mono _ _ _ _ hle hi.fr⟩
  · simp only [Sg.renew, updH]
    by_cases e : i = id
    · subst e; simp [hal]
    · simp [e, hi.al]
  · simp only [updH] at hn
    have e : i ≠ id := fun e => by simp [e] at hn
    rw [if_neg e] at hn
    obtain ⟨h1, h2⟩ := hi.fresh i hn
    refine ⟨by simp only [Sg.renew]; rw [if_neg e]; exact h1, fun b hb => ?_⟩
    simp only [Sg.renew] at hb
    split at hb
    · injection hb with hb; exact e hb.symm
    · exact h2 b hb
  · simp only [Sg.renew] at h
    split at h
    · subst b; exact hgB
    · have := hi.own_lt b i h; exact ⟨this.1, by omega⟩
  · simp only [updH] at h
    by_cases e : i = id
    · subst e
      rw [if_pos rfl] at h; injection h with h; injection h with h; subst h
      refine ⟨by simp [Sg.renew], by simp only [Sg.renew]; rw [hk]; exact hR.k, each, ?_, fun b hb => ?_, fun hc => by simp [Sg.renew] at hc, fun b hb => ?_, fun b hb j h1 => ?_⟩
      · rcases hgrow with ⟨_, h2⟩ | ⟨h1, h2, _⟩
        · omega
        · rw [h1, h2]; exact hR.lo
      · simp only [Sg.renew, if_true] at hb; injection hb with hb; subst hb
        exact ⟨by simp [Sg.renew], by simp [Sg.renew], by simpa [Sg.renew] using hcap, by simpa [Sg.renew] using hmax, arr, hgw, by simpa [Sg.renew] using harr⟩
      · by_cases hbg : b = g
        · subst hbg
          exact ⟨.inl (by simp [Sg.renew]), by simp [Sg.renew], fun h => (by rw [hf'] at h; cases h), fun _ => hgS⟩
        · have hb' : σ.own b = some i := by simp only [Sg.renew] at hb; rw [if_neg hbg] at hb; exact hb
          have ho := hR.own b hb'
          have hx : (σ.renew g i r'.es.length cap).ext b = σ.ext b := by simp only [Sg.renew]; rw [if_neg hbg]
          rw [hx]
          rcases hgrow with ⟨h1, h2⟩ | ⟨h1, h2, h3, _⟩
          · exact ⟨.inr (by omega), by omega, fun h => (by rw [hf'] at h; cases h), fun _ => ho.2.2.2 hf⟩
          · refine ⟨.inr ?_, by omega, fun h => (by rw [hf'] at h; cases h), fun _ => ho.2.2.2 hf⟩
            rcases ho.1 with h | h
            · rw [h3] at h; injection h with h; exact absurd h.symm hbg
            · omega
      · simp only [Sg.renew, if_true] at hb; injection hb with hb; subst hb
        refine RepL.mono hle _ _ _ (fun m u hu => ?_) (hcon j h1)
        simp only [World.cell?, hgw]
        exact hu
    · rw [if_neg e] at h
      have hr := hi.row i r2 h
      have hown : ∀ b, (σ.renew g id r'.es.length cap).own b = some i → σ.own b = some i ∧ b ≠ g := fun b hb => by
        simp only [Sg.renew] at hb
        split at hb
        · injection hb with hb; exact absurd hb.symm e
        · exact ⟨hb, by assumption⟩
      have hne : ∀ b, σ.own b = some i → b ≠ g := fun b hb hbg => e (hgo i (hbg ▸ hb))
      have hheap : ∀ b, σ.own b = some i → w'.heap[b]? = w.heap[b]? := fun b hb => hother b (hi.own_lt b i hb).2 (fun hc => by
        have := (hR.cur b hc).1; rw [hb] at this; injection this with this; exact e this) (hne b hb)
      have hx : ∀ b, b ≠ g → (σ.renew g id r'.es.length cap).ext b = σ.ext b := fun b hb => by simp only [Sg.renew]; rw [if_neg hb]
      have hcx : (σ.renew g id r'.es.length cap).cur i = σ.cur i := by simp only [Sg.renew]; rw [if_neg e]
      have hax : ∀ b, b ≠ g → (σ.renew g id r'.es.length cap).cap b = σ.cap b := fun b hb => by simp only [Sg.renew]; rw [if_neg hb]
      refine ⟨by simp only [Sg.renew]; rw [if_neg e]; exact hr.len, hr.k, hr.each, hr.lo, fun b hb => ?_, fun hc => hr.empty (by rw [← hcx]; exact hc), fun b hb => ?_, fun b hb j h1 => ?_⟩
      · rw [hcx] at hb
        obtain ⟨a1, a2, a3, a4, ar, a5, a6⟩ := hr.cur b hb
        have hn := hne b a1
        exact ⟨by simp only [Sg.renew]; rw [if_neg hn]; exact a1, by rw [hx b hn]; exact a2, by rw [hax b hn]; exact a3, by rw [hax b hn]; exact a4, ar, (hheap b a1).trans a5, by rw [hax b hn]; exact a6⟩
      · obtain ⟨h1, h2⟩ := hown b hb
        rw [hx b h2, hcx]; exact hr.own b h1
      · rw [hcx] at hb
        refine RepL.mono hle _ _ _ (fun m u hu => ?_) (hr.con b hb j h1)
        rw [cell_of_heap (w := w) (hheap b (hr.cur b hb).1)]; exact hu
  · simp only [updH] at h
    by_cases e : i = id
    · subst e; simp at h
    · rw [if_neg e] at h
      have hm := hi.mp i kt et es h
      obtain ⟨b, clock, xs, a1, a2, a3, a4, a5, a6⟩ := hm.cur
      have hbg : b ≠ g := fun hbg => e (hgo i (hbg ▸ a2))
      have hhb : w'.heap[b]? = w.heap[b]? := hother b (hi.own_lt b i a2).2 (fun hc => by
        have := (hR.cur b hc).1; rw [a2] at this; injection this with this; exact e this) hbg
      refine ⟨by simp only [Sg.renew]; rw [if_neg e]; exact hm.len, ⟨b, clock, xs, by simp only [Sg.renew]; rw [if_neg e]; exact a1, by simp only [Sg.renew]; rw [if_neg hbg]; exact a2, a3, hhb.trans a4, a5, RepL.mono hle _ _ _ (fun _ _ h => h) a6⟩, fun b hb => ?_⟩
      simp only [Sg.renew] at hb
      split at hb
      · injection hb with hb; exact absurd hb.symm e
      · rename_i hne
        obtain ⟨h1, h2⟩ := hm.one b hb
        exact ⟨by simp only [Sg.renew]; rw [if_neg e]; exact h1, by simp only [Sg.renew]; rw [if_neg hne]; exact h2⟩
end
def storeA (T : TypeId → Option Ty) (H : Nat → Option AO) (t : TypeId) (p x : AV) : Option (Nat × Row) :=
  match T t, p, cellsA x with
  | some y, .ptr id i j tag, some cs => match rowAt H id with
    | some r => if cs.length = y.size ∧ r.lo ≤ tag ∧ r.fro = false ∧ i < r.es.length ∧ j + y.size ≤ r.k then some (id, { r with es := r.es.set i (spliceL (r.es.getD i []) j cs) }) else none
    | none => none
  | _, _, _ => none
section
variable {C : Cx} {N : Nat} {Q : Exit → St → Prop} {s : St} {ops : Array Oper} {rest : List Oper} {o : Oper}
theorem AWL.store (hC : C.OK) (hg : o.guard = none) (hd : o.dst = none) {t : TypeId} {p x : Operand} (ho : o.op = .store t p x) {id : Nat} {r : Row} (h : storeA C.T s.H t (s.ev p) (s.ev x) = some (id, r))
    (k : AWL C N ops Q rest { s with H := updH s.H id (.row r) }) : AWL C N ops Q (o :: rest) s := by
  rintro S0 w0 a w hE ⟨σ, hσ⟩
  unfold storeA at h
  split at h
  · rename_i y id' i j tag cs hy hp hcs
    split at h
    · rename_i r0 hrow
      split at h
      · rename_i hc
        obtain ⟨c1, c2, c3, c4, c5⟩ := hc
        injection h with h; injection h with h1 h2; subst h1; subst h2
        have hpv := hσ.ev p
        rw [hp] at hpv
        simp only [Rep] at hpv
        obtain ⟨b, hpv, hown, g1, g2⟩ := hpv
        obtain ⟨e1, e2, e3, e4⟩ := cellsA_spec hcs (hσ.ev x)
        have hH := rowAt_eq hrow
        have hR := hσ.inv.row id' r0 hH
        have hcur : σ.cur id' = some b := by
          rcases (hR.own b hown).1 with h | h
          · exact h
          · omega
        obtain ⟨a1, a2, a3, a4, arr, a5, a6⟩ := hR.cur b hcur
        have hf := hC.T t y hy
        have hgd : r0.es.getD i [] = r0.es[i] := by rw [List.getD_eq_getElem?_getD, List.getElem?_eq_getElem c4, Option.getD_some]
        have hel : (r0.es[i]).length = r0.k := (hR.each _ (List.getElem_mem c4)).1
        have hik : i * r0.k + r0.k ≤ arr.size := by
          rw [a6]
          have : (i + 1) * r0.k ≤ σ.cap b * r0.k := Nat.mul_le_mul_right _ (by omega)
          rw [Nat.add_mul] at this; omega
        have hvl : (a.eval x).cells.toList.length = y.size := by rw [Array.length_toList, e1, c1]
        have hst := run_storeCells_at (P := C.P) b (i * r0.k + j) r0.ty (a.eval x).cells.toList 0 arr w a5 (by rw [hvl]; omega) e4
        simp only [Nat.add_zero] at hst
        generalize hnew : (arr.toList.take (i * r0.k + j) ++ (a.eval x).cells.toList ++ arr.toList.drop (i * r0.k + j + (a.eval x).cells.toList.length)).toArray = arr' at hst
        have hget : ∀ m, arr'[m]? = if i * r0.k + j ≤ m ∧ m < i * r0.k + j + y.size then (a.eval x).cells[m - (i * r0.k + j)]? else arr[m]? := by
          intro m
          rw [← hnew, List.getElem?_toArray, List.append_assoc, List.getElem?_append]
          have ht : (arr.toList.take (i * r0.k + j)).length = i * r0.k + j := by simp; omega
          rw [ht]
          by_cases h1 : m < i * r0.k + j
          · rw [if_pos h1, if_neg (by omega), List.getElem?_take, if_pos h1, Array.getElem?_toList]
          · rw [if_neg h1, List.getElem?_append, hvl]
            by_cases h2 : m < i * r0.k + j + y.size
            · rw [if_pos (by omega), if_pos (by omega), Array.getElem?_toList]
            · rw [if_neg (by omega), if_neg (by omega), List.getElem?_drop, Array.getElem?_toList]
              congr 1; omega
        have hsz' : arr'.size = arr.size := by rw [← hnew]; simp [hvl]; omega
        have hrun : (execOp a.eval o).run C.P w = .ok .skip (w.setRow b arr') := by
          simp only [execOp, ho, Instr.storeAt, Instr.sureAddr, hpv, storeVar, Sem.run_bind, Sem.run_pure, Result.andThen_ok, hf.run_size]
          rw [if_neg (by rw [e1, c1]; simp)]
          rw [hR.k]
          simp only [Sem.run_bind, Sem.run_pure, Result.andThen_ok, hst]
        have hlen : (r0.es.set i (spliceL (r0.es.getD i []) j cs)).length = r0.es.length := by simp
        have hrn := hσ.inv.renew (w' := w.setRow b arr') (r' := { r0 with es := r0.es.set i (spliceL (r0.es.getD i []) j cs) }) (g := b) (cap := σ.cap b) (arr := arr') hH rfl c3 c3 (.inl hcur) (setRow_heap w b arr arr' r0.ty (0, 0) a5)
          (by simp [World.setRow]) (fun k' _ _ hk => setRow_other w b k' arr' hk) (.inr ⟨hlen, rfl, hcur, rfl⟩) (by rw [hlen]; exact a3) a4 (by rw [hsz']; exact a6)
          (fun e he => by
            rcases List.mem_or_eq_of_mem_set he with he | rfl
            · exact hR.each e he
            · rw [hgd]
              refine ⟨by simp [spliceL, hel]; omega, fun c hc => ?_⟩
              simp only [spliceL, List.mem_append] at hc
              rcases hc with (hc | hc) | hc
              · exact (hR.each _ (List.getElem_mem c4)).2 c (List.mem_of_mem_take hc)
              · exact e2 c hc
              · exact (hR.each _ (List.getElem_mem c4)).2 c (List.mem_of_mem_drop hc))
          (fun m hm => by
            simp only [List.length_set] at hm
            have hold := hR.con b hcur m hm
            have hcell : ∀ q, w.cell? ⟨b, m * r0.k + q, none⟩ = arr[m * r0.k + q]? := fun q => cell_of_row w b _ arr r0.ty (0, 0) a5
            simp only [List.getElem_set]
            split
            · rename_i hmi
              subst hmi
              rw [hgd]
              rw [repL_iff'] at hold e3 ⊢
              intro q c hc
              rw [spliceL_get _ _ _ (by rw [hel, c1]; exact c5)] at hc
              rw [hget]
              split at hc
              · rename_i hq
                obtain ⟨u, hu, hr⟩ := e3 _ c hc
                refine ⟨u, ?_, hr⟩
                rw [if_pos (by omega), ← hu]
                congr 1; omega
              · rename_i hq
                obtain ⟨u, hu, hr⟩ := hold _ c hc
                refine ⟨u, ?_, hr⟩
                rw [if_neg (by omega), ← hcell]; exact hu
            · rename_i hmi
              refine RepL.congr (fun q hq => ?_) hold
              rw [(hR.each _ (List.getElem_mem hm)).1] at hq
              rw [hcell, hget, if_neg]
              intro ⟨b1, b2⟩
              rcases Nat.lt_or_gt_of_ne hmi with hlt | hgt
              · have : (i + 1) * r0.k ≤ m * r0.k := Nat.mul_le_mul_right _ hlt
                rw [Nat.add_mul] at this; omega
              · have : (m + 1) * r0.k ≤ i * r0.k := Nat.mul_le_mul_right _ hgt
                rw [Nat.add_mul] at this; omega)
        refine wpListIn_plain hg fun K hK => Oper.wpIn_of_wp C.hF (fun c e => by rw [ho] at e; cases e) ?_
        simp only [Oper.wp, hrun, Oper.upon, hd]
        refine hK _ _ (k S0 w0 _ _ hE ⟨σ.renew b id' (r0.es.set i (spliceL (r0.es.getD i []) j cs)).length (σ.cap b), ?_⟩)
        refine ⟨hrn.2, fun i' hi' => ?_, fun t' => Rep.mono hrn.1 _ _ (hσ.tm t'), hσ.N, hσ.d, hσ.below.trans ⟨rfl, rfl, rfl, by simp [World.setRow], fun k' hk' => setRow_other w b k' arr' (by have := (hσ.inv.own_lt b id' hown).1; omega)⟩⟩
        simp only [updH]
        split
        · rename_i e; subst e; rw [hσ.nx i' hi'] at hH; cases hH
        · exact hσ.nx i' hi'
      · cases h
    · cases h
  · cases h
end
end Go.Pg

namespace Go.Pg
open Go Go.RowKit
def srcA (H : Nat → Option AO) : AV → Option (List (List AV))
  | .lst es => some es
  | .v (.slice none 0 0) => some []
  | .ref id off n => match rowAt H id with
    | some r => if r.lo ≤ off + n ∧ off + n ≤ r.es.length then some ((r.es.drop off).take n) else none
    | none => none
  | _ => none
def viewLL (H : Nat → Option AO) : List (List AV) → Option (List (List AV))
  | [] => some []
  | e :: es => match viewL H e, viewLL H es with
    | some d, some ds => some (d :: ds)
    | _, _ => none
def idsLL : List (List AV) → List Nat
  | [] => []
  | e :: es => idsL e ++ idsLL es
def frz' (H : Nat → Option AO) (ids : List Nat) : Nat → Option AO := if ids.isEmpty then H else frz H ids
def dstA (s : St) (key : Nat) (x : AV) (y : Ty) (e : TypeId) : Option (Nat × Row × Nat) :=
  match x with
  | .v (.slice none 0 0) => some (key, { k := y.size, es := [], ty := e }, max s.nx (key + 1))
  | .ref id 0 n => match rowAt s.H id with
    | some r => if n = r.es.length ∧ r.fro = false ∧ r.k = y.size ∧ r.ty = e then some (id, r, s.nx) else none
    | none => none
  | _ => none
section
variable {P : Program} {B0 : Nat} {S0 : Fr} {S' : Nat → Prop} {w w' : World} {H : Nat → Option AO} {σ : Sg}
theorem srcA_sound (hi : Inv B0 S0 w H σ) {x : AV} {u : Value} {es : List (List AV)} (hr : Rep σ w x u) (h : srcA H x = some es) :
    ∃ A c k, u = .slice A es.length c ∧ (∀ e ∈ es, e.length = k ∧ ∀ c ∈ e, c.cell = true) ∧ (es ≠ [] → ∃ b o, A = some ⟨b, o, none⟩ ∧ ∀ i (h : i < es.length), RepL σ w es[i] (fun j => w.cell? ⟨b, o + i * k + j, none⟩)) := by
  cases x with
  | lst es' =>
    simp only [srcA, Option.some.injEq] at h; subst h
    simp only [Rep] at hr
    obtain ⟨A, cap, k, rfl, h1, h2, h3, h4⟩ := hr
    refine ⟨A, cap, k, rfl, h3, fun hne => ?_⟩
    obtain ⟨b, o, rfl, hS, hR⟩ := h4 hne
    refine ⟨b, o, rfl, fun i hi => ?_⟩
    rw [repLL_iff] at hR
    exact RepL.mono (Le.of_pure σ w) _ _ _ (fun _ _ h => h) (hR i hi)
  | v x =>
    unfold srcA at h
    split at h <;> try contradiction
    rename_i he
    injection he with he; subst he
    injection h with h; subst h
    simp only [Rep] at hr; subst hr
    exact ⟨none, 0, 0, rfl, by simp, by simp⟩
  | ref id off n =>
    simp only [srcA] at h
    split at h
    · rename_i r hrow
      split at h
      · rename_i hc
        obtain ⟨c1, c2⟩ := hc
        injection h with h; subst h
        have hR := hi.row id r (rowAt_eq hrow)
        simp only [Rep] at hr
        obtain ⟨hal, A, cap, rfl, g1, g2, g3, g4⟩ := hr
        have hlen : ((r.es.drop off).take n).length = n := by simp; omega
        refine ⟨A, cap, r.k, by rw [hlen], fun e he => hR.each e (List.mem_of_mem_drop (List.mem_of_mem_take he)), fun hne => ?_⟩
        have hn : n ≠ 0 := fun e => hne (List.eq_nil_of_length_eq_zero (by rw [hlen, e]))
        obtain ⟨b, rfl, hown, hext⟩ := g3 hn
        have hcur : σ.cur id = some b := by
          rcases (hR.own b hown).1 with h | h
          · exact h
          · omega
        refine ⟨b, off * σ.k id, rfl, fun i hi' => ?_⟩
        rw [hlen] at hi'
        have he : ((r.es.drop off).take n)[i] = r.es[off + i]'(by omega) := by simp
        rw [he]
        refine RepL.congr (fun j _ => ?_) (hR.con b hcur (off + i) (by omega))
        congr 2
        rw [hR.k, Nat.add_mul]
      · cases h
    · cases h
  | _ => simp [srcA] at h
theorem viewLL_get {H : Nat → Option AO} : ∀ (es ds : List (List AV)), viewLL H es = some ds → es.length = ds.length ∧ ∀ i (h : i < es.length) (h' : i < ds.length), viewL H es[i] = some ds[i]
  | [], ds, h => by simp only [viewLL, Option.some.injEq] at h; subst h; simp
  | e :: es, ds, h => by
    simp only [viewLL] at h
    split at h
    · rename_i d ds' h1 h2
      injection h with h; subst h
      obtain ⟨g1, g2⟩ := viewLL_get es ds' h2
      refine ⟨by simp [g1], fun i hi hi' => ?_⟩
      cases i with
      | zero => exact h1
      | succ i => simpa using g2 i (by simpa using hi) (by simpa using hi')
    · cases h
theorem idsLL_mem {es : List (List AV)} {e : List AV} {id : Nat} (he : e ∈ es) (h : id ∈ idsL e) : id ∈ idsLL es := by
  induction es with
  | nil => cases he
  | cons d es ih =>
    simp only [idsLL, List.mem_append]
    rcases List.mem_cons.1 he with rfl | he
    · exact .inl h
    · exact .inr (ih he)
theorem idsLL_row {H : Nat → Option AO} : ∀ (es ds : List (List AV)), viewLL H es = some ds → ∀ id ∈ idsLL es, ∃ r, rowAt H id = some r
  | [], ds, _, id, hid => by simp [idsLL] at hid
  | e :: es, ds, h, id, hid => by
    simp only [viewLL] at h
    split at h
    · rename_i d ds' h1 h2
      simp only [idsLL, List.mem_append] at hid
      rcases hid with hid | hid
      · exact idsL_row _ _ h1 id hid
      · exact idsLL_row es ds' h2 id hid
    · cases h
def Sg.adopt (σ : Sg) (id k : Nat) : Sg := { σ with al := fun i => i = id ∨ σ.al i, cur := fun i => if i = id then none else σ.cur i, len := fun i => if i = id then 0 else σ.len i, k := fun i => if i = id then k else σ.k i }
theorem Inv.adopt (hi : Inv B0 S0 w H σ) {id : Nat} (hf : H id = none) (r : Row) (he : r.es = []) (hg : r.fro = false) (hl : r.lo = 0) :
    Le σ (σ.adopt id r.k) w w ∧ Inv B0 S0 w (updH H id (.row r)) (σ.adopt id r.k) := by
  have hno : ∀ b, σ.own b ≠ some id := (hi.fresh id hf).2
  have hle : Le σ (σ.adopt id r.k) w w := by
    refine ⟨fun _ h => h, fun _ _ => rfl, fun b i h => ⟨hi.al_of_own h, h, ?_, Nat.le_refl _⟩, fun _ h => .inr h, fun i ha => .inl ?_⟩
    · simp only [Sg.adopt]; rw [if_neg (fun (e : i = id) => hno b (e ▸ h))]
    · have e : i ≠ id := fun e => by subst e; exact (hi.al i).1 ha hf
      exact ⟨by simp only [Sg.adopt]; rw [if_neg e], by simp only [Sg.adopt]; rw [if_neg e], fun _ _ => rfl⟩
  refine ⟨hle, fun i => ?_, fun i hn => ?_, hi.S_lt, hi.own_lt, fun i r' h => ?_, fun i kt et es h => ?_, S0.mono _ _ _ _ hle hi.fr⟩
  · simp only [Sg.adopt, updH]
    by_cases e : i = id
    · simp [e]
    · simp [e, hi.al]
  · simp only [updH] at hn
    have e : i ≠ id := fun e => by simp [e] at hn
    rw [if_neg e] at hn
    obtain ⟨h1, h2⟩ := hi.fresh i hn
    exact ⟨by simp only [Sg.adopt]; rw [if_neg e]; exact h1, h2⟩
  · simp only [updH] at h
    by_cases e : i = id
    · subst e
      rw [if_pos rfl] at h; injection h with h; injection h with h; subst h
      exact ⟨by simp [Sg.adopt, he], by simp [Sg.adopt], by simp [he], by omega, fun b hb => by simp [Sg.adopt] at hb, fun _ => he, fun b hb => absurd hb (hno b), fun b hb => by simp [Sg.adopt] at hb⟩
    · rw [if_neg e] at h
      have hr := hi.row i r' h
      have hcx : (σ.adopt id r.k).cur i = σ.cur i := by simp only [Sg.adopt]; rw [if_neg e]
      exact ⟨by simp only [Sg.adopt]; rw [if_neg e]; exact hr.len, by simp only [Sg.adopt]; rw [if_neg e]; exact hr.k, hr.each, hr.lo, fun b hb => hr.cur b (by rw [← hcx]; exact hb), fun hc => hr.empty (by rw [← hcx]; exact hc),
        fun b hb => by rw [hcx]; exact hr.own b hb, fun b hb j h1 => RepL.mono hle _ _ _ (fun _ _ h => h) (hr.con b (by rw [← hcx]; exact hb) j h1)⟩
  · simp only [updH] at h
    by_cases e : i = id
    · subst e; simp at h
    · rw [if_neg e] at h
      have hm := hi.mp i kt et es h
      obtain ⟨b, clock, xs, a1, a2, a3, a4, a5, a6⟩ := hm.cur
      refine ⟨by simp only [Sg.adopt]; rw [if_neg e]; exact hm.len, ⟨b, clock, xs, by simp only [Sg.adopt]; rw [if_neg e]; exact a1, a2, a3, a4, a5, RepL.mono hle _ _ _ (fun _ _ h => h) a6⟩, fun b hb => ?_⟩
      simp only [Sg.adopt]; rw [if_neg e]; exact hm.one b hb
theorem run_append_empty (t ty e : TypeId) (i : TypeInfo) (ht : P.underlying t = some (.slice e)) (hi : P.info? e = some i) (A B : Option Addr) (n cap c : Nat) (hle : n ≤ cap) :
    (Builtin.append_ #[t, t] ty #[.slice A n cap, .slice B 0 c]).run P w = .ok (.slice A n cap) w := by
  have hf : (Builtin.firstCells i.size 0 (.slice B 0 c)).run P w = .ok #[] w := by
    cases B with
    | none => simp [Builtin.firstCells]
    | some b => simp [Builtin.firstCells, loadCells, loadCellsFrom]
  cases A with
  | none => simp [Builtin.append_, run_underlying ht, sizeOf, typeInfo, hi, Builtin.lenOf, hle, hf]
  | some a => simp [Builtin.append_, run_underlying ht, sizeOf, typeInfo, hi, Builtin.lenOf, hle, hf, storeCells]
theorem append_core {T : TypeId → Option Ty} (hT : TyOK P T) (hi : Inv B0 S0 w H σ) (hB : B0 ≤ w.heap.size) {id : Nat} {r : Row} (hH : H id = some (.row r)) (hf : r.fro = false) {t ty e : TypeId} {y : Ty} (ht : P.underlying t = some (.slice e)) (hy : T e = some y)
    (hk0 : 0 < y.size) (hk : r.k = y.size) (hty : r.ty = e) {u : Value} (hu : Rep σ w (.ref id 0 r.es.length) u) {A : Option Addr} {c : Nat} {es : List (List AV)}
    (heach : ∀ e ∈ es, e.length = y.size ∧ ∀ c ∈ e, c.cell = true) (hsrc : es ≠ [] → ∃ b o, A = some ⟨b, o, none⟩ ∧ ∀ i (h : i < es.length), RepL σ w es[i] (fun j => w.cell? ⟨b, o + i * y.size + j, none⟩))
    (hb : (r.es.length + es.length) * y.bytes ≤ 140737488355328) (hm : r.es.length + es.length ≤ maxLen) :
    ∃ v w' σ', (Builtin.append_ #[t, t] ty #[u, .slice A es.length c]).run P w = .ok v w' ∧ Below B0 w w' ∧ Le σ σ' w w' ∧
      Inv B0 S0 w' (updH H id (.row { r with es := r.es ++ es, lo := if es.isEmpty then r.lo else r.es.length + es.length })) σ' ∧ Rep σ' w' (.ref id 0 (r.es.length + es.length)) v := by
  have hR := hi.row id r hH
  obtain ⟨i, z, f1, f2, f3, f4, f5⟩ := (hT e y hy).get
  have hzs : z.cells.size = y.size := by rw [← (hT e y hy).size, ← f5]; simp
  have hu0 := hu
  simp only [Rep] at hu
  obtain ⟨hal, A', cap, rfl, g1, g2, g3, g4⟩ := hu
  by_cases hes : es = []
  · subst hes
    refine ⟨_, w, σ, run_append_empty t ty e i ht f1 A' A r.es.length cap c g1, Below.refl _ _, hi.le_heap (fun _ _ => rfl), ?_, by simpa using hu0⟩
    have : updH H id (.row { r with es := r.es ++ [], lo := if ([] : List (List AV)).isEmpty then r.lo else r.es.length + ([] : List (List AV)).length }) = H := by
      funext j
      simp only [updH, List.append_nil, List.isEmpty_nil, if_true]
      split
      · rename_i e; subst e; exact hH.symm
      · rfl
    rw [this]; exact hi
  · obtain ⟨b, o, rfl, hsr⟩ := hsrc hes
    have hpos : 0 < es.length := by
      rcases es with _ | ⟨x, xs⟩
      · exact absurd rfl hes
      · simp
    let news : List Value := (List.range (es.length * y.size)).map fun j => (w.cell? ⟨b, o + j, none⟩).getD undef
    have hnl : news.length = es.length * y.size := by simp [news]
    have hcellj : ∀ j, j < es.length * y.size → ∃ v, w.cell? ⟨b, o + j, none⟩ = some v ∧ v.oneCell' = true := by
      intro j hj
      have hi' : j / y.size < es.length := (Nat.div_lt_iff_lt_mul hk0).2 hj
      have hj' : j % y.size < y.size := Nat.mod_lt _ hk0
      have h1 := hsr (j / y.size) hi'
      rw [repL_iff] at h1
      have hel := heach _ (List.getElem_mem hi')
      obtain ⟨v, hv, hrv⟩ := h1 (j % y.size) (by rw [hel.1]; exact hj')
      refine ⟨v, ?_, rep_oneCell hrv (hel.2 _ (List.getElem_mem _))⟩
      rw [← hv]
      congr 2
      have := Nat.div_add_mod j y.size
      rw [Nat.mul_comm] at this
      omega
    have hnget : ∀ j v, news[j]? = some v → w.cell? ⟨b, o + j, none⟩ = some v ∧ v.oneCell' = true := by
      intro j v hv
      obtain ⟨hlt, he⟩ := List.getElem?_eq_some_iff.1 hv
      rw [hnl] at hlt
      obtain ⟨v', hv', h1⟩ := hcellj j hlt
      simp only [news, List.getElem_map, List.getElem_range, hv', Option.getD_some] at he
      subst he; exact ⟨hv', h1⟩
    have hnone : ∀ v ∈ news, v.oneCell' = true := fun v hv => by
      obtain ⟨j, hj, rfl⟩ := List.getElem_of_mem hv
      exact (hnget j _ (List.getElem?_eq_getElem hj)).2
    -- what the destination owns
    have hown : ∃ xs, w.ownsRow B0 e y.size (.slice A' r.es.length cap) r.es.length xs ∧ (∀ b', σ.cur id = some b' → ∃ arr : Array Value, w.heap[b']? = some (.cells arr r.ty (0, 0)) ∧ xs = arr.toList.take (r.es.length * y.size)) ∧ (Value.slice A' r.es.length cap).ownBlock = σ.cur id := by
      rcases g4 trivial hR.len.symm with ⟨h1, h2, rfl, rfl⟩ | ⟨b', h1, rfl, h3⟩
      · refine ⟨[], ⟨by simp [h2], .inl ⟨by rw [h2], h2⟩⟩, fun b' hb' => (by rw [h1] at hb'; cases hb'), by rw [h1]; rfl⟩
      · obtain ⟨a1, a2, a3, a4, arr, a5, a6⟩ := hR.cur b' h1
        refine ⟨arr.toList.take (r.es.length * y.size), ⟨?_, .inr ⟨b', cap, arr, rfl, (hi.own_lt b' id a1).1, by rw [← hty]; exact a5, g1, g2, by rw [a6, h3, hk], rfl⟩⟩, fun b'' hb'' => ?_, by rw [h1]; rfl⟩
        · rw [List.length_take, Array.length_toList, a6, hk]
          exact Nat.min_eq_left (Nat.mul_le_mul_right _ a3)
        · rw [h1] at hb''; injection hb'' with hb''; subst hb''; exact ⟨arr, a5, rfl⟩
    obtain ⟨xs, hown, hxs, hblk⟩ := hown
    obtain ⟨v', w', hrun, hown', hgrow, hnil, hwhere⟩ := run_append_own_at (P := P) w B0 t ty e i z y.size y.bytes ht f1 f4 f2 f3 hzs hk0 _ _ xs hown ⟨b, o, none⟩ es.length c news hnl (fun j v hv => by rw [Addr.add_lit]; exact (hnget j v hv).1) hnone hm hb hB
    rcases hown'.2 with ⟨_, h0⟩ | ⟨g, cap', cur', rfl, hBg, hg', hnc, hcm, hcs, htake⟩
    · omega
    · have hgc : σ.cur id = some g ∨ (w.heap.size ≤ g ∧ B0 ≤ g) := by
        rcases hwhere with h | h
        · rw [hblk] at h; exact .inl h.symm
        · simp only [Value.ownBlock, Option.some.injEq] at h; exact .inr ⟨by omega, hBg⟩
      have hlen' : (r.es ++ es).length = r.es.length + es.length := by simp
      have hcg : ∀ m, m < (r.es.length + es.length) * y.size → cur'[m]? = (xs ++ news)[m]? := by
        intro m hm'
        rw [← htake, List.getElem?_take, if_pos hm', Array.getElem?_toList]
      have hxl : xs.length = r.es.length * y.size := hown.1
      have hres := hi.renew (w' := w') (r' := { r with es := r.es ++ es, lo := r.es.length + es.length }) (g := g) (cap := cap') (arr := cur') hH rfl hf hf hgc (by rw [hty]; exact hg') hgrow.size
        (fun k' hk' hc' hne => hgrow.block k' hk' (by rw [hblk]; exact fun e => hc' e.symm)) (.inl ⟨by rw [hlen']; omega, by rw [hlen']⟩) (by rw [hlen']; exact hnc) hcm (by rw [hcs, hk])
        (fun e' he' => by
          rcases List.mem_append.1 he' with he' | he'
          · exact hR.each e' he'
          · rw [hk]; exact heach e' he')
        (fun m hm' => by
          rw [hlen'] at hm'
          have hin : ∀ q, q < y.size → m * y.size + q < (r.es.length + es.length) * y.size := by
            intro q hq
            have : (m + 1) * y.size ≤ (r.es.length + es.length) * y.size := Nat.mul_le_mul_right _ hm'
            rw [Nat.add_mul] at this; omega
          simp only [hk]
          by_cases hlt : m < r.es.length
          · rw [List.getElem_append_left hlt]
            have hne : σ.cur id ≠ none := fun hc => by have := hR.empty hc; rw [this] at hlt; simp at hlt
            obtain ⟨b', hb'⟩ := Option.ne_none_iff_exists'.1 hne
            obtain ⟨arr, a5, hxa⟩ := hxs b' hb'
            refine RepL.congr (fun q hq => ?_) (hR.con b' hb' m hlt)
            rw [(hR.each _ (List.getElem_mem hlt)).1, hk] at hq
            have hmq : m * y.size + q < r.es.length * y.size := by
              have : (m + 1) * y.size ≤ r.es.length * y.size := Nat.mul_le_mul_right _ hlt
              rw [Nat.add_mul] at this; omega
            rw [hcg _ (hin q hq), List.getElem?_append_left (by rw [hxl]; exact hmq), hxa, List.getElem?_take, if_pos hmq, Array.getElem?_toList, hk]
            exact cell_of_row w b' _ arr r.ty (0, 0) a5
          · have hme : m - r.es.length < es.length := by omega
            rw [List.getElem_append_right (by omega)]
            refine RepL.congr (fun q hq => ?_) (hsr (m - r.es.length) hme)
            rw [(heach _ (List.getElem_mem hme)).1] at hq
            have hsub : m * y.size + q - xs.length = (m - r.es.length) * y.size + q := by
              rw [hxl, Nat.sub_mul]
              have : r.es.length * y.size ≤ m * y.size := Nat.mul_le_mul_right _ (by omega)
              omega
            have hge : xs.length ≤ m * y.size + q := by
              rw [hxl]
              have : r.es.length * y.size ≤ m * y.size := Nat.mul_le_mul_right _ (by omega)
              omega
            rw [hcg _ (hin q hq), List.getElem?_append_right hge, hsub]
            have hb2 : (m - r.es.length) * y.size + q < es.length * y.size := by
              have : (m - r.es.length + 1) * y.size ≤ es.length * y.size := Nat.mul_le_mul_right _ hme
              rw [Nat.add_mul] at this; omega
            have hn2 : news[(m - r.es.length) * y.size + q]? = some (news[(m - r.es.length) * y.size + q]'(by rw [hnl]; exact hb2)) := List.getElem?_eq_getElem _
            rw [hn2, ← (hnget _ _ hn2).1]
            congr 2
            omega)
      refine ⟨_, w', _, hrun, ⟨hgrow.os, hgrow.tape, hgrow.output, hgrow.size, fun k' hk' => hgrow.block k' (by omega) (fun e => ?_)⟩, hres.1, ?_, ?_⟩
      · rw [hblk] at e
        have := (hi.own_lt k' id (hR.cur k' e.symm).1).1; omega
      · have : es.isEmpty = false := by cases es <;> simp_all
        simp only [this, Bool.false_eq_true, if_false]
        exact hres.2
      · simp only [Rep]
        rw [hlen']
        refine ⟨hres.1.al id hal, some ⟨g, 0, none⟩, cap', rfl, hnc, hcm, fun _ => ⟨g, by simp, by simp [Sg.renew], by simp [Sg.renew]⟩, fun _ _ => .inr ⟨g, by simp [Sg.renew], rfl, by simp [Sg.renew]⟩⟩
end
end Go.Pg
