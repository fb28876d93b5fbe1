/-
  Contracts of functions, proved by going through their code. No conditions.
-/
import Derived.Test.YtmcchoalekmklaaGreatZae
set_option linter.unusedVariables false
set_option linter.unusedSimpArgs false
namespace Go.Pg
open Go Go.RowKit
def srcA (H : Nat → Option AO) : AV → Option (List (List AV))
  | .lst es => some es
  | .v (.slice none 0 0) => some []
  | .ref id off n => match rowAt H id with
    | some r => if r.lo ≤ off + n ∧ off + n ≤ r.es.length then some ((r.es.drop off).take n) else none
    | none => none
  | _ => none
def viewLL (H : Nat → Option AO) : List (List AV) → Option (List (List AV))
  | [] => some []
  | e :: es => match viewL H e, viewLL H es with
    | some d, some ds => some (d :: ds)
    | _, _ => none
def idsLL : List (List AV) → List Nat
  | [] => []
  | e :: es => idsL e ++ idsLL es
def frz' (H : Nat → Option AO) (ids : List Nat) : Nat → Option AO := if ids.isEmpty then H else frz H ids
def dstA (s : St) (key : Nat) (x : AV) (y : Ty) (e : TypeId) : Option (Nat × Row × Nat) :=
  match x with
  | .v (.slice none 0 0) => some (key, { k := y.size, es := [], ty := e }, max s.nx (key + 1))
  | .ref id 0 n => match rowAt s.H id with
    | some r => if n = r.es.length ∧ r.fro = false ∧ r.k = y.size ∧ r.ty = e then some (id, r, s.nx) else none
    | none => none
  | _ => none
section
variable {P : Program} {B0 : Nat} {S0 : Fr} {S' : Nat → Prop} {w w' : World} {H : Nat → Option AO} {σ : Sg}
theorem srcA_sound (hi : Inv B0 S0 w H σ) {x : AV} {u : Value} {es : List (List AV)} (hr : Rep σ w x u) (h : srcA H x = some es) :
    ∃ A c k, u = .slice A es.length c ∧ (∀ e ∈ es, e.length = k ∧ ∀ c ∈ e, c.cell = true) ∧ (es ≠ [] → ∃ b o, A = some ⟨b, o, none⟩ ∧ ∀ i (h : i < es.length), RepL σ w es[i] (fun j => w.cell? ⟨b, o + i * k + j, none⟩)) := by
  cases x with
  | lst es' =>
    simp only [srcA, Option.some.injEq] at h; subst h
    simp only [Rep] at hr
    obtain ⟨A, cap, k, rfl, h1, h2, h3, h4⟩ := hr
    refine ⟨A, cap, k, rfl, h3, fun hne => ?_⟩
    obtain ⟨b, o, rfl, hS, hR⟩ := h4 hne
    refine ⟨b, o, rfl, fun i hi => ?_⟩
    rw [repLL_iff] at hR
    exact RepL.mono (Le.of_pure σ w) _ _ _ (fun _ _ h => h) (hR i hi)
  | v x =>
    unfold srcA at h
    split at h <;> try contradiction
    rename_i he
    injection he with he; subst he
    injection h with h; subst h
    simp only [Rep] at hr; subst hr
    exact ⟨none, 0, 0, rfl, by simp, by simp⟩
  | ref id off n =>
    simp only [srcA] at h
    split at h
    · rename_i r hrow
      split at h
      · rename_i hc
        obtain ⟨c1, c2⟩ := hc
        injection h with h; subst h
        have hR := hi.row id r (rowAt_eq hrow)
        simp only [Rep] at hr
        obtain ⟨hal, A, cap, rfl, g1, g2, g3, g4⟩ := hr
        have hlen : ((r.es.drop off).take n).length = n := by simp; omega
        refine ⟨A, cap, r.k, by rw [hlen], fun e he => hR.each e (List.mem_of_mem_drop (List.mem_of_mem_take he)), fun hne => ?_⟩
        have hn : n ≠ 0 := fun e => hne (List.eq_nil_of_length_eq_zero (by rw [hlen, e]))
        obtain ⟨b, rfl, hown, hext⟩ := g3 hn
        have hcur : σ.cur id = some b := by
          rcases (hR.own b hown).1 with h | h
          · exact h
          · omega
        refine ⟨b, off * σ.k id, rfl, fun i hi' => ?_⟩
        rw [hlen] at hi'
        have he : ((r.es.drop off).take n)[i] = r.es[off + i]'(by omega) := by simp
        rw [he]
        refine RepL.congr (fun j _ => ?_) (hR.con b hcur (off + i) (by omega))
        congr 2
        rw [hR.k, Nat.add_mul]
      · cases h
    · cases h
  | _ => simp [srcA] at h
theorem viewLL_get {H : Nat → Option AO} : ∀ (es ds : List (List AV)), viewLL H es = some ds → es.length = ds.length ∧ ∀ i (h : i < es.length) (h' : i < ds.length), viewL H es[i] = some ds[i]
  | [], ds, h => by simp only [viewLL, Option.some.injEq] at h; subst h; simp
  | e :: es, ds, h => by
    simp only [viewLL] at h
    split at h
    · rename_i d ds' h1 h2
      injection h with h; subst h
      obtain ⟨g1, g2⟩ := viewLL_get es ds' h2
      refine ⟨by simp [g1], fun i hi hi' => ?_⟩
      cases i with
      | zero => exact h1
      | succ i => simpa using g2 i (by simpa using hi) (by simpa using hi')
    · cases h
theorem idsLL_mem {es : List (List AV)} {e : List AV} {id : Nat} (he : e ∈ es) (h : id ∈ idsL e) : id ∈ idsLL es := by
  induction es with
  | nil => cases he
  | cons d es ih =>
    simp only [idsLL, List.mem_append]
    rcases List.mem_cons.1 he with rfl | he
    · exact .inl h
    · exact .inr (ih he)
theorem idsLL_row {H : Nat → Option AO} : ∀ (es ds : List (List AV)), viewLL H es = some ds → ∀ id ∈ idsLL es, ∃ r, rowAt H id = some r
  | [], ds, _, id, hid => by simp [idsLL] at hid
  | e :: es, ds, h, id, hid => by
    simp only [viewLL] at h
    split at h
    · rename_i d ds' h1 h2
      simp only [idsLL, List.mem_append] at hid
      rcases hid with hid | hid
      · exact idsL_row _ _ h1 id hid
      · exact idsLL_row es ds' h2 id hid
    · cases h
def Sg.adopt (σ : Sg) (id k : Nat) : Sg := { σ with al := fun i => i = id ∨ σ.al i, cur := fun i => if i = id then none else σ.cur i, len := fun i => if i = id then 0 else σ.len i, k := fun i => if i = id then k else σ.k i }
theorem Inv.adopt (hi : Inv B0 S0 w H σ) {id : Nat} (hf : H id = none) (r : Row) (he : r.es = []) (hg : r.fro = false) (hl : r.lo = 0) :
    Le σ (σ.adopt id r.k) w w ∧ Inv B0 S0 w (updH H id (.row r)) (σ.adopt id r.k) := by
  have hno : ∀ b, σ.own b ≠ some id := (hi.fresh id hf).2
  have hle : Le σ (σ.adopt id r.k) w w := by
    refine ⟨fun _ h => h, fun _ _ => rfl, fun b i h => ⟨hi.al_of_own h, h, ?_, Nat.le_refl _⟩, fun _ h => .inr h, fun i ha => .inl ?_⟩
    · simp only [Sg.adopt]; rw [if_neg (fun (e : i = id) => hno b (e ▸ h))]
    · have e : i ≠ id := fun e => by subst e; exact (hi.al i).1 ha hf
      exact ⟨by simp only [Sg.adopt]; rw [if_neg e], by simp only [Sg.adopt]; rw [if_neg e], fun _ _ => rfl⟩
  refine ⟨hle, fun i => ?_, fun i hn => ?_, hi.S_lt, hi.own_lt, fun i r' h => ?_, fun i kt et es h => ?_, S0.mono _ _ _ _ hle hi.fr⟩
  · simp only [Sg.adopt, updH]
    by_cases e : i = id
    · simp [e]
    · simp [e, hi.al]
  · simp only [updH] at hn
    have e : i ≠ id := fun e => by simp [e] at hn
    rw [if_neg e] at hn
    obtain ⟨h1, h2⟩ := hi.fresh i hn
    exact ⟨by simp only [Sg.adopt]; rw [if_neg e]; exact h1, h2⟩
  · simp only [updH] at h
    by_cases e : i = id
    · subst e
      rw [if_pos rfl] at h; injection h with h; injection h with h; subst h
      exact ⟨by simp [Sg.adopt, he], by simp [Sg.adopt], by simp [he], by omega, fun b hb => by simp [Sg.adopt] at hb, fun _ => he, fun b hb => absurd hb (hno b), fun b hb => by simp [Sg.adopt] at hb⟩
    · rw [if_neg e] at h
      have hr := hi.row i r' h
      have hcx : (σ.adopt id r.k).cur i = σ.cur i := by simp only [Sg.adopt]; rw [if_neg e]
      exact ⟨by simp only [Sg.adopt]; rw [if_neg e]; exact hr.len, by simp only [Sg.adopt]; rw [if_neg e]; exact hr.k, hr.each, hr.lo, fun b hb => hr.cur b (by rw [← hcx]; exact hb), fun hc => hr.empty (by rw [← hcx]; exact hc),
        fun b hb => by rw [hcx]; exact hr.own b hb, fun b hb j h1 => RepL.mono hle _ _ _ (fun _ _ h => h) (hr.con b (by rw [← hcx]; exact hb) j h1)⟩
  · simp only [updH] at h
    by_cases e : i = id
    · subst e; simp at h
    · rw [if_neg e] at h
      have hm := hi.mp i kt et es h
      obtain ⟨b, clock, xs, a1, a2, a3, a4, a5, a6⟩ := hm.cur
      refine ⟨by simp only [Sg.adopt]; rw [if_neg e]; exact hm.len, ⟨b, clock, xs, by simp only [Sg.adopt]; rw [if_neg e]; exact a1, a2, a3, a4, a5, RepL.mono hle _ _ _ (fun _ _ h => h) a6⟩, fun b hb => ?_⟩
      simp only [Sg.adopt]; rw [if_neg e]; exact hm.one b hb
theorem run_append_empty (t ty e : TypeId) (i : TypeInfo) (ht : P.underlying t = some (.slice e)) (hi : P.info? e = some i) (A B : Option Addr) (n cap c : Nat) (hle : n ≤ cap) :
    (Builtin.append_ #[t, t] ty #[.slice A n cap, .slice B 0 c]).run P w = .ok (.slice A n cap) w := by
  have hf : (Builtin.firstCells i.size 0 (.slice B 0 c)).run P w = .ok #[] w := by
    cases B with
    | none => simp [Builtin.firstCells]
    | some b => simp [Builtin.firstCells, loadCells, loadCellsFrom]
  cases A with
  | none => simp [Builtin.append_, run_underlying ht, sizeOf, typeInfo, hi, Builtin.lenOf, hle, hf]
  | some a => simp [Builtin.append_, run_underlying ht, sizeOf, typeInfo, hi, Builtin.lenOf, hle, hf, storeCells]
theorem append_core {T : TypeId → Option Ty} (hT : TyOK P T) (hi : Inv B0 S0 w H σ) (hB : B0 ≤ w.heap.size) {id : Nat} {r : Row} (hH : H id = some (.row r)) (hf : r.fro = false) {t ty e : TypeId} {y : Ty} (ht : P.underlying t = some (.slice e)) (hy : T e = some y)
    (hk0 : 0 < y.size) (hk : r.k = y.size) (hty : r.ty = e) {u : Value} (hu : Rep σ w (.ref id 0 r.es.length) u) {A : Option Addr} {c : Nat} {es : List (List AV)}
    (heach : ∀ e ∈ es, e.length = y.size ∧ ∀ c ∈ e, c.cell = true) (hsrc : es ≠ [] → ∃ b o, A = some ⟨b, o, none⟩ ∧ ∀ i (h : i < es.length), RepL σ w es[i] (fun j => w.cell? ⟨b, o + i * y.size + j, none⟩))
    (hb : (r.es.length + es.length) * y.bytes ≤ 140737488355328) (hm : r.es.length + es.length ≤ maxLen) :
    ∃ v w' σ', (Builtin.append_ #[t, t] ty #[u, .slice A es.length c]).run P w = .ok v w' ∧ Below B0 w w' ∧ Le σ σ' w w' ∧
      Inv B0 S0 w' (updH H id (.row { r with es := r.es ++ es, lo := if es.isEmpty then r.lo else r.es.length + es.length })) σ' ∧ Rep σ' w' (.ref id 0 (r.es.length + es.length)) v := by
  have hR := hi.row id r hH
  obtain ⟨i, z, f1, f2, f3, f4, f5⟩ := (hT e y hy).get
  have hzs : z.cells.size = y.size := by rw [← (hT e y hy).size, ← f5]; simp
  have hu0 := hu
  simp only [Rep] at hu
  obtain ⟨hal, A', cap, rfl, g1, g2, g3, g4⟩ := hu
  by_cases hes : es = []
  · subst hes
    refine ⟨_, w, σ, run_append_empty t ty e i ht f1 A' A r.es.length cap c g1, Below.refl _ _, hi.le_heap (fun _ _ => rfl), ?_, by simpa using hu0⟩
    have : updH H id (.row { r with es := r.es ++ [], lo := if ([] : List (List AV)).isEmpty then r.lo else r.es.length + ([] : List (List AV)).length }) = H := by
      funext j
      simp only [updH, List.append_nil, List.isEmpty_nil, if_true]
      split
      · rename_i e; subst e; exact hH.symm
      · rfl
    rw [this]; exact hi
  · obtain ⟨b, o, rfl, hsr⟩ := hsrc hes
    have hpos : 0 < es.length := by
      rcases es with _ | ⟨x, xs⟩
      · exact absurd rfl hes
      · simp
    let news : List Value := (List.range (es.length * y.size)).map fun j => (w.cell? ⟨b, o + j, none⟩).getD undef
    have hnl : news.length = es.length * y.size := by simp [news]
    have hcellj : ∀ j, j < es.length * y.size → ∃ v, w.cell? ⟨b, o + j, none⟩ = some v ∧ v.oneCell' = true := by
      intro j hj
      have hi' : j / y.size < es.length := (Nat.div_lt_iff_lt_mul hk0).2 hj
      have hj' : j % y.size < y.size := Nat.mod_lt _ hk0
      have h1 := hsr (j / y.size) hi'
      rw [repL_iff] at h1
      have hel := heach _ (List.getElem_mem hi')
      obtain ⟨v, hv, hrv⟩ := h1 (j % y.size) (by rw [hel.1]; exact hj')
      refine ⟨v, ?_, rep_oneCell hrv (hel.2 _ (List.getElem_mem _))⟩
      rw [← hv]
      congr 2
      have := Nat.div_add_mod j y.size
      rw [Nat.mul_comm] at this
      omega
    have hnget : ∀ j v, news[j]? = some v → w.cell? ⟨b, o + j, none⟩ = some v ∧ v.oneCell' = true := by
      intro j v hv
      obtain ⟨hlt, he⟩ := List.getElem?_eq_some_iff.1 hv
      rw [hnl] at hlt
      obtain ⟨v', hv', h1⟩ := hcellj j hlt
      simp only [news, List.getElem_map, List.getElem_range, hv', Option.getD_some] at he
      subst he; exact ⟨hv', h1⟩
    have hnone : ∀ v ∈ news, v.oneCell' = true := fun v hv => by
      obtain ⟨j, hj, rfl⟩ := List.getElem_of_mem hv
      exact (hnget j _ (List.getElem?_eq_getElem hj)).2
    -- what the destination owns
    have hown : ∃ xs, w.ownsRow B0 e y.size (.slice A' r.es.length cap) r.es.length xs ∧ (∀ b', σ.cur id = some b' → ∃ arr : Array Value, w.heap[b']? = some (.cells arr r.ty (0, 0)) ∧ xs = arr.toList.take (r.es.length * y.size)) ∧ (Value.slice A' r.es.length cap).ownBlock = σ.cur id := by
      rcases g4 trivial hR.len.symm with ⟨h1, h2, rfl, rfl⟩ | ⟨b', h1, rfl, h3⟩
      · refine ⟨[], ⟨by simp [h2], .inl ⟨by rw [h2], h2⟩⟩, fun b' hb' => (by rw [h1] at hb'; cases hb'), by rw [h1]; rfl⟩
      · obtain ⟨a1, a2, a3, a4, arr, a5, a6⟩ := hR.cur b' h1
        refine ⟨arr.toList.take (r.es.length * y.size), ⟨?_, .inr ⟨b', cap, arr, rfl, (hi.own_lt b' id a1).1, by rw [← hty]; exact a5, g1, g2, by rw [a6, h3, hk], rfl⟩⟩, fun b'' hb'' => ?_, by rw [h1]; rfl⟩
        · rw [List.length_take, Array.length_toList, a6, hk]
          exact Nat.min_eq_left (Nat.mul_le_mul_right _ a3)
        · rw [h1] at hb''; injection hb'' with hb''; subst hb''; exact ⟨arr, a5, rfl⟩
    obtain ⟨xs, hown, hxs, hblk⟩ := hown
    obtain ⟨v', w', hrun, hown', hgrow, hnil, hwhere⟩ := run_append_own_at (P := P) w B0 t ty e i z y.size y.bytes ht f1 f4 f2 f3 hzs hk0 _ _ xs hown ⟨b, o, none⟩ es.length c news hnl (fun j v hv => by rw [Addr.add_lit]; exact (hnget j v hv).1) hnone hm hb hB
    rcases hown'.2 with ⟨_, h0⟩ | ⟨g, cap', cur', rfl, hBg, hg', hnc, hcm, hcs, htake⟩
    · omega
    · have hgc : σ.cur id = some g ∨ (w.heap.size ≤ g ∧ B0 ≤ g) := by
        rcases hwhere with h | h
        · rw [hblk] at h; exact .inl h.symm
        · simp only [Value.ownBlock, Option.some.injEq] at h; exact .inr ⟨by omega, hBg⟩
      have hlen' : (r.es ++ es).length = r.es.length + es.length := by simp
      have hcg : ∀ m, m < (r.es.length + es.length) * y.size → cur'[m]? = (xs ++ news)[m]? := by
        intro m hm'
        rw [← htake, List.getElem?_take, if_pos hm', Array.getElem?_toList]
      have hxl : xs.length = r.es.length * y.size := hown.1
      have hres := hi.renew (w' := w') (r' := { r with es := r.es ++ es, lo := r.es.length + es.length }) (g := g) (cap := cap') (arr := cur') hH rfl hf hf hgc (by rw [hty]; exact hg') hgrow.size
        (fun k' hk' hc' hne => hgrow.block k' hk' (by rw [hblk]; exact fun e => hc' e.symm)) (.inl ⟨by rw [hlen']; omega, by rw [hlen']⟩) (by rw [hlen']; exact hnc) hcm (by rw [hcs, hk])
        (fun e' he' => by
          rcases List.mem_append.1 he' with he' | he'
          · exact hR.each e' he'
          · rw [hk]; exact heach e' he')
        (fun m hm' => by
          rw [hlen'] at hm'
          have hin : ∀ q, q < y.size → m * y.size + q < (r.es.length + es.length) * y.size := by
            intro q hq
            have : (m + 1) * y.size ≤ (r.es.length + es.length) * y.size := Nat.mul_le_mul_right _ hm'
            rw [Nat.add_mul] at this; omega
          simp only [hk]
          by_cases hlt : m < r.es.length
          · rw [List.getElem_append_left hlt]
            have hne : σ.cur id ≠ none := fun hc => by have := hR.empty hc; rw [this] at hlt; simp at hlt
            obtain ⟨b', hb'⟩ := Option.ne_none_iff_exists'.1 hne
            obtain ⟨arr, a5, hxa⟩ := hxs b' hb'
            refine RepL.congr (fun q hq => ?_) (hR.con b' hb' m hlt)
            rw [(hR.each _ (List.getElem_mem hlt)).1, hk] at hq
            have hmq : m * y.size + q < r.es.length * y.size := by
              have : (m + 1) * y.size ≤ r.es.length * y.size := Nat.mul_le_mul_right _ hlt
              rw [Nat.add_mul] at this; omega
            rw [hcg _ (hin q hq), List.getElem?_append_left (by rw [hxl]; exact hmq), hxa, List.getElem?_take, if_pos hmq, Array.getElem?_toList, hk]
            exact cell_of_row w b' _ arr r.ty (0, 0) a5
          · have hme : m - r.es.length < es.length := by omega
            rw [List.getElem_append_right (by omega)]
            refine RepL.congr (fun q hq => ?_) (hsr (m - r.es.length) hme)
            rw [(heach _ (List.getElem_mem hme)).1] at hq
            have hsub : m * y.size + q - xs.length = (m - r.es.length) * y.size + q := by
              rw [hxl, Nat.sub_mul]
              have : r.es.length * y.size ≤ m * y.size := Nat.mul_le_mul_right _ (by omega)
              omega
            have hge : xs.length ≤ m * y.size + q := by
              rw [hxl]
              have : r.es.length * y.size ≤ m * y.size := Nat.mul_le_mul_right _ (by omega)
              omega
            rw [hcg _ (hin q hq), List.getElem?_append_right hge, hsub]
            have hb2 : (m - r.es.length) * y.size + q < es.length * y.size := by
              have : (m - r.es.length + 1) * y.size ≤ es.length * y.size := Nat.mul_le_mul_right _ hme
              rw [Nat.add_mul] at this; omega
            have hn2 : news[(m - r.es.length) * y.size + q]? = some (news[(m - r.es.length) * y.size + q]'(by rw [hnl]; exact hb2)) := List.getElem?_eq_getElem _
            rw [hn2, ← (hnget _ _ hn2).1]
            congr 2
            omega)
      refine ⟨_, w', _, hrun, ⟨hgrow.os, hgrow.tape, hgrow.output, hgrow.size, fun k' hk' => hgrow.block k' (by omega) (fun e => ?_)⟩, hres.1, ?_, ?_⟩
      · rw [hblk] at e
        have := (hi.own_lt k' id (hR.cur k' e.symm).1).1; omega
      · have : es.isEmpty = false := by cases es <;> simp_all
        simp only [this, Bool.false_eq_true, if_false]
        exact hres.2
      · simp only [Rep]
        rw [hlen']
        refine ⟨hres.1.al id hal, some ⟨g, 0, none⟩, cap', rfl, hnc, hcm, fun _ => ⟨g, by simp, by simp [Sg.renew], by simp [Sg.renew]⟩, fun _ _ => .inr ⟨g, by simp [Sg.renew], rfl, by simp [Sg.renew]⟩⟩
end
end Go.Pg

namespace Go.Pg
open Go Go.RowKit
section
variable {C : Cx} {N : Nat} {Q : Exit → St → Prop} {s : St} {ops : Array Oper} {rest : List Oper} {o : Oper}
def appRow (r : Row) (n : Nat) (news : List (List AV)) : Row := { r with es := r.es ++ news, lo := if news.isEmpty then r.lo else r.es.length + n }
theorem frz'_row {H : Nat → Option AO} {ids : List Nat} {id : Nat} (h : id ∉ ids) : frz' H ids id = H id := by
  unfold frz'
  split
  · rfl
  · unfold frz; rw [if_neg h]
theorem AWL.append (hC : C.OK) (hg : o.guard = none) {d : Nat} (hd : o.dst = some d) (hN : d < N) {x1 x2 : Operand} {t : TypeId} (ho : o.op = .call { callee := .builtin .append, args := #[x1, x2], argTypes := #[t, t] })
    {e : TypeId} {ty y : Ty} (ht : C.T t = some ty) (hte : ty.d = .slice e) (hy : C.T e = some y) (hk0 : 0 < y.size) {key id nx : Nat} {r : Row} (hkey : key = s.nx ∨ s.H key = none) (hdst : dstA s key (s.ev x1) y e = some (id, r, nx))
    {es news : List (List AV)} (hsrc : srcA s.H (s.ev x2) = some es) (hlen : ∀ e ∈ es, e.length = y.size) (hv : viewLL s.H es = some news) (hid : id ∉ idsLL es)
    (hb : (r.es.length + es.length) * y.bytes ≤ 140737488355328) (hm : r.es.length + es.length ≤ 140737488355328)
    (k : AWL C N ops Q rest { tm := upd s.tm d (.ref id 0 (r.es.length + es.length)), H := updH (frz' s.H (idsLL es)) id (.row (appRow r es.length news)), nx := nx }) : AWL C N ops Q (o :: rest) s := by
  rintro S0 w0 a w hE ⟨σ, hσ⟩
  have hd1 := hσ.ev x1
  -- the destination's row is there
  have hstep1 : ∃ σ1 H1, Le σ σ1 w w ∧ Inv w0.heap.size S0 w H1 σ1 ∧ (∀ i, i ≠ id → H1 i = s.H i) ∧ (H1 id = some (.row r)) ∧ Rep σ1 w (.ref id 0 r.es.length) (a.eval x1) ∧ r.fro = false ∧ r.k = y.size ∧ r.ty = e ∧ (∀ i, nx ≤ i → H1 i = none) := by
    unfold dstA at hdst
    split at hdst
    · rename_i hx
      injection hdst with hdst
      simp only [Prod.mk.injEq] at hdst
      obtain ⟨rfl, rfl, rfl⟩ := hdst
      rw [hx] at hd1
      simp only [Rep] at hd1
      have hf : s.H key = none := by
        rcases hkey with h | h
        · rw [h]; exact hσ.nx s.nx (Nat.le_refl _)
        · exact h
      have had := hσ.inv.adopt hf { k := y.size, es := [], ty := e } rfl rfl rfl
      refine ⟨_, _, had.1, had.2, fun i hi => by simp only [updH]; rw [if_neg hi], by simp [updH], ?_, rfl, rfl, rfl, fun i hi => ?_⟩
      · rw [hd1]
        simp only [Rep]
        exact ⟨.inl rfl, none, 0, rfl, Nat.le_refl _, by simp [maxLen], fun h => absurd rfl h, fun _ _ => .inl ⟨by simp [Sg.adopt], rfl, rfl, rfl⟩⟩
      · simp only [updH]; rw [if_neg (by omega)]; exact hσ.nx i (by omega)
    · rename_i id' n hx
      split at hdst
      · rename_i r' hrow
        split at hdst
        · rename_i hc
          obtain ⟨c1, c2, c3, c4⟩ := hc
          injection hdst with hdst
          simp only [Prod.mk.injEq] at hdst
          obtain ⟨rfl, rfl, rfl⟩ := hdst
          rw [hx, c1] at hd1
          exact ⟨σ, s.H, hσ.inv.le_heap (fun _ _ => rfl), hσ.inv, fun _ _ => rfl, rowAt_eq hrow, hd1, c2, c3, c4, hσ.nx⟩
        · cases hdst
      · cases hdst
    · cases hdst
  obtain ⟨σ1, H1, l1, i1, ho1, hH1, hr1, hf1, hk1, hty1, hnx1⟩ := hstep1
  obtain ⟨A, c, k', hx2, hea, hss⟩ := srcA_sound hσ.inv (hσ.ev x2) hsrc
  -- what the elements name is frozen
  have hrows : ∀ i ∈ idsLL es, ∃ r, rowAt H1 i = some r := fun i hi => by
    obtain ⟨r', hr'⟩ := idsLL_row _ _ hv i hi
    have hne : i ≠ id := fun e => hid (e ▸ hi)
    refine ⟨r', ?_⟩
    unfold rowAt at hr' ⊢
    rw [ho1 i hne]; exact hr'
  obtain ⟨hvl, hvg⟩ := viewLL_get _ _ hv
  let σ2 := σ1.frz (idsLL es)
  have i2' := i1.frz hrows
  have l2' := i1.le_frz (idsLL es)
  have i2 : Inv w0.heap.size S0 w (frz' H1 (idsLL es)) σ2 := by
    unfold frz'
    split
    · rename_i he
      have : idsLL es = [] := by simpa using he
      have e1 : σ2 = σ1 := by
        show σ1.frz (idsLL es) = σ1
        rw [this]
        unfold Sg.frz
        congr 1
        funext b; simp
      rw [e1]; exact i1
    · exact i2'
  have l12 : Le σ σ2 w w := ⟨fun b h => .inl (l1.S b h), fun _ _ => rfl, fun b i h => ⟨(l1.own b i h).1, (l1.own b i h).2⟩, l1.al, l1.obj⟩
  have hH2 : frz' H1 (idsLL es) id = some (.row r) := by rw [frz'_row hid]; exact hH1
  have hr2 : Rep σ2 w (.ref id 0 r.es.length) (a.eval x1) := Rep.mono l2' _ _ hr1
  have heach : ∀ e ∈ news, e.length = y.size ∧ ∀ c ∈ e, c.cell = true := by
    intro e' he'
    obtain ⟨i, hi, rfl⟩ := List.getElem_of_mem he'
    have hi' : i < es.length := by omega
    have hve := hvg i hi' hi
    have hmem := List.getElem_mem hi'
    by_cases hne : es = []
    · subst hne; simp at hi'
    · obtain ⟨b, o', _, hR⟩ := hss hne
      obtain ⟨g1, g2, _⟩ := viewL_sound hσ.inv (S' := fun _ => True) (fun _ _ => trivial) _ _ _ hve (fun _ _ _ _ => trivial) (hR i hi')
      exact ⟨by rw [← g1]; exact hlen _ hmem, g2 (hea _ hmem).2⟩
  have hsrc2 : news ≠ [] → ∃ b o, A = some ⟨b, o, none⟩ ∧ ∀ i (h : i < news.length), RepL σ2 w news[i] (fun j => w.cell? ⟨b, o + i * y.size + j, none⟩) := by
    intro hne
    have hne' : es ≠ [] := fun e => by subst e; simp at hvl; exact hne (List.eq_nil_of_length_eq_zero hvl.symm)
    obtain ⟨b, o', rfl, hR⟩ := hss hne'
    have hk' : k' = y.size := by
      obtain ⟨x, xs, rfl⟩ := List.exists_cons_of_ne_nil hne'
      rw [← (hea x (by simp)).1, hlen x (by simp)]
    refine ⟨b, o', rfl, fun i hi => ?_⟩
    have hi' : i < es.length := by omega
    have hve := hvg i hi' hi
    obtain ⟨_, _, g3⟩ := viewL_sound hσ.inv (S' := fun b => σ.S b ∨ ∃ id, id ∈ idsLL es ∧ σ.own b = some id) (fun b h => .inl h) _ _ _ hve (fun id hid b hb => .inr ⟨id, idsLL_mem (List.getElem_mem hi') hid, hb⟩) (hR i hi')
    rw [hk'] at g3
    refine RepL.mono (Le.of_pure σ2 w) _ _ _ (fun _ _ h => h) (RepL.mono (Le.pure_ (fun b h => ?_) (fun _ _ => rfl)) _ _ _ (fun _ _ h => h) g3)
    rcases h with h | ⟨id', h1, h2⟩
    · exact .inl (l1.S b h)
    · exact .inr ⟨id', h1, (l1.own b id' h2).2.1⟩
  have hln : es.length = news.length := hvl
  obtain ⟨v, w', σ', hrun, hb', hle', hinv', hrep'⟩ := append_core (T := C.T) (ty := o.type) (A := A) (c := c) (es := news) hC.T i2 hσ.size hH2 hf1 ((hC.T t _ ht).slice hte) hy hk0 hk1 hty1 hr2 heach hsrc2 (by rw [← hln]; exact hb) (by rw [← hln]; simp only [maxLen]; omega)
  refine wpListIn_plain hg fun K hK => Oper.wpIn_of_wp C.hF (fun c e => by rw [ho] at e; cases e) ?_
  have hexec : (execOp a.eval o).run C.P w = .ok (.value v) w' := by
    rw [← hln] at hrun
    simp only [execOp, ho, resolve, invoke, builtin, Sem.run_bind, Sem.run_pure, Result.andThen_ok, List.map_toArray, List.map_cons, List.map_nil, hx2, hrun]
  simp only [Oper.wp, hexec, Oper.upon]
  rw [hd]
  refine hK _ _ (k S0 w0 _ w' hE ⟨σ', ?_⟩)
  have hlt : Le σ σ' w w' := ⟨fun b h => hle'.S b (l12.S b h), fun b h => hle'.heap b (l12.S b h), fun b i h => ?_, fun i h => hle'.al i (l12.al i h), fun i h => ?_⟩
  · refine hσ.put hN (s' := { tm := upd s.tm d (.ref id 0 (r.es.length + es.length)), H := updH (frz' s.H (idsLL es)) id (.row (appRow r es.length news)), nx := nx }) ?_ (fun i hi => ?_) hlt hb' (by rw [hln]; exact hrep') rfl
    · have : updH (frz' s.H (idsLL es)) id (.row (appRow r es.length news)) = updH (frz' H1 (idsLL es)) id (.row { r with es := r.es ++ news, lo := if news.isEmpty then r.lo else r.es.length + news.length }) := by
        funext i
        simp only [updH, appRow, hln]
        split
        · rfl
        · rename_i hne
          unfold frz'
          split
          · exact (ho1 i hne).symm
          · unfold frz; rw [ho1 i hne]
      show Inv w0.heap.size S0 w' (updH (frz' s.H (idsLL es)) id (.row (appRow r es.length news))) σ'
      rw [this]; exact hinv'
    · show updH (frz' s.H (idsLL es)) id (.row (appRow r es.length news)) i = none
      have hii : H1 i = none := hnx1 i hi
      have hne : i ≠ id := fun e => by subst e; rw [hH1] at hii; cases hii
      simp only [updH]; rw [if_neg hne]
      have hsn : s.H i = none := by rw [← ho1 i hne]; exact hii
      unfold frz'
      split
      · exact hsn
      · unfold frz; split
        · rw [hsn]
        · exact hsn
  · obtain ⟨h1, h2, h3, h4⟩ := l12.own b i h
    obtain ⟨_, g2, g3, g4⟩ := hle'.own b i h2
    exact ⟨h1, g2, g3.trans h3, Nat.le_trans h4 g4⟩
  · rcases l12.obj i h with ⟨a1, a2, a3⟩ | ⟨a1, a2⟩ <;> rcases hle'.obj i (l12.al i h) with ⟨b1, b2, b3⟩ | ⟨b1, b2⟩
    · exact .inl ⟨b1.trans a1, b2.trans a2, fun b hb => (b3 b (by rw [a2]; exact hb)).trans (a3 b hb)⟩
    · refine .inr ⟨by omega, fun b hb => ?_⟩
      have := b2 b (l12.own b i hb).2.1
      have := (l12.own b i hb).2.2.2
      omega
    · exact .inr ⟨by omega, a2⟩
    · exact .inr ⟨by omega, a2⟩
end
section
variable {C : Cx} {Q : AV → Prop}
theorem results_tmps {fn : Func} {ts : List Nat} (h : fn.results = (ts.map ResultVar.tmp).toArray) (hl : ts.length ≠ 1) (tmps : Array Value) (P : Program) (w : World) :
    (results fn tmps).run P w = .ok (.tuple ((ts.map fun t => tmps.getD t undef).toArray)) w := by
  have key : ∀ ts : List Nat, ((ts.map ResultVar.tmp).mapM fun (x : ResultVar) => (match x with | .tmp t => pure (tmps.getD t undef) | .cell a t => do loadVar t (← asAddr (tmps.getD a undef)) : Sem Value)).run P w = .ok (ts.map fun t => tmps.getD t undef) w := by
    intro ts
    induction ts with
    | nil => simp
    | cons t ts ih => simp only [List.map_cons, List.mapM_cons, Sem.run_bind, Sem.run_pure, Result.andThen_ok, ih]
  simp only [results, h, Array.mapM_eq_mapM_toList, Sem.run_bind, Sem.run_map, Sem.run_pure]
  refine (congrArg (fun r => (Result.andThen (Result.andThen r fun a w' => Result.ok a.toArray w') fun a w' => Result.ok (if h : a.size = 1 then a[0] else Value.tuple a) w')) (key ts)).trans ?_
  simp [hl]
def endQ (rs : List Nat) (Q : AV → Prop) : Exit → St → Prop
  | .normal, s => ∃ r', viewA s.H (match rs with | [t] => s.tm t | ts => .tup (ts.map s.tm)) = some r' ∧ Q r'
  | .ret, s => ∃ r', viewA s.H (match rs with | [t] => s.tm t | ts => .tup (ts.map s.tm)) = some r' ∧ Q r'
  | _, _ => False
def startSt (args : List AV) : St := { tm := fun t => args.getD t .junk, H := fun _ => none, nx := 0 }
theorem start_sim {w : World} {S : Nat → Prop} {vals : Array Value} {args : List AV} {N : Nat} (hS : ∀ b, S b → b < w.heap.size) (hsz : vals.size = args.length) (hr : RepL (pureSg S) w args (fun i => vals[i]?)) (hN : args.length ≤ N) :
    Sim (Fr.of S) w N { tmps := vals ++ Array.replicate (N - vals.size) undef, defers := [] } w (startSt args) := by
  refine ⟨pureSg S, ⟨⟨fun id => by simp [pureSg, startSt], fun id _ => ⟨rfl, fun b h => by simp [pureSg] at h⟩, fun b h => ⟨hS b h, .inl h⟩, fun b id h => by simp [pureSg] at h, fun id r h => by simp [startSt] at h, fun id kt et es h => by simp [startSt] at h, trivial⟩, fun _ _ => rfl, fun t => ?_, by simp; omega, rfl, Below.refl _ _⟩⟩
  show Rep (pureSg S) w (args.getD t .junk) ((vals ++ Array.replicate (N - vals.size) undef).getD t undef)
  by_cases ht : t < args.length
  · rw [repL_iff] at hr
    obtain ⟨u, hu, hru⟩ := hr t ht
    have : (vals ++ Array.replicate (N - vals.size) undef).getD t undef = u := by
      rw [Array.getD_eq_getD_getElem?, Array.getElem?_append_left (by omega), hu]; rfl
    rw [this, List.getD_eq_getElem?_getD, List.getElem?_eq_getElem ht]; exact hru
  · have : args.getD t .junk = .junk := by rw [List.getD_eq_getElem?_getD, List.getElem?_eq_none (by omega)]; rfl
    rw [this]; trivial
theorem OKat.of_body [hW : C.Wide] {f : FuncId} {fn : Func} {c : Code} {args : List AV} {rs : List Nat} (hf : C.P.funcs[f]? = some fn) (hb : fn.body = some c) (hn : (fn.name == "runtime.NumGoroutine") = false) (hr : fn.results = (rs.map ResultVar.tmp).toArray)
    (hN : args.length ≤ fn.ntmps) (h : AW C fn.ntmps c (endQ rs Q) (startSt args)) : OKat C f args Q := by
  refine ⟨⟨fn, hf, hn, by rw [hb]; rfl⟩, fun w S vals hE hS hsz hrep => ?_⟩
  refine calls_of_wp hf hb ?_
  have hs := start_sim (N := fn.ntmps) hS hsz hrep hN
  have h2 := h (Fr.of S) w _ w hE hs
  rw [hW.h] at h2
  refine wp_mono (wpIn_wide.1 h2) ?_
  have fin : ∀ a' w' s', Sim (Fr.of S) w fn.ntmps a' w' s' → (∃ r', viewA s'.H (match rs with | [t] => s'.tm t | ts => .tup (ts.map s'.tm)) = some r' ∧ Q r') →
      a'.defers = [] ∧ ∃ v, (results fn a'.tmps).run C.P w' = .ok v w' ∧ (Below w.heap.size w w' ∧ ∃ v2 r, Ending.returned v = .returned v2 ∧ Q r ∧ Rep (pureSg fun b => S b ∨ (w.heap.size ≤ b ∧ b < w'.heap.size)) w' r v2) := by
    rintro a' w' s' ⟨σ, hσ⟩ ⟨r', hv, hq⟩
    have hview : ∀ (c : AV) (u : Value), viewA s'.H c = some r' → Rep σ w' c u → Rep (pureSg fun b => S b ∨ (w.heap.size ≤ b ∧ b < w'.heap.size)) w' r' u := by
      intro c u hc hu
      refine viewA_sound hσ.inv (fun b hb => ?_) c u r' hc (fun id _ b hb => .inr (hσ.inv.own_lt b id hb)) hu
      have := hσ.inv.S_lt b hb
      rcases this.2 with h | h
      · exact .inl h
      · exact .inr ⟨h, this.1⟩
    refine ⟨hσ.d, ?_⟩
    by_cases hl : ∃ t, rs = [t]
    · obtain ⟨t, rfl⟩ := hl
      exact ⟨_, results_tmp (by simpa using hr) _ _ _, hσ.below, _, r', rfl, hq, hview _ _ hv (hσ.tm t)⟩
    · have hne : rs.length ≠ 1 := fun h => by
        match rs, h with
        | [t], _ => exact hl ⟨t, rfl⟩
      refine ⟨_, results_tmps hr hne _ _ _, hσ.below, _, r', rfl, hq, ?_⟩
      have hm : (match rs with | [t] => s'.tm t | ts => AV.tup (ts.map s'.tm)) = .tup (rs.map s'.tm) := by
        match rs, hl with
        | [], _ => rfl
        | [t], h => exact absurd ⟨t, rfl⟩ h
        | _ :: _ :: _, _ => rfl
      rw [hm] at hv
      refine hview _ _ hv ?_
      simp only [Rep]
      refine ⟨_, rfl, by simp, ?_⟩
      rw [repL_iff']
      intro i c hc
      simp only [List.getElem?_map, Option.map_eq_some_iff] at hc
      obtain ⟨t, ht, rfl⟩ := hc
      exact ⟨a'.tmps.getD t undef, by simp [ht], hσ.tm t⟩
  rintro e a' w' ⟨s', hs', hq⟩
  cases e with
  | normal => exact fin a' w' s' hs' hq
  | ret => exact fin a' w' s' hs' hq
  | exit id => exact hq.elim
  | goto l => exact hq.elim
  | panic c => exact hq.elim
  | outgrown => exact hq.elim
end
end Go.Pg

namespace Go.Pg
open Go Go.RowKit
theorem put_tm (s : St) (d : Nat) (r : AV) (nr : Option Row) (t : Nat) : (s.put d r nr).tm t = if t = d then r else s.tm t := rfl
theorem put_H0 (s : St) (d : Nat) (r : AV) : (s.put d r none).H = s.H := rfl
theorem put_H1 (s : St) (d : Nat) (r : AV) (row : Row) : (s.put d r (some row)).H = updH s.H s.nx (.row row) := rfl
theorem put_nx0 (s : St) (d : Nat) (r : AV) : (s.put d r none).nx = s.nx := rfl
theorem put_nx1 (s : St) (d : Nat) (r : AV) (row : Row) : (s.put d r (some row)).nx = s.nx + 1 := rfl
theorem back_tm (s : St) (d : Nat) (r : AV) (ids : List Nat) (t : Nat) : (s.back d r ids).tm t = if t = d then r else s.tm t := rfl
theorem back_nx (s : St) (d : Nat) (r : AV) (ids : List Nat) : (s.back d r ids).nx = s.nx := rfl
theorem back_H (s : St) (d : Nat) (r : AV) (ids : List Nat) : (s.back d r ids).H = afterH s.H ids r := rfl
theorem upd_at (f : Nat → AV) (d : Nat) (r : AV) (t : Nat) : upd f d r t = if t = d then r else f t := rfl
theorem start_tm (args : List AV) (t : Nat) : (startSt args).tm t = args.getD t .junk := rfl
theorem start_H (args : List AV) : (startSt args).H = fun _ => none := rfl
theorem start_nx (args : List AV) : (startSt args).nx = 0 := rfl
theorem rowAt_upd (H : Nat → Option AO) (i : Nat) (r : Row) (j : Nat) : rowAt (updH H i (.row r)) j = if j = i then some r else rowAt H j := by
  unfold rowAt updH
  split <;> rename_i h <;> split at h <;> simp_all
theorem rowAt_none (j : Nat) : rowAt (fun _ => none) j = none := rfl
theorem afterH_nil (H : Nat → Option AO) (r : AV) : afterH H [] r = H := by simp [afterH]
theorem ev_tmp (s : St) (t : Nat) : s.ev (.tmp t) = s.tm t := rfl
theorem ev_const (s : St) (x : Value) : s.ev (.const x) = constA x := rfl
theorem ev_func (s : St) (f : FuncId) : s.ev (.func f) = .clo f [] := rfl
theorem constA_int (k : IntKind) (n : Int) : constA (.int k n) = .v (.int k n) := rfl
theorem constA_bool (b : Bool) : constA (.bool b) = .v (.bool b) := rfl
theorem constA_str (b : ByteArray) : constA (.string b) = .v (.string b) := rfl
theorem constA_nil : constA (.slice none 0 0) = .v (.slice none 0 0) := rfl
section
variable {C : Cx} {N : Nat} {Q : Exit → St → Prop} {s : St} {ops : Array Oper} {rest : List Oper} {o : Oper}
theorem put_same_tm {t : Nat} {x : AV} (h : s.tm t = x) : s.put t x none = s := by
  unfold St.put
  have : upd s.tm t x = s.tm := by funext u; unfold upd; split <;> simp_all
  rw [this]; rfl
theorem AWL.guardS {j d t : Nat} {want b : Bool} (hg : o.guard = some (j, want)) (ht : (ops[j]?).bind (·.dst) = some t) (hd : o.dst = some d) (hN : d < N) (hb : s.tm t = .v (.bool b))
    (k1 : b = want → AWL C N ops Q ({ o with guard := none } :: rest) (s.put t (.v (.bool want)) none)) (k2 : b = !want → AWL C N ops Q rest ((s.put t (.v (.bool (!want))) none).put d (.v undef) none)) : AWL C N ops Q (o :: rest) s :=
  AWL.guard hg ht hb hd hN (fun h => by have := k1 h; rwa [put_same_tm (t := t) (by rw [hb, h])] at this) (fun h => by have := k2 h; rw [put_same_tm (t := t) (x := .v (.bool (!want))) (by rw [hb, h])] at this; exact this)
variable {op : Op} {ty : TypeId} {ps : String} {af : Array Edge} {d j t : Nat} {want b : Bool}
theorem W.step (hC : C.OK) (hN : d < N) {r : AV} {nr : Option Row} (h : stepA C.T C.eqT s.H s.ev s.nx op = some (r, nr)) (k : AWL C N ops Q rest (s.put d r nr)) :
    AWL C N ops Q (⟨some d, op, ty, ps, af, none⟩ :: rest) s := AWL.step hC rfl rfl hN h k
theorem W.gU (ht : (ops[j]?).bind (·.dst) = some t) (hN : d < N) (hb : s.tm t = .v undef) (k : AWL C N ops Q rest (s.put d (.v undef) none)) :
    AWL C N ops Q (⟨some d, op, ty, ps, af, some (j, want)⟩ :: rest) s := AWL.guardU (o := ⟨some d, op, ty, ps, af, some (j, want)⟩) rfl ht hb rfl hN k
theorem W.gS (ht : (ops[j]?).bind (·.dst) = some t) (hN : d < N) (hb : s.tm t = .v (.bool b)) (k1 : b = want → AWL C N ops Q (⟨some d, op, ty, ps, af, none⟩ :: rest) (s.put t (.v (.bool want)) none))
    (k2 : b = !want → AWL C N ops Q rest ((s.put t (.v (.bool (!want))) none).put d (.v undef) none)) :
    AWL C N ops Q (⟨some d, op, ty, ps, af, some (j, want)⟩ :: rest) s := AWL.guardS (o := ⟨some d, op, ty, ps, af, some (j, want)⟩) rfl ht rfl hN hb k1 k2
theorem W.store (hC : C.OK) {tp : TypeId} {p x : Operand} {id : Nat} {r : Row} (h : storeA C.T s.H tp (s.ev p) (s.ev x) = some (id, r)) (k : AWL C N ops Q rest { s with H := updH s.H id (.row r) }) :
    AWL C N ops Q (⟨none, .store tp p x, ty, ps, af, none⟩ :: rest) s := AWL.store hC rfl rfl rfl h k
theorem W.call (hC : C.OK) (hN : d < N) {fo : Operand} {args : Array Operand} {tys : Array TypeId} {f : FuncId} {caps vs : List AV} (hf : s.ev fo = .clo f caps) (hv : viewL s.H (evsA args.toList s.ev ++ caps) = some vs) {Qr : AV → Prop} (hok : OKat C f vs Qr)
    (k : ∀ r, Qr r → AWL C N ops Q rest (s.back d r (idsL (evsA args.toList s.ev ++ caps)))) : AWL C N ops Q (⟨some d, .call { callee := .value fo, args := args, argTypes := tys }, ty, ps, af, none⟩ :: rest) s :=
  AWL.call hC rfl rfl hN rfl hf hv hok k
theorem W.callv (hC : C.OK) (hN : d < N) {fo : Operand} {args : Array Operand} {tys : Array TypeId} {f : FuncId} {caps vs : List AV} {R : AV} (hf : s.ev fo = .clo f caps) (hv : viewL s.H (evsA args.toList s.ev ++ caps) = some vs) (hok : OKv C f vs R)
    (k : AWL C N ops Q rest (s.back d R (idsL (evsA args.toList s.ev ++ caps)))) : AWL C N ops Q (⟨some d, .call { callee := .value fo, args := args, argTypes := tys }, ty, ps, af, none⟩ :: rest) s :=
  AWL.call hC rfl rfl hN rfl hf hv hok (fun r hr => by subst hr; exact k)
end
section
variable {Q : AV → Prop} {s : St}
theorem W.ret1 {t : Nat} {r : AV} (hv : viewA s.H (s.tm t) = some r) (hq : Q r) : endQ [t] Q .ret s := ⟨r, hv, hq⟩
theorem W.ret2 {t u : Nat} {r : AV} (hv : viewA s.H (.tup [s.tm t, s.tm u]) = some r) (hq : Q r) : endQ [t, u] Q .ret s := ⟨r, hv, hq⟩
theorem W.ret3 {t u v : Nat} {r : AV} (hv : viewA s.H (.tup [s.tm t, s.tm u, s.tm v]) = some r) (hq : Q r) : endQ [t, u, v] Q .ret s := ⟨r, hv, hq⟩
end
theorem view_v_int (H : Nat → Option AO) (k : IntKind) (n : Int) : viewA H (.v (.int k n)) = some (.v (.int k n)) := rfl
theorem view_v_bool (H : Nat → Option AO) (b : Bool) : viewA H (.v (.bool b)) = some (.v (.bool b)) := rfl
theorem view_v_str (H : Nat → Option AO) (b : ByteArray) : viewA H (.v (.string b)) = some (.v (.string b)) := rfl
theorem view_nil (H : Nat → Option AO) : viewA H (.v (.slice none 0 0)) = some (.lst []) := rfl
theorem view_lst (H : Nat → Option AO) (es : List (List AV)) : viewA H (.lst es) = some (.lst es) := rfl
theorem view_agg (H : Nat → Option AO) (cs : List AV) : viewA H (.agg cs) = (viewL H cs).map .agg := rfl
theorem view_tup (H : Nat → Option AO) (cs : List AV) : viewA H (.tup cs) = (viewL H cs).map .tup := rfl
theorem view_clo (H : Nat → Option AO) (f : FuncId) (cs : List AV) : viewA H (.clo f cs) = (viewL H cs).map (.clo f) := rfl
theorem viewL_nil (H : Nat → Option AO) : viewL H [] = some [] := rfl
theorem viewL_cons (H : Nat → Option AO) (c : AV) (cs : List AV) : viewL H (c :: cs) = (match viewA H c, viewL H cs with | some d, some ds => some (d :: ds) | _, _ => none) := rfl
theorem idsA_v (x : Value) : idsA (.v x) = [] := rfl
theorem idsA_lst (es : List (List AV)) : idsA (.lst es) = [] := rfl
theorem idsA_agg (cs : List AV) : idsA (.agg cs) = idsL cs := rfl
theorem idsL_nil : idsL [] = [] := rfl
theorem idsL_cons (c : AV) (cs : List AV) : idsL (c :: cs) = idsA c ++ idsL cs := rfl
end Go.Pg
