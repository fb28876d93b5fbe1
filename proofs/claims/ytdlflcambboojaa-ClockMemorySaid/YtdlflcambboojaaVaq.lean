/-
  Contracts of functions, proved by going through their code. No conditions.
-/
import Derived.Test.YtdlflcambboojaaVaa
import Derived.Test.YtdlflcambboojaaVak
import Derived.Test.YtdlflcambboojaaVan
import Derived.Test.YtdlflcambboojaaVap
set_option linter.unusedVariables false
set_option linter.unusedSimpArgs false
namespace Go.Pg
open Go Go.RowKit
section
variable {B0 : Nat} {S0 : Fr} {w : World} {H : Nat → Option AO} {σ : Sg}
theorem Inv.frzM (hi : Inv B0 S0 w H σ) {id : Nat} {sh : KSh} {et : TypeId} {es : List (Key × AV)} (hH : H id = some (.mp (.map sh) et es)) : Inv B0 S0 w (updH H id (.mp (.fmap sh) et es)) (σ.frz [id]) := by
  have hle := hi.le_frz [id]
  have hownS : ∀ b, (σ.frz [id]).S b ↔ σ.S b ∨ σ.own b = some id := fun b => by simp [Sg.frz]
  refine ⟨fun i => ?_, fun i hn => ?_, fun b h => ?_, hi.own_lt, fun i r h => ?_, fun i kt et2 es2 h => ?_, S0.mono _ _ _ _ hle hi.fr⟩
  · rw [show (σ.frz [id]).al i ↔ σ.al i from Iff.rfl, hi.al]
    unfold updH
    split
    · rename_i e; subst e; simp [hH]
    · rfl
  · refine hi.fresh i ?_
    unfold updH at hn
    split at hn
    · cases hn
    · exact hn
  · rcases (hownS b).1 h with h | h
    · exact hi.S_lt b h
    · have := hi.own_lt b id h; exact ⟨this.2, .inr this.1⟩
  · unfold updH at h
    split at h
    · cases h
    · rename_i hne
      have hr := hi.row i r h
      refine ⟨hr.len, hr.k, hr.each, hr.lo, hr.cur, hr.empty, fun b ho => ⟨(hr.own b ho).1, (hr.own b ho).2.1, fun h => .inl ((hr.own b ho).2.2.1 h), fun h => ?_⟩, fun b hc j h1 => RepL.mono hle _ _ _ (fun _ _ h => h) (hr.con b hc j h1)⟩
      intro hs
      have ho2 : σ.own b = some i := ho
      rcases (hownS b).1 hs with h' | h'
      · exact (hr.own b ho).2.2.2 h h'
      · rw [ho2] at h'; injection h' with h'; exact hne h'
  · unfold updH at h
    split at h
    · rename_i e; subst e
      injection h with h; injection h with h1 h2 h3; subst h1; subst h2; subst h3
      have hm := hi.mp i _ _ _ hH
      obtain ⟨b, clock, xs, a1, a2, a3, a4, a5, a6⟩ := hm.cur
      exact ⟨hm.len, ⟨b, clock, xs, a1, a2, ⟨fun h => (by cases h), fun _ => (hownS b).2 (.inr a2)⟩, a4, a5, RepL.mono hle _ _ _ (fun _ _ h => h) a6⟩, hm.one⟩
    · rename_i hne
      have hm := hi.mp i kt et2 es2 h
      obtain ⟨b, clock, xs, a1, a2, a3, a4, a5, a6⟩ := hm.cur
      refine ⟨hm.len, ⟨b, clock, xs, a1, a2, ⟨fun hl => ?_, fun hl => .inl (a3.2 hl)⟩, a4, a5, RepL.mono hle _ _ _ (fun _ _ h => h) a6⟩, hm.one⟩
      intro hs
      rcases (hownS b).1 hs with h' | h'
      · exact a3.1 hl h'
      · rw [a2] at h'; injection h' with h'; exact hne h'
theorem Inv.fmap_rep (hi : Inv B0 S0 w H σ) {id : Nat} {sh : KSh} {et : TypeId} {es : List (Key × AV)} (hH : H id = some (.mp (.fmap sh) et es)) (hp : pureL (es.map (·.2)) = true) {u : Value} (hr : Rep σ w (.map id) u) :
    Rep σ w (.lmap sh (es.map (·.1)) (es.map (·.2))) u := by
  simp only [Rep] at hr ⊢
  obtain ⟨b, rfl, hown⟩ := hr
  have hm := hi.mp id _ _ _ hH
  obtain ⟨b', clock, xs, a1, a2, a3, a4, ⟨a5, a5'⟩, a6⟩ := hm.cur
  have := (hm.one b hown).1
  rw [a1] at this; injection this with this; subst this
  exact ⟨b', clock, xs, rfl, a3.2 rfl, a4, by rw [a5, List.map_map]; rfl, a5', by simp, RepL.pure_ _ _ hp a6⟩
end
section
variable {C : Cx} {N : Nat} {Q : Exit → St → Prop} {s : St}
theorem AW.frzM {c : Code} (id : Nat) {sh : KSh} {et : TypeId} {es : List (Key × AV)} (hH : s.H id = some (.mp (.map sh) et es)) (h : AW C N c Q { s with H := updH s.H id (.mp (.fmap sh) et es) }) : AW C N c Q s := by
  rintro S0 w0 a w hE ⟨σ, hσ⟩
  have hle := hσ.inv.le_frz [id]
  refine h S0 w0 a w hE ⟨σ.frz [id], hσ.inv.frzM hH, fun i hi => ?_, fun u => Rep.mono hle _ _ (hσ.tm u), hσ.N, hσ.d, hσ.below⟩
  have h0 := hσ.nx i hi
  show updH s.H id _ i = none
  simp only [updH]
  rw [if_neg (fun e => by subst e; rw [hH] at h0; cases h0)]; exact h0
inductive Told (H : Nat → Option AO) : AV → AV → Prop where
  | view {c d : AV} (h : viewA H c = some d) : Told H c d
  | map {id : Nat} {sh : KSh} {et : TypeId} {es : List (Key × AV)} (h : H id = some (.mp (.fmap sh) et es)) (hp : pureL (es.map (·.2)) = true) : Told H (.map id) (.lmap sh (es.map (·.1)) (es.map (·.2)))
theorem view_cell {H : Nat → Option AO} {c d : AV} (h : viewA H c = some d) (hc : c.cell = true) : d.cell = true := by
  cases c <;> simp only [AV.cell] at hc <;> try contradiction
  all_goals (unfold viewA at h)
  · split at h <;> try contradiction
    · injection h with h; subst h; rfl
    · injection h with h; subst h; exact hc
  · injection h with h; subst h; rfl
  · injection h with h; subst h; rfl
  · split at h
    · split at h
      · injection h with h; subst h; rfl
      · cases h
    · cases h
  · split at h
    · split at h
      · injection h with h; subst h; rfl
      · cases h
    · cases h
  · simp only [Option.map_eq_some_iff] at h
    obtain ⟨_, _, rfl⟩ := h; rfl
  · simp only [Option.map_eq_some_iff] at h
    obtain ⟨_, _, rfl⟩ := h; rfl
  · injection h with h; subst h; rfl
theorem AW.settle {c : Code} (id : Nat) (ids : List Nat) {r : Row} {es' : List (List AV)} (hr : rowAt s.H id = some r) (hrows : ∀ i ∈ ids, ∃ r, rowAt s.H i = some r) (hid : id ∉ ids) (hl : es'.length = r.es.length)
    (htold : ∀ (i : Nat) (e e' : List AV), r.es[i]? = some e → es'[i]? = some e' → e'.length = e.length ∧ ∀ (j : Nat) (a b : AV), e[j]? = some a → e'[j]? = some b → Told s.H a b ∧ ∀ x ∈ idsA a, x ∈ ids)
    (h : AW C N c Q { s with H := updH (frz s.H ids) id (.row { r with es := es' }) }) : AW C N c Q s := by
  rintro S0 w0 a w hE ⟨σ, hσ⟩
  have hH := rowAt_eq hr
  have hle := hσ.inv.le_frz ids
  have hinv := hσ.inv.frz hrows
  have hH' : frz s.H ids id = some (.row r) := by unfold frz; rw [if_neg hid]; exact hH
  have hR := hinv.row id r hH'
  have hR0 := hσ.inv.row id r hH
  have hinv2 := hinv.retell (es' := es') hH' hl (fun e' he' => by
    obtain ⟨i, hi, rfl⟩ := List.getElem_of_mem he'
    have hi2 : i < r.es.length := by omega
    obtain ⟨g1, g2⟩ := htold i r.es[i] es'[i] (List.getElem?_eq_getElem hi2) (List.getElem?_eq_getElem hi)
    obtain ⟨e1, e2⟩ := hR.each _ (List.getElem_mem hi2)
    refine ⟨g1.trans e1, fun d hd => ?_⟩
    obtain ⟨j, hj, rfl⟩ := List.getElem_of_mem hd
    have hj2 : j < r.es[i].length := by omega
    obtain ⟨t1, _⟩ := g2 j _ _ (List.getElem?_eq_getElem hj2) (List.getElem?_eq_getElem hj)
    have hcc := e2 _ (List.getElem_mem hj2)
    generalize es'[i][j] = d at t1
    generalize r.es[i][j] = c0 at t1 hcc
    cases t1 with
    | view hv => exact view_cell hv hcc
    | map hv hp => rfl) (fun b hb i hi => by
    have hi2 : i < r.es.length := by omega
    obtain ⟨g1, g2⟩ := htold i r.es[i] es'[i] (List.getElem?_eq_getElem hi2) (List.getElem?_eq_getElem hi)
    have hcon := hR0.con b hb i hi2
    rw [repL_iff] at hcon ⊢
    intro j hj
    have hj2 : j < r.es[i].length := by omega
    obtain ⟨u, hu, hru⟩ := hcon j hj2
    obtain ⟨t1, t2⟩ := g2 j _ _ (List.getElem?_eq_getElem hj2) (List.getElem?_eq_getElem hj)
    refine ⟨u, hu, ?_⟩
    generalize es'[i][j] = d at t1
    generalize r.es[i][j] = c0 at t1 t2 hru
    cases t1 with
    | view hv => exact Rep.lift (viewA_sound hσ.inv (S' := (σ.frz ids).S) (fun b h => .inl h) _ _ _ hv (fun x hx b hb => .inr ⟨x, t2 x hx, hb⟩) hru)
    | map hv hp => exact Rep.mono hle _ _ (hσ.inv.fmap_rep hv hp hru))
  refine h S0 w0 a w hE ⟨σ.frz ids, hinv2, fun i hi => ?_, fun u => Rep.mono hle _ _ (hσ.tm u), hσ.N, hσ.d, hσ.below⟩
  have h0 := hσ.nx i hi
  show updH (frz s.H ids) id _ i = none
  simp only [updH]
  rw [if_neg (fun e => by subst e; rw [hH] at h0; cases h0)]
  unfold frz
  split
  · rw [h0]
  · exact h0
end
end Go.Pg

set_option maxHeartbeats 8000000
set_option maxRecDepth 10000
namespace Go.Proofs.Ks
open Go Go.Pg Go.Proofs
attribute [push_cast] eLink
def keyN (n : Node) : Key := .pair n.kind n.num
def idxV (k n : Nat) : List AV := (List.range' k n).map fun (i : Nat) => ai i
abbrev gSys (nd : List Node) (L : List Lk) : AV := .iptr [lNode nd, .lmap .pair (nd.map keyN) (idxV 0 nd.length), lLink L] 0
def atP (kd nm : Int) (nd : List Node) : Int := if atI kd nm 0 nd < 0 then 0 else atI kd nm 0 nd
theorem find_node (kd nm : Int) : ∀ (nd : List Node) (k : Nat), findM (.pair kd nm) ((nd.map keyN).zip (idxV k nd.length)) = if atI kd nm k nd < 0 then none else some (ai (atI kd nm k nd))
  | [], k => rfl
  | x :: nd, k => by
    have ih := find_node kd nm nd (k + 1)
    have e : idxV k (x :: nd).length = ai k :: idxV (k + 1) nd.length := by simp [idxV, List.range'_succ]
    rw [e]
    simp only [zX, List.zip_cons_cons, findM, keyN, Key.same, atI]
    by_cases h : x.kind = kd ∧ x.num = nm
    · obtain ⟨h1, h2⟩ := h
      subst h1; subst h2
      simp
    · have h' : (kd == x.kind && nm == x.num) = false := by
        cases hq : (kd == x.kind && nm == x.num) with
        | false => rfl
        | true => simp only [Bool.and_eq_true, beq_iff_eq] at hq; exact absurd ⟨hq.1.symm, hq.2.symm⟩ h
      simp only [h', zM, if_false, if_neg h]
      exact ih
theorem node_look (kd nm : Int) (nd : List Node) : pickM (.v (.int .i64 0)) false (findM (.pair kd nm) ((nd.map keyN).zip (idxV 0 nd.length))) = ai (atP kd nm nd) := by
  rw [find_node]
  unfold atP
  split <;> simp [pickM]
theorem at_ok (nd : List Node) (L : List Lk) (kd nm : Int) : OKv cx 83 [gSys nd L, ai kd, ai nm] (ai (atP kd nm nd)) := by
  refine OKat.of_body (rs := [6]) Try.func83 rfl (by decide +kernel) rfl (by simp [Try.ntmps83]) ?_
  simp only [Try.ntmps83]
  repeat' first
    | apply jA | apply jB | apply jC | apply jD | apply jE | apply jF | apply jG | apply jH | apply jI
    | ((first | (apply jK cx_ok; decide) | apply jR | apply jS cx_ok); (simp (disch := omega) only [push_cast, simprocAttr, node_look, zM] <;> rfl); all_goals try ((with_reducible intro hI); try first | (cases hI; done) | (simp only [INTS, zL] at hI; try first | (exfalso; omega) | (have hT : True := hI; clear hT hI))))
    | (refine W.makeMap cx_ok (by simp only [push_cast, simprocAttr] <;> rfl) (by decide) ?_)
    | ((first | apply jf | apply jg); (iterate 2 (try (simp (disch := omega) only [push_cast, simprocAttr, node_look, zM] <;> rfl))))
  all_goals (show _ = _; rfl)
theorem ceiling_ok (a b : Int) (ha : 0 ≤ a ∧ a ≤ 1099511627776) (hb : 1 ≤ b ∧ b ≤ 1099511627776) : OKv cx 124 [ai a, ai b] (ai ((a + b - 1) / b)) := by
  have hb0 : (b = 0) = False := eq_false (by omega)
  have h1 : 0 ≤ (a + b - 1) / b := Int.ediv_nonneg (by omega) (by omega)
  have h2 : (a + b - 1) / b ≤ a + b - 1 := Int.ediv_le_self _ (by omega)
  obtain ⟨q, hq⟩ : ∃ q, (a + b - 1) / b = q := ⟨_, rfl⟩
  rw [hq] at h1 h2 ⊢
  refine OKat.of_body (rs := [4]) Try.func124 rfl (by decide +kernel) rfl (by simp [Try.ntmps124]) ?_
  simp only [Try.ntmps124]
  repeat' first
    | apply jA | apply jB | apply jC | apply jD | apply jE | apply jF | apply jG | apply jH | apply jI
    | ((first | (apply jK cx_ok; decide) | apply jR); (simp (disch := omega) only [push_cast, simprocAttr, hb0, hq] <;> rfl); all_goals try ((with_reducible intro hI); try first | (cases hI; done) | (simp only [INTS, zL] at hI; try first | (exfalso; omega) | (have hT : True := hI; clear hT hI))))
    | ((first | apply jf | apply jg); (iterate 2 (try (simp (disch := omega) only [push_cast, simprocAttr, hb0, hq] <;> rfl))))
  all_goals (show _ = _; rfl)
end Go.Proofs.Ks

namespace Go.Proofs.Ks
open Go Go.Pg Go.Proofs
attribute [push_cast] rowAt_mask
def initP (n : Nat) (f : Int) (k : Nat) : List Int := (initF n f).take k ++ List.replicate (n - k) 0
def byP (n k : Nat) : List Int := List.replicate k (-1) ++ List.replicate (n - k) 0
theorem set_mid {A B : List Int} {k : Nat} {x y : Int} (h : A.length = k) : (A ++ y :: B).set k x = A ++ x :: B := by
  subst h
  rw [List.set_append_right _ _ (Nat.le_refl _), Nat.sub_self]; rfl
theorem initF_len (n : Nat) (f : Int) : (initF n f).length = n := by simp [initF]
theorem initP_zero (n : Nat) (f : Int) : initP n f 0 = List.replicate n 0 := by simp [initP]
theorem initP_all (n : Nat) (f : Int) : initP n f n = initF n f := by unfold initP; rw [List.take_of_length_le (by rw [initF_len]; exact Nat.le_refl _), Nat.sub_self]; simp
theorem initP_len (n : Nat) (f : Int) {k : Nat} (h : k ≤ n) : (initP n f k).length = n := by unfold initP; rw [List.length_append, List.length_take, initF_len, List.length_replicate]; omega
theorem initF_at (n : Nat) (f : Int) {k : Nat} (h : k < n) : (initF n f)[k]? = some (if 0 ≤ f ∧ (k : Int) ≠ f then far else 0) := by
  unfold initF; rw [List.getElem?_map, List.getElem?_range h]; rfl
theorem initP_succ (n : Nat) (f : Int) {k : Nat} (h : k < n) : initP n f (k + 1) = (initP n f k).set k (if 0 ≤ f ∧ (k : Int) ≠ f then far else 0) := by
  unfold initP
  rw [show n - k = (n - (k + 1)) + 1 by omega, List.replicate_succ, set_mid (by rw [List.length_take, initF_len]; omega), List.take_add_one, initF_at n f h]
  simp
theorem initP_same (n : Nat) (f : Int) {k : Nat} (h : k < n) (hq : ¬ (0 ≤ f ∧ (k : Int) ≠ f)) : initP n f (k + 1) = initP n f k := by
  unfold initP
  rw [show n - k = (n - (k + 1)) + 1 by omega, List.replicate_succ, List.take_add_one, initF_at n f h, if_neg hq]
  simp
theorem byP_succ {n k : Nat} (h : k < n) : byP n (k + 1) = (byP n k).set k (-1) := by
  unfold byP
  have e : List.replicate (n - k) (0 : Int) = 0 :: List.replicate (n - (k + 1)) 0 := by
    rw [show n - k = (n - (k + 1)) + 1 by omega, List.replicate_succ]
  rw [e, set_mid (by simp), List.replicate_succ']
  simp
theorem byP_all (n : Nat) : byP n n = List.replicate n (-1) := by simp [byP]
theorem byP_zero (n : Nat) : byP n 0 = List.replicate n 0 := by simp [byP]
theorem byP_len {n k : Nat} (h : k ≤ n) : (byP n k).length = n := by simp [byP]; omega
theorem pure_set (b : List Int) (i : Nat) (v : Int) : ((b.map eInt).set i [.v (.int .i64 v)]).all pureL = true := by
  rw [show (b.map eInt).set i [.v (.int .i64 v)] = (b.set i v).map eInt by rw [List.map_set]]; exact pure_ints _
theorem take_set (b : List Int) (i n : Nat) (x : List AV) (h : n = b.length) : ((b.map eInt).set i x).take n = (b.map eInt).set i x := by rw [List.take_of_length_le (by simp [h])]
def BdD (d : List Int) (n S : Nat) : Prop := d.length = n ∧ ∀ k, k < n → -(1073741823 * (S : Int)) ≤ d.getD k 0 ∧ d.getD k 0 ≤ far
theorem BdD.mono {d : List Int} {n S S' : Nat} (h : BdD d n S) (hs : S ≤ S') : BdD d n S' := ⟨h.1, fun k hk => by have := h.2 k hk; omega⟩
theorem BdD.init (n : Nat) (f : Int) : BdD (initF n f) n 0 := ⟨initF_len n f, fun k hk => by rw [init_get n f hk]; split <;> decide⟩
theorem BdD.relax {d : List Int} {n S : Nat} (h : BdD d n S) {a b : Nat} {m : Int} (ha : a < n) (hb : b < n) (hm : -1073741823 ≤ m ∧ m ≤ 1073741823) (hlt : d.getD a 0 + m < d.getD b 0) : BdD (d.set b (d.getD a 0 + m)) n (S + 1) := by
  refine ⟨by simp [h.1], fun k hk => ?_⟩
  rw [getD_set (by rw [h.1]; exact hb)]
  have h1 := h.2 a ha
  have h2 := h.2 b hb
  have h3 := h.2 k hk
  split
  · omega
  · omega
theorem lengths_ok (nd : List Node) (L : List Lk) (f : Int) (hn : nd.length ≤ 100) (hll : L.length ≤ 10000) (hL : ∀ l ∈ L, l.a < nd.length ∧ l.b < nd.length) (hm : ∀ l ∈ L, -1073741823 ≤ l.m ∧ l.m ≤ 1073741823) :
    OKv cx 88 [gSys nd L, ai f] (.tup [lInt (lengthsF nd.length L f).1, lInt (lengthsF nd.length L f).2.1, ai (lengthsF nd.length L f).2.2]) := by
  obtain ⟨RES, hRES⟩ : ∃ z, lengthsF nd.length L f = z := ⟨_, rfl⟩
  rw [hRES]
  unfold lengthsF at hRES
  have k1 : ((nd.length : Int) * 8 ≤ 281474976710656) = True := eq_true (by omega)
  have k2 : ((nd.length : Int) ≤ 281474976710656) = True := eq_true (by omega)
  have hnL : nd.length * L.length ≤ 1000000 := Nat.le_trans (Nat.mul_le_mul hn hll) (by decide)
  refine OKat.of_body (rs := [4, 5, 6]) Try.func88 rfl (by decide +kernel) rfl (by simp [Try.ntmps88]) ?_
  simp only [Try.ntmps88]
  repeat' first
    | apply jA | apply jB | apply jC | apply jD | apply jE | apply jF | apply jG | apply jH | apply jI | apply jJ
    | refine W.draw cx_mixed (by decide +kernel) ?_
    | ((first | (apply jK cx_ok; decide) | (apply jL cx_ok; decide; decide) | apply jM cx_ok | (apply jN; rfl; decide) | (apply jO; rfl; decide; decide) | apply jR); (simp (disch := omega) only [push_cast, simprocAttr, List.map_replicate, k1, k2, zT, zS, zU] <;> rfl); all_goals try ((with_reducible intro hI); try first | (cases hI; done) | (simp only [INTS, zL] at hI; try first | (exfalso; omega) | (have hT : True := hI; clear hT hI))))
    | ((first | apply jj | apply jk); (iterate 2 (try (simp (disch := omega) only [push_cast, simprocAttr, List.map_replicate, k1, k2, zT, zS, zU] <;> rfl))))
  refine AW.loop (fun n s => ∃ (k : Nat) (d b : List Int), n = nd.length - k ∧ (k ≤ nd.length) ∧ (d = initP nd.length f k) ∧ (b = byP nd.length k) ∧ 2 ≤ s.nx ∧ s.tm 0 = gSys nd L ∧ s.tm 1 = ai f ∧ s.tm 7 = .ref 0 0 nd.length ∧ s.tm 8 = .ref 1 0 nd.length ∧ s.tm 28 = ai nd.length ∧ s.tm 29 = ai k ∧ Pg.rowAt s.H (0) = some ({ k := 1, es := d.map eInt, ty := 3 }) ∧ Pg.rowAt s.H (1) = some ({ k := 1, es := b.map eInt, ty := 3 })) (nd.length) ⟨0, _, _, rfl, (Nat.zero_le _), rfl, rfl, ?_, ?_, ?_, ?_, ?_, ?_, ?_, ?_, ?_⟩ ?_
  iterate 9 (first | (simp (disch := omega) only [push_cast, simprocAttr, initP_zero, byP_zero, List.map_replicate] <;> first | rfl | omega) | omega)
  rintro n s ⟨k, d, b, hn, hp0, hp1, hp2, hnl, hS⟩
  have hZ : (0 : Nat) ≠ s.nx ∧ s.nx ≠ (0 : Nat) ∧ (1 : Nat) ≠ s.nx ∧ s.nx ≠ (1 : Nat) := by omega
  subst hp1
  subst hp2
  have hdl := initP_len nd.length f hp0
  have hbl := byP_len hp0
  by_cases hlt : k < nd.length
  · have hk : (k : Int) < (nd.length : Int) := by omega
    have hs1 := initP_succ nd.length f hlt
    have hs2 := byP_succ hlt
    by_cases hq : 0 ≤ f ∧ (k : Int) ≠ f
    · have hq1 := hq.1
      have hq2 : ((k : Int) = f) = False := eq_false hq.2
      rw [if_pos hq] at hs1
      repeat' first
        | apply jA | apply jB | apply jC | apply jD | apply jE | apply jF | apply jG | apply jH | apply jI | apply jJ
        | refine W.draw cx_mixed (by decide +kernel) ?_
        | ((first | (apply jK cx_ok; decide) | (apply jL cx_ok; decide; decide) | apply jM cx_ok | (apply jN; rfl; decide) | (apply jO; rfl; decide; decide) | apply jR); (simp (disch := omega) only [push_cast, simprocAttr, hS, hZ, hk, hlt, hdl, hbl, hq1, hq2] <;> rfl); all_goals try ((with_reducible intro hI); try first | (cases hI; done) | (simp only [INTS, zL] at hI; try first | (exfalso; omega) | (have hT : True := hI; clear hT hI))))
        | ((first | apply jj | apply jk); (iterate 2 (try (simp (disch := omega) only [push_cast, simprocAttr, hS, hZ, hk, hlt, hdl, hbl, hq1, hq2] <;> rfl))))
      all_goals (refine ⟨nd.length - (k + 1), ?_, k + 1, _, _, rfl, (by omega), rfl, rfl, ?_, ?_, ?_, ?_, ?_, ?_, ?_, ?_, ?_⟩; (omega); all_goals first | (simp (disch := omega) only [push_cast, simprocAttr, hS, hZ, hk, hdl, hbl, hq1, hq2, hs1, hs2, far] <;> first | rfl | omega) | omega)
    · have hs3 := initP_same nd.length f hlt hq
      repeat' first
        | apply jA | apply jB | apply jC | apply jD | apply jE | apply jF | apply jG | apply jH | apply jI | apply jJ
        | refine W.draw cx_mixed (by decide +kernel) ?_
        | ((first | (apply jK cx_ok; decide) | (apply jL cx_ok; decide; decide) | apply jM cx_ok | (apply jN; rfl; decide) | (apply jO; rfl; decide; decide) | apply jR); (simp (disch := omega) only [push_cast, simprocAttr, hS, hZ, hk, hlt, hdl, hbl] <;> rfl); all_goals try ((with_reducible intro hI); try first | (cases hI; done) | (simp only [INTS, zL] at hI; try first | (exfalso; omega) | (have hT : True := hI; clear hT hI))))
        | ((first | apply jj | apply jk); (iterate 2 (try (simp (disch := omega) only [push_cast, simprocAttr, hS, hZ, hk, hlt, hdl, hbl] <;> rfl))))
      all_goals first
        | (exfalso; exact hq ⟨by omega, by omega⟩)
        | (refine ⟨nd.length - (k + 1), ?_, k + 1, _, _, rfl, (by omega), rfl, rfl, ?_, ?_, ?_, ?_, ?_, ?_, ?_, ?_, ?_⟩; (omega); all_goals first | (simp (disch := omega) only [push_cast, simprocAttr, hS, hZ, hk, hdl, hbl, hs3, hs2] <;> first | rfl | omega) | omega)
  · have hk : ¬ (k : Int) < (nd.length : Int) := by omega
    have hke : k = nd.length := by omega
    subst hke
    rw [initP_all] at hS
    rw [byP_all] at hS
    repeat' first
      | apply jA | apply jB | apply jC | apply jD | apply jE | apply jF | apply jG | apply jH | apply jI | apply jJ
      | refine W.draw cx_mixed (by decide +kernel) ?_
      | ((first | (apply jK cx_ok; decide) | (apply jL cx_ok; decide; decide) | apply jM cx_ok | (apply jN; rfl; decide) | (apply jO; rfl; decide; decide) | apply jR); (simp (disch := omega) only [push_cast, simprocAttr, hS, hZ, hk] <;> rfl); all_goals try ((with_reducible intro hI); try first | (cases hI; done) | (simp only [INTS, zL] at hI; try first | (exfalso; omega) | (have hT : True := hI; clear hT hI))))
      | ((first | apply jj | apply jk); (iterate 2 (try (simp (disch := omega) only [push_cast, simprocAttr, hS, hZ, hk] <;> rfl))))
    refine AW.loop (fun n s => ∃ (j S : Nat) (d b : List Int), n = nd.length - j ∧ (j ≤ nd.length) ∧ (loopF L (nd.length - j) d b = RES) ∧ (b.length = nd.length) ∧ (BdD d nd.length S) ∧ (S + (nd.length - j) * L.length ≤ 1000000) ∧ 2 ≤ s.nx ∧ s.tm 0 = gSys nd L ∧ s.tm 1 = ai f ∧ s.tm 7 = .ref 0 0 nd.length ∧ s.tm 8 = .ref 1 0 nd.length ∧ s.tm 50 = ai nd.length ∧ s.tm 51 = ai j ∧ Pg.rowAt s.H (0) = some ({ k := 1, es := d.map eInt, ty := 3 }) ∧ Pg.rowAt s.H (1) = some ({ k := 1, es := b.map eInt, ty := 3 })) (nd.length) ⟨0, 0, (initF nd.length f), (List.replicate nd.length (-1)), rfl, (Nat.zero_le _), hRES, (by simp), (BdD.init _ _), (by rw [Nat.sub_zero]; omega), ?_, ?_, ?_, ?_, ?_, ?_, ?_, ?_, ?_⟩ ?_
    iterate 9 (first | (simp (disch := omega) only [push_cast, simprocAttr, hS, hZ, hk] <;> first | rfl | omega) | omega)
    rintro n1 s1 ⟨j1, S1, d1, b1, hn1, hp01, hp11, hp21, hp31, hp41, hnl1, hS1⟩
    have hZ1 : (0 : Nat) ≠ s1.nx ∧ s1.nx ≠ (0 : Nat) ∧ (1 : Nat) ≠ s1.nx ∧ s1.nx ≠ (1 : Nat) := by omega
    have hdl1 := hp31.1
    have hb1 := hp31.2
    by_cases hlt1 : j1 < nd.length
    · have hk1 : (j1 : Int) < (nd.length : Int) := by omega
      obtain ⟨c1, hc1⟩ : ∃ c, nd.length - j1 = c + 1 := ⟨nd.length - j1 - 1, by omega⟩
      rw [hc1] at hp11 hp41
      rw [Nat.succ_mul] at hp41
      obtain ⟨R1, hR1⟩ : ∃ z, roundF L 0 (d1, b1, -1) = z := ⟨_, rfl⟩
      rw [loopF, hR1] at hp11
      repeat' first
        | apply jA | apply jB | apply jC | apply jD | apply jE | apply jF | apply jG | apply jH | apply jI | apply jJ
        | refine W.draw cx_mixed (by decide +kernel) ?_
        | ((first | (apply jK cx_ok; decide) | (apply jL cx_ok; decide; decide) | apply jM cx_ok | (apply jN; rfl; decide) | (apply jO; rfl; decide; decide) | apply jR); (simp (disch := omega) only [push_cast, simprocAttr, hS1, hZ1, hk1] <;> rfl); all_goals try ((with_reducible intro hI); try first | (cases hI; done) | (simp only [INTS, zL] at hI; try first | (exfalso; omega) | (have hT : True := hI; clear hT hI))))
        | ((first | apply jj | apply jk); (iterate 2 (try (simp (disch := omega) only [push_cast, simprocAttr, hS1, hZ1, hk1] <;> rfl))))
      refine AW.loop (fun n s => ∃ (k S : Nat) (d b : List Int) (c : Int) (rest : List Lk), n = rest.length ∧ (L.drop k = rest) ∧ (roundF rest k (d, b, c) = R1) ∧ (b.length = nd.length) ∧ (BdD d nd.length S) ∧ (S + (rest.length + c1 * L.length) ≤ 1000000) ∧ (d.length = nd.length) ∧ 2 ≤ s.nx ∧ s.tm 0 = gSys nd L ∧ s.tm 1 = ai f ∧ s.tm 7 = .ref 0 0 nd.length ∧ s.tm 8 = .ref 1 0 nd.length ∧ s.tm 10 = ai c ∧ s.tm 50 = ai nd.length ∧ s.tm 51 = ai j1 ∧ s.tm 56 = lLink L ∧ s.tm 57 = ai L.length ∧ s.tm 58 = ai k ∧ Pg.rowAt s.H (0) = some ({ k := 1, es := d.map eInt, ty := 3 }) ∧ Pg.rowAt s.H (1) = some ({ k := 1, es := b.map eInt, ty := 3 })) (L.length) ⟨0, S1, d1, b1, (-1), L, rfl, rfl, hR1, hp21, hp31, (by omega), hdl1, ?_, ?_, ?_, ?_, ?_, ?_, ?_, ?_, ?_, ?_, ?_, ?_, ?_⟩ ?_
      iterate 13 (first | (simp (disch := omega) only [push_cast, simprocAttr, hS1, hZ1, hk1] <;> first | rfl | omega) | omega)
      rintro n2 s2 ⟨k2, S2, d2, b2, c2, rest2, hn2, hp02, hp12, hp22, hp32, hp42, hp52, hnl2, hS2⟩
      have hZ2 : (0 : Nat) ≠ s2.nx ∧ s2.nx ≠ (0 : Nat) ∧ (1 : Nat) ≠ s2.nx ∧ s2.nx ≠ (1 : Nat) := by omega
      have hb2 := hp32.2
      rcases rest2 with _ | ⟨l, rest2⟩
      · have hk2 := drop_nil hp02
        rw [roundF] at hp12
        subst hp12
        dsimp only at hp11
        by_cases hc : c2 < 0
        · rw [if_pos hc] at hp11
          subst hp11
          repeat' first
            | apply jA | apply jB | apply jC | apply jD | apply jE | apply jF | apply jG | apply jH | apply jI | apply jJ
            | refine W.draw cx_mixed (by decide +kernel) ?_
            | ((first | (apply jK cx_ok; decide) | (apply jL cx_ok; decide; decide) | apply jM cx_ok | (apply jN; rfl; decide) | (apply jO; rfl; decide; decide) | apply jR); (simp (disch := omega) only [push_cast, simprocAttr, hS2, hZ2, hk2, hc, pure_set, take_set, take_mapLen, leT, zS, zT, zU] <;> rfl); all_goals try ((with_reducible intro hI); try first | (cases hI; done) | (simp only [INTS, zL] at hI; try first | (exfalso; omega) | (have hT : True := hI; clear hT hI))))
            | ((first | apply jj | apply jk); (iterate 2 (try (simp (disch := omega) only [push_cast, simprocAttr, hS2, hZ2, hk2, hc, pure_set, take_set, take_mapLen, leT, zS, zT, zU] <;> rfl))))
          all_goals (show _ = _; rfl)
        · rw [if_neg hc] at hp11
          repeat' first
            | apply jA | apply jB | apply jC | apply jD | apply jE | apply jF | apply jG | apply jH | apply jI | apply jJ
            | refine W.draw cx_mixed (by decide +kernel) ?_
            | ((first | (apply jK cx_ok; decide) | (apply jL cx_ok; decide; decide) | apply jM cx_ok | (apply jN; rfl; decide) | (apply jO; rfl; decide; decide) | apply jR); (simp (disch := omega) only [push_cast, simprocAttr, hS2, hZ2, hk2, hc] <;> rfl); all_goals try ((with_reducible intro hI); try first | (cases hI; done) | (simp only [INTS, zL] at hI; try first | (exfalso; omega) | (have hT : True := hI; clear hT hI))))
            | ((first | apply jj | apply jk); (iterate 2 (try (simp (disch := omega) only [push_cast, simprocAttr, hS2, hZ2, hk2, hc] <;> rfl))))
          all_goals (refine ⟨nd.length - (j1 + 1), ?_, j1 + 1, S2, d2, b2, rfl, (by omega), (by rw [show nd.length - (j1 + 1) = c1 by omega]; exact hp11), hp22, hp32, (by rw [show nd.length - (j1 + 1) = c1 by omega]; simp at hp42; omega), ?_, ?_, ?_, ?_, ?_, ?_, ?_, ?_, ?_⟩; (omega); all_goals first | (simp (disch := omega) only [push_cast, simprocAttr, hS2, hZ2, hk2, hc] <;> first | rfl | omega) | omega)
      · obtain ⟨hk2, hg2, hd2, hl2, hm2, hx2⟩ := drop_cons hp02 eLink []
        obtain ⟨ha, hb⟩ := hL l hm2
        obtain ⟨m1, m2⟩ := hm l hm2
        have ha' : (l.a : Int) < (nd.length : Int) := by omega
        have hb' : (l.b : Int) < (nd.length : Int) := by omega
        have hba := hb2 l.a ha
        have hbb := hb2 l.b hb
        unfold far at hba hbb
        rw [roundF, relax] at hp12
        have hle : S2 ≤ 1000000 := by omega
        by_cases hi : Imp d2 l
        · rw [if_pos hi] at hp12
          have hi2 := hi.2
          have hi1 : d2.getD l.a 0 < 1125899906842624 := hi.1
          have hnew := hp32.relax ha hb ⟨m1, m2⟩ hi2
          repeat' first
            | apply jA | apply jB | apply jC | apply jD | apply jE | apply jF | apply jG | apply jH | apply jI | apply jJ
            | refine AW.draw (id := 17) cx_mixed [18, 19, 20, 21] [3, 4, 5, 14, 15, 16] [0, 1] 0 (by decide +kernel) ?_
            | refine W.draw cx_mixed (by decide +kernel) ?_
            | ((first | (apply jK cx_ok; decide) | (apply jL cx_ok; decide; decide) | apply jM cx_ok | (apply jN; rfl; decide) | (apply jO; rfl; decide; decide) | apply jR); (simp (disch := omega) only [push_cast, simprocAttr, hS2, hZ2, hk2, hg2, hx2, ha', hb', ha, hb, hp52, hp22, hi1, hi2] <;> rfl); all_goals try ((with_reducible intro hI); try first | (cases hI; done) | (simp only [INTS, zL] at hI; try first | (exfalso; omega) | (have hT : True := hI; clear hT hI))))
            | ((first | (apply ja cx_ok; decide) | (apply jb cx_ok; decide; decide) | (apply jc cx_ok; decide; decide)); (simp (disch := omega) only [push_cast, simprocAttr, hS2, hZ2, hk2, hg2, hx2, ha', hb', ha, hb, hp52, hp22, hi1, hi2] <;> rfl); try first | exact .inl rfl | exact .inr (by simp))
            | ((apply jY cx_ok; decide; decide); (simp (disch := omega) only [push_cast, simprocAttr, hS2, hZ2, hk2, hg2, hx2, ha', hb', ha, hb, hp52, hp22, hi1, hi2] <;> rfl); first | exact .inl rfl | exact .inr (by simp))
            | ((first | apply jj | apply jk); (iterate 2 (try (simp (disch := omega) only [push_cast, simprocAttr, hS2, hZ2, hk2, hg2, hx2, ha', hb', ha, hb, hp52, hp22, hi1, hi2] <;> rfl))))
          all_goals (refine ⟨rest2.length, ?_, k2 + 1, S2 + 1, _, _, _, rest2, rfl, hd2, hp12, (by simp [hp22]), hnew, (by simp at hp42; omega), (by simp [hp52]), ?_, ?_, ?_, ?_, ?_, ?_, ?_, ?_, ?_, ?_, ?_, ?_, ?_⟩; ((simp only [zD] at *; omega)); all_goals first | (simp (disch := omega) only [push_cast, simprocAttr, hS2, hZ2, hk2, hg2, hx2, ha', hb', ha, hb, hp52, hp22, hi1, hi2] <;> first | rfl | omega) | omega)
        · rw [if_neg hi] at hp12
          repeat' first
            | apply jA | apply jB | apply jC | apply jD | apply jE | apply jF | apply jG | apply jH | apply jI | apply jJ
            | refine AW.draw (id := 17) cx_mixed [18, 19, 20, 21] [3, 4, 5, 14, 15, 16] [0, 1] 0 (by decide +kernel) ?_
            | refine W.draw cx_mixed (by decide +kernel) ?_
            | ((first | (apply jK cx_ok; decide) | (apply jL cx_ok; decide; decide) | apply jM cx_ok | (apply jN; rfl; decide) | (apply jO; rfl; decide; decide) | apply jR); (simp (disch := omega) only [push_cast, simprocAttr, hS2, hZ2, hk2, hg2, hx2, ha', hb', ha, hb, hp52, hp22] <;> rfl); all_goals try ((with_reducible intro hI); try first | (cases hI; done) | (simp only [INTS, zL] at hI; try first | (exfalso; omega) | (have hT : True := hI; clear hT hI))))
            | ((first | (apply ja cx_ok; decide) | (apply jb cx_ok; decide; decide) | (apply jc cx_ok; decide; decide)); (simp (disch := omega) only [push_cast, simprocAttr, hS2, hZ2, hk2, hg2, hx2, ha', hb', ha, hb, hp52, hp22] <;> rfl); try first | exact .inl rfl | exact .inr (by simp))
            | ((apply jY cx_ok; decide; decide); (simp (disch := omega) only [push_cast, simprocAttr, hS2, hZ2, hk2, hg2, hx2, ha', hb', ha, hb, hp52, hp22] <;> rfl); first | exact .inl rfl | exact .inr (by simp))
            | ((first | apply jj | apply jk); (iterate 2 (try (simp (disch := omega) only [push_cast, simprocAttr, hS2, hZ2, hk2, hg2, hx2, ha', hb', ha, hb, hp52, hp22] <;> rfl))))
          all_goals first
            | (exfalso; exact hi ⟨by assumption, by assumption⟩)
            | (refine ⟨rest2.length, ?_, k2 + 1, S2, d2, b2, c2, rest2, rfl, hd2, hp12, hp22, hp32, (by simp at hp42; omega), hp52, ?_, ?_, ?_, ?_, ?_, ?_, ?_, ?_, ?_, ?_, ?_, ?_, ?_⟩; ((simp only [zD] at *; omega)); all_goals first | (simp (disch := omega) only [push_cast, simprocAttr, hS2, hZ2, hk2, hg2, hx2, ha', hb', ha, hb, hp52, hp22] <;> first | rfl | omega) | omega)
    · have hk1 : ¬ (j1 : Int) < (nd.length : Int) := by omega
      rw [show nd.length - j1 = 0 by omega, loopF] at hp11
      repeat' first
        | apply jA | apply jB | apply jC | apply jD | apply jE | apply jF | apply jG | apply jH | apply jI | apply jJ
        | refine W.draw cx_mixed (by decide +kernel) ?_
        | ((first | (apply jK cx_ok; decide) | (apply jL cx_ok; decide; decide) | apply jM cx_ok | (apply jN; rfl; decide) | (apply jO; rfl; decide; decide) | apply jR); (simp (disch := omega) only [push_cast, simprocAttr, hS1, hZ1, hk1] <;> rfl); all_goals try ((with_reducible intro hI); try first | (cases hI; done) | (simp only [INTS, zL] at hI; try first | (exfalso; omega) | (have hT : True := hI; clear hT hI))))
        | ((first | apply jj | apply jk); (iterate 2 (try (simp (disch := omega) only [push_cast, simprocAttr, hS1, hZ1, hk1] <;> rfl))))
      refine AW.loop (fun n s => ∃ (k : Nat) (rest : List Lk), n = rest.length ∧ (L.drop k = rest) ∧ (lastF rest k d1 b1 = RES) ∧ 2 ≤ s.nx ∧ s.tm 0 = gSys nd L ∧ s.tm 1 = ai f ∧ s.tm 7 = .ref 0 0 nd.length ∧ s.tm 8 = .ref 1 0 nd.length ∧ s.tm 113 = lLink L ∧ s.tm 114 = ai L.length ∧ s.tm 115 = ai k ∧ Pg.rowAt s.H (0) = some ({ k := 1, es := d1.map eInt, ty := 3 }) ∧ Pg.rowAt s.H (1) = some ({ k := 1, es := b1.map eInt, ty := 3 })) (L.length) ⟨0, L, rfl, rfl, hp11, ?_, ?_, ?_, ?_, ?_, ?_, ?_, ?_, ?_, ?_⟩ ?_
      iterate 10 (first | (simp (disch := omega) only [push_cast, simprocAttr, hS1, hZ1, hk1] <;> first | rfl | omega) | omega)
      rintro n2 s2 ⟨k2, rest2, hn2, hp02, hp12, hnl2, hS2⟩
      have hZ2 : (0 : Nat) ≠ s2.nx ∧ s2.nx ≠ (0 : Nat) ∧ (1 : Nat) ≠ s2.nx ∧ s2.nx ≠ (1 : Nat) := by omega
      rcases rest2 with _ | ⟨l, rest2⟩
      · have hk2 := drop_nil hp02
        rw [lastF] at hp12
        subst hp12
        repeat' first
          | apply jA | apply jB | apply jC | apply jD | apply jE | apply jF | apply jG | apply jH | apply jI | apply jJ
          | refine W.draw cx_mixed (by decide +kernel) ?_
          | ((first | (apply jK cx_ok; decide) | (apply jL cx_ok; decide; decide) | apply jM cx_ok | (apply jN; rfl; decide) | (apply jO; rfl; decide; decide) | apply jR); (simp (disch := omega) only [push_cast, simprocAttr, hS2, hZ2, hk2, hdl1, hp21, pure_set, take_set, take_mapLen, leT, zS, zT, zU] <;> rfl); all_goals try ((with_reducible intro hI); try first | (cases hI; done) | (simp only [INTS, zL] at hI; try first | (exfalso; omega) | (have hT : True := hI; clear hT hI))))
          | ((first | apply jj | apply jk); (iterate 2 (try (simp (disch := omega) only [push_cast, simprocAttr, hS2, hZ2, hk2, hdl1, hp21, pure_set, take_set, take_mapLen, leT, zS, zT, zU] <;> rfl))))
        all_goals (show _ = _; rfl)
      · obtain ⟨hk2, hg2, hd2, hl2, hm2, hx2⟩ := drop_cons hp02 eLink []
        obtain ⟨ha, hb⟩ := hL l hm2
        obtain ⟨m1, m2⟩ := hm l hm2
        have ha' : (l.a : Int) < (nd.length : Int) := by omega
        have hb' : (l.b : Int) < (nd.length : Int) := by omega
        have hba := hb1 l.a ha
        have hbb := hb1 l.b hb
        unfold far at hba hbb
        have hle : S1 ≤ 1000000 := by omega
        rw [lastF] at hp12
        by_cases hi : Imp d1 l
        · rw [if_pos hi] at hp12
          subst hp12
          have hi2 := hi.2
          have hi1 : d1.getD l.a 0 < 1125899906842624 := hi.1
          repeat' first
            | apply jA | apply jB | apply jC | apply jD | apply jE | apply jF | apply jG | apply jH | apply jI | apply jJ
            | refine W.draw cx_mixed (by decide +kernel) ?_
            | ((first | (apply jK cx_ok; decide) | (apply jL cx_ok; decide; decide) | apply jM cx_ok | (apply jN; rfl; decide) | (apply jO; rfl; decide; decide) | apply jR); (simp (disch := omega) only [push_cast, simprocAttr, hS2, hZ2, hk2, hg2, hx2, ha', hb', ha, hb, hdl1, hp21, hi1, hi2, pure_set, take_set, take_mapLen, leT, zS, zT, zU] <;> rfl); all_goals try ((with_reducible intro hI); try first | (cases hI; done) | (simp only [INTS, zL] at hI; try first | (exfalso; omega) | (have hT : True := hI; clear hT hI))))
            | ((first | apply jj | apply jk); (iterate 2 (try (simp (disch := omega) only [push_cast, simprocAttr, hS2, hZ2, hk2, hg2, hx2, ha', hb', ha, hb, hdl1, hp21, hi1, hi2, pure_set, take_set, take_mapLen, leT, zS, zT, zU] <;> rfl))))
          all_goals (show _ = _; simp [List.map_set])
        · rw [if_neg hi] at hp12
          repeat' first
            | apply jA | apply jB | apply jC | apply jD | apply jE | apply jF | apply jG | apply jH | apply jI | apply jJ
            | refine W.draw cx_mixed (by decide +kernel) ?_
            | ((first | (apply jK cx_ok; decide) | (apply jL cx_ok; decide; decide) | apply jM cx_ok | (apply jN; rfl; decide) | (apply jO; rfl; decide; decide) | apply jR); (simp (disch := omega) only [push_cast, simprocAttr, hS2, hZ2, hk2, hg2, hx2, ha', hb', ha, hb, hdl1, hp21, pure_set, take_set, take_mapLen, leT, zS, zT, zU] <;> rfl); all_goals try ((with_reducible intro hI); try first | (cases hI; done) | (simp only [INTS, zL] at hI; try first | (exfalso; omega) | (have hT : True := hI; clear hT hI))))
            | ((first | apply jj | apply jk); (iterate 2 (try (simp (disch := omega) only [push_cast, simprocAttr, hS2, hZ2, hk2, hg2, hx2, ha', hb', ha, hb, hdl1, hp21, pure_set, take_set, take_mapLen, leT, zS, zT, zU] <;> rfl))))
          all_goals first
            | (exfalso; exact hi ⟨by assumption, by assumption⟩)
            | (refine ⟨rest2.length, ?_, k2 + 1, rest2, rfl, hd2, hp12, ?_, ?_, ?_, ?_, ?_, ?_, ?_, ?_, ?_, ?_⟩; ((simp only [zD] at *; omega)); all_goals first | (simp (disch := omega) only [push_cast, simprocAttr, hS2, hZ2, hk2, hg2, hx2, ha', hb', ha, hb, hdl1, hp21] <;> first | rfl | omega) | omega)
end Go.Proofs.Ks

namespace Go.Proofs.Ks
def NodesIn (p : List Lk) (m : Nat) : Prop := ∀ x ∈ p.dropLast.map (·.b), x < m
theorem dropLast_cons_mem {l : Lk} {q : List Lk} {x : Nat} (h : x ∈ (l :: q).dropLast.map (·.b)) : (q ≠ [] ∧ x = l.b) ∨ x ∈ q.dropLast.map (·.b) := by
  cases q with
  | nil => simp at h
  | cons y q =>
    rw [List.dropLast_cons_of_ne_nil (by simp)] at h
    simp only [List.map_cons, List.mem_cons] at h
    rcases h with h | h
    · exact .inl ⟨by simp, h⟩
    · exact .inr h
theorem dropLast_left {u r : List Lk} {x : Nat} (h : x ∈ u.dropLast.map (·.b)) : x ∈ (u ++ r).dropLast.map (·.b) := by
  by_cases hr : r = []
  · subst hr; simpa using h
  · rw [List.dropLast_append_of_ne_nil hr, List.map_append]
    obtain ⟨y, hy, e⟩ := List.mem_map.1 h
    exact List.mem_append_left _ (List.mem_map.2 ⟨y, (List.dropLast_sublist _).subset hy, e⟩)
theorem dropLast_right {u r : List Lk} {x : Nat} (h : x ∈ r.dropLast.map (·.b)) : x ∈ (u ++ r).dropLast.map (·.b) := by
  by_cases hr : r = []
  · subst hr; simp at h
  · rw [List.dropLast_append_of_ne_nil hr, List.map_append]
    exact List.mem_append_right _ h
theorem short_in {L : List Lk} {m : Nat} (hs : ∀ i p, Wk L i p i → Semi i p → NodesIn p m → 0 ≤ lenW p) : ∀ (p : List Lk) (i k : Nat), Wk L i p k → NodesIn p m → ∃ q, Wk L i q k ∧ lenW q ≤ lenW p ∧ Simple i q ∧ NodesIn q m ∧ (p = [] → q = [])
  | [], i, k, h, hn => ⟨[], h, Int.le_refl _, by simp [Simple], hn, fun _ => rfl⟩
  | l :: p, i, k, h, hn => by
    have hnp : NodesIn p m := fun x hx => hn x (by
      cases p with
      | nil => simp at hx
      | cons y p => rw [List.dropLast_cons_of_ne_nil (by simp)]; exact List.mem_cons_of_mem _ hx)
    obtain ⟨q, h1, h2, h3, h4, h5⟩ := short_in hs p l.b k h.2.2 hnp
    have hlq : NodesIn (l :: q) m := fun x hx => by
      rcases dropLast_cons_mem hx with ⟨hq, e⟩ | hx
      · have hp : p ≠ [] := fun e => hq (h5 e)
        subst e
        exact hn l.b (by rw [List.dropLast_cons_of_ne_nil hp]; simp)
      · exact h4 x hx
    by_cases hi : i ∈ l.b :: q.map (·.b)
    · have hw : Wk L i (l :: q) k := ⟨h.1, h.2.1, h1⟩
      obtain ⟨u, r, e1, e2, e3, e4, e5⟩ := hw.split1 (j := i) hi
      have hse : Semi i u := by
        refine List.nodup_cons.2 ⟨e5, ?_⟩
        have h6 : (u.map (·.b) ++ r.map (·.b)).Nodup := by rw [← List.map_append, ← e1]; exact h3
        rw [List.map_dropLast]
        exact (List.nodup_append.1 h6).1.sublist (List.dropLast_sublist _)
      have h4' := hs i u e3 hse (fun x hx => hlq x (by rw [e1]; exact dropLast_left hx))
      have h5' : lenW (l :: q) = lenW u + lenW r := by rw [e1, lenW_append]
      refine ⟨r, e4, ?_, ?_, fun x hx => hlq x (by rw [e1]; exact dropLast_right hx), fun hc => by cases hc⟩
      · simp only [lenW] at h5' ⊢; omega
      · cases u with
        | nil => exact absurd rfl e2
        | cons x u =>
          simp only [List.cons_append, List.cons.injEq] at e1
          obtain ⟨rfl, e1⟩ := e1
          by_cases hu : u = []
          · subst hu
            have := e3.2.2
            simp only [Wk] at this
            rw [List.nil_append] at e1
            rw [← this, ← e1]; exact h3
          · exact h3.suffix e1 hu e3.2.2
    · exact ⟨l :: q, ⟨h.1, h.2.1, h1⟩, by simp only [lenW]; omega, by unfold Simple; exact List.nodup_cons.2 ⟨hi, h3⟩, hlq, fun hc => by cases hc⟩
def FR (L : List Lk) (n : Nat) (o : Mx) (m : Nat) : Prop := ∀ i k, i < n → k < n → mget o i k < far → ∃ p, Wk L i p k ∧ lenW p = mget o i k ∧ NodesIn p m
def Dim (o : Mx) (n : Nat) : Prop := o.length = n ∧ ∀ i, i < n → (o.getD i []).length = n
theorem Dim.set {o : Mx} {n i k : Nat} {v : Int} (h : Dim o n) (hi : i < n) : Dim (mset o i k v) n := ⟨by simp [mset, h.1], fun j hj => mset_row h.1 h.2 hi hj⟩
theorem Dim.cell {o : Mx} {n m i k : Nat} (h : Dim o n) (hi : i < n) : Dim (fwCell m i k o) n := by
  unfold fwCell; split
  · exact h.set hi
  · exact h
theorem NodesIn.mono {p : List Lk} {m m' : Nat} (h : NodesIn p m) (hm : m ≤ m') : NodesIn p m' := fun x hx => Nat.lt_of_lt_of_le (h x hx) hm
theorem all_in {L : List Lk} {p : List Lk} {i k m : Nat} (hw : Wk L i p k) (hn : NodesIn p m) (hk : k < m) : ∀ x ∈ p.map (·.b), x < m := by
  intro x hx
  by_cases hp : p = []
  · subst hp; simp at hx
  · obtain ⟨u, l, rfl⟩ : ∃ u l, p = u ++ [l] := ⟨p.dropLast, p.getLast hp, (List.dropLast_concat_getLast _).symm⟩
    obtain ⟨_, _, e⟩ := hw.unsnoc
    unfold NodesIn at hn
    rw [List.dropLast_concat] at hn
    simp only [List.map_append, List.map_cons, List.map_nil, List.mem_append, List.mem_singleton] at hx
    rcases hx with hx | hx
    · exact hn x hx
    · omega
section
variable {L : List Lk} {n : Nat} {B : Int}
theorem FR.cell {o : Mx} {m i k : Nat} (hd : Dim o n) (h : FR L n o (m + 1)) (hm : m < n) (hi : i < n) (hk : k < n) : FR L n (fwCell m i k o) (m + 1) := by
  unfold fwCell
  split
  · rename_i hc
    intro a b ha hb hf
    rw [mget_mset hd.1 hd.2 hi hk] at hf ⊢
    split
    · rename_i e; obtain ⟨rfl, rfl⟩ := e
      rw [if_pos ⟨rfl, rfl⟩] at hf
      by_cases hle : mget o i k ≤ mget o i m + mget o m k
      · rw [show min (mget o i k) (mget o i m + mget o m k) = mget o i k by omega] at hf ⊢
        exact h i k hi hk hf
      · rw [show min (mget o i k) (mget o i m + mget o m k) = mget o i m + mget o m k by omega]
        obtain ⟨p, p1, p2, p3⟩ := h i m hi hm hc.1
        obtain ⟨q, q1, q2, q3⟩ := h m k hm hk hc.2
        refine ⟨p ++ q, p1.append q1, by rw [lenW_append, p2, q2], fun x hx => ?_⟩
        by_cases hq : q = []
        · subst hq; exact p3 x (by simpa using hx)
        · rw [List.dropLast_append_of_ne_nil hq, List.map_append] at hx
          rcases List.mem_append.1 hx with hx | hx
          · exact all_in p1 p3 (Nat.lt_succ_self _) x hx
          · exact q3 x hx
    · rename_i e
      rw [if_neg e] at hf
      exact h a b ha hb hf
  · exact h
structure FS (L : List Lk) (n : Nat) (o : Mx) (m : Nat) : Prop where
  fw : FW L n o m
  fr : FR L n o m
  diag : ∀ i, i < n → 0 ≤ mget o i i
theorem FS.low (hL : ∀ l ∈ L, l.a < n ∧ l.b < n) (hB0 : 0 ≤ B) (hB : ∀ l ∈ L, -B ≤ l.m ∧ l.m ≤ B) {o : Mx} {m : Nat} (h : FS L n o m) {i k : Nat} (hi : i < n) (hk : k < n) : -(B * (n : Int)) ≤ mget o i k := by
  by_cases hf : mget o i k < far
  · obtain ⟨p, p1, p2, p3⟩ := h.fr i k hi hk hf
    obtain ⟨q, q1, q2, q3, _⟩ := short_in (m := m) (fun j w hw hse hn => by
      by_cases hj : j < n
      · have := h.fw.low j j w hj hj hw hse hn
        have := h.diag j hj
        omega
      · cases w with
        | nil => simp [lenW]
        | cons l w => have := hL l hw.1; have := hw.2.1; omega) p i k p1 p3
    have h1 := q3.len q1 hL hi
    have h2 := (lenW_bound q (fun x hx => hB x (q1.mem x hx))).1
    have h3 : B * (q.length : Int) ≤ B * (n : Int) := Int.mul_le_mul_of_nonneg_left (by omega) hB0
    omega
  · have h1 : (0 : Int) ≤ far := by decide
    have h2 : 0 ≤ B * (n : Int) := Int.mul_nonneg hB0 (by omega)
    omega
structure Mid (n m : Nat) (o0 o : Mx) : Prop where
  dim : Dim o n
  each : ∀ x y, x < n → y < n → mget o x y = mget o0 x y ∨ (mget o x y = mget o0 x m + mget o0 m y ∧ mget o0 x m < far ∧ mget o0 m y < far)
  col : ∀ x, x < n → mget o x m = mget o0 x m
  row : ∀ y, y < n → mget o m y = mget o0 m y
theorem Mid.refl {o : Mx} {m : Nat} (h : Dim o n) : Mid n m o o := ⟨h, fun _ _ _ _ => .inl rfl, fun _ _ => rfl, fun _ _ => rfl⟩
theorem Mid.cell {o0 o : Mx} {m i k : Nat} (h : Mid n m o0 o) (h0 : 0 ≤ mget o0 m m) (hm : m < n) (hi : i < n) (hk : k < n) : Mid n m o0 (fwCell m i k o) := by
  have h1 := h.col i hi
  have h2 := h.row k hk
  have h3 := h.col m hm
  refine ⟨h.dim.cell hi, fun x y hx hy => ?_, fun x hx => ?_, fun y hy => ?_⟩
  all_goals (unfold fwCell; split)
  · rename_i hc
    rw [mget_mset h.dim.1 h.dim.2 hi hk]
    split
    · rename_i e; obtain ⟨rfl, rfl⟩ := e
      by_cases hle : mget o i k ≤ mget o i m + mget o m k
      · rw [show min (mget o i k) (mget o i m + mget o m k) = mget o i k by omega]
        exact h.each i k hi hk
      · rw [show min (mget o i k) (mget o i m + mget o m k) = mget o i m + mget o m k by omega]
        exact .inr ⟨by rw [h1, h2], by omega, by omega⟩
    · exact h.each x y hx hy
  · exact h.each x y hx hy
  · rename_i hc
    rw [mget_mset h.dim.1 h.dim.2 hi hk]
    split
    · rename_i e; obtain ⟨rfl, rfl⟩ := e
      omega
    · exact h.col x hx
  · exact h.col x hx
  · rename_i hc
    rw [mget_mset h.dim.1 h.dim.2 hi hk]
    split
    · rename_i e; obtain ⟨rfl, rfl⟩ := e
      omega
    · exact h.row y hy
  · exact h.row y hy
theorem FR.row {m : Nat} (hm : m < n) {i : Nat} (hi : i < n) : ∀ (c k : Nat) (o : Mx), k + c = n → Dim o n → FR L n o (m + 1) → FR L n (fwRow m i c k o) (m + 1) ∧ Dim (fwRow m i c k o) n
  | 0, k, o, _, hd, h => ⟨h, hd⟩
  | c + 1, k, o, hc, hd, h => FR.row hm hi c (k + 1) _ (by omega) (hd.cell hi) (h.cell hd hm hi (by omega))
theorem FR.step {m : Nat} (hm : m < n) : ∀ (c i : Nat) (o : Mx), i + c = n → Dim o n → FR L n o (m + 1) → FR L n (fwStep m n c i o) (m + 1) ∧ Dim (fwStep m n c i o) n
  | 0, i, o, _, hd, h => ⟨h, hd⟩
  | c + 1, i, o, hc, hd, h => by
    obtain ⟨h1, h2⟩ := FR.row hm (i := i) (by omega) n 0 o (by omega) hd h
    exact FR.step hm c (i + 1) _ (by omega) h2 h1
structure FL (L : List Lk) (n : Nat) (o : Mx) : Prop where
  dim : Dim o n
  each : ∀ i k, i < n → k < n → (mget o i k = far ∧ i ≠ k) ∨ (mget o i k = 0 ∧ i = k) ∨ ∃ l ∈ L, l.a = i ∧ l.b = k ∧ mget o i k = l.m ∧ i ≠ k
theorem FL.init : FL L n (fwInit n) := ⟨⟨by simp [fwInit], fun i hi => fwInit_row hi⟩, fun i k hi hk => by
  rw [fwInit_get hi hk]
  by_cases h : i = k
  · exact .inr (.inl ⟨by rw [if_neg (by simp [h])], h⟩)
  · exact .inl ⟨by rw [if_pos h], h⟩⟩
theorem FL.link (hL : ∀ l ∈ L, l.a < n ∧ l.b < n) (hs : ∀ l ∈ L, l.a ≠ l.b) {o : Mx} (h : FL L n o) {x : Lk} (hx : x ∈ L) : FL L n (fwLink o x) := by
  obtain ⟨ha, hb⟩ := hL x hx
  refine ⟨h.dim.set ha, fun i k hi hk => ?_⟩
  unfold fwLink
  rw [mget_mset h.dim.1 h.dim.2 ha hb]
  split
  · rename_i e; obtain ⟨rfl, rfl⟩ := e
    by_cases hle : mget o x.a x.b ≤ x.m
    · rw [show min (mget o x.a x.b) x.m = mget o x.a x.b by omega]
      exact h.each _ _ hi hk
    · rw [show min (mget o x.a x.b) x.m = x.m by omega]
      exact .inr (.inr ⟨x, hx, rfl, rfl, rfl, hs x hx⟩)
  · exact h.each i k hi hk
theorem FL.links (hL : ∀ l ∈ L, l.a < n ∧ l.b < n) (hs : ∀ l ∈ L, l.a ≠ l.b) : ∀ (R : List Lk) (o : Mx), (∀ l ∈ R, l ∈ L) → FL L n o → FL L n (fwLinks R o)
  | [], _, _, h => h
  | x :: R, _, hR, h => FL.links hL hs R _ (fun l hl => hR l (by simp [hl])) (h.link hL hs (hR x (by simp)))
theorem FS.start (hL : ∀ l ∈ L, l.a < n ∧ l.b < n) (hs : ∀ l ∈ L, l.a ≠ l.b) : FS L n (fwLinks L (fwInit n)) 0 := by
  have h := FL.links hL hs L _ (fun _ h => h) FL.init
  refine ⟨start_fw hL, fun i k hi hk hf => ?_, fun i hi => ?_⟩
  · rcases h.each i k hi hk with ⟨e, _⟩ | ⟨e, rfl⟩ | ⟨l, hl, rfl, rfl, e, _⟩
    · rw [e] at hf; exact absurd hf (by decide)
    · exact ⟨[], rfl, by rw [e]; rfl, fun x hx => by simp at hx⟩
    · exact ⟨[l], ⟨hl, rfl, rfl⟩, by rw [e]; simp [lenW], fun x hx => by simp at hx⟩
  · rcases h.each i i hi hi with ⟨_, e⟩ | ⟨e, _⟩ | ⟨l, _, _, _, _, e⟩
    · exact absurd rfl e
    · rw [e]; exact Int.le_refl _
    · exact absurd rfl e
end
end Go.Proofs.Ks
